/- Rows that begin inside their block: queues. No program. -/
import Derived.Test.YtompmejidaddoaaDoorMapS
import Derived.ArgAppend
import Derived.Deep.Upon
set_option linter.unusedVariables false
set_option linter.unusedSimpArgs false
namespace Go.Proofs.YtompmejidaddoaaDoor
open Go.RowKit

def RowO (e size : Nat) (v : Value) (n : Nat) (xs : List Value) : HP where
  h w S := (xs.length = n * size ∧ ((v = .slice none 0 0 ∧ n = 0) ∨ ∃ g off cap cur, v = .slice (some ⟨g, off, none⟩) n cap ∧ w.heap[g]? = some (.cells cur e (0, 0)) ∧ n ≤ cap ∧ cap ≤ maxLen ∧ off + cap * size ≤ cur.size ∧ ∀ j, j < n * size → cur[off + j]? = xs[j]?)) ∧ ∀ i, S i ↔ v.ownBlock = some i
  loc := fun {w w' S} ⟨⟨h0, h1⟩, h2⟩ hk => by
    refine ⟨⟨h0, ?_⟩, h2⟩
    rcases h1 with hn | ⟨g, off, cap, cur, rfl, hg, rest⟩
    · exact .inl hn
    · exact .inr ⟨g, off, cap, cur, rfl, (hk g ((h2 g).2 rfl)).trans hg, rest⟩
  lt := fun {w S} ⟨⟨h0, h1⟩, h2⟩ i hi => by
    rcases h1 with ⟨rfl, _⟩ | ⟨g, off, cap, cur, rfl, hg, rest⟩
    · have := (h2 i).1 hi
      simp [Value.ownBlock] at this
    · have := (h2 i).1 hi
      simp [Value.ownBlock] at this
      subst this
      exact (Array.getElem?_eq_some_iff.1 hg).1

theorem Sat.nil_rowO {w : World} {l : List HP} (h : Sat w l) (e size : Nat) : Sat w (RowO e size (.slice none 0 0) 0 [] :: l) :=
  ⟨fun _ => False, ⟨⟨by simp, .inl ⟨rfl, rfl⟩⟩, fun i => by simp [Value.ownBlock]⟩, fun _ _ => trivial, SatF.mono h (fun _ _ => ⟨trivial, fun h => h⟩)⟩

theorem RowO.shape {w : World} {l : List HP} {e size n : Nat} {v : Value} {xs : List Value} (h : Sat w (RowO e size v n xs :: l)) : ∃ A c, v = .slice A n c ∧ n ≤ c := by
  obtain ⟨S, ⟨_, h1⟩, _⟩ := h.head
  rcases h1 with ⟨rfl, rfl⟩ | ⟨g, off, cap, cur, rfl, _, h2, _⟩
  · exact ⟨none, 0, rfl, Nat.le_refl _⟩
  · exact ⟨_, cap, rfl, h2⟩
theorem RowO.form {w : World} {l : List HP} {e size n : Nat} {v : Value} {xs : List Value} (h : Sat w (RowO e size v n xs :: l)) (hn : 0 < n) :
    ∃ g off cap, v = .slice (some ⟨g, off, none⟩) n cap ∧ g < w.heap.size ∧ n ≤ cap ∧ (∀ j u, xs[j]? = some u → w.cell? ⟨g, off + j, none⟩ = some u) ∧ (∀ j, w.frozen? ⟨g, j, none⟩ = false) := by
  obtain ⟨S, ⟨h0, h1⟩, _⟩ := h.head
  rcases h1 with ⟨rfl, rfl⟩ | ⟨g, off, cap, cur, rfl, hg, h2, h3, h4, h5⟩
  · omega
  · refine ⟨g, off, cap, rfl, (Array.getElem?_eq_some_iff.1 hg).1, h2, fun j u hu => ?_, fun j => blk_free hg j⟩
    rw [blk_cell hg, h5 j (by have := (List.getElem?_eq_some_iff.1 hu).1; omega)]
    exact hu

/-- Without its first elements; where nothing is left of the capacity the address stays. -/
theorem RowO.cut {w : World} {l : List HP} {e size n g off cap m : Nat} {xs : List Value} (h : Sat w (RowO e size (.slice (some ⟨g, off, none⟩) n cap) n xs :: l)) (hm : m ≤ n) (off' : Nat) (ho : off' = off + m * size ∨ cap = m ∧ off' = off) :
    Sat w (RowO e size (.slice (some ⟨g, off', none⟩) (n - m) (cap - m)) (n - m) (xs.drop (m * size)) :: l) := by
  refine h.conv fun S hS => ?_
  obtain ⟨⟨h0, h1⟩, hS⟩ := hS
  rcases h1 with ⟨h1, _⟩ | ⟨g', off2, cap', cur, hv, hg, h2, h3, h4, h5⟩
  · cases h1
  · injection hv with hv _ hc
    injection hv with hv
    injection hv with hg' ho'
    subst hg' ho' hc
    have e1 : (n - m) * size = n * size - m * size := Nat.sub_mul _ _ _
    have e2 : (cap - m) * size = cap * size - m * size := Nat.sub_mul _ _ _
    have e3 : m * size ≤ cap * size := Nat.mul_le_mul_right _ (by omega)
    refine ⟨⟨by rw [List.length_drop, h0, e1], .inr ⟨g, off', cap - m, cur, rfl, hg, by omega, by omega, ?_, fun j hj => ?_⟩⟩, hS⟩
    · rcases ho with rfl | ⟨rfl, rfl⟩ <;> omega
    · rcases ho with rfl | ⟨rfl, rfl⟩
      · rw [Nat.add_assoc, h5 _ (by omega), List.getElem?_drop]
      · have : n - cap = 0 := by omega
        rw [this] at hj
        omega

theorem setCells_heap (g : Nat) (e : TypeId) : ∀ (vs : List Value) (o : Nat) (w : World) (cur : Array Value), w.heap[g]? = some (.cells cur e (0, 0)) → o + vs.length ≤ cur.size →
    ∃ cur', (w.setCells g o vs).heap[g]? = some (.cells cur' e (0, 0)) ∧ cur'.size = cur.size ∧ ∀ i, cur'[i]? = if o ≤ i ∧ i < o + vs.length then vs[i - o]? else cur[i]?
  | [], o, w, cur, h, hl => ⟨cur, h, rfl, fun i => by rw [if_neg (by simp)]⟩
  | v :: r, o, w, cur, h, hl => by
    simp only [List.length_cons] at hl
    obtain ⟨cur', h1, h2, h3⟩ := setCells_heap g e r (o + 1) (w.setCell ⟨g, o, none⟩ v) (cur.setIfInBounds o v) (heap_setCell_same h o v) (by simp; omega)
    refine ⟨cur', h1, by rw [h2]; simp, fun i => ?_⟩
    rw [h3]
    by_cases e1 : i = o
    · subst e1
      rw [if_neg (by omega), if_pos (by simp), Nat.sub_self]
      simp [Array.getElem?_setIfInBounds]
      omega
    · by_cases e2 : o + 1 ≤ i ∧ i < o + 1 + r.length
      · rw [if_pos e2, if_pos (by simp; omega), show i - o = (i - (o + 1)) + 1 by omega]
        simp
      · rw [if_neg e2, if_neg (by simp; omega)]
        simp [Array.getElem?_setIfInBounds, Ne.symm e1]
theorem setCells_ext (w : World) (g o : Nat) (vs : List Value) : Ext w (w.setCells g o vs) := by
  induction vs generalizing w o with
  | nil => exact Ext.refl w
  | cons v r ih => exact ((Ext.refl w).setCell _ _).trans (ih _ _)

theorem zeroCells_size (z : Array Value) (n : Nat) : (Builtin.zeroCells z n).size = n * z.size := by simp [Builtin.zeroCells]

/-- 'append' to a row that may begin inside its block. -/
theorem run_append_o {P : Program} {W : World} {l : List HP} (t ty e : TypeId) (z : Value) (size bytes : Nat) (ht : P.underlying t = some (.slice e)) (hinfo : (P.info? e).map (fun i => (i.zero, i.size, i.bytes)) = some (some z, size, bytes)) (hzs : z.cells.size = size) (hsz : 0 < size)
    (v : Value) (n : Nat) (xs : List Value) (H : Sat W l) (k : Nat) (hk : l[k]? = some (RowO e size v n xs))
    (ad : Addr) (m c : Nat) (news : List Value) (hl : news.length = m * size) (hnews : ∀ j u, news[j]? = some u → W.cell? (ad.add j) = some u) (h1 : ∀ u ∈ news, u.oneCell' = true) (hm : 0 < m)
    (hbytes : (n + m) * bytes ≤ 140737488355328) (h63 : n + m ≤ 140737488355328) :
    ∃ v1 w1, (Builtin.append_ #[t, t] ty #[v, .slice (some ad) m c]).run P W = .ok v1 w1 ∧ Sat w1 (l.set k (RowO e size v1 (n + m) (xs ++ news))) ∧ Ext W w1 := by
  obtain ⟨i0, hi, hzz⟩ := Option.map_eq_some_iff.1 hinfo
  simp only [Prod.mk.injEq] at hzz
  obtain ⟨hz0, hz1, hz2⟩ := hzz
  subst hz1
  subst hz2
  obtain ⟨S0, ⟨h0, hv⟩, hS0⟩ := H.at_ k hk
  have hlen : (xs ++ news).length = (n + m) * i0.size := by rw [List.length_append, h0, hl, Nat.add_mul]
  have grown : ∀ (old : Nat) (row : Array Value), row.toList = xs ++ news → Sat (W.drew.alloc (.cells (row ++ Builtin.zeroCells z.cells (grownCap W (n + m) old e - (n + m))) e)) (l.set k (RowO e i0.size (.slice (some ⟨W.heap.size, 0, none⟩) (n + m) (grownCap W (n + m) old e)) (n + m) (xs ++ news))) := by
    intro old row hrow
    have hge := grownCap_ge W (n + m) old e
    have hcm := grownCap_le_maxLen W (n + m) old e (by simp only [maxLen]; omega)
    have hrs : row.size = (n + m) * i0.size := by rw [← hlen, ← hrow]; simp
    refine H.mutAt k hk fun S hS => ⟨fun i => i = W.heap.size, ⟨⟨hlen, .inr ⟨W.heap.size, 0, _, _, rfl, heap_alloc_new W.drew _, hge, hcm, ?_, fun j hj => ?_⟩⟩, fun i => by simp [Value.ownBlock, eq_comm]⟩, ⟨⟨rfl, rfl, rfl, by simp⟩, fun i hi hn => Below.heap_alloc W.drew _ i hi, fun i hi => .inr (by omega)⟩⟩
    · rw [Array.size_append, zeroCells_size, hzs, hrs, ← Nat.add_mul]
      have : n + m + (grownCap W (n + m) old e - (n + m)) = grownCap W (n + m) old e := by omega
      rw [this]; omega
    · rw [Nat.zero_add, ← hrow, Array.getElem?_append_left (by omega)]; simp
  rcases hv with ⟨rfl, rfl⟩ | ⟨g, off, cap, cur, rfl, hg, hnc, hcm, hsz2, hcs⟩
  · have hx : xs = [] := List.eq_nil_of_length_eq_zero (by simpa using h0)
    subst hx
    have hr := run_append_nil (P := P) W t ty e i0 z ht hi hz0 ad m c news hl hnews hm (by omega) (by have := hbytes; simp only [Nat.zero_add] at this; omega)
    have hgr := grown 0 news.toArray (by simp)
    simp only [Nat.zero_add, List.nil_append] at hgr ⊢
    exact ⟨_, _, hr, hgr, ⟨rfl, rfl, rfl, by simp⟩⟩
  · by_cases hroom : n + m ≤ cap
    · have e1 : (n + m) * i0.size ≤ cap * i0.size := Nat.mul_le_mul_right _ hroom
      have e2 : (n + m) * i0.size = n * i0.size + m * i0.size := Nat.add_mul _ _ _
      have hr := run_append_room_cells (P := P) W t ty e i0 ht hi g off n cap ad m c news hl hnews h1 hroom (fun j hj => by
        rw [blk_cell hg, Array.getElem?_eq_getElem (by omega)]; rfl) (fun j hj => blk_free hg _)
      obtain ⟨cur', g1, g2, g3⟩ := setCells_heap g e news (off + n * i0.size) W cur hg (by omega)
      refine ⟨_, _, hr, H.mutAt k hk fun S hS => ⟨S, ⟨⟨hlen, .inr ⟨g, off, cap, cur', rfl, g1, hroom, hcm, by omega, fun j hj => ?_⟩⟩, hS.2⟩, ⟨setCells_ext _ _ _ _, fun i hi hn => World.heap_setCells_other W g _ news hi (fun e3 => hn ((hS.2 i).2 (by simp [Value.ownBlock, e3]))), fun i hi => .inl hi⟩⟩, setCells_ext _ _ _ _⟩
      rw [g3]
      by_cases hj2 : j < n * i0.size
      · rw [if_neg (by omega), hcs j hj2, List.getElem?_append_left (by omega)]
      · rw [if_pos (by omega), List.getElem?_append_right (by omega), h0]
        congr 1
        omega
    · have hr := run_append_grow (P := P) W t ty e i0 z ht hi hz0 ⟨g, off, none⟩ n cap xs h0 (fun j u hu => by
        rw [Addr.add_lit, blk_cell hg, hcs j (by have := (List.getElem?_eq_some_iff.1 hu).1; omega)]; exact hu) ad m c news hl hnews (by omega) (by omega) (growslice_fits (by omega) hbytes)
      have hgr := grown cap (xs.toArray ++ news.toArray) (by simp)
      exact ⟨_, _, hr, hgr, ⟨rfl, rfl, rfl, by simp⟩⟩

/-- At the operation. -/
theorem wpList_append_o {P : Program} {ops : Array Oper} {rest : List Oper} {o : Oper} {a : Act} {Q : Exit → Act → World → Prop} {W : World} {l : List HP} (hgd : o.guard = none) (s x : Operand) (t : TypeId)
    (ho : o.op = .call { callee := .builtin .append, args := #[s, x], argTypes := #[t, t] })
    (e : TypeId) (z : Value) (size bytes : Nat) (ht : P.underlying t = some (.slice e)) (hinfo : (P.info? e).map (fun i => (i.zero, i.size, i.bytes)) = some (some z, size, bytes)) (hzs : z.cells.size = size) (hsz : 0 < size)
    (v : Value) (n : Nat) (xs : List Value) (hs : a.eval s = v) (H : Sat W l) (k : Nat) (hk : l[k]? = some (RowO e size v n xs))
    (ad : Addr) (m c : Nat) (news : List Value) (hx : a.eval x = .slice (some ad) m c) (hl : news.length = m * size) (hnews : ∀ j u, news[j]? = some u → W.cell? (ad.add j) = some u) (h1 : ∀ u ∈ news, u.oneCell' = true) (hm : 0 < m)
    (hbytes : (n + m) * bytes ≤ 140737488355328) (h63 : n + m ≤ 140737488355328)
    (h : ∀ v1 w1, Sat w1 (l.set k (RowO e size v1 (n + m) (xs ++ news))) → Ext W w1 → wpList P ops Q rest (a.put o.dst v1) w1) :
    wpList P ops Q (o :: rest) a W := by
  obtain ⟨v1, w1, hr, h2, h3⟩ := run_append_o (P := P) t o.type e z size bytes ht hinfo hzs hsz v n xs H k hk ad m c news hl hnews h1 hm hbytes h63
  refine wpList_plain hgd fun K hK => ?_
  unfold Oper.wp execOp
  simp only [ho, resolve, invoke, builtin, Sem.run_bind, Sem.run_pure, Result.andThen_ok, List.map_toArray, List.map_cons, List.map_nil, hs, hx, hr]
  exact hK _ _ (h v1 w1 h2 h3)
/-- At a step of a region that draws its order. -/
theorem step_append_o {P : Program} {ops : Array Oper} {o : Oper} {a : Act} {K : Act → World → Prop} {Q : Exit → Act → World → Prop} {E : Prop} {W : World} {l : List HP} (hgd : o.guard = none) (s x : Operand) (t : TypeId)
    (ho : o.op = .call { callee := .builtin .append, args := #[s, x], argTypes := #[t, t] })
    (e : TypeId) (z : Value) (size bytes : Nat) (ht : P.underlying t = some (.slice e)) (hinfo : (P.info? e).map (fun i => (i.zero, i.size, i.bytes)) = some (some z, size, bytes)) (hzs : z.cells.size = size) (hsz : 0 < size)
    (v : Value) (n : Nat) (xs : List Value) (hs : a.eval s = v) (H : Sat W l) (k : Nat) (hk : l[k]? = some (RowO e size v n xs))
    (ad : Addr) (m c : Nat) (news : List Value) (hx : a.eval x = .slice (some ad) m c) (hl : news.length = m * size) (hnews : ∀ j u, news[j]? = some u → W.cell? (ad.add j) = some u) (h1 : ∀ u ∈ news, u.oneCell' = true) (hm : 0 < m)
    (hbytes : (n + m) * bytes ≤ 140737488355328) (h63 : n + m ≤ 140737488355328)
    (h : ∀ v1 w1, Sat w1 (l.set k (RowO e size v1 (n + m) (xs ++ news))) → Ext W w1 → K (a.put o.dst v1) w1) :
    if Region.wanted o (yielded ops a.tmps) = true then Oper.wp P o a W K Q else E := by
  have hw : Region.wanted o (yielded ops a.tmps) = true := by simp [Region.wanted, hgd]
  rw [if_pos hw]
  obtain ⟨v1, w1, hr, h2, h3⟩ := run_append_o (P := P) t o.type e z size bytes ht hinfo hzs hsz v n xs H k hk ad m c news hl hnews h1 hm hbytes h63
  unfold Oper.wp execOp
  simp only [ho, resolve, invoke, builtin, Sem.run_bind, Sem.run_pure, Result.andThen_ok, List.map_toArray, List.map_cons, List.map_nil, hs, hx, hr]
  exact h v1 w1 h2 h3
end Go.Proofs.YtompmejidaddoaaDoor
