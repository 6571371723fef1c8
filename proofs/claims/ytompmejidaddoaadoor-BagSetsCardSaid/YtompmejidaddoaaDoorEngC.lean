/- The engine's steps: chunks are read, turned, made; calls by contract; the rules of code. No program. -/
import Derived.Test.YtompmejidaddoaaDoorEngB
import Derived.Laws.Cells
set_option linter.unusedVariables false
set_option linter.unusedSimpArgs false
namespace Go.Proofs.YtompmejidaddoaaDoor
open Go Go.RowKit

/-! ### Rows -/
def IsRow0 (v : Value) (n : Nat) : Prop := (v = .slice none 0 0 ∧ n = 0) ∨ ∃ g off c, v = .slice (some ⟨g, off, none⟩) n c ∧ n ≤ c ∧ c ≤ maxLen
/-- A row's value: an empty one may name any place. -/
def IsRow (v : Value) (n : Nat) : Prop := (v = .slice none 0 0 ∧ n = 0) ∨ (∃ g off c, v = .slice (some ⟨g, off, none⟩) n c ∧ n ≤ c ∧ c ≤ maxLen) ∨ ∃ a, v = .slice (some a) 0 0 ∧ n = 0
theorem IsRow0.up {v : Value} {n : Nat} (h : IsRow0 v n) : IsRow v n := h.imp id .inl
/-- The place of a row's j-th cell. -/
def eaddr (v : Value) (j : Nat) : Addr := match v with
  | .slice (some b) _ _ => ⟨b.block, b.off + j, none⟩
  | _ => ⟨0, 0, none⟩
theorem eaddr_spot (v : Value) (j : Nat) : (eaddr v j).spot = none := by unfold eaddr; split <;> rfl
theorem eaddr_add (v : Value) (j k : Nat) (h : ∃ b n c, v = .slice (some b) n c) : (eaddr v j).add k = eaddr v (j + k) := by
  obtain ⟨b, n, c, rfl⟩ := h
  unfold eaddr Addr.add
  split
  · rename_i h; subst h; rfl
  · simp [Nat.add_assoc]
theorem IsRow.some {v : Value} {n : Nat} (h : IsRow v n) (hn : 0 < n) : ∃ b n c, v = .slice (some b) n c := by
  rcases h with ⟨_, h⟩ | ⟨g, off, c, rfl, _⟩ | ⟨a, _, h⟩
  · omega
  · exact ⟨_, _, _, rfl⟩
  · omega
theorem IsRow.slice {v : Value} {n : Nat} (h : IsRow v n) : ∃ A c, v = .slice A n c ∧ n ≤ c := by
  rcases h with ⟨rfl, rfl⟩ | ⟨g, off, c, rfl, hc, _⟩ | ⟨a, rfl, rfl⟩
  · exact ⟨none, 0, rfl, Nat.le_refl _⟩
  · exact ⟨_, c, rfl, hc⟩
  · exact ⟨_, 0, rfl, Nat.le_refl _⟩
theorem IsRow.max {v : Value} {n : Nat} (h : IsRow v n) : n ≤ maxLen := by
  rcases h with ⟨rfl, rfl⟩ | ⟨g, off, c, rfl, hc, hm⟩ | ⟨a, rfl, rfl⟩
  · exact Nat.zero_le _
  · omega
  · exact Nat.zero_le _
theorem isRow0_of_sat {w : World} {l : List HP} {e size n : Nat} {v : Value} {xs : List Value} (h : Sat w (RowO e size v n xs :: l)) : IsRow0 v n ∧ xs.length = n * size := by
  obtain ⟨S, ⟨h0, h1⟩, _⟩ := h.head
  refine ⟨?_, h0⟩
  rcases h1 with ⟨rfl, rfl⟩ | ⟨g, off, cap, cur, rfl, _, h2, h3, _⟩
  · exact .inl ⟨rfl, rfl⟩
  · exact .inr ⟨g, off, cap, rfl, h2, h3⟩
theorem isRow_of_sat {w : World} {l : List HP} {e size n : Nat} {v : Value} {xs : List Value} (h : Sat w (RowO e size v n xs :: l)) : IsRow v n ∧ xs.length = n * size := ⟨(isRow0_of_sat h).1.up, (isRow0_of_sat h).2⟩

/-! ### What is read -/
open Classical in
noncomputable def Chunk.cell : Chunk → Addr → Option Value
  | .blk g (.cells cs _ _), a => if a.block = g ∧ a.spot = none then cs[a.off]? else none
  | .row _ _ (.slice (some b) _ _) _ xs, a => if a.block = b.block ∧ a.spot = none ∧ b.off ≤ a.off then xs[a.off - b.off]? else none
  | .old w, a => if a.block < w.heap.size then w.cell? a else none
  | .fz w B, a => if B a.block ∧ a.block < w.heap.size then w.cell? a else none
  | _, _ => none
theorem cell_spec {c : Chunk} {a : Addr} {v : Value} {w : World} {l : List HP} (h : Sat w (c.toHP :: l)) (hc : c.cell a = some v) : w.cell? a = some v := by
  cases c with
  | emp => simp [Chunk.cell] at hc
  | hp H => simp [Chunk.cell] at hc
  | old w0 =>
    simp only [Chunk.cell] at hc
    split at hc
    · rename_i hlt
      have := h.old a.block hlt
      unfold World.cell? at hc ⊢
      rw [this]; exact hc
    · cases hc
  | fz w0 B =>
    simp only [Chunk.cell] at hc
    split at hc
    · rename_i hlt
      obtain ⟨S, _, hS⟩ := Sat.head (H := Fz w0 B) h
      have := hS a.block hlt.1 hlt.2
      unfold World.cell? at hc ⊢
      rw [this]; exact hc
    · cases hc
  | blk g o =>
    cases o with
    | cells cs t fr =>
      simp only [Chunk.cell] at hc
      split at hc
      · rename_i hh
        obtain ⟨rfl, hs⟩ := hh
        have := h.blk
        unfold World.cell?
        rw [this]
        simp [hs, hc]
      · cases hc
    | _ => simp [Chunk.cell] at hc
  | row e s v0 n xs =>
    cases v0 with
    | slice A m c =>
      cases A with
      | none => simp [Chunk.cell] at hc
      | some b =>
        simp only [Chunk.cell] at hc
        split at hc
        · rename_i hh
          obtain ⟨h1, h2, h3⟩ := hh
          obtain ⟨S, ⟨h0, hv⟩, _⟩ := Sat.head (H := RowO e s (.slice (some b) m c) n xs) h
          rcases hv with ⟨hv, _⟩ | ⟨g, off, cap, cur, hv, hg, _, _, _, h5⟩
          · cases hv
          · injection hv with hv _ _
            injection hv with hv
            subst hv
            simp only at h1 h3 hc
            have hlt := (List.getElem?_eq_some_iff.1 hc).1
            have := h5 (a.off - off) (by omega)
            rw [show off + (a.off - off) = a.off by omega, hc] at this
            unfold World.cell?
            rw [h1, hg]
            simp [h2, this]
        · cases hc
    | _ => simp [Chunk.cell] at hc
noncomputable def Chunk.cells (c : Chunk) (a : Addr) : Nat → Nat → Option (List Value)
  | _, 0 => some []
  | i, k + 1 => match c.cell (a.add i), c.cells a (i + 1) k with
    | some v, some vs => some (v :: vs)
    | _, _ => none
theorem cells_spec {c : Chunk} {a : Addr} {w : World} {l : List HP} (h : Sat w (c.toHP :: l)) : ∀ (k i : Nat) (vs : List Value), c.cells a i k = some vs → vs.length = k ∧ ∀ j v, vs[j]? = some v → w.cell? (a.add (i + j)) = some v
  | 0, i, vs, hc => by simp [Chunk.cells] at hc; subst hc; exact ⟨rfl, fun j v hj => by simp at hj⟩
  | k + 1, i, vs, hc => by
    unfold Chunk.cells at hc
    cases h1 : c.cell (a.add i) with
    | none => simp [h1] at hc
    | some u =>
      cases h2 : c.cells a (i + 1) k with
      | none => simp [h1, h2] at hc
      | some us =>
        simp [h1, h2] at hc
        subst hc
        obtain ⟨hl, hh⟩ := cells_spec h k (i + 1) us h2
        refine ⟨by simp [hl], fun j v hj => ?_⟩
        cases j with
        | zero => simp at hj; subst hj; exact cell_spec h h1
        | succ j =>
          have := hh j v (by simpa using hj)
          rwa [show i + (j + 1) = i + 1 + j by omega]

/-! ### What is turned -/
def Chunk.put : Chunk → Addr → Value → Option Chunk
  | .blk g (.cells cs t (0, 0)), a, v => if a.block = g ∧ a.spot = none ∧ a.off < cs.size ∧ v.oneCell' = true then some (.blk g (.cells (cs.setIfInBounds a.off v) t (0, 0))) else none
  | .row e s (.slice (some b) n0 c0) n xs, a, v => if a.block = b.block ∧ a.spot = none ∧ b.off ≤ a.off ∧ a.off - b.off < xs.length ∧ v.oneCell' = true then some (.row e s (.slice (some b) n0 c0) n (xs.set (a.off - b.off) v)) else none
  | _, _, _ => none
theorem Sat.rowO_set {w : World} {e s n n0 c0 g off : Nat} {xs : List Value} {l : List HP} (h : Sat w (RowO e s (.slice (some ⟨g, off, none⟩) n0 c0) n xs :: l)) (i : Nat) (hi : i < xs.length) (v : Value) :
    Sat (w.setCell ⟨g, off + i, none⟩ v) (RowO e s (.slice (some ⟨g, off, none⟩) n0 c0) n (xs.set i v) :: l) :=
  h.mut fun S hS => by
    obtain ⟨⟨h0, hv⟩, hS⟩ := hS
    rcases hv with ⟨hv, _⟩ | ⟨g', off', cap, cur, hv, hg, h2, h3, h4, h5⟩
    · cases hv
    · injection hv with hv hn hc
      injection hv with hv
      injection hv with hg' ho'
      subst hg' ho' hn hc
      have hin : off + i < cur.size := by
        have : n0 * s ≤ c0 * s := Nat.mul_le_mul_right _ h2
        omega
      refine ⟨S, ⟨⟨by simpa using h0, .inr ⟨g, off, c0, cur.setIfInBounds (off + i) v, rfl, heap_setCell_same hg _ v, h2, h3, by simpa using h4, fun j hj => ?_⟩⟩, hS⟩, mut_setCell w _ v ((hS g).2 (by simp [Value.ownBlock]))⟩
      by_cases hji : i = j
      · subst hji
        simp [hin, hi]
      · rw [Array.getElem?_setIfInBounds_ne (by omega), List.getElem?_set_ne hji]
        exact h5 j hj
theorem put_spec {c c' : Chunk} {a : Addr} {v : Value} {w : World} {l : List HP} (h : Sat w (c.toHP :: l)) (hc : c.put a v = some c') :
    (∃ u, w.cell? a = some u) ∧ w.frozen? a = false ∧ v.oneCell' = true ∧ Sat (w.setCell a v) (c'.toHP :: l) := by
  cases c with
  | emp => simp [Chunk.put] at hc
  | hp H => simp [Chunk.put] at hc
  | old w0 => simp [Chunk.put] at hc
  | fz w0 B => simp [Chunk.put] at hc
  | blk g o =>
    cases o with
    | cells cs t fr =>
      obtain ⟨f1, f2⟩ := fr
      obtain ⟨ab, ao, asp⟩ := a
      rcases f1 with _ | f1
      · rcases f2 with _ | f2
        · simp only [Chunk.put] at hc
          split at hc
          · rename_i hh
            obtain ⟨rfl, rfl, hlt, h1⟩ := hh
            injection hc with hc
            subst hc
            have hb := Sat.blk (g := ab) h
            exact ⟨⟨_, by rw [blk_cell hb]; exact Array.getElem?_eq_getElem hlt⟩, blk_free hb _, h1, Sat.set (g := ab) h ao v⟩
          · cases hc
        · simp [Chunk.put] at hc
      · simp [Chunk.put] at hc
    | _ => simp [Chunk.put] at hc
  | row e s v0 n xs =>
    cases v0 with
    | slice A m c =>
      cases A with
      | none => simp [Chunk.put] at hc
      | some b =>
        simp only [Chunk.put] at hc
        split at hc
        · rename_i hh
          obtain ⟨h1, h2, h3, h4, h5⟩ := hh
          injection hc with hc
          subst hc
          obtain ⟨S, ⟨h0, hv⟩, _⟩ := Sat.head (H := RowO e s (.slice (some b) m c) n xs) h
          rcases hv with ⟨hv, _⟩ | ⟨g, off, cap, cur, hv, hg, hn, _, _, hcs⟩
          · cases hv
          · injection hv with hv hn' hc'
            injection hv with hv
            subst hv
            subst hn' hc'
            obtain ⟨ab, ao, asp⟩ := a
            simp only at h1 h2 h3 h4
            subst h1 h2
            have hu := hcs (ao - off) (by omega)
            rw [show off + (ao - off) = ao by omega] at hu
            have hset := Sat.rowO_set (g := ab) (off := off) h (ao - off) h4 v
            rw [show off + (ao - off) = ao by omega] at hset
            exact ⟨⟨_, by rw [blk_cell hg, hu]; exact List.getElem?_eq_getElem h4⟩, blk_free hg _, h5, hset⟩
        · cases hc
    | _ => simp [Chunk.put] at hc
def Chunk.puts (a : Addr) : Nat → List Value → Chunk → Option Chunk
  | _, [], c => some c
  | i, v :: vs, c => match c.put (a.add i) v with
    | some c' => Chunk.puts a (i + 1) vs c'
    | none => none
theorem puts_spec {a : Addr} {P : Program} : ∀ (vs : List Value) (i : Nat) (c c' : Chunk) (w : World) (l : List HP), Sat w (c.toHP :: l) → Chunk.puts a i vs c = some c' →
    ∃ w', (storeCells a vs i).run P w = .ok () w' ∧ Sat w' (c'.toHP :: l) ∧ Ext w w'
  | [], i, c, c', w, l, h, hc => by simp [Chunk.puts] at hc; subst hc; exact ⟨w, rfl, h, Ext.refl w⟩
  | v :: vs, i, c, c', w, l, h, hc => by
    unfold Chunk.puts at hc
    cases h1 : c.put (a.add i) v with
    | none => simp [h1] at hc
    | some c1 =>
      simp [h1] at hc
      obtain ⟨⟨u, hu⟩, hf, ho, hs⟩ := put_spec h h1
      obtain ⟨w', hr, hs', he⟩ := puts_spec (P := P) vs (i + 1) c1 c' _ l hs hc
      refine ⟨w', ?_, hs', ((Ext.refl w).setCell _ _).trans he⟩
      have : (store (a.add i) v).run P w = .ok () (w.setCell (a.add i) v) := by
        unfold store
        cases v <;> first | (simp [Value.oneCell'] at ho; done) | (simp [Sem.run, hu, hf])
      simp [storeCells, this, hr]

/-! ### The list at its k-th place -/
theorem SatC.take {w : World} {L : List Chunk} (h : SatC w L) (k : Nat) {c : Chunk} (hk : L[k]? = some c) : Sat w (c.toHP :: (L.map Chunk.toHP).eraseIdx k) := by
  refine Sat.front k h ?_
  simp [hk]
theorem SatC.put {w : World} {L : List Chunk} (k : Nat) {c c' : Chunk} (hk : L[k]? = some c) (h : Sat w (c'.toHP :: (L.map Chunk.toHP).eraseIdx k)) : SatC w (L.set k c') := by
  refine Sat.back k (x := c'.toHP) ?_ ?_
  · rw [List.map_set, List.eraseIdx_set_eq]; exact h
  · have := (List.getElem?_eq_some_iff.1 hk).1
    simp [this]

/-! ### Steps -/
/-- An operation's step: what it does at what is known, and what must stand behind it. -/
def StepOk (P : Program) (o : Oper) (s : Spec) (n : Nat) (env : Env) (L : List Chunk) (K : Env → List Chunk → Prop) : Prop :=
  ∃ vs, evL env o.op.operands.toList = some vs ∧ dstOk o.dst n = true ∧ Sound P o s ∧ ∀ g, ∃ v δ, s.f g vs (sel L (s.R ++ s.W)) = some (v, δ) ∧ K (putE o.dst v env) (upd L s.W δ)

open Classical in
noncomputable def Spec.pure (P : Program) (o : Oper) : Spec := ⟨[], [], Unit, (), fun _ vs _ => if h : ∃ v, PureOp P o vs v then some (Classical.choose h, []) else none⟩
theorem pure_one {P : Program} {o : Oper} {vs : List Value} {v v' : Value} (h : PureOp P o vs v) (h' : PureOp P o vs v') (hvs : ∃ ρ : Operand → Value, o.op.operands.toList.map ρ = vs) : v = v' := by
  obtain ⟨ρ, hρ⟩ := hvs
  have e := (h ρ hρ default).symm.trans (h' ρ hρ default)
  injection e with e _
  injection e
theorem sound_pure {P : Program} {o : Oper} : Sound P o (Spec.pure P o) := by
  intro a w L K Q hs hp hk
  obtain ⟨v, δ, hf⟩ := hp ()
  have hf0 := hf
  simp only [Spec.pure] at hf
  split at hf
  · rename_i hh
    injection hf with hf
    injection hf with h1 h2
    subst h2
    have hv := Classical.choose_spec hh
    rw [h1] at hv
    unfold Oper.wp
    rw [hv a.eval rfl w]
    exact hk () v [] w hf0 hs (Ext.refl w)
  · cases hf
theorem st_pure {P : Program} {o : Oper} {n : Nat} {env : Env} {L : List Chunk} {K : Env → List Chunk → Prop} {vs : List Value} {v : Value} {d : Nat} (h : PureOp P o vs v) (hvs : evL env o.op.operands.toList = some vs) (hd : o.dst = some d) (hn : Nat.blt d n = true)
    (k : K ((d, v) :: env) L) : StepOk P o (Spec.pure P o) n env L K := by
  refine ⟨vs, hvs, by rw [hd]; exact hn, sound_pure, fun g => ⟨v, [], ?_, ?_⟩⟩
  · have hex : ∃ v, PureOp P o vs v := ⟨v, h⟩
    simp only [Spec.pure]
    rw [dif_pos hex]
    have : ∃ ρ : Operand → Value, o.op.operands.toList.map ρ = vs := by
      refine ⟨fun x => (evE env x).getD undef, ?_⟩
      clear h hex k
      generalize o.op.operands.toList = xs at hvs
      induction xs generalizing vs with
      | nil => simp [evL] at hvs; subst hvs; rfl
      | cons x l ih =>
        unfold evL at hvs
        cases h1 : evE env x with
        | none => simp [h1] at hvs
        | some u =>
          cases h2 : evL env l with
          | none => simp [h1, h2] at hvs
          | some us =>
            simp [h1, h2] at hvs
            subst hvs
            simp [h1, ih h2]
    rw [pure_one (Classical.choose_spec hex) h this]
  · rw [hd]; exact k

/-- A spec that leaves nothing open. -/
def Spec.fn (R W : List Nat) (f : List Value → List Chunk → Option (Value × List Chunk)) : Spec := ⟨R, W, Unit, (), fun _ => f⟩

/-- A load of one cell out of the k-th chunk. -/
noncomputable def Spec.ld (k : Nat) : Spec := Spec.fn [k] [] fun vs cs => match vs, cs with
  | [.pointer (some a)], [c] => (c.cell a).map fun v => (v, [])
  | _, _ => none
noncomputable def Spec.ldN (k s : Nat) : Spec := Spec.fn [k] [] fun vs cs => match vs, cs with
  | [.pointer (some a)], [c] => (c.cells a 0 s).map fun l => (.agg l.toArray, [])
  | _, _ => none
def Spec.st (k : Nat) : Spec := Spec.fn [] [k] fun vs cs => match vs, cs with
  | [.pointer (some a), v], [c] => (Chunk.puts a 0 v.cells.toList c).map fun c' => (undef, [c'])
  | _, _ => none

def aggT (d : TypeDesc) : Bool := match d with | .struct _ | .array _ _ => true | _ => false
theorem run_isAgg {P : Program} {t : TypeId} {d : TypeDesc} (h : P.underlying t = some d) (w : World) : (isAgg t).run P w = .ok (aggT d) w := by
  unfold isAgg aggT
  simp only [Sem.run_bind, run_underlying h, Result.andThen_ok]
  cases d <;> rfl
theorem run_size {P : Program} {t : TypeId} {s : Nat} (h : (P.info? t).map (·.size) = some s) (w : World) : (sizeOf t).run P w = .ok s w := by
  obtain ⟨i, hi, rfl⟩ := Option.map_eq_some_iff.1 h
  unfold sizeOf typeInfo
  simp [program, Sem.run, hi]

theorem sel1 {L : List Chunk} {k : Nat} {c : Chunk} (h : L[k]? = some c) : sel L [k] = [c] := by simp [sel, List.getD, h]

theorem sound_ld {P : Program} {o : Oper} {t : TypeId} {x : Operand} {d : TypeDesc} {k : Nat} (ho : o.op = .load t x) (hu : P.underlying t = some d) (ha : aggT d = false) : Sound P o (Spec.ld k) := by
  intro a w L K Q hs hp hk
  obtain ⟨v, δ, hf⟩ := hp ()
  have hf0 := hf
  have hv : Oper.vals o a = [a.eval x] := by simp [Oper.vals, ho, Op.operands]
  simp only [Spec.ld, Spec.fn, hv, List.append_nil] at hf
  cases hL : L[k]? with
  | none =>
    have : sel L [k] = [.emp] := by simp [sel, List.getD, hL]
    rw [this] at hf
    split at hf
    · rename_i h1 h2; simp at h2; subst h2; simp [Chunk.cell] at hf
    · cases hf
  | some c =>
    rw [sel1 hL] at hf
    split at hf
    · rename_i ad c0 h1 h2
      simp only [List.cons.injEq, and_true] at h1 h2
      subst h2
      cases hc : c.cell ad with
      | none => simp [hc] at hf
      | some u =>
        simp [hc] at hf
        obtain ⟨rfl, rfl⟩ := hf
        have hcell := cell_spec (SatC.take hs k hL) hc
        have hr : (execOp a.eval o).run P w = .ok (.value u) w := by
          simp [execOp, ho, Instr.loadAt, h1, Instr.sureAddr, loadVar, run_isAgg hu, ha, load, Sem.run, hcell]
        unfold Oper.wp
        rw [hr]
        exact hk () u [] w hf0 hs (Ext.refl w)
    · cases hf
theorem sound_ldN {P : Program} {o : Oper} {t : TypeId} {x : Operand} {d : TypeDesc} {k s : Nat} (ho : o.op = .load t x) (hu : P.underlying t = some d) (ha : aggT d = true) (hi : (P.info? t).map (·.size) = some s) : Sound P o (Spec.ldN k s) := by
  intro a w L K Q hs hp hk
  obtain ⟨v, δ, hf⟩ := hp ()
  have hf0 := hf
  have hv : Oper.vals o a = [a.eval x] := by simp [Oper.vals, ho, Op.operands]
  simp only [Spec.ldN, Spec.fn, hv, List.append_nil] at hf
  have key : ∀ c, (L[k]? = some c ∨ c = .emp) → sel L [k] = [c] → o.wp P a w K Q := by
    intro c hL hsel
    rw [hsel] at hf
    split at hf
    · rename_i ad c0 h1 h2
      simp only [List.cons.injEq, and_true] at h1 h2
      subst h2
      cases hc : c.cells ad 0 s with
      | none => simp [hc] at hf
      | some u =>
        simp [hc] at hf
        obtain ⟨rfl, rfl⟩ := hf
        have hsat : ∃ l, Sat w (c.toHP :: l) := by
          rcases hL with hL | rfl
          · exact ⟨_, SatC.take hs k hL⟩
          · exact ⟨[], ⟨fun _ => False, ⟨trivial, fun i h => h.elim⟩, fun i h => trivial, trivial⟩⟩
        obtain ⟨l, hsat⟩ := hsat
        obtain ⟨hlen, hcells⟩ := cells_spec hsat s 0 u hc
        have hr : (execOp a.eval o).run P w = .ok (.value (.agg u.toArray)) w := by
          have := run_loadCells_list (P := P) w ad u (fun j v hj => by simpa using hcells j v hj)
          rw [hlen] at this
          simp [execOp, ho, Instr.loadAt, h1, Instr.sureAddr, loadVar, run_isAgg hu, ha, run_size hi, this]
        unfold Oper.wp
        rw [hr]
        exact hk () (.agg u.toArray) [] w hf0 hs (Ext.refl w)
    · cases hf
  cases hL : L[k]? with
  | none => exact key .emp (.inr rfl) (by simp [sel, List.getD, hL])
  | some c => exact key c (.inl hL) (sel1 hL)
theorem sound_st {P : Program} {o : Oper} {t : TypeId} {x y : Operand} {k s : Nat} (ho : o.op = .store t x y) (hi : (P.info? t).map (·.size) = some s) (hsz : ∀ (a : Act) L v δ, (Spec.st k).f () (Oper.vals o a) (sel L [k]) = some (v, δ) → (a.eval y).cells.size = s) : Sound P o (Spec.st k) := by
  intro a w L K Q hs hp hk
  obtain ⟨v, δ, hf⟩ := hp ()
  have hf0 := hf
  have hsize := hsz a L v δ hf
  have hv : Oper.vals o a = [a.eval x, a.eval y] := by simp [Oper.vals, ho, Op.operands]
  simp only [Spec.st, Spec.fn, hv, List.nil_append] at hf
  cases hL : L[k]? with
  | none =>
    have : sel L [k] = [.emp] := by simp [sel, List.getD, hL]
    rw [this] at hf
    split at hf
    · rename_i ad v1 c0 h1 h2
      simp only [List.cons.injEq, and_true] at h1 h2
      subst h2
      obtain ⟨h1, rfl⟩ := h1
      cases hc : (a.eval y).cells.toList with
      | nil =>
        simp only [hc, Chunk.puts, Option.map_some, Option.some.injEq, Prod.mk.injEq] at hf
        obtain ⟨rfl, rfl⟩ := hf
        have hr : (execOp a.eval o).run P w = .ok .skip w := by
          have h0 : (storeCells ad []).run P w = .ok () w := rfl
          simp [execOp, ho, Instr.storeAt, h1, Instr.sureAddr, storeVar, run_size hi, hsize, hc, h0]
        unfold Oper.wp
        rw [hr]
        refine hk () undef [.emp] w hf0 ?_ (Ext.refl w)
        simp only [Spec.st, Spec.fn, upd]
        rw [List.set_eq_of_length_le (by simpa using hL)]
        exact hs
      | cons u us => simp [hc, Chunk.puts, Chunk.put] at hf
    · cases hf
  | some c =>
    rw [sel1 hL] at hf
    split at hf
    · rename_i ad v1 c0 h1 h2
      simp only [List.cons.injEq, and_true] at h1 h2
      subst h2
      obtain ⟨h1, rfl⟩ := h1
      cases hc : Chunk.puts ad 0 (a.eval y).cells.toList c with
      | none => simp [hc] at hf
      | some c' =>
        simp [hc] at hf
        obtain ⟨rfl, rfl⟩ := hf
        obtain ⟨w', hr0, hs', he⟩ := puts_spec (P := P) _ 0 c c' w _ (SatC.take hs k hL) hc
        have hr : (execOp a.eval o).run P w = .ok .skip w' := by
          simp [execOp, ho, Instr.storeAt, h1, Instr.sureAddr, storeVar, run_size hi, hsize, hr0]
        unfold Oper.wp
        rw [hr]
        exact hk () undef [c'] w' hf0 (SatC.put k hL hs') he
    · cases hf
end Go.Proofs.YtompmejidaddoaaDoor
