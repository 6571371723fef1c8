/- Slices with a bound of their own, and what is appended to a part of its own row. No program. -/
import Derived.Test.YtompmejidaddoaaDoorEngK
set_option linter.unusedVariables false
set_option linter.unusedSimpArgs false
namespace Go.Proofs.YtompmejidaddoaaDoor
open Go Go.RowKit

/-- v[:j:m]. -/
def vcp (v : Value) (j m : Nat) : Value := match v with
  | .slice A _ _ => .slice A j m
  | v => v
theorem IsRow.vcp {v : Value} {n j m : Nat} (h : IsRow v n) (h1 : j ≤ m) (h2 : m ≤ n) : IsRow (vcp v j m) j := by
  rcases h with ⟨rfl, rfl⟩ | ⟨g, off, c, rfl, hc, hm⟩ | ⟨a, rfl, rfl⟩
  · have : m = 0 := by omega
    have : j = 0 := by omega
    subst m; subst j
    exact .inl ⟨rfl, rfl⟩
  · exact .inr (.inl ⟨g, off, m, rfl, h1, by omega⟩)
  · have : m = 0 := by omega
    have : j = 0 := by omega
    subst m; subst j
    exact .inr (.inr ⟨a, rfl, rfl⟩)
section
variable {P : Program} {dst : Option Tmp} {ty : TypeId} {pos : String} {af : Array Edge} {gd : Option (Nat × Bool)}
theorem pure_sliceMx {t e : TypeId} {x y z : Operand} {v : Value} {n j m s : Nat} {k k' : IntKind} {i i' : Int} [hi : NatIs i j] [hi' : NatIs i' m] (hu : P.underlying t = some (.slice e)) (hs : (P.info? e).map (·.size) = some s) (hr : IsRow v n) (h : j ≤ m) (hm : m ≤ n) : PureOp P ⟨dst, .slice t x none (some y) (some z), ty, pos, af, gd⟩ [v, .int k i, .int k' i'] (vcp v j m) := by
  intro ρ hv w
  obtain ⟨A, c, rfl, hc⟩ := hr.slice
  simp [Op.operands] at hv
  have hb := fun w => run_sliceBound (P := P) (x := i') (k := k') (j := m) (y := c) (code := .slice3Acap) (by omega) w
  have hb' := fun w => run_sliceBound (P := P) (x := i) (k := k) (j := j) (y := m) (code := .slice3B) (by omega) w
  have ha : ∀ a : Addr, a.add 0 = a := fun a => by cases a; rfl
  simp [execOp, hv, Instr.sliceAt, run_underlying hu, Instr.slice, Instr.sliceBounds, hb, hb', run_size hs, vcp, ha]
end

open Classical in
/-- A row, or a beginning of one, out of what there is. -/
noncomputable def toPre (e s : Nat) : Chunk → Value → Option (Nat × List Value)
  | .row e' s' (.slice (some a) n c) n' xs, .slice (some a') k c' => if e' = e ∧ s' = s ∧ n' = n ∧ a' = a ∧ k ≤ n ∧ k ≤ c' ∧ c' ≤ c then some (k, xs.take (k * s)) else none
  | _, _ => none
theorem toPre_spec {e s n : Nat} {c : Chunk} {v : Value} {xs : List Value} {w : World} {l : List HP} (h : Sat w (c.toHP :: l)) (ht : toPre e s c v = some (n, xs)) : Sat w (RowO e s v n xs :: l) := by
  unfold toPre at ht
  split at ht
  · split at ht
    · rename_i hh
      obtain ⟨q1, q2, q3, q4, h1, h2, h3⟩ := hh
      have q1 := q1.symm
      have q2 := q2.symm
      subst q1 q2 q3 q4
      injection ht with ht
      injection ht with h4 h5
      subst h4 h5
      refine Sat.conv h fun S hS => ?_
      obtain ⟨⟨h0, hv⟩, hS⟩ := hS
      have hsz := Nat.mul_le_mul_right s h1
      refine ⟨⟨by rw [List.length_take, h0]; omega, ?_⟩, fun i => (hS i).trans (by simp [Value.ownBlock])⟩
      rcases hv with ⟨hv, _⟩ | ⟨g, off, cap, cur, hv, hg, h5, h6, h7, h8⟩
      · cases hv
      · injection hv with hv _ hc
        injection hv with hv
        subst hv hc
        have hsc := Nat.mul_le_mul_right s h3
        refine .inr ⟨g, off, _, cur, rfl, hg, h2, by omega, by omega, fun j hj => ?_⟩
        rw [h8 j (by omega), List.getElem?_take_of_lt hj]
    · cases ht
  · cases ht
theorem toPre_vcp {e s n k m : Nat} {v : Value} {xs : List Value} (h : IsRow v n) (hn : 0 < n) (hk : k ≤ m) (hm : m ≤ n) : toPre e s (.row e s v n xs) (vcp v k m) = some (k, xs.take (k * s)) := by
  rcases h with ⟨rfl, rfl⟩ | ⟨g, off, c, rfl, hc, _⟩ | ⟨a, rfl, rfl⟩
  · omega
  rotate_left
  · omega
  · simp only [vcp, toPre]
    rw [if_pos (by simp only [true_and]; omega)]
theorem toPre_vsl {e s n k : Nat} {v : Value} {xs : List Value} (h : IsRow v n) (hn : 0 < n) (hk : k ≤ n) : toPre e s (.row e s v n xs) (vsl v 0 k s) = some (k, xs.take (k * s)) := by
  rcases h with ⟨rfl, rfl⟩ | ⟨g, off, c, rfl, hc, _⟩ | ⟨a, rfl, rfl⟩
  · omega
  rotate_left
  · omega
  · have e1 : (if c = 0 then (some ⟨g, off, none⟩ : Option Addr) else some (Addr.add ⟨g, off, none⟩ 0)) = some ⟨g, off, none⟩ := by split <;> rfl
    simp only [vsl, Nat.zero_mul, Option.map_some, Nat.sub_zero, e1, toPre]
    rw [if_pos (by simp only [true_and]; omega)]
theorem toPre_not {e s k : Nat} {L : List Chunk} {v : Value} {r : Nat × List Value} (h : toPre e s (L.getD k .emp) v = some r) : k < L.length := by
  rcases Nat.lt_or_ge k L.length with h1 | h1
  · exact h1
  · simp [List.getD, List.getElem?_eq_none h1, toPre] at h
open Classical in
/-- 'append' to a beginning of the row at k, of what is read of that row too. -/
noncomputable def Spec.appS (k e s bytes : Nat) : Spec := ⟨[], [k], Option (Nat × Nat × Nat), none, fun x vs cs => match vs, cs with
  | [v, .slice A m c], [ck] => match toPre e s ck v, newsOf ck A (m * s) with
    | some (n, xs), some ns => if (∀ u ∈ ns, u.oneCell' = true) ∧ (n + m) * bytes ≤ 140737488355328 ∧ n + m ≤ 140737488355328 then some (mkRow (n + m) x, [.row e s (mkRow (n + m) x) (n + m) (xs ++ ns)]) else none
    | _, _ => none
  | _, _ => none⟩
theorem sound_appS {P : Program} {o : Oper} {x y : Operand} {t e : TypeId} {z : Value} {k s bytes : Nat} (ho : o.op = .call ⟨.builtin .append, #[x, y], #[t, t]⟩) (he : ElemIs P t e z s bytes) : Sound P o (Spec.appS k e s bytes) := by
  intro a w L K Q hs hp hk
  obtain ⟨v0, δ0, hf0⟩ := hp none
  have hv : Oper.vals o a = [a.eval x, a.eval y] := by simp [Oper.vals, ho, Op.operands, Call.operands]
  have hse : sel L ([] ++ [k]) = [L.getD k .emp] := rfl
  simp only [Spec.appS, hv, hse] at hf0
  split at hf0
  · rename_i vx A m c ck h1 h2
    simp only [List.cons.injEq, and_true] at h1 h2
    obtain ⟨h1a, h1b⟩ := h1
    subst h2
    split at hf0
    · rename_i n xs ns hrow hnews
      split at hf0
      · rename_i hcond
        obtain ⟨hone, hby, h63⟩ := hcond
        clear hf0
        have hkl := toPre_not hrow
        have hLk : L[k]? = some (L.getD k .emp) := by simp [List.getD, List.getElem?_eq_getElem hkl]
        have hs1 : SatC w (L.set k (.row e s vx n xs)) := SatC.put k hLk (toPre_spec (SatC.take hs k hLk) hrow)
        have hkh : (hps (L.set k (.row e s vx n xs)))[k]? = some (RowO e s vx n xs) := by simp [hkl, Chunk.toHP]
        obtain ⟨hisrow, hxl⟩ := isRow_of_sat (Sat.front k hs1 hkh)
        have hr : ∃ v1 w1, (Builtin.append_ #[t, t] o.type #[vx, .slice A m c]).run P w = .ok v1 w1 ∧ Sat w1 ((hps (L.set k (.row e s vx n xs))).set k (RowO e s v1 (n + m) (xs ++ ns))) ∧ Ext w w1 := by
          by_cases hm : m = 0
          · subst hm
            have hns : ns = [] := by simpa [newsOf] using hnews.symm
            subst hns
            refine ⟨vx, w, run_append_none he.slice he.sz hisrow rfl w, ?_, Ext.refl w⟩
            have : (hps (L.set k (.row e s vx n xs))).set k (RowO e s vx (n + 0) (xs ++ [])) = hps (L.set k (.row e s vx n xs)) := by
              rw [List.append_nil, Nat.add_zero]
              apply List.ext_getElem?
              intro i
              by_cases hi : k = i
              · subst hi; rw [List.getElem?_set_self (List.getElem?_eq_some_iff.1 hkh).1, hkh]
              · rw [List.getElem?_set_ne hi]
            rw [this]; exact hs1
          · have hpos := he.pos
            have hms : m * s ≠ 0 := Nat.mul_ne_zero hm (by omega)
            simp only [newsOf, if_neg hms] at hnews
            cases A with
            | none => cases hnews
            | some ad =>
              simp only at hnews
              have hcj := SatC.take hs k hLk
              obtain ⟨hnl, hnc⟩ := cells_spec hcj _ 0 ns hnews
              exact run_append_o (P := P) t o.type e z s bytes he.slice he.info he.size he.pos vx n xs hs1 k hkh ad m c ns hnl (fun i u hu => by simpa using hnc i u hu) hone (by omega) hby h63
        obtain ⟨v1, w1, hrun, hsat, hext⟩ := hr
        have hrow1 := (isRow0_of_sat (Sat.front k hsat (x := RowO e s v1 (n + m) (xs ++ ns)) (by rw [List.getElem?_set_self (List.getElem?_eq_some_iff.1 hkh).1]))).1
        obtain ⟨x', hx'⟩ := mkRow_all hrow1
        have hexec : (execOp a.eval o).run P w = .ok (.value v1) w1 := by
          simp only [execOp, ho, resolve, invoke, builtin, Sem.run_bind, Sem.run_pure, Result.andThen_ok, List.map_toArray, List.map_cons, List.map_nil, h1a, h1b, hrun]
        unfold Oper.wp
        rw [hexec]
        subst hx'
        refine hk x' (mkRow (n + m) x') [.row e s (mkRow (n + m) x') (n + m) (xs ++ ns)] w1 ?_ ?_ hext
        · simp only [Spec.appS, hv, hse, h1a, h1b, hrow, hnews]
          rw [if_pos ⟨hone, hby, h63⟩]
        · simp only [Spec.appS, upd]
          have e1 : (hps (L.set k (.row e s vx n xs))).set k (RowO e s (mkRow (n + m) x') (n + m) (xs ++ ns)) = hps (L.set k (.row e s (mkRow (n + m) x') (n + m) (xs ++ ns))) := by
            simp [hps, List.map_set, List.set_set, Chunk.toHP]
          rw [e1] at hsat
          exact hsat
      · cases hf0
    · cases hf0
  · cases hf0
theorem s_appS {P : Program} {n : Nat} {env : Env} {L : List Chunk} {o : Oper} {K : Env → List Chunk → Prop} {x y : Operand} {t e : TypeId} {z v vy : Value} {ck : Chunk} {s bytes m' d n' : Nat} {xs ns : List Value} {L' : Value → List Chunk} (k : Nat)
    (ho : o.op = .call ⟨.builtin .append, #[x, y], #[t, t]⟩) (he : ElemIs P t e z s bytes) (hx : evE env x = some v) (hy : evE env y = some vy) (hk : L[k]? = some ck) (hrow : toPre e s ck v = some (n', xs)) (hnews : Rds ck vy m' s ns) (hone : ∀ u ∈ ns, u.oneCell' = true) (hby : (n' + m') * bytes ≤ 140737488355328) (h63 : n' + m' ≤ 140737488355328) (hd : o.dst = some d) (hn : Nat.blt d n = true)
    [hL : ∀ v1, SetK L k (.row e s v1 (n' + m') (xs ++ ns)) (L' v1)] (kk : ∀ v1, IsRow v1 (n' + m') → K ((d, v1) :: env) (L' v1)) : StepOk P o (Spec.appS k e s bytes) n env L K := by
  obtain ⟨A, cc, rfl, _⟩ := hnews.1.slice
  refine ⟨[v, .slice A m' cc], by simp [ho, Op.operands, Call.operands, evL, hx, hy], by rw [hd]; exact hn, sound_appS ho he, fun q => ⟨mkRow (n' + m') q, [.row e s (mkRow (n' + m') q) (n' + m') (xs ++ ns)], ?_, ?_⟩⟩
  · have hse : sel L ([] ++ [k]) = [ck] := by simp [sel, List.getD, hk]
    have hnw := news_rds hnews
    simp only [Spec.appS, hse, hrow, hnw]
    rw [if_pos ⟨hone, hby, h63⟩]
  · rw [hd]
    have h1 := kk (mkRow (n' + m') q) (mkRow_is _ q (by simp only [maxLen]; omega)).up
    rw [← (hL _).eq] at h1
    exact h1
end Go.Proofs.YtompmejidaddoaaDoor
