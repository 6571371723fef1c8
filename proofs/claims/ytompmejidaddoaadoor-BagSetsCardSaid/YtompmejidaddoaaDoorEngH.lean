/- The engine: append, slices that are made, rows out of blocks. No program. -/
import Derived.Test.YtompmejidaddoaaDoorEngG
set_option linter.unusedVariables false
set_option linter.unusedSimpArgs false
namespace Go.Proofs.YtompmejidaddoaaDoor
open Go Go.RowKit

/-! ### Rows out of what there is -/
theorem Sat.to_rowO {w : World} {l : List HP} {g e size n : Nat} {cs : Array Value} (h : Sat w (Blk g (.cells cs e (0, 0)) :: l)) (hn : cs.size = n * size) (hm : n ≤ maxLen) : Sat w (RowO e size (.slice (some ⟨g, 0, none⟩) n n) n cs.toList :: l) :=
  h.conv fun S hS => ⟨⟨by simpa using hn, .inr ⟨g, 0, n, cs, rfl, hS.1, Nat.le_refl _, hm, by omega, fun j hj => by simp⟩⟩, fun i => (hS.2 i).trans ⟨fun e => by simp [Value.ownBlock, e], fun e => by simpa [Value.ownBlock, eq_comm] using e⟩⟩
open Classical in
noncomputable def toRow (e s : Nat) : Chunk → Value → Option (Nat × List Value)
  | .row e' s' v' n xs, v => if e' = e ∧ s' = s ∧ v' = v then some (n, xs) else none
  | .blk g (.cells cs e' fr), .slice (some ⟨g', o, sp⟩) n c => if g' = g ∧ o = 0 ∧ sp = none ∧ fr = (0, 0) ∧ e' = e ∧ n = c ∧ cs.size = n * s ∧ n ≤ maxLen then some (n, cs.toList) else none
  | .emp, .slice none n c => if n = 0 ∧ c = 0 then some (0, []) else none
  | _, _ => none
theorem toRow_spec {e s n : Nat} {c : Chunk} {v : Value} {xs : List Value} {w : World} {l : List HP} (h : Sat w (c.toHP :: l)) (ht : toRow e s c v = some (n, xs)) : Sat w (RowO e s v n xs :: l) := by
  unfold toRow at ht
  split at ht
  · split at ht
    · rename_i hh
      obtain ⟨rfl, rfl, rfl⟩ := hh
      injection ht with ht
      injection ht with h1 h2
      subst h1 h2
      exact h
    · cases ht
  · split at ht
    · rename_i hh
      obtain ⟨rfl, rfl, rfl, rfl, rfl, rfl, h1, h2⟩ := hh
      injection ht with ht
      injection ht with h3 h4
      subst h3 h4
      exact Sat.to_rowO h h1 h2
    · cases ht
  · split at ht
    · rename_i hh
      obtain ⟨rfl, rfl⟩ := hh
      injection ht with ht
      injection ht with h3 h4
      subst h3 h4
      exact Sat.nil_rowO (h.tail) e s
    · cases ht
  · cases ht
theorem ent_row {g e s n : Nat} {cs : List Value} {L : List HP} (hn : cs.length = n * s) (hm : n ≤ maxLen) : Ent ((Chunk.blk g (.cells cs.toArray e (0, 0))).toHP :: L) ((Chunk.row e s (.slice (some ⟨g, 0, none⟩) n n) n cs).toHP :: L) :=
  fun w T ⟨S, hS, h1, h2⟩ => ⟨S, ⟨⟨by simpa using hn, .inr ⟨g, 0, n, cs.toArray, rfl, hS.1, Nat.le_refl _, hm, by simp; omega, fun j hj => by simp⟩⟩, fun i => (hS.2 i).trans ⟨fun e => by simp [Value.ownBlock, e], fun e => by simpa [Value.ownBlock, eq_comm] using e⟩⟩, h1, h2⟩
theorem ent_nil {e s : Nat} {L : List HP} : Ent L ((Chunk.row e s (.slice none 0 0) 0 []).toHP :: L) :=
  fun w T h => ⟨fun _ => False, ⟨⟨by simp, .inl ⟨rfl, rfl⟩⟩, fun i => by simp [Value.ownBlock]⟩, fun _ h => h.elim, SatF.mono h (fun _ hi => ⟨hi, fun h => h⟩)⟩

/-! ### Append -/
def mkRow (n : Nat) : Option (Nat × Nat × Nat) → Value
  | none => if n = 0 then .slice none 0 0 else .slice (some ⟨0, 0, none⟩) n n
  | some (g, off, c) => .slice (some ⟨g, off, none⟩) n (if n ≤ c ∧ c ≤ maxLen then c else n)
theorem mkRow_is (n : Nat) (x : Option (Nat × Nat × Nat)) (h : n ≤ maxLen) : IsRow0 (mkRow n x) n := by
  unfold mkRow
  split
  · split
    · rename_i h0; exact .inl ⟨rfl, h0⟩
    · exact .inr ⟨_, _, n, rfl, Nat.le_refl _, h⟩
  · rename_i g off c
    split
    · rename_i h1; exact .inr ⟨_, _, _, rfl, h1.1, h1.2⟩
    · exact .inr ⟨_, _, n, rfl, Nat.le_refl _, h⟩
theorem mkRow_all {v : Value} {n : Nat} (h : IsRow0 v n) : ∃ x, v = mkRow n x := by
  rcases h with ⟨rfl, rfl⟩ | ⟨g, off, c, rfl, h1, h2⟩
  · exact ⟨none, by simp [mkRow]⟩
  · exact ⟨some (g, off, c), by simp [mkRow, h1, h2]⟩
noncomputable def newsOf (c : Chunk) (A : Option Addr) (k : Nat) : Option (List Value) := if k = 0 then some [] else match A with
  | some a => c.cells a 0 k
  | none => none
open Classical in
/-- 'append': the row at k grows by what is read at j. -/
noncomputable def Spec.app (j k e s bytes : Nat) : Spec := ⟨[j], [k], Option (Nat × Nat × Nat), none, fun x vs cs => match vs, cs with
  | [v, .slice A m c], [cj, ck] => match toRow e s ck v, newsOf cj A (m * s) with
    | some (n, xs), some ns => if (∀ u ∈ ns, u.oneCell' = true) ∧ (n + m) * bytes ≤ 140737488355328 ∧ n + m ≤ 140737488355328 then some (mkRow (n + m) x, [.row e s (mkRow (n + m) x) (n + m) (xs ++ ns)]) else none
    | _, _ => none
  | _, _ => none⟩
structure ElemIs (P : Program) (t e : TypeId) (z : Value) (s bytes : Nat) : Prop where
  slice : P.underlying t = some (.slice e)
  info : (P.info? e).map (fun i => (i.zero, i.size, i.bytes)) = some (some z, s, bytes)
  size : z.cells.size = s
  pos : 0 < s
theorem ElemIs.sz {P : Program} {t e : TypeId} {z : Value} {s bytes : Nat} (h : ElemIs P t e z s bytes) : (P.info? e).map (·.size) = some s := by
  obtain ⟨i, hi, hz⟩ := Option.map_eq_some_iff.1 h.info
  simp only [Prod.mk.injEq] at hz
  rw [hi]; simp [hz.2.1]
theorem ElemIs.by {P : Program} {t e : TypeId} {z : Value} {s bytes : Nat} (h : ElemIs P t e z s bytes) : (P.info? e).map (·.bytes) = some bytes := by
  obtain ⟨i, hi, hz⟩ := Option.map_eq_some_iff.1 h.info
  simp only [Prod.mk.injEq] at hz
  rw [hi]; simp [hz.2.2]
theorem ElemIs.zero {P : Program} {t e : TypeId} {z : Value} {s bytes : Nat} (h : ElemIs P t e z s bytes) : zeroIs P e z s := by
  obtain ⟨i, hi, hz⟩ := Option.map_eq_some_iff.1 h.info
  simp only [Prod.mk.injEq] at hz
  unfold zeroIs
  rw [hi]; simp [hz.1, hz.2.1]
theorem run_append_none {P : Program} {t ty e : TypeId} {s n m c : Nat} {v : Value} {A : Option Addr} (hu : P.underlying t = some (.slice e)) (hs : (P.info? e).map (·.size) = some s) (hr : IsRow v n) (hm : m = 0) (w : World) : (Builtin.append_ #[t, t] ty #[v, .slice A m c]).run P w = .ok v w := by
  obtain ⟨B, d, rfl, hd⟩ := hr.slice
  subst hm
  have e1 : n + 0 ≤ d := hd
  have hload : ∀ a : Addr, (loadCells a 0).run P w = .ok #[] w := fun a => rfl
  cases A <;> cases B <;> simp [Builtin.append_, run_underlying hu, run_size hs, Builtin.lenOf, hd, Builtin.firstCells, hload, storeCells]
theorem sound_app {P : Program} {o : Oper} {x y : Operand} {t e : TypeId} {z : Value} {j k s bytes : Nat} (ho : o.op = .call ⟨.builtin .append, #[x, y], #[t, t]⟩) (he : ElemIs P t e z s bytes) (hjk : j ≠ k) : Sound P o (Spec.app j k e s bytes) := by
  intro a w L K Q hs hp hk
  obtain ⟨v0, δ0, hf0⟩ := hp none
  have hv : Oper.vals o a = [a.eval x, a.eval y] := by simp [Oper.vals, ho, Op.operands, Call.operands]
  have hse : sel L ([j] ++ [k]) = [L.getD j .emp, L.getD k .emp] := rfl
  simp only [Spec.app, hv, hse] at hf0
  split at hf0
  · rename_i vx A m c cj ck h1 h2
    simp only [List.cons.injEq, and_true] at h1 h2
    obtain ⟨h1a, h1b⟩ := h1
    obtain ⟨rfl, rfl⟩ := h2
    split at hf0
    · rename_i n xs ns hrow hnews
      split at hf0
      · rename_i hcond
        obtain ⟨hone, hby, h63⟩ := hcond
        clear hf0
        -- the list with the row in its place
        have hsat1 : ∃ L1 : List Chunk, SatC w L1 ∧ (k < L.length → L1 = L.set k (.row e s vx n xs)) ∧ (L.length ≤ k → L1 = L ++ List.replicate (k - L.length) .emp ++ [.row e s vx n xs]) := by
          rcases Nat.lt_or_ge k L.length with hkl | hkl
          · refine ⟨L.set k (.row e s vx n xs), ?_, fun _ => rfl, fun h => by omega⟩
            have hLk : L[k]? = some (L.getD k .emp) := by simp [List.getD, List.getElem?_eq_getElem hkl]
            exact SatC.put k hLk (toRow_spec (SatC.take hs k hLk) hrow)
          · refine ⟨L ++ List.replicate (k - L.length) .emp ++ [.row e s vx n xs], ?_, fun h => by omega, fun _ => rfl⟩
            have hemp : L.getD k .emp = .emp := by simp [List.getD, List.getElem?_eq_none hkl]
            rw [hemp] at hrow
            have h3 := toRow_spec (c := .emp) (w := w) (l := hps L) (Ent.emp.sat hs) hrow
            have h4 : ∀ q, Ent (RowO e s vx n xs :: hps L) (hps (L ++ List.replicate q .emp ++ [.row e s vx n xs])) := by
              intro q
              simp only [hps, List.map_append, List.map_replicate, List.map_cons, List.map_nil]
              refine Ent.trans (b := L.map Chunk.toHP ++ [RowO e s vx n xs]) (Ent.perm (List.perm_append_comm (l₁ := [RowO e s vx n xs]) (l₂ := L.map Chunk.toHP))) ?_
              rw [List.append_assoc]
              refine Ent.left _ ?_
              induction q with
              | zero => exact Ent.refl _
              | succ q ih => rw [List.replicate_succ]; exact ih.trans Ent.emp
            exact (h4 _).sat h3
        obtain ⟨L1, hs1, hin, hout⟩ := hsat1
        have hk1 : L1[k]? = some (.row e s vx n xs) := by
          rcases Nat.lt_or_ge k L.length with hkl | hkl
          · rw [hin hkl]; simp [hkl]
          · have h0 : k - (L ++ List.replicate (k - L.length) Chunk.emp).length = 0 := by simp; omega
            rw [hout hkl, List.getElem?_append_right (by simp; omega), h0]; rfl
        have hkh : (hps L1)[k]? = some (RowO e s vx n xs) := by simp [hk1, Chunk.toHP]
        obtain ⟨hisrow, hxl⟩ := isRow_of_sat (Sat.front k hs1 hkh)
        have hr : ∃ v1 w1, (Builtin.append_ #[t, t] o.type #[vx, .slice A m c]).run P w = .ok v1 w1 ∧ Sat w1 ((hps L1).set k (RowO e s v1 (n + m) (xs ++ ns))) ∧ Ext w w1 := by
          by_cases hm : m = 0
          · subst hm
            have hns : ns = [] := by simpa [newsOf] using hnews.symm
            subst hns
            refine ⟨vx, w, run_append_none he.slice he.sz hisrow rfl w, ?_, Ext.refl w⟩
            have : (hps L1).set k (RowO e s vx (n + 0) (xs ++ [])) = hps L1 := by
              rw [List.append_nil, Nat.add_zero]
              apply List.ext_getElem?
              intro i
              by_cases hi : k = i
              · subst hi; rw [List.getElem?_set_self (List.getElem?_eq_some_iff.1 hkh).1, hkh]
              · rw [List.getElem?_set_ne hi]
            rw [this]; exact hs1
          · have hpos := he.pos
            have hms : m * s ≠ 0 := Nat.mul_ne_zero hm (by omega)
            simp only [newsOf, if_neg hms] at hnews
            cases A with
            | none => cases hnews
            | some ad =>
              simp only at hnews
              have hcj : ∃ l, Sat w ((L.getD j .emp).toHP :: l) := by
                rcases Nat.lt_or_ge j L.length with hjl | hjl
                · exact ⟨_, SatC.take hs j (by simp [List.getD, List.getElem?_eq_getElem hjl])⟩
                · exact ⟨[], by simp only [List.getD, List.getElem?_eq_none hjl]; exact ⟨fun _ => False, ⟨trivial, fun i h => h.elim⟩, fun i h => trivial, trivial⟩⟩
              obtain ⟨l, hcj⟩ := hcj
              obtain ⟨hnl, hnc⟩ := cells_spec hcj _ 0 ns hnews
              exact run_append_o (P := P) t o.type e z s bytes he.slice he.info he.size he.pos vx n xs hs1 k hkh ad m c ns hnl (fun i u hu => by simpa using hnc i u hu) hone (by omega) hby h63
        obtain ⟨v1, w1, hrun, hsat, hext⟩ := hr
        have hrow1 := (isRow0_of_sat (Sat.front k hsat (x := RowO e s v1 (n + m) (xs ++ ns)) (by rw [List.getElem?_set_self (List.getElem?_eq_some_iff.1 hkh).1]))).1
        obtain ⟨x', hx'⟩ := mkRow_all hrow1
        have hexec : (execOp a.eval o).run P w = .ok (.value v1) w1 := by
          simp only [execOp, ho, resolve, invoke, builtin, Sem.run_bind, Sem.run_pure, Result.andThen_ok, List.map_toArray, List.map_cons, List.map_nil, h1a, h1b, hrun]
        unfold Oper.wp
        rw [hexec]
        subst hx'
        refine hk x' (mkRow (n + m) x') [.row e s (mkRow (n + m) x') (n + m) (xs ++ ns)] w1 ?_ ?_ hext
        · simp only [Spec.app, hv, hse, h1a, h1b, hrow, hnews]
          rw [if_pos ⟨hone, hby, h63⟩]
        · simp only [Spec.app, upd]
          rcases Nat.lt_or_ge k L.length with hkl | hkl
          · have e1 : (hps L1).set k (RowO e s (mkRow (n + m) x') (n + m) (xs ++ ns)) = hps (L.set k (.row e s (mkRow (n + m) x') (n + m) (xs ++ ns))) := by
              rw [hin hkl]
              simp [hps, List.map_set, List.set_set, Chunk.toHP]
            rw [e1] at hsat
            exact hsat
          · rw [List.set_eq_of_length_le hkl]
            rw [hout hkl] at hsat
            have e1 : (hps (L ++ List.replicate (k - L.length) Chunk.emp ++ [Chunk.row e s vx n xs])).set k (RowO e s (mkRow (n + m) x') (n + m) (xs ++ ns)) = hps L ++ (hps (List.replicate (k - L.length) Chunk.emp) ++ [RowO e s (mkRow (n + m) x') (n + m) (xs ++ ns)]) := by
              simp only [hps, List.map_append, List.map_cons, List.map_nil]
              rw [List.set_append_right _ _ (by simp; omega), List.append_assoc]
              simp
              have : k - (L.length + (k - L.length)) = 0 := by omega
              rw [this]; rfl
            rw [e1] at hsat
            obtain ⟨S, _, h5, _⟩ := SatF.append.1 hsat
            exact SatF.mono h5 (fun _ _ => trivial)
      · cases hf0
    · cases hf0
  · cases hf0
theorem st_app {P : Program} {o : Oper} {n0 : Nat} {env : Env} {L : List Chunk} {K : Env → List Chunk → Prop} {x y : Operand} {t e : TypeId} {z v : Value} {A : Option Addr} {cj ck : Chunk} {s bytes n m c d : Nat} {xs ns : List Value} (j k : Nat)
    (ho : o.op = .call ⟨.builtin .append, #[x, y], #[t, t]⟩) (he : ElemIs P t e z s bytes) (hjk : Nat.beq j k = false) (hx : evE env x = some v) (hy : evE env y = some (.slice A m c)) (hj : L[j]? = some cj) (hk : L[k]? = some ck) (hrow : toRow e s ck v = some (n, xs)) (hnews : newsOf cj A (m * s) = some ns) (hone : ∀ u ∈ ns, u.oneCell' = true) (hby : (n + m) * bytes ≤ 140737488355328) (h63 : n + m ≤ 140737488355328) (hd : o.dst = some d) (hn : Nat.blt d n0 = true)
    (kk : ∀ v1, IsRow v1 (n + m) → K ((d, v1) :: env) (L.set k (.row e s v1 (n + m) (xs ++ ns)))) : StepOk P o (Spec.app j k e s bytes) n0 env L K := by
  have hjk' : j ≠ k := fun h => by subst h; simp at hjk
  refine ⟨[v, .slice A m c], by simp [ho, Op.operands, Call.operands, evL, hx, hy], by rw [hd]; exact hn, sound_app ho he hjk', fun q => ⟨mkRow (n + m) q, [.row e s (mkRow (n + m) q) (n + m) (xs ++ ns)], ?_, ?_⟩⟩
  · have hse : sel L ([j] ++ [k]) = [cj, ck] := by simp [sel, List.getD, hj, hk]
    simp only [Spec.app, hse, hrow, hnews]
    rw [if_pos ⟨hone, hby, h63⟩]
  · rw [hd]; exact kk _ (mkRow_is _ q (by simp only [maxLen]; omega)).up

/-! ### Slices that are made -/
theorem alloc_makeSlice {P : Program} {dst : Option Tmp} {ty : TypeId} {pos : String} {af : Array Edge} {gd : Option (Nat × Bool)} {t e : TypeId} {x y : Operand} {z u : Value} {bytes j : Nat} {k k' : IntKind} {i : Int} [hi : NatIs i j] (he : ElemIs P t e z 1 bytes) (hz : z.cells = #[u]) (hb : j * bytes ≤ 140737488355328) (h63 : j ≤ 140737488355328) :
    AllocOp P ⟨dst, .makeSlice t x y, ty, pos, af, gd⟩ [.int k i, .int k' i] (.cells (List.replicate j u).toArray e, fun g => .slice (some ⟨g, 0, none⟩) j j) := by
  intro ρ hv w
  simp [Op.operands] at hv
  obtain ⟨inf, hinf, hz3⟩ := Option.map_eq_some_iff.1 he.info
  simp only [Prod.mk.injEq] at hz3
  obtain ⟨hz0, hz1, hz2⟩ := hz3
  have hij := hi.eq
  subst hij
  have hw : IntKind.i64.wrap (j : Int) = j := by
    simp [IntKind.wrap, IntKind.bits, IntKind.signed]; omega
  have hbi : ((bytes : Int) * (j : Int)) ≤ 140737488355328 := by
    have : ((bytes * j : Nat) : Int) ≤ ((140737488355328 : Nat) : Int) := by rw [Nat.mul_comm]; exact_mod_cast hb
    simpa using this
  have hnl : ¬ ((bytes : Int) * (j : Int) > 2 ^ 48) := by
    have : (2 : Int) ^ 48 = 281474976710656 := by decide
    omega
  have hneg : ¬ ((j : Int) < 0) := by omega
  have hzz := run_zero (P := P) he.zero
  have hread : ∀ n, (Array.map (fun (_ : Nat) => u) (Array.range n)) = (List.replicate n u).toArray := by
    intro n
    apply Array.ext'
    simp [List.map_const']
  have hmod : ∀ q : Nat, (#[u] : Array Value)[q % 1]! = u := by intro q; simp [Nat.mod_one]
  have hask : ∀ w, (askRoom (j * bytes)).run P w = .ok () w := by
    intro w
    have : ¬ (j * bytes > roomBytes) := by simp [roomBytes]; omega
    simp [askRoom, this]
  simp only [execOp, hv, Instr.makeSlice, Sem.run_bind, run_underlying he.slice, Result.andThen_ok, asInt, asIntOf, typeInfo, program, Sem.run, hinf, Sem.run_pure, hw, hz2, run_size he.sz, hzz]
  simp only [hnl, hneg, hw, decide_false, Bool.or_false, Bool.false_or, Int.lt_irrefl, gt_iff_lt, or_self, Bool.false_eq_true, if_false]
  simp only [Int.toNat_natCast, hask, Result.andThen_ok, Sem.run_bind, run_size he.sz, Nat.mul_one]
  by_cases h0 : j = 0
  · subst h0
    have hr0 : Array.map (fun (_ : Nat) => (default : Value)) (Array.range 0) = #[] := by apply Array.ext'; simp
    simp [newRow, newObj, Sem.run, hr0]
  · simp [h0, hzz, hz, newRow, newObj, Sem.run, hmod, hread]
end Go.Proofs.YtompmejidaddoaaDoor
