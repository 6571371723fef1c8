/- The lesser and the greater of two numbers; arrays of flags compared. No program. -/
import Derived.Test.YtompmejidaddoaaDoorEngQ
import Derived.ChangeKeysEq
import Derived.Laws.StructEq
set_option linter.unusedVariables false
set_option linter.unusedSimpArgs false
namespace Go.Proofs.YtompmejidaddoaaDoor
open Go Go.RowKit
section
variable {P : Program} {dst : Option Tmp} {ty : TypeId} {pos : String} {af : Array Edge} {gd : Option (Nat × Bool)}
/-- Are the flags the same? -/
def sameF (M N : Nat → Bool) : Bool := (List.range 4096).all fun i => M i == N i
theorem run_eqItemsB {e : TypeId} {d : Nat} {M N : Nat → Bool} {w : World} (he : P.underlying e = some .bool) : ∀ is : List Nat, (∀ i ∈ is, i < 4096) → (Op.eqItems (d + 1) e 1 (arrB M).toArray (arrB N).toArray is).run P w = .ok (is.all fun i => M i == N i) w
  | [], _ => by simp [Op.eqItems]
  | i :: is, h => by
    have hi := h i List.mem_cons_self
    have p1 : (part e (arrB M).toArray (i * 1)).run P w = .ok (.bool (M i)) w := run_part_one he rfl (by rw [Nat.mul_one]; simpa using arr_get M i hi) w
    have p2 : (part e (arrB N).toArray (i * 1)).run P w = .ok (.bool (N i)) w := run_part_one he rfl (by rw [Nat.mul_one]; simpa using arr_get N i hi) w
    have p3 : (Op.equalIn (d + 1) e (.bool (M i)) (.bool (N i))).run P w = .ok (M i == N i) w := by simp [Op.equalIn, run_underlying he]
    have ih := run_eqItemsB (d := d) (M := M) (N := N) (w := w) he is fun j hj => h j (List.mem_cons_of_mem _ hj)
    simp only [Op.eqItems, Sem.run_bind, p1, p2, p3, Result.andThen_ok, List.all_cons]
    cases hb : (M i == N i)
    · simp
    · simp [ih]
theorem pure_eqA {t e u : TypeId} {x y : Operand} {M N : Nat → Bool} {i : TypeInfo} (hu : P.underlying t = some (.array 4096 e)) (hi : P.info? e = some i) (hc : P.cellsOf e = 1) (he : P.underlying e = some .bool) (hg : P.eqGuardType P.depth t = false) : PureOp P ⟨dst, .binOp .eql t x y u, ty, pos, af, gd⟩ [.agg (arrB M).toArray, .agg (arrB N).toArray] (.bool (decide (sameF M N = true))) := by
  intro ρ hv w
  simp [Op.operands] at hv
  have h1 := run_eqItemsB (P := P) (d := 9998) (M := M) (N := N) (w := w) he (List.range 4096) (fun i hi => List.mem_range.1 hi)
  have h2 := run_equalIn_array (P := P) (w := w) 9999 (arrB M).toArray (arrB N).toArray hu hi
  rw [hc] at h2
  simp only [execOp, hv.1, hv.2, Sem.run_bind, run_eqGuard_agg w _ _ _ _ _ _ hg, Result.andThen_ok, run_eql_struct, h2, h1, Sem.run_pure, Bool.decide_eq_true]
  rfl
end
theorem cell_arr {g t : Nat} {M : Nat → Bool} {j : Nat} (h : j < 4096) : (Chunk.blk g (.cells (arrB M).toArray t (0, 0))).cell ⟨g, 0 + j * 1, none⟩ = some (.bool (M j)) := by
  have := arr_get M j h
  simp only [Chunk.cell, and_self, if_true]
  rw [show 0 + j * 1 = j by omega]
  simpa using this
end Go.Proofs.YtompmejidaddoaaDoor
