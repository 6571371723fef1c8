/- What the rows of package bag's laws have in common: the table of bits.TrailingZeros64 as listed; what is asked behind the call where nothing old has turned. -/
import Derived.Test.YtompmejidaddoaaDoorTurns
set_option linter.unusedVariables false
set_option linter.unusedSimpArgs false
namespace Go.Proofs.YtompmejidaddoaaDoor
open Go.ChangeShapes Go.WideShapes Go.ChangeAt Go.RowKit

theorem ownB : ownKnob Tryd.prog.godebug = none := by kernel_rfl
theorem laidOutB' : laidOutB Tryd.prog = true := by kernel_rfl
abbrev laidB : List (String × DataW Unit) := [("math/bits.deBruijn64tab", Rows.laid_math_bits_deBruijn64tab)]
set_option maxRecDepth 100000 in
theorem door_metB (os : Os) (args : Array Value) : laidMetH Tryd.prog laidB ((World.doorLaid Tryd.prog 14 os).forCall (fun _ _ => 0) ⟨#[], args, []⟩).memory :=
  laidMetH_of_parts3 (fuel := 8) (laidMet_of_run' 8 (by kernel_rfl) (by kernel_rfl)) (by kernel_rfl) (by kernel_rfl)

set_option maxRecDepth 100000 in
theorem tab_of_laid {W : World} (h : laidMetH Tryd.prog laidB W) : Tab W := by
  rw [MakeChecks.laidMetH_plain _ _ _ (by kernel_rfl)] at h
  obtain ⟨ps, ⟨g0, t0, cs0, f0, p0, q0, hg0, ht0, hv0, hd0, _, _⟩, _, _⟩ := h
  have gT : Tryd.prog.globalNamed "math/bits.deBruijn64tab" = some 0 := by kernel_rfl
  obtain rfl := Option.some.inj (gT.symm.trans hg0)
  have tT : (Tryd.prog.globals[0]?).map (·.type) = some 105 := by kernel_rfl
  obtain rfl := Option.some.inj (tT.symm.trans ht0)
  have hcs := Lib.cells_of_tab (k := .u8) (zs := Lib.deBruijn64tab.map fun (n : Nat) => (n : Int)) Tryd.underlying105 Tryd.underlying5 (by kernel_rfl) (by kernel_rfl) hd0
  intro j hj
  rw [World.var?_cell gT hv0 j, ← Array.getElem?_toList, hcs]
  simp [hj, List.getD]

end Go.Proofs.YtompmejidaddoaaDoor
