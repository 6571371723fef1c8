/- New sets, queues and tables in memory, and the first calls on them: for the fixed fact that each law of package bag opens with. -/
import Derived.Test.YtompmejidaddoaaDoorTabQ
import Derived.Test.YtompmejidaddoaaDoorTabQ
import Derived.Test.YtompmejidaddoaaDoorSameW
import Derived.Test.YtompmejidaddoaaDoorSetO
set_option linter.unusedVariables false
set_option linter.unusedSimpArgs false
namespace Go.Proofs.YtompmejidaddoaaDoor
open Go.RowKit Go.ChangeMaps

theorem QueueH_new {w : World} {g : Nat} {L : List HP} (h : Sat w (Blk g (.cells #[.slice none 0 0, .map none] 53 (0, 0)) :: L)) : Sat w (QueueH g [] :: L) := by
  refine QueueH_iff.2 ⟨.slice none 0 0, none, [], ⟨fun x => by simp [aget], by simp, fun _ => rfl⟩, ?_⟩
  have h1 : Sat w (HP.sep [] :: _) := Sat_sep.2 h
  have h2 := (h1.nil_rowO 9 1)
  exact h2.front 2 rfl

theorem TabR_new {w : World} {g : Nat} {L : List HP} (h : Sat w (Blk g (.cells #[.slice none 0 0, .slice none 0 0] 61 (0, 0)) :: L)) : Sat w (TabR g (.slice none 0 0) (.slice none 0 0) [] [] L) := by
  have h2 := ((h.nil_row 3 1).nil_row 9 1)
  exact h2.front 2 rfl

theorem qput_first (g : Nat) (x : ByteArray) (w : World) (L : List HP) (hx : SV x) (hs : Sat w (QueueH g [] :: L)) :
    Calls Tryd.prog 18 #[.pointer (some ⟨g, 0, none⟩), .string x] w fun e w' => e = .returned (.bool true) ∧ Sat w' (QueueH g [x] :: L) ∧ Ext w w' :=
  (qput_any g [] x w L hx (by decide) hs).mono fun e w' ⟨h1, h2, h3⟩ => ⟨by simpa [inRow] using h1, by simpa [inRow] using h2, h3⟩
theorem qput_again (g : Nat) (x : ByteArray) (w : World) (L : List HP) (hx : SV x) (hs : Sat w (QueueH g [x] :: L)) :
    Calls Tryd.prog 18 #[.pointer (some ⟨g, 0, none⟩), .string x] w fun e w' => e = .returned (.bool false) ∧ Sat w' (QueueH g [x] :: L) ∧ Ext w w' :=
  (qput_any g [x] x w L hx (by simp) hs).mono fun e w' ⟨h1, h2, h3⟩ => ⟨by simpa [inRow] using h1, by simpa [inRow] using h2, h3⟩
theorem sv_x : SV { data := #[120] } := by unfold SV; decide

theorem all536 : allI (ofM [5, 3, 5]) = [3, 5] := by kernel_rfl
theorem el2 : (elems (ofM [5, 3, 5])).length = 2 := by rw [← allI_length, all536]; rfl
theorem bsI_one (k : ByteArray) : bsI [k] k = 0 := by
  have : slt k k = false := by
    have h : ∀ l : List UInt8, Op.bytesLess l l = false := fun l => by induction l <;> simp_all [Op.bytesLess]
    exact h _
  simp [bsI, Lib.bsGo, sth, this]
theorem bsF_one (k : ByteArray) : bsF [k] k = true := by simp [bsF, bsI_one, sth]

end Go.Proofs.YtompmejidaddoaaDoor
