/- The tied card of BagLaws: whatever the two calls, the law answers true, and both read as they did; the listed table is tied to the program's text. No condition of ours. -/
import Derived.Test.YtompmejidaddoaaDoorLawQ
import Derived.Test.YtompmejidaddoaaDoorCards
import Derived.Test.YtompmejidaddoaaDoorTie
import Derived.SevenTiedAt
namespace Go.Proofs.YtompmejidaddoaaDoor
open Go

set_option maxRecDepth 100000 in
theorem bagLaws_card : Rows.BagLawsCardSaid :=
  Claim7.holds_tied_plain_at .later [] [.data] true (true, "930b808944d7b6844be92f9ddce6f497bc586a100f0bb408906c66bb002958bb") false
    bagLaws_holds (fun _ h => by cases h) (by kernel_rfl) (fun _ h => by cases h) bagLaws_row_tie rfl ⟨rfl, rfl⟩ (by kernel_rfl) rfl
    (fun f fn hf hfn => by
      obtain rfl : f = 7 := Option.some.inj ((show Tryd.prog.funcNamed "outworker/outworkerlaw09.BagLaws" = some 7 by kernel_rfl).symm.trans hf) |>.symm
      obtain rfl : fn = Tryd.f7 := (Option.some.inj (Tryd.func7.symm.trans hfn)).symm
      exact ⟨by kernel_rfl, fun j t ht => by
        rw [Tryd.params7] at ht
        have hm : t ∈ [68, 68] := by simpa using Array.mem_of_getElem? ht
        have hall : ([68, 68].all fun u => !Tryd.prog.wantsStandIn u) = true := by kernel_rfl
        exact (show Tryd.prog.wantsStandIn t = false by simpa using List.all_eq_true.1 hall t hm)⟩)
    (by kernel_rfl)
end Go.Proofs.YtompmejidaddoaaDoor
