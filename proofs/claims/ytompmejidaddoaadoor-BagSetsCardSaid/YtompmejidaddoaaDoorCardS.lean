/- The tied card of BagSets: whatever the calls, the law answers true, and they read as they did; the listed table is tied to the program's text. No condition of ours. -/
import Derived.Test.YtompmejidaddoaaDoorSetQ
import Derived.Test.YtompmejidaddoaaDoorCards
import Derived.Test.YtompmejidaddoaaDoorTie
import Derived.SevenTiedAt
namespace Go.Proofs.YtompmejidaddoaaDoor
open Go

set_option maxRecDepth 100000 in
theorem bagSets_card : Rows.BagSetsCardSaid :=
  Claim7.holds_tied_plain_at .later [] [.data] true (true, "930b808944d7b6844be92f9ddce6f497bc586a100f0bb408906c66bb002958bb") false
    bagSets_holds (fun _ h => by cases h) (by kernel_rfl) (fun _ h => by cases h) bagSets_row_tie rfl ⟨rfl, rfl⟩ (by kernel_rfl) rfl
    (fun f fn hf hfn => by
      obtain rfl : f = 8 := Option.some.inj ((show Tryd.prog.funcNamed "outworker/outworkerlaw09.BagSets" = some 8 by kernel_rfl).symm.trans hf) |>.symm
      obtain rfl : fn = Tryd.f8 := (Option.some.inj (Tryd.func8.symm.trans hfn)).symm
      exact ⟨by kernel_rfl, fun j t ht => by
        rw [Tryd.params8] at ht
        have hm : t ∈ [76] := by simpa using Array.mem_of_getElem? ht
        have hall : ([76].all fun u => !Tryd.prog.wantsStandIn u) = true := by kernel_rfl
        exact (show Tryd.prog.wantsStandIn t = false by simpa using List.all_eq_true.1 hall t hm)⟩)
    (by kernel_rfl)
end Go.Proofs.YtompmejidaddoaaDoor
