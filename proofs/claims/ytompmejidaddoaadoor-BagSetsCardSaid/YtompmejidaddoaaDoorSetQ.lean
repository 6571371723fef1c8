/- BagSets: whatever the calls, the law answers true, and they read as they did: the row, proved. Its one condition is the row's own: that the table math/bits.deBruijn64tab reads as listed. -/
import Derived.Test.YtompmejidaddoaaDoorRowK
import Derived.Test.YtompmejidaddoaaDoorEngR
import Derived.Test.YtompmejidaddoaaDoorOpenW
import Derived.Test.YtompmejidaddoaaDoorSets
set_option linter.unusedVariables false
set_option linter.unusedSimpArgs false
namespace Go.Proofs.YtompmejidaddoaaDoor
open Go Go.ChangeShapes Go.WideShapes Go.ChangeAt Go.RowKit

theorem flat2 {α β : Type} (f : α → β) (l : List α) : l.flatMap (fun q => [f q]) = l.map f := by
  induction l with
  | nil => rfl
  | cons a l ih => rw [List.flatMap_cons, ih]; rfl
set_option maxRecDepth 100000
section
variable {H : Type} {enc : TypeId × Value → H} {W : World} {fuel : Nat} {v : Value} {x : DataW H × List MemPlace}
theorem open_i64t (h : DataW.trod enc Tryd.prog W 0 (fun _ => true) true fuel 46 [v] = some x) : ∃ l : List Int, Rds (.old W) v l.length 1 (i64s l) ∧ ∀ j, nth l j ≤ 9223372036854775807 := by
  obtain ⟨l, h1, h2⟩ := open_rows (s := 1) (fun q : Int => [.int .i64 q]) (fun q => (Lit.int .i64 q).wf = true) Tryd.underlying46 (by kernel_rfl) (by decide) (fun _ => rfl) (fun n cs y _ hy => by
    obtain ⟨q, e, _, hw⟩ := DataW.trod_int Tryd.underlying3 hy
    exact ⟨q, e, hw⟩) h
  have e : l.flatMap (fun q : Int => [Value.int .i64 q]) = i64s l := flat2 _ l
  rw [e] at h1
  refine ⟨l, h1, fun j => ?_⟩
  unfold nth
  by_cases hj : j < l.length
  · have h3 := h2 _ (List.getElem_mem hj)
    simp only [Lit.wf, Bool.and_eq_true, decide_eq_true_eq] at h3
    simp only [List.getD, List.getElem?_eq_getElem hj, Option.getD_some]
    exact h3.2
  · simp [List.getD, List.getElem?_eq_none (Nat.le_of_not_lt hj)]
theorem open_act2 {cs : List Value} (h : DataW.trod enc Tryd.prog W 0 (fun _ => true) true fuel 68 cs = some x) : ∃ a : ActD, cs = acells a ∧ ActOk (.old W) a := by
  obtain ⟨xs, n, _, _, hl, hlen, hf⟩ := DataW.trod_struct Tryd.underlying68 h
  have ca : Tryd.prog.cellsOf 68 = 4 := by kernel_rfl
  have c8 : Tryd.prog.cellsOf 5 = 1 := by kernel_rfl
  have c3 : Tryd.prog.cellsOf 3 = 1 := by kernel_rfl
  have cl : Tryd.prog.cellsOf 46 = 1 := by kernel_rfl
  have cb : Tryd.prog.cellsOf 4 = 1 := by kernel_rfl
  rw [ca] at hl
  match cs, hl, xs, (show xs.length = 4 from hlen) with
  | [u0, u1, u2, u3], _, [x0, x1, x2, x3], _ =>
    have f0 : DataW.trod enc Tryd.prog W 0 (fun _ => true) true n 5 (([u0, u1, u2, u3].drop 0).take (Tryd.prog.cellsOf 5)) = some x0 := hf 0 _ rfl
    have f1 : DataW.trod enc Tryd.prog W 0 (fun _ => true) true n 3 (([u0, u1, u2, u3].drop 1).take (Tryd.prog.cellsOf 3)) = some x1 := hf 1 _ rfl
    have f2 : DataW.trod enc Tryd.prog W 0 (fun _ => true) true n 46 (([u0, u1, u2, u3].drop 2).take (Tryd.prog.cellsOf 46)) = some x2 := hf 2 _ rfl
    have f3 : DataW.trod enc Tryd.prog W 0 (fun _ => true) true n 4 (([u0, u1, u2, u3].drop 3).take (Tryd.prog.cellsOf 4)) = some x3 := hf 3 _ rfl
    rw [c8] at f0
    rw [c3] at f1
    rw [cl] at f2
    rw [cb] at f3
    simp only [List.drop, List.take] at f0 f1 f2 f3
    obtain ⟨k, e0, _, w0⟩ := DataW.trod_int Tryd.underlying5 f0
    obtain ⟨y, e1, _, w1⟩ := DataW.trod_int Tryd.underlying3 f1
    obtain ⟨l, h2, h3⟩ := open_i64t f2
    obtain ⟨b, e3, _⟩ := DataW.trod_bool Tryd.underlying4 f3
    simp only [List.cons.injEq, and_true] at e0 e1 e3
    simp only [Lit.wf, Bool.and_eq_true, decide_eq_true_eq] at w0 w1
    exact ⟨⟨k, y, u2, b, l⟩, by rw [e0, e1, e3]; rfl, ⟨w0.1, w0.2, w1.2, h2, h3⟩⟩
theorem open_acts (h : DataW.trod enc Tryd.prog W 0 (fun _ => true) true fuel 76 [v] = some x) : ∃ as' : List ActD, Rds (.old W) v as'.length 4 (as'.flatMap acells) ∧ ∀ a ∈ as', ActOk (.old W) a :=
  open_rows (s := 4) acells (ActOk (.old W)) Tryd.underlying76 (by kernel_rfl) (by decide) (fun _ => rfl) (fun n cs y _ hy => open_act2 hy) h
end
theorem bagSets_lifted (os : Os) (started : os.Started) (H : Type) (enc : TypeId × Value → H) :
    ReturnsInHanded {} Tryd.checked os 8 .any (fun w args => (Rows.bagSetsSpec.pre enc Tryd.prog Tryd.f8 [] false w args ∧ laidMetH Tryd.prog laidB w) ∧ sizedMet enc Tryd.prog Tryd.f8 (OpenSpec.ofChange Rows.bagSetsSpec) false w args)
      (Rows.bagSetsSpec.post enc Tryd.prog Tryd.f8 false true false false) := by
  refine returnsInHanded_of_change_and (C := Tryd.checked) (X := fun w _ => laidMetH Tryd.prog laidB w) (fun _ _ _ hh h => h.of_heap hh) ownB started (by kernel_rfl) Tryd.func8
    (ChangeSpec.witness_shaped (enc := enc) (C := Tryd.checked) (os := os) (X := fun w _ => laidMetH Tryd.prog laidB w) false (World.doorLaid Tryd.prog 14 os) #[.slice none 0 0] 8 rfl (World.shaped_of_RefB (by kernel_rfl) (by kernel_rfl)) (by kernel_rfl) (by kernel_rfl) (by kernel_rfl) (door_metB os _)) ?_
  intro W base args ds gs before hval0 hW _ _ hL _
  have hval : ∀ (j : Nat) t v, Tryd.f8.params[j]? = some t → args[j]? = some v → Value.okWide Tryd.prog W .any base t v := hval0
  have hW' := hW
  obtain ⟨p, q, hA0, hV, rfl, hfz, hnd⟩ := hW
  have hA : DataW.TrodAll enc Tryd.prog W 0 (fun _ => true) true Tryd.f8.params.toList args.toList ds p := hA0
  obtain ⟨rfl, rfl⟩ := trodVars_none hV
  simp only [List.append_nil] at hW'
  have hlt : ∀ x ∈ p, x.block < W.heap.size := fun x hx => by simpa using hW'.lt x hx
  have hT := hA
  rw [Tryd.params8] at hT hval
  obtain ⟨v0, d0, rfl, rfl, h0⟩ := trodAll_one hT
  have hTab := tab_of_laid hL
  obtain ⟨a0, n0, c0, rfl⟩ := okWide_slice Tryd.underlying76 (hval 0 76 v0 rfl rfl)
  obtain ⟨f0, h0⟩ := h0
  obtain ⟨as', hR, hOk⟩ := open_acts h0
  refine (Ct.at_old (ct_Sets W hTab _ as' hR hOk)).mono fun e W' ⟨he, hbl⟩ => ?_
  subst he
  exact ⟨_, rfl, ⟨_, [], _, [], _, [], hW', trodAll_mk1 (shut_bool Tryd.underlying4 true), below_trodP laidOutB' hbl (by rw [Tryd.params8]; kernel_rfl) hlt hA, rfl, hbl.frame _, fun h => nomatch h⟩⟩

theorem bagSets_holds : Rows.BagSetsSaid :=
  OpenClaim.holds_of_wide 8 Tryd.f8 rfl rfl rfl rfl rfl rfl rfl ⟨rfl, rfl, rfl, rfl, rfl⟩ rfl rfl rfl rfl rfl (by kernel_rfl) Tryd.func8 (by kernel_rfl)
    (of_decide_eq_true (by kernel_rfl)) (by unfold Func.isWrapper; first | (rw [if_pos (by decide +kernel)]; kernel_rfl) | (rw [if_neg (by decide +kernel)]; exact ⟨rfl, rfl⟩))
    (fun os started H enc _ => bagSets_lifted os started H enc)
end Go.Proofs.YtompmejidaddoaaDoor
