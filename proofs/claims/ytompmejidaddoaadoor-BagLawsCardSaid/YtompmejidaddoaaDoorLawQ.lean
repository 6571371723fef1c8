/- BagLaws: whatever the two calls, the law answers true, and both read as they did: the row, proved. Its one condition is the row's own: that the table math/bits.deBruijn64tab reads as listed. -/
import Derived.Test.YtompmejidaddoaaDoorRowK
import Derived.Test.YtompmejidaddoaaDoorEngR
import Derived.Test.YtompmejidaddoaaDoorOpenW
import Derived.Test.YtompmejidaddoaaDoorLaws
set_option linter.unusedVariables false
set_option linter.unusedSimpArgs false
namespace Go.Proofs.YtompmejidaddoaaDoor
open Go Go.ChangeShapes Go.WideShapes Go.ChangeAt Go.RowKit

theorem flat1 {α β : Type} (f : α → β) (l : List α) : l.flatMap (fun q => [f q]) = l.map f := by
  induction l with
  | nil => rfl
  | cons a l ih => rw [List.flatMap_cons, ih]; rfl
set_option maxRecDepth 100000
section
variable {H : Type} {enc : TypeId × Value → H} {W : World} {fuel : Nat} {v : Value} {x : DataW H × List MemPlace}
theorem open_i64s (h : DataW.trod enc Tryd.prog W 0 (fun _ => true) true fuel 46 [v] = some x) : ∃ l : List Int, Rds (.old W) v l.length 1 (i64s l) ∧ ∀ j, nth l j ≤ 9223372036854775807 := by
  obtain ⟨l, h1, h2⟩ := open_rows (s := 1) (fun q : Int => [.int .i64 q]) (fun q => (Lit.int .i64 q).wf = true) Tryd.underlying46 (by kernel_rfl) (by decide) (fun _ => rfl) (fun n cs y _ hy => by
    obtain ⟨q, e, _, hw⟩ := DataW.trod_int Tryd.underlying3 hy
    exact ⟨q, e, hw⟩) h
  have e : l.flatMap (fun q : Int => [Value.int .i64 q]) = i64s l := flat1 _ l
  rw [e] at h1
  refine ⟨l, h1, fun j => ?_⟩
  unfold nth
  by_cases hj : j < l.length
  · have h3 := h2 _ (List.getElem_mem hj)
    simp only [Lit.wf, Bool.and_eq_true, decide_eq_true_eq] at h3
    simp only [List.getD, List.getElem?_eq_getElem hj, Option.getD_some]
    exact h3.2
  · simp [List.getD, List.getElem?_eq_none (Nat.le_of_not_lt hj)]
theorem open_act {cs : List Value} (h : DataW.trod enc Tryd.prog W 0 (fun _ => true) true fuel 68 cs = some x) : ∃ (k y : Int) (vl : Value) (raw : Bool) (l : List Int), cs = [.int .u8 k, .int .i64 y, vl, .bool raw] ∧ Rds (.old W) vl l.length 1 (i64s l) ∧ ∀ j, nth l j ≤ 9223372036854775807 := by
  obtain ⟨xs, n, _, _, hl, hlen, hf⟩ := DataW.trod_struct Tryd.underlying68 h
  have ca : Tryd.prog.cellsOf 68 = 4 := by kernel_rfl
  have c8 : Tryd.prog.cellsOf 5 = 1 := by kernel_rfl
  have c3 : Tryd.prog.cellsOf 3 = 1 := by kernel_rfl
  have cl : Tryd.prog.cellsOf 46 = 1 := by kernel_rfl
  have cb : Tryd.prog.cellsOf 4 = 1 := by kernel_rfl
  rw [ca] at hl
  match cs, hl, xs, (show xs.length = 4 from hlen) with
  | [u0, u1, u2, u3], _, [x0, x1, x2, x3], _ =>
    have f0 : DataW.trod enc Tryd.prog W 0 (fun _ => true) true n 5 (([u0, u1, u2, u3].drop 0).take (Tryd.prog.cellsOf 5)) = some x0 := hf 0 _ rfl
    have f1 : DataW.trod enc Tryd.prog W 0 (fun _ => true) true n 3 (([u0, u1, u2, u3].drop 1).take (Tryd.prog.cellsOf 3)) = some x1 := hf 1 _ rfl
    have f2 : DataW.trod enc Tryd.prog W 0 (fun _ => true) true n 46 (([u0, u1, u2, u3].drop 2).take (Tryd.prog.cellsOf 46)) = some x2 := hf 2 _ rfl
    have f3 : DataW.trod enc Tryd.prog W 0 (fun _ => true) true n 4 (([u0, u1, u2, u3].drop 3).take (Tryd.prog.cellsOf 4)) = some x3 := hf 3 _ rfl
    rw [c8] at f0
    rw [c3] at f1
    rw [cl] at f2
    rw [cb] at f3
    simp only [List.drop, List.take] at f0 f1 f2 f3
    obtain ⟨k, e0, _⟩ := DataW.trod_int Tryd.underlying5 f0
    obtain ⟨y, e1, _⟩ := DataW.trod_int Tryd.underlying3 f1
    obtain ⟨l, h2, h3⟩ := open_i64s f2
    obtain ⟨b, e3, _⟩ := DataW.trod_bool Tryd.underlying4 f3
    simp only [List.cons.injEq, and_true] at e0 e1 e3
    exact ⟨k, y, u2, b, l, by rw [e0, e1, e3], h2, h3⟩
end
theorem agg_of {cs : Array Value} {l : List Value} (h : cs.toList = l) : cs = l.toArray := by subst h; simp

theorem bagLaws_lifted (os : Os) (started : os.Started) (H : Type) (enc : TypeId × Value → H) :
    ReturnsInHanded {} Tryd.checked os 7 .any (fun w args => (Rows.bagLawsSpec.pre enc Tryd.prog Tryd.f7 [] false w args ∧ laidMetH Tryd.prog laidB w) ∧ sizedMet enc Tryd.prog Tryd.f7 (OpenSpec.ofChange Rows.bagLawsSpec) false w args)
      (Rows.bagLawsSpec.post enc Tryd.prog Tryd.f7 false true false false) := by
  refine returnsInHanded_of_change_and (C := Tryd.checked) (X := fun w _ => laidMetH Tryd.prog laidB w) (fun _ _ _ hh h => h.of_heap hh) ownB started (by kernel_rfl) Tryd.func7
    (ChangeSpec.witness_shaped (enc := enc) (C := Tryd.checked) (os := os) (X := fun w _ => laidMetH Tryd.prog laidB w) false (World.doorLaid Tryd.prog 14 os) #[.agg #[.int .u8 0, .int .i64 0, .slice none 0 0, .bool false], .agg #[.int .u8 0, .int .i64 0, .slice none 0 0, .bool false]] 8 rfl (World.shaped_of_RefB (by kernel_rfl) (by kernel_rfl)) (by kernel_rfl) (by kernel_rfl) (by kernel_rfl) (door_metB os _)) ?_
  intro W base args ds gs before hval0 hW _ _ hL _
  have hval : ∀ (j : Nat) t v, Tryd.f7.params[j]? = some t → args[j]? = some v → Value.okWide Tryd.prog W .any base t v := hval0
  have hW' := hW
  obtain ⟨p, q, hA0, hV, rfl, hfz, hnd⟩ := hW
  have hA : DataW.TrodAll enc Tryd.prog W 0 (fun _ => true) true Tryd.f7.params.toList args.toList ds p := hA0
  obtain ⟨rfl, rfl⟩ := trodVars_none hV
  simp only [List.append_nil] at hW'
  have hlt : ∀ x ∈ p, x.block < W.heap.size := fun x hx => by simpa using hW'.lt x hx
  have hT := hA
  rw [Tryd.params7] at hT hval
  obtain ⟨v0, v1, d0, d1, p0, p1, rfl, rfl, rfl, h0, h1⟩ := trodAll_two hT
  have hTab := tab_of_laid hL
  have k0 := hval 0 68 v0 rfl rfl
  have k1 := hval 1 68 v1 rfl rfl
  simp only [Value.okWide, Tryd.underlying68] at k0 k1
  obtain ⟨cs0, rfl, _⟩ := k0
  obtain ⟨cs1, rfl, _⟩ := k1
  obtain ⟨f0, h0⟩ := h0
  obtain ⟨f1, h1⟩ := h1
  obtain ⟨ka, xa, va, ra, la, e0, hRa, hxa⟩ := open_act h0
  obtain ⟨kb, xb, vb, rb, lb, e1, hRb, hxb⟩ := open_act h1
  obtain rfl := agg_of e0
  obtain rfl := agg_of e1
  refine (Ct.at_old (ct_Laws W hTab ka xa kb xb va vb ra rb la lb hRa hRb hxa hxb)).mono fun e W' ⟨he, hbl⟩ => ?_
  subst he
  exact ⟨_, rfl, ⟨_, [], _, [], _, [], hW', trodAll_mk1 (shut_bool Tryd.underlying4 true), below_trodP laidOutB' hbl (by rw [Tryd.params7]; kernel_rfl) hlt hA, rfl, hbl.frame _, fun h => nomatch h⟩⟩

theorem bagLaws_holds : Rows.BagLawsSaid :=
  OpenClaim.holds_of_wide 7 Tryd.f7 rfl rfl rfl rfl rfl rfl rfl ⟨rfl, rfl, rfl, rfl, rfl⟩ rfl rfl rfl rfl rfl (by kernel_rfl) Tryd.func7 (by kernel_rfl)
    (of_decide_eq_true (by kernel_rfl)) (by unfold Func.isWrapper; first | (rw [if_pos (by decide +kernel)]; kernel_rfl) | (rw [if_neg (by decide +kernel)]; exact ⟨rfl, rfl⟩))
    (fun os started H enc _ => bagLaws_lifted os started H enc)
end Go.Proofs.YtompmejidaddoaaDoor
