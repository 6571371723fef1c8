/- A law on regions that draw their order: a load may be taken first where nobody writes its cell before an operation that waits for the load has come up. No program. -/
import Derived.OrdersHeld
import Derived.RegionTactic
import Derived.StillTail
set_option linter.unusedVariables false
set_option linter.unusedSimpArgs false
namespace Go.Proofs.YtompmejidaddoaaDoor
open Go

section
variable {P : Program} {ops : Array Oper} {Q : Exit → Act → World → Prop} {md : Region.Mode} {S : Array Bool → World → Prop} {T : World → Prop}

/-- Whatever order is picked from here on, and S holds behind each operation; S may look at which operations have come up. -/
def wpAnyK (P : Program) (md : Region.Mode) (ops : Array Oper) (Q : Exit → Act → World → Prop) (S : Array Bool → World → Prop) : Nat → Array Bool → Act → World → Prop
  | 0, listed, a, w => Region.ready md ops listed = [] ∧ Q .normal a w
  | fuel + 1, listed, a, w =>
    (Region.ready md ops listed = [] → Q .normal a w) ∧
    ∀ i ∈ Region.ready md ops listed, wpOp P ops Q i (fun a' w' => S (listed.setIfInBounds i true) w' ∧ wpAnyK P md ops Q S fuel (listed.setIfInBounds i true) a' w') a w

theorem wpAny_of_K : ∀ (fuel : Nat) (listed : Array Bool) (a : Act) (w : World), wpAnyK P md ops Q S fuel listed a w → wpAny P md ops Q fuel listed a w
  | 0, _, _, _, h => h
  | fuel + 1, _, _, _, h => ⟨h.1, fun i hi => wpOp_mono (fun a' w' h' => wpAny_of_K fuel _ a' w' h'.2) (h.2 i hi)⟩

/-- Where S asks nothing any more. -/
theorem wpAnyK_of_any : ∀ (fuel : Nat) (listed : Array Bool) (a : Act) (w : World), (∀ l' : Array Bool, (∀ j, listed.getD j false = true → l'.getD j false = true) → ∀ w, S l' w) → wpAny P md ops Q fuel listed a w → wpAnyK P md ops Q S fuel listed a w
  | 0, _, _, _, _, h => h
  | fuel + 1, _, _, _, hv, h => ⟨h.1, fun i hi => wpOp_mono (fun a' w' h' => ⟨hv _ (fun j hj => getD_set_true hj) w', wpAnyK_of_any fuel _ a' w' (fun l' hl => hv l' (fun j hj => hl j (getD_set_true hj))) h'⟩) (h.2 i hi)⟩

theorem waits_not_ready {k i : Nat} {listed : Array Bool} (h : Region.waitsFor md ops k i = true) (hi : i ∈ Region.ready md ops listed) : k ∉ Region.ready md ops listed := by
  intro hk
  obtain ⟨ok, hok, e, he, hb, hon⟩ := Region.waitsFor_spec h
  obtain ⟨_, o', ho', hall⟩ := mem_ready.1 hk
  obtain rfl : ok = o' := Option.some.inj (hok.symm.trans ho')
  have h1 := hall e he hb
  rw [hon, getD_both (mem_ready.1 hi).1] at h1
  cases h1

theorem wpAnyK_first {i k : Nat} {oi : Oper} {v : Value} (hi : ops[i]? = some oi) (hsel : ∀ (j : Nat) (o : Oper) cs b, ops[j]? = some o → o.op ≠ .select cs b)
    (hQ : ∀ c a w, Q (.panic c) (a.put oi.dst v) w → Q (.panic c) a w) (hki : Region.waitsFor md ops k i = true)
    (hSi : ∀ l w, S (l.setIfInBounds i true) w ↔ S l w) (hST : ∀ l w, l.getD k true = false → S l w → T w) :
    ∀ (fuel : Nat) (listed : Array Bool) (a : Act) (w : World),
      (∀ j oj, ops[j]? = some oj → j ≠ i → listed.getD j true = false → (∀ e ∈ oj.after, Region.binds md e = true → e.on ≠ i) → oi.apart ops oj = true) →
      i ∈ Region.ready md ops listed → listed.getD k true = false → YieldsIf P ops T oi v a → S listed w →
      wpAnyK P md ops Q S fuel (listed.setIfInBounds i true) (a.put oi.dst v) w → wpAnyK P md ops Q S (fuel + 1) listed a w := by
  intro fuel
  induction fuel with
  | zero =>
    intro listed a w _ hr hkl hy hS H
    refine ⟨fun h => (by rw [h] at hr; cases hr), fun j hj => ?_⟩
    by_cases hji : j = i
    · subst hji
      exact hy.wpOp hi (hST _ _ hkl hS) ⟨(hSi _ _).2 hS, H⟩
    · have := ready_mono hj hji
      rw [H.1] at this
      cases this
  | succ fuel ih =>
    intro listed a w hfree hr hkl hy hS H
    refine ⟨fun h => (by rw [h] at hr; cases hr), fun j hj => ?_⟩
    by_cases hji : j = i
    · subst hji
      exact hy.wpOp hi (hST _ _ hkl hS) ⟨(hSi _ _).2 hS, H⟩
    · have h1 := H.2 j (ready_mono hj hji)
      obtain ⟨hjun, oj, hoj, hall⟩ := mem_ready.1 hj
      have hjk : j ≠ k := fun e => waits_not_ready hki hr (e ▸ hj)
      have hnot : ∀ e ∈ oj.after, Region.binds md e = true → e.on ≠ i := fun e he hb heq => by
        have h1 := hall e he hb
        rw [heq, getD_both (mem_ready.1 hr).1] at h1
        cases h1
      have h2 := wpOp_putIf hoj (hfree j oj hoj hji hjun hnot) (fun cs b => hsel i oi cs b hi) (fun cs b => hsel j oj cs b hoj) hQ hy h1
      have hfree' : ∀ k ok, ops[k]? = some ok → k ≠ i → (listed.setIfInBounds j true).getD k true = false →
          (∀ e ∈ ok.after, Region.binds md e = true → e.on ≠ i) → oi.apart ops ok = true := fun k ok hk hki hun hno => by
        refine hfree k ok hk hki ?_ hno
        by_cases hjk : j = k
        · subst hjk; exact hjun
        · rw [getD_set_ne true hjk] at hun; exact hun
      have hcomm : (listed.setIfInBounds i true).setIfInBounds j true = (listed.setIfInBounds j true).setIfInBounds i true := Array.setIfInBounds_comm _ _ (Ne.symm hji)
      refine wpOp_mono (fun a' w' h3 => ?_) h2
      obtain ⟨hy', hS', hK'⟩ := h3
      rw [hcomm] at hS' hK'
      have hS2 := (hSi _ _).1 hS'
      exact ⟨hS2, ih (listed.setIfInBounds j true) a' w' hfree' (ready_mono hr (Ne.symm hji)) (by rw [getD_set_ne true hjk]; exact hkl) hy' hS2 hK'⟩

theorem wpAnyK_take {i k : Nat} {oi : Oper} {v : Value} {fuel : Nat} {listed : Array Bool} {a : Act} {w : World} (T : World → Prop) (hi : ops[i]? = some oi)
    (hs : Region.noSelect ops = true) (hf : Region.free md ops listed i = true) (hr : (Region.ready md ops listed).contains i = true)
    (hQ : ∀ c a w, Q (.panic c) (a.put oi.dst v) w → Q (.panic c) a w) (hki : Region.waitsFor md ops k i = true) (hkl : listed.getD k true = false)
    (hSi : ∀ l w, S (l.setIfInBounds i true) w ↔ S l w) (hST : ∀ l w, l.getD k true = false → S l w → T w) (hy : YieldsIf P ops T oi v a) (hS : S listed w)
    (h : wpAnyK P md ops Q S fuel (listed.setIfInBounds i true) (a.put oi.dst v) w) : wpAnyK P md ops Q S (fuel + 1) listed a w :=
  wpAnyK_first hi (Region.noSelect_spec hs) hQ hki hSi hST fuel listed a w (Region.free_spec hi hf) (by simpa using hr) hkl hy hS h

def AllReadyK (P : Program) (md : Region.Mode) (ops : Array Oper) (Q : Exit → Act → World → Prop) (S : Array Bool → World → Prop) (fuel : Nat) (listed : Array Bool) (a : Act) (w : World) (rs : List Nat) : Prop :=
  ∀ i ∈ rs, wpOp P ops Q i (fun a' w' => S (listed.setIfInBounds i true) w' ∧ wpAnyK P md ops Q S fuel (listed.setIfInBounds i true) a' w') a w
theorem AllReadyK.nil {fuel : Nat} {listed : Array Bool} {a : Act} {w : World} : AllReadyK P md ops Q S fuel listed a w [] := fun _ h => by cases h
theorem AllReadyK.cons {fuel : Nat} {listed : Array Bool} {a : Act} {w : World} {i : Nat} {o : Oper} {rs : List Nat} (ho : ops[i]? = some o)
    (h : ∀ K' : Act → World → Prop, (∀ a w, S (listed.setIfInBounds i true) w → wpAnyK P md ops Q S fuel (listed.setIfInBounds i true) a w → K' a w) → if Region.wanted o (yielded ops a.tmps) = true then Oper.wp P o a w K' Q else K' (a.put o.dst undef) w)
    (hs : AllReadyK P md ops Q S fuel listed a w rs) : AllReadyK P md ops Q S fuel listed a w (i :: rs) := fun j hj => by
  rcases List.mem_cons.1 hj with rfl | hj
  · exact wpOp_step ho fun K' hK => h K' (fun a w h1 h2 => hK a w ⟨h1, h2⟩)
  · exact hs j hj
theorem wpAnyK_ready {rs : List Nat} {fuel : Nat} {listed : Array Bool} {a : Act} {w : World} (hr : Region.ready md ops listed = rs) (hne : rs ≠ [])
    (h : AllReadyK P md ops Q S fuel listed a w rs) : wpAnyK P md ops Q S (fuel + 1) listed a w :=
  ⟨fun h0 => absurd (hr ▸ h0) hne, hr ▸ h⟩

/-- Till operation i has come up c0 holds; till operation j has, c1. -/
abbrev Two (i j : Nat) (c0 c1 : World → Prop) : Array Bool → World → Prop := fun l w => (l.getD i true = false → c0 w) ∧ (l.getD j true = false → c1 w)
theorem Two.put {i j : Nat} {c0 c1 : World → Prop} {k : Nat} (hi : k ≠ i) (hj : k ≠ j) (l : Array Bool) (w : World) : Two i j c0 c1 (l.setIfInBounds k true) w ↔ Two i j c0 c1 l w := by
  unfold Two
  rw [getD_set_ne true hi, getD_set_ne true hj]
theorem Two.past {i j : Nat} {c0 c1 : World → Prop} {l : Array Bool} (hi : l.getD i false = true) (hj : l.getD j false = true) (l' : Array Bool) (h : ∀ j, l.getD j false = true → l'.getD j false = true) (w : World) : Two i j c0 c1 l' w :=
  ⟨fun h0 => absurd (h i hi) (by rw [getD_both h0]; decide), fun h0 => absurd (h j hj) (by rw [getD_both h0]; decide)⟩
end
end Go.Proofs.YtompmejidaddoaaDoor
