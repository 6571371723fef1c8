/- What the law BagSets needs of flags: turned one behind the other; compared; counted. Plain. -/
import Derived.Test.YtompmejidaddoaaDoorBagF
set_option linter.unusedVariables false
set_option linter.unusedSimpArgs false
namespace Go.Proofs.YtompmejidaddoaaDoor
open Go Go.RowKit

theorem arr_ext {M N : Nat → Bool} (h : ∀ i, i < 4096 → M i = N i) : arrB M = arrB N := by
  unfold arrB
  exact List.map_congr_left fun i hi => by rw [h i (List.mem_range.1 hi)]
theorem cell_arrD {g t : Nat} {M : Nat → Bool} {j : Nat} (h : j < 4096) : (Chunk.blk g (.cells (arrB M).toArray t (0, 0))).cell ⟨g, 0 + j * 1, none⟩ = some (.bool (decide (M j = true))) := by
  rw [cell_arr h]; simp
/-- The first k turned by what stands in another. -/
def toF (f : Bool → Bool → Bool) (M W : Nat → Bool) (k : Nat) : Nat → Bool := fun i => if i < k then f (M i) (W i) else M i
theorem toF_zero (f : Bool → Bool → Bool) (M W : Nat → Bool) : toF f M W 0 = M := by funext i; simp [toF]
theorem toF_at (f : Bool → Bool → Bool) (M W : Nat → Bool) (k : Nat) : toF f M W k k = M k := by simp [toF]
theorem toF_succ (f : Bool → Bool → Bool) (M W : Nat → Bool) (k : Nat) {b : Bool} (hb : b = f (M k) (W k)) : upM (toF f M W k) k b = toF f M W (k + 1) := by
  funext i
  simp only [upM, toF]
  by_cases h : i = k
  · subst h; rw [if_pos rfl, if_pos (by omega), hb]
  · rw [if_neg h]
    by_cases h2 : i < k
    · rw [if_pos h2, if_pos (by omega)]
    · rw [if_neg h2, if_neg (by omega)]
theorem toF_arr (f : Bool → Bool → Bool) (M W : Nat → Bool) : arrB (toF f M W 4096) = arrB (fun i => f (M i) (W i)) := arr_ext fun i hi => by simp [toF, hi]
/-- Is one of the first k in the other and not here? -/
def moreB (M W : Nat → Bool) (k : Nat) : Bool := (List.range k).any fun i => W i && !M i
theorem moreB_zero (M W : Nat → Bool) : moreB M W 0 = false := rfl
theorem moreB_succ (M W : Nat → Bool) (k : Nat) : moreB M W (k + 1) = (moreB M W k || (W k && !M k)) := by
  unfold moreB; rw [List.range_succ, List.any_append]; simp
theorem count_more (M W : Nat → Bool) : ∀ l : List Nat, (l.filter M).length ≤ (l.filter (orM M W)).length ∧ ((l.filter M).length < (l.filter (orM M W)).length ↔ (l.any fun i => W i && !M i) = true)
  | [] => by simp
  | a :: l => by
    obtain ⟨h1, h2⟩ := count_more M W l
    have e : orM M W a = (M a || W a) := rfl
    cases hM : M a <;> cases hW : W a <;> simp only [List.filter_cons, e, hM, hW, List.any_cons, Bool.or_false, Bool.or_true, Bool.false_or, Bool.true_or, Bool.not_true, Bool.not_false, Bool.and_true, Bool.and_false, Bool.true_and, Bool.false_and, if_true, Bool.false_eq_true, if_false, List.length_cons]
    · exact ⟨h1, h2⟩
    · exact ⟨by omega, ⟨fun _ => by simp, fun _ => by omega⟩⟩
    · exact ⟨by omega, by rw [← h2]; omega⟩
    · exact ⟨by omega, by rw [← h2]; omega⟩
theorem more_len (M W : Nat → Bool) : decide ((elems M).length < (elems (orM M W)).length) = decide (moreB M W 4096 = true) := by
  have := (count_more M W (List.range 4096)).2
  exact decide_eq_decide.2 this
/-- Two sets are the same as their flags are. -/
theorem same_flags {M N : Nat → Bool} (hM : InSet M) (hN : InSet N) : sameM M N = sameF M N := by
  rw [Bool.eq_iff_iff, sameM_iff hM hN, sameF, List.all_eq_true]
  constructor
  · rintro rfl i _; simp
  · intro h
    funext i
    by_cases hi : i < 4096
    · simpa using h i (List.mem_range.2 hi)
    · cases hm : M i with
      | true => exact absurd (hM i hm) hi
      | false => cases hn : N i with
        | true => exact absurd (hN i hn) hi
        | false => rfl
theorem setV_in {w : World} {L : List Chunk} {u : Value} {M : Nat → Bool} (j : Nat) (hs : SatC w L) (hk : L[j]? = some (.hp (SetV u M))) : InSet M := by
  obtain ⟨ws, ⟨hw, hm⟩, _⟩ := SetV_iff.1 (show Sat w (SetV u M :: _) from hs.takeC j hk)
  subst hm
  exact InSet.of_mem hw
end Go.Proofs.YtompmejidaddoaaDoor
