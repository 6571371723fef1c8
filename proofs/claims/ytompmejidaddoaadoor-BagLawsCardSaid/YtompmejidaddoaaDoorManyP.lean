/- The numbers below k times d that d divides: what BagMany puts into its set. No program's walk. -/
import Derived.Test.YtompmejidaddoaaDoorSetO
set_option linter.unusedVariables false
set_option linter.unusedSimpArgs false
namespace Go.Proofs.YtompmejidaddoaaDoor
open Go.RowKit

/-- The multiples of d below k times d. -/
def mulM (d k : Nat) : Nat → Bool := fun y => decide (y % d = 0 ∧ y < k * d)
theorem mulM_zero (d : Nat) : mulM d 0 = noneM := by funext y; simp [mulM, noneM]
theorem mul_next {d k y : Nat} (hd : 0 < d) : (y % d = 0 ∧ y < (k + 1) * d) ↔ (y % d = 0 ∧ y < k * d) ∨ y = k * d := by
  constructor
  · rintro ⟨h0, h1⟩
    by_cases h : y < k * d
    · exact .inl ⟨h0, h⟩
    · right
      have e : y = d * (y / d) := by have := Nat.div_add_mod y d; omega
      have h2 : y / d < k + 1 := Nat.div_lt_of_lt_mul (by rw [Nat.mul_comm]; exact h1)
      have h3 : k ≤ y / d := (Nat.le_div_iff_mul_le hd).2 (by omega)
      have h4 : y / d = k := by omega
      rw [e, h4, Nat.mul_comm]
  · rintro (⟨h0, h1⟩ | h)
    · exact ⟨h0, by rw [Nat.add_mul]; omega⟩
    · subst h
      exact ⟨Nat.mul_mod_left _ _, by rw [Nat.add_mul]; omega⟩
theorem mulM_put (d k : Nat) (hd : 0 < d) (h : k * d < 4096) : putM (mulM d k) ((k * d : Nat) : Int) = mulM d (k + 1) := by
  funext y
  have hp : (0 : Int) ≤ ((k * d : Nat) : Int) ∧ ((k * d : Nat) : Int) < 4096 := ⟨Int.natCast_nonneg _, by omega⟩
  rw [putM, if_pos hp]
  simp only [mulM, Int.toNat_natCast]
  rw [← Bool.decide_or]
  exact decide_eq_decide.2 (mul_next hd).symm
theorem mulM_can (d k : Nat) (h : k * d < 4096) : canPut (mulM d k) ((k * d : Nat) : Int) = true := by
  have hp : (0 : Int) ≤ ((k * d : Nat) : Int) ∧ ((k * d : Nat) : Int) < 4096 := ⟨Int.natCast_nonneg _, by omega⟩
  rw [canPut, decide_eq_true hp, Int.toNat_natCast]
  simp [mulM]

theorem count_put (M : Nat → Bool) (a : Nat) (ha : M a = false) : ∀ n, ((List.range n).filter (fun y => M y || decide (y = a))).length = ((List.range n).filter M).length + (if a < n then 1 else 0)
  | 0 => by simp
  | n + 1 => by
    rw [List.range_succ, List.filter_append, List.filter_append, List.length_append, List.length_append, count_put M a ha n]
    by_cases hn : n = a
    · subst hn; simp [ha]
    · have e : (decide (n = a)) = false := decide_eq_false hn
      cases hM : M n <;> simp [hM, e]
      · split <;> split <;> omega
      · split <;> split <;> omega
theorem elems_put {M : Nat → Bool} {x : Int} (h : canPut M x = true) : (elems (putM M x)).length = (elems M).length + 1 := by
  simp only [canPut, Bool.and_eq_true, decide_eq_true_eq, Bool.not_eq_true'] at h
  rw [putM, if_pos h.1, elems, elems, count_put M x.toNat h.2, if_pos (by omega)]
theorem elems_mulM (d k : Nat) (hd : 0 < d) (h : ∀ j, j < k → j * d < 4096) : (elems (mulM d k)).length = k := by
  induction k with
  | zero =>
    rw [mulM_zero]
    have : elems noneM = [] := by
      rw [elems, List.filter_eq_nil_iff]
      intro a _
      simp [noneM]
    rw [this]; rfl
  | succ k ih =>
    have hk := h k (by omega)
    rw [← mulM_put d k hd hk, elems_put (mulM_can d k hk), ih (fun j hj => h j (by omega))]
/-- Where all have been put: is x there? -/
theorem mulM_has (d k : Nat) (hd : 0 < d) (x : Int) (h1 : 4096 ≤ k * d) (h2 : ∀ j, j < k → j * d < 4096) : hasM (mulM d k) x = (decide (0 ≤ x ∧ x < 4096) && decide (x.toNat % d = 0)) := by
  by_cases h0 : 0 ≤ x
  · by_cases hx : x < 4096
    · have : x.toNat < k * d := by omega
      simp [hasM, mulM, h0, hx, this]
    · have : ¬ (x.toNat % d = 0 ∧ x.toNat < k * d) := by
        rintro ⟨hm, hlt⟩
        have h3 : x.toNat / d < k := Nat.div_lt_of_lt_mul (by rw [Nat.mul_comm]; exact hlt)
        have := h2 _ h3
        have e := Nat.div_add_mod x.toNat d
        rw [Nat.mul_comm] at e
        omega
      simp [hasM, mulM, h0, hx]
      intro hm
      have h4 : ¬ x.toNat < k * d := fun h => this ⟨hm, h⟩
      omega
  · simp [hasM, h0]
theorem can_in {M : Nat → Bool} {x : Int} (h : 0 ≤ x ∧ x < 4096) : canPut M x = !hasM M x := by simp [canPut, hasM, h]
theorem can_out {M : Nat → Bool} {x : Int} (h : ¬ (0 ≤ x ∧ x < 4096)) : canPut M x = false := by rw [canPut, decide_eq_false h]; rfl
theorem put_out {M : Nat → Bool} {x : Int} (h : ¬ (0 ≤ x ∧ x < 4096)) : putM M x = M := by rw [putM, if_neg h]
theorem hasput_in {M : Nat → Bool} {x : Int} (h : 0 ≤ x ∧ x < 4096) : hasM (putM M x) x = true := by simp [putM, hasM, h]
theorem has_out {M : Nat → Bool} {x : Int} (hM : InSet M) (h : ¬ (0 ≤ x ∧ x < 4096)) : hasM M x = false := by
  by_cases h0 : 0 ≤ x
  · have : M x.toNat = false := Bool.eq_false_iff.2 fun hm => by have := hM _ hm; omega
    simp [hasM, this]
  · simp [hasM, h0]
theorem set_in {w : World} {g : Nat} {M : Nat → Bool} {L : List HP} (hs : Sat w (SetH g M :: L)) : InSet M := by
  obtain ⟨ws, v, ⟨hw, rfl⟩, _⟩ := SetH_iff.1 hs
  exact InSet.of_mem hw
/-- A set's value, and that it is read. -/
theorem set_val {w : World} {g : Nat} {M : Nat → Bool} {L : List HP} (hs : Sat w (SetH g M :: L)) : ∃ A n c ws, Words ws ∧ mem ws = M ∧ n = ws.length ∧ g < w.heap.size ∧ w.cell? ⟨g, 0, none⟩ = some (.slice A n c) ∧ w.ownsRow 0 84 1 (.slice A n c) n (u64s ws) := by
  obtain ⟨ws, v, ⟨hw, hm⟩, hs'⟩ := SetH_iff.1 hs
  obtain ⟨A, c, rfl⟩ := own_shape (hs'.rowAt 1 rfl)
  exact ⟨A, _, c, ws, hw, hm, rfl, hs'.lt, blk_cell hs'.blk 0, hs'.rowAt 1 rfl⟩
theorem put_none (g : Nat) (M : Nat → Bool) (x : Int) (w : World) (L : List HP) (h : ¬ (0 ≤ x ∧ x < 4096)) (hx : x ≤ 9223372036854775807) (hs : Sat w (SetH g M :: L)) :
    Calls Tryd.prog 11 #[.pointer (some ⟨g, 0, none⟩), .int .i64 x] w fun e w' => e = .returned (.bool false) ∧ Sat w' (SetH g M :: L) ∧ Ext w w' := by
  have := put_any g M x w L hs hx
  rwa [can_out h, put_out h] at this
theorem cut_none (g : Nat) (M : Nat → Bool) (x : Int) (w : World) (L : List HP) (h : ¬ (0 ≤ x ∧ x < 4096)) (hx : x ≤ 9223372036854775807) (hs : Sat w (SetH g M :: L)) :
    Calls Tryd.prog 27 #[.pointer (some ⟨g, 0, none⟩), .int .i64 x] w fun e w' => e = .returned (.bool false) ∧ Sat w' (SetH g (cutM M x) :: L) ∧ Ext w w' := by
  have := cut_any g M x w L hs hx
  rwa [has_out (set_in hs) h] at this
end Go.Proofs.YtompmejidaddoaaDoor
