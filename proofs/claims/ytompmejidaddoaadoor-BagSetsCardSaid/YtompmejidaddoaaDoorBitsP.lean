/- Which bits of a number are set, in order: plain facts. No program. -/
import Derived.Test.YtompmejidaddoaaDoorSetP
import Derived.Test.YtompmejidaddoaaDoorPopP
import Derived.Lib.TrailingZeros
set_option linter.unusedVariables false
set_option linter.unusedSimpArgs false
namespace Go.Proofs.YtompmejidaddoaaDoor
open Go.RowKit

theorem odd_bit (m n : Nat) : (2 * m + 1).testBit n = (decide (n = 0) || m.testBit (n - 1)) := by
  cases n with
  | zero => simp [Nat.testBit_zero]
  | succ n => rw [Nat.testBit_succ, show (2 * m + 1) / 2 = m by omega]; simp
theorem even_bit (m n : Nat) : (2 * m).testBit n = (!decide (n = 0) && m.testBit (n - 1)) := by
  cases n with
  | zero => simp [Nat.testBit_zero]
  | succ n => rw [Nat.testBit_succ, show (2 * m) / 2 = m by omega]; simp

theorem ctz_spec (u : Nat) (h0 : u ≠ 0) (hu : u < 18446744073709551616) :
    Lib.ctz 64 u < 64 ∧ (∀ i, i < Lib.ctz 64 u → u.testBit i = false) ∧ u.testBit (Lib.ctz 64 u) = true ∧ ∀ i, (u &&& (u - 1)).testBit i = (u.testBit i && !decide (i = Lib.ctz 64 u)) := by
  have hc : Lib.ctz 64 u = Lib.ctzFrom 64 u := by simp [Lib.ctz, h0]
  obtain ⟨m, hm, hk⟩ := Lib.ctzFrom_spec 64 u (by omega) (two64 ▸ hu)
  rw [hc]
  generalize Lib.ctzFrom 64 u = k at *
  have hp : 0 < 2 ^ k := Nat.two_pow_pos k
  have e1 : ∀ i, u.testBit i = if i < k then false else (2 * m + 1).testBit (i - k) := fun i => by
    have := Nat.testBit_two_pow_mul_add (2 * m + 1) (i := k) (b := 0) hp i
    rw [Nat.add_zero, ← hm] at this
    rw [this]; simp
  have e2 : ∀ i, (u - 1).testBit i = if i < k then true else (2 * m).testBit (i - k) := fun i => by
    have := Nat.testBit_two_pow_mul_add (2 * m) (i := k) (b := 2 ^ k - 1) (by omega) i
    have e : 2 ^ k * (2 * m) + (2 ^ k - 1) = u - 1 := by rw [hm, Nat.mul_add, Nat.mul_one]; omega
    rw [e] at this
    rw [this]
    split
    · rename_i h; rw [Nat.testBit_two_pow_sub_one]; simp [h]
    · rfl
  refine ⟨hk, fun i hi => by rw [e1, if_pos hi], by rw [e1, if_neg (by omega)]; simp [odd_bit], fun i => ?_⟩
  rw [Nat.testBit_and, e1, e2]
  by_cases hi : i < k
  · simp [hi]
  · rw [if_neg hi, if_neg hi, odd_bit, even_bit]
    by_cases hik : i = k
    · subst hik; simp
    · have : i - k ≠ 0 := by omega
      simp [this, hik]

def bitsOf (u : Nat) : List Nat := (List.range 64).filter fun i => u.testBit i

theorem range_part (t n : Nat) (h : t < n) : List.range n = List.range t ++ t :: (List.range (n - t - 1)).map (t + 1 + ·) := by
  obtain ⟨d, rfl⟩ : ∃ d, n = t + (1 + d) := ⟨n - t - 1, by omega⟩
  rw [List.range_add, List.range_add, show t + (1 + d) - t - 1 = d by omega]
  simp [List.range_succ, Nat.add_assoc]

theorem filter_first (p : Nat → Bool) (t n : Nat) (h : t < n) (hp : p t = true) (hl : ∀ i, i < t → p i = false) :
    (List.range n).filter p = t :: (List.range n).filter (fun i => p i && !decide (i = t)) := by
  rw [range_part t n h, List.filter_append, List.filter_append]
  have e1 : (List.range t).filter p = [] := List.filter_eq_nil_iff.2 (fun i hi => by simp [hl i (List.mem_range.1 hi)])
  have e2 : (List.range t).filter (fun i => p i && !decide (i = t)) = [] := List.filter_eq_nil_iff.2 (fun i hi => by simp [hl i (List.mem_range.1 hi)])
  rw [e1, e2, List.nil_append, List.nil_append, List.filter_cons, if_pos hp, List.filter_cons, if_neg (by simp)]
  congr 1
  apply List.filter_congr
  intro i hi
  obtain ⟨j, _, rfl⟩ := List.mem_map.1 hi
  have : t + 1 + j ≠ t := by omega
  simp [this]

theorem bitsOf_step (u : Nat) (h0 : u ≠ 0) (hu : u < 18446744073709551616) : bitsOf u = Lib.ctz 64 u :: bitsOf (u &&& (u - 1)) := by
  obtain ⟨h1, h2, h3, h4⟩ := ctz_spec u h0 hu
  unfold bitsOf
  rw [filter_first _ _ _ h1 h3 h2]
  congr 1
  apply List.filter_congr
  intro i _
  rw [h4]
theorem bitsOf_zero : bitsOf 0 = [] := by
  unfold bitsOf
  exact List.filter_eq_nil_iff.2 (fun i _ => by simp)
theorem cnt_bitsOf (u : Nat) : cnt 64 u = (bitsOf u).length := List.countP_eq_length_filter

/-- The numbers below 64 * k that are in. -/
def upto (ws : List Nat) (k : Nat) : List Nat := (List.range (64 * k)).filter (mem ws)
theorem upto_succ (ws : List Nat) (k : Nat) : upto ws (k + 1) = upto ws k ++ (bitsOf (wd ws k)).map (64 * k + ·) := by
  unfold upto bitsOf wd
  rw [show 64 * (k + 1) = 64 * k + 64 by omega, List.range_add, List.filter_append, List.filter_map]
  congr 2
  apply List.filter_congr
  intro i hi
  have := List.mem_range.1 hi
  simp only [Function.comp, mem]
  rw [show (64 * k + i) / 64 = k by omega, show (64 * k + i) % 64 = i by omega]

/-- All numbers of a set, rising. -/
def elems (M : Nat → Bool) : List Nat := (List.range 4096).filter M
theorem elems_upto {ws : List Nat} (hw : Words ws) : elems (mem ws) = upto ws ws.length := by
  unfold elems upto
  have := hw.1
  rw [show 4096 = 64 * ws.length + (4096 - 64 * ws.length) by omega, List.range_add, List.filter_append]
  have : (List.map (64 * ws.length + ·) (List.range (4096 - 64 * ws.length))).filter (mem ws) = [] := List.filter_eq_nil_iff.2 (fun i hi => by
    obtain ⟨j, _, rfl⟩ := List.mem_map.1 hi
    rw [mem_past (by omega)]; simp)
  rw [this, List.append_nil]
theorem upto_le (ws : List Nat) (k : Nat) : (upto ws k).length ≤ 64 * k := by
  unfold upto
  have := List.length_filter_le (mem ws) (List.range (64 * k))
  simpa using this
theorem elems_le (M : Nat → Bool) : (elems M).length ≤ 4096 := by
  have := List.length_filter_le M (List.range 4096)
  simpa [elems] using this
theorem bitsOf_le (u : Nat) : (bitsOf u).length ≤ 64 := by
  have := List.length_filter_le (fun i => u.testBit i) (List.range 64)
  simpa [bitsOf] using this

end Go.Proofs.YtompmejidaddoaaDoor
