/- How many bits of a number are set, as Go's math/bits.OnesCount64 counts them: plain facts on numbers. No program. -/
import Derived.Test.YtompmejidaddoaaDoorSep
set_option linter.unusedVariables false
set_option linter.unusedSimpArgs false
namespace Go.Proofs.YtompmejidaddoaaDoor
open Go.RowKit

def cnt (n u : Nat) : Nat := (List.range n).countP fun i => u.testBit i
def bsum : List Nat → Nat
  | [] => 0
  | b :: l => b + 256 * bsum l

theorem bit_lo {lo hi i : Nat} (hl : lo < 256) (h : i < 8) : (lo + 256 * hi).testBit i = lo.testBit i := by
  have := Nat.testBit_mod_two_pow (lo + 256 * hi) 8 i
  have e : (lo + 256 * hi) % 2 ^ 8 = lo := by omega
  rw [e] at this
  simp [h] at this
  exact this.symm
theorem bit_hi {lo hi i : Nat} (hl : lo < 256) : (lo + 256 * hi).testBit (8 + i) = hi.testBit i := by
  have := Nat.testBit_div_two_pow (n := 8) (lo + 256 * hi) i
  rw [show (lo + 256 * hi) / 2 ^ 8 = hi by omega] at this
  rw [this, Nat.add_comm 8 i]
theorem cnt_byte (n lo hi : Nat) (hl : lo < 256) : cnt (8 + n) (lo + 256 * hi) = cnt 8 lo + cnt n hi := by
  unfold cnt
  rw [List.range_add, List.countP_append, List.countP_map]
  congr 1
  · apply List.countP_congr
    intro i hi'
    have := List.mem_range.1 hi'
    rw [bit_lo hl this]
  · apply List.countP_congr
    intro i _
    show ((lo + 256 * hi).testBit (8 + i) = true) ↔ _
    rw [bit_hi hl]

theorem and_split {lo hi a b : Nat} (hl : lo < 256) (ha : a < 256) : (lo + 256 * hi) &&& (a + 256 * b) = (lo &&& a) + 256 * (hi &&& b) := by
  have h1 := Nat.and_mod_two_pow (n := 8) (a := lo + 256 * hi) (b := a + 256 * b)
  have h2 := Nat.and_div_two_pow (n := 8) (a := lo + 256 * hi) (b := a + 256 * b)
  rw [show (lo + 256 * hi) % 2 ^ 8 = lo by omega, show (a + 256 * b) % 2 ^ 8 = a by omega] at h1
  rw [show (lo + 256 * hi) / 2 ^ 8 = hi by omega, show (a + 256 * b) / 2 ^ 8 = b by omega] at h2
  have := Nat.div_add_mod ((lo + 256 * hi) &&& (a + 256 * b)) (2 ^ 8)
  rw [h1, h2] at this
  omega

/-- k bytes, each of them b. -/
def rep (b : Nat) : Nat → Nat
  | 0 => 0
  | k + 1 => b + 256 * rep b k

def f1 (b : Nat) : Nat := (b / 2 &&& 85) + (b &&& 85)
def f2 (b : Nat) : Nat := (b / 4 &&& 51) + (b &&& 51)
def f4 (b : Nat) : Nat := b / 16 + b % 16
theorem f1_lt : ∀ b, b < 256 → f1 b < 256 := by decide +kernel
theorem m1 : ∀ b, b < 256 → ∀ c, c < 2 → (b / 2 + 128 * c) &&& 85 = b / 2 &&& 85 := by decide +kernel
theorem m2 : ∀ b, b < 256 → ∀ c, c < 4 → (b / 4 + 64 * c) &&& 51 = b / 4 &&& 51 := by decide +kernel
theorem m4 : ∀ s, s < 256 → s &&& 15 = s % 16 := by decide +kernel
theorem f2_nib : ∀ b, b < 256 → f2 (f1 b) < 256 ∧ f2 (f1 b) / 16 ≤ 4 ∧ f2 (f1 b) % 16 ≤ 4 := by decide +kernel
theorem f_all : ∀ b, b < 256 → f4 (f2 (f1 b)) = cnt 8 b := by decide +kernel
theorem f_le : ∀ b, b < 256 → f4 (f2 (f1 b)) ≤ 8 := by decide +kernel

theorem step1 : ∀ l : List Nat, (∀ b ∈ l, b < 256) → (bsum l / 2 &&& rep 85 l.length) + (bsum l &&& rep 85 l.length) = bsum (l.map f1)
  | [], _ => rfl
  | b :: l, h => by
    have hb := h b (by simp)
    have ih := step1 l (fun x hx => h x (by simp [hx]))
    simp only [List.length_cons, List.map_cons, bsum, rep]
    rw [show (b + 256 * bsum l) / 2 = (b / 2 + 128 * (bsum l % 2)) + 256 * (bsum l / 2) by omega, and_split (by omega) (by omega), and_split hb (by omega), m1 b hb _ (by omega), f1]
    omega
theorem step2 : ∀ l : List Nat, (∀ b ∈ l, b < 256) → (bsum l / 4 &&& rep 51 l.length) + (bsum l &&& rep 51 l.length) = bsum (l.map f2)
  | [], _ => rfl
  | b :: l, h => by
    have hb := h b (by simp)
    have ih := step2 l (fun x hx => h x (by simp [hx]))
    simp only [List.length_cons, List.map_cons, bsum, rep]
    rw [show (b + 256 * bsum l) / 4 = (b / 4 + 64 * (bsum l % 4)) + 256 * (bsum l / 4) by omega, and_split (by omega) (by omega), and_split hb (by omega), m2 b hb _ (by omega), f2]
    omega
theorem step4 : ∀ l : List Nat, (∀ b ∈ l, b < 256 ∧ b / 16 ≤ 4 ∧ b % 16 ≤ 4) → (bsum l / 16 + bsum l) &&& rep 15 l.length = bsum (l.map f4)
  | [], _ => rfl
  | b :: l, h => by
    have hb := h b (by simp)
    have ih := step4 l (fun x hx => h x (by simp [hx]))
    have hn : bsum l % 16 ≤ 4 := by
      cases l with
      | nil => simp [bsum]
      | cons c l => have := h c (by simp); simp only [bsum]; omega
    simp only [List.length_cons, List.map_cons, bsum, rep]
    rw [show (b + 256 * bsum l) / 16 + (b + 256 * bsum l) = (b / 16 + 16 * (bsum l % 16) + b) + 256 * (bsum l / 16 + bsum l) by omega, and_split (by omega) (by omega), ih, m4 _ (by omega), f4]
    omega

theorem to_bytes : ∀ k u, u < 256 ^ k → ∃ l : List Nat, l.length = k ∧ (∀ b ∈ l, b < 256) ∧ bsum l = u
  | 0, u, h => ⟨[], rfl, by simp, by simp [bsum]; omega⟩
  | k + 1, u, h => by
    obtain ⟨l, h1, h2, h3⟩ := to_bytes k (u / 256) (by rw [Nat.pow_succ] at h; exact Nat.div_lt_of_lt_mul (by rw [Nat.mul_comm]; exact h))
    refine ⟨u % 256 :: l, by simp [h1], ?_, by simp only [bsum, h3]; omega⟩
    intro b hb
    rcases List.mem_cons.1 hb with rfl | hb
    · omega
    · exact h2 b hb
theorem cnt_bytes : ∀ l : List Nat, (∀ b ∈ l, b < 256) → cnt (8 * l.length) (bsum l) = (l.map (cnt 8)).sum
  | [], _ => rfl
  | b :: l, h => by
    have ih := cnt_bytes l (fun x hx => h x (by simp [hx]))
    rw [show 8 * (b :: l).length = 8 + 8 * l.length by simp; omega, bsum, cnt_byte _ _ _ (h b (by simp)), ih]
    simp

theorem bsum_le (m : Nat) : ∀ l : List Nat, (∀ b ∈ l, b ≤ m) → bsum l ≤ m * rep 1 l.length
  | [], _ => by simp [bsum]
  | b :: l, h => by
    have ih := bsum_le m l (fun x hx => h x (by simp [hx]))
    have := h b (by simp)
    simp only [bsum, List.length_cons, rep, Nat.mul_add, Nat.mul_one]
    have e : m * (256 * rep 1 l.length) = 256 * (m * rep 1 l.length) := by rw [Nat.mul_left_comm]
    omega
theorem fold_sum (c0 c1 c2 c3 c4 c5 c6 c7 : Nat) (h0 : c0 ≤ 8) (h1 : c1 ≤ 8) (h2 : c2 ≤ 8) (h3 : c3 ≤ 8) (h4 : c4 ≤ 8) (h5 : c5 ≤ 8) (h6 : c6 ≤ 8) (h7 : c7 ≤ 8) (c d e f : Nat)
    (hc : c = bsum [c0, c1, c2, c3, c4, c5, c6, c7]) (hd : d = c + c / 256) (he : e = d + d / 65536) (hf : f = e + e / 4294967296) :
    d < 18446744073709551616 ∧ e < 18446744073709551616 ∧ f < 9223372036854775808 ∧ f % 128 = [c0, c1, c2, c3, c4, c5, c6, c7].sum := by
  simp only [bsum] at hc
  have e1 : c / 256 = c1 + 256 * (c2 + 256 * (c3 + 256 * (c4 + 256 * (c5 + 256 * (c6 + 256 * c7))))) := by omega
  have e2 : d = (c0 + c1) + 256 * ((c1 + c2) + 256 * ((c2 + c3) + 256 * ((c3 + c4) + 256 * ((c4 + c5) + 256 * ((c5 + c6) + 256 * ((c6 + c7) + 256 * c7)))))) := by omega
  clear hc hd e1
  have e3 : d / 65536 = (c2 + c3) + 256 * ((c3 + c4) + 256 * ((c4 + c5) + 256 * ((c5 + c6) + 256 * ((c6 + c7) + 256 * c7)))) := by omega
  have e4 : e = (c0 + c1 + c2 + c3) + 256 * ((c1 + c2 + c3 + c4) + 256 * ((c2 + c3 + c4 + c5) + 256 * ((c3 + c4 + c5 + c6) + 256 * ((c4 + c5 + c6 + c7) + 256 * ((c5 + c6 + c7) + 256 * ((c6 + c7) + 256 * c7)))))) := by omega
  have hd : d < 18446744073709551616 := by omega
  clear he e2 e3
  have e5 : e / 4294967296 = (c4 + c5 + c6 + c7) + 256 * ((c5 + c6 + c7) + 256 * ((c6 + c7) + 256 * c7)) := by omega
  refine ⟨hd, by omega, by omega, ?_⟩
  simp
  omega
/-- All of Go's steps on a number of 64 bits. -/
theorem swar (u : Nat) (hu : u < 18446744073709551616) :
    let a := (u / 2 &&& 6148914691236517205) + (u &&& 6148914691236517205)
    let b := (a / 4 &&& 3689348814741910323) + (a &&& 3689348814741910323)
    let c := (b / 16 + b) &&& 1085102592571150095
    let d := c + c / 256
    let e := d + d / 65536
    let f := e + e / 4294967296
    a < 18446744073709551616 ∧ b < 18446744073709551616 ∧ b / 16 + b < 18446744073709551616 ∧ c < 18446744073709551616 ∧ d < 18446744073709551616 ∧ e < 18446744073709551616 ∧ f < 18446744073709551616 ∧ f % 128 = cnt 64 u ∧ f < 9223372036854775808 := by
  obtain ⟨l, hl, hb, rfl⟩ := to_bytes 8 u (by simpa using hu)
  have s1 := step1 l hb
  have s2 := step2 (l.map f1) (fun x hx => by obtain ⟨y, hy, rfl⟩ := List.mem_map.1 hx; exact f1_lt y (hb y hy))
  have s4 := step4 ((l.map f1).map f2) (fun x hx => by
    obtain ⟨z, hz, rfl⟩ := List.mem_map.1 hx
    obtain ⟨y, hy, rfl⟩ := List.mem_map.1 hz
    exact f2_nib y (hb y hy))
  have hc := cnt_bytes l hb
  simp only [List.length_map] at s2 s4
  rw [hl] at s1 s2 s4 hc
  rw [show rep 85 8 = 6148914691236517205 by decide] at s1
  rw [show rep 51 8 = 3689348814741910323 by decide] at s2
  rw [show rep 15 8 = 1085102592571150095 by decide] at s4
  have hcs : (l.map (cnt 8)).sum = (((l.map f1).map f2).map f4).sum := by
    rw [List.map_map, List.map_map]
    congr 1
    exact List.map_congr_left (fun b hx => (f_all b (hb b hx)).symm)
  rw [hcs] at hc
  have hle : ∀ x ∈ ((l.map f1).map f2).map f4, x ≤ 8 := by
    intro x hx
    rw [List.map_map, List.map_map] at hx
    obtain ⟨y, hy, rfl⟩ := List.mem_map.1 hx
    exact f_le y (hb y hy)
  have b1 : ∀ x ∈ l.map f1, x < 256 := fun x hx => by obtain ⟨y, hy, rfl⟩ := List.mem_map.1 hx; exact f1_lt y (hb y hy)
  have b2 : ∀ x ∈ (l.map f1).map f2, x < 256 ∧ x / 16 ≤ 4 ∧ x % 16 ≤ 4 := fun x hx => by
    obtain ⟨z, hz, rfl⟩ := List.mem_map.1 hx
    obtain ⟨y, hy, rfl⟩ := List.mem_map.1 hz
    exact f2_nib y (hb y hy)
  intro a b c d e f
  have ha : a = bsum (l.map f1) := s1
  have hb' : b = bsum ((l.map f1).map f2) := by rw [← s2, ← s1]
  have hcc : c = bsum (((l.map f1).map f2).map f4) := by rw [← s4, ← s2, ← s1]
  have la : bsum (l.map f1) ≤ 255 * rep 1 8 := by have := bsum_le 255 (l.map f1) (fun x hx => by have := b1 x hx; omega); rwa [List.length_map, hl] at this
  have lb : bsum ((l.map f1).map f2) ≤ 68 * rep 1 8 := by have := bsum_le 68 ((l.map f1).map f2) (fun x hx => by have := b2 x hx; omega); rwa [List.length_map, List.length_map, hl] at this
  have lc : bsum (((l.map f1).map f2).map f4) ≤ 8 * rep 1 8 := by have := bsum_le 8 (((l.map f1).map f2).map f4) hle; rwa [List.length_map, List.length_map, List.length_map, hl] at this
  rw [show rep 1 8 = 72340172838076673 by decide] at la lb lc
  rw [← ha] at la
  rw [← hb'] at lb
  rw [← hcc] at lc
  rw [show 8 * 8 = 64 from rfl] at hc
  have hdd : d = c + c / 256 := rfl
  have hee : e = d + d / 65536 := rfl
  have hff : f = e + e / 4294967296 := rfl
  clear_value f e d c b a
  generalize hl3 : ((l.map f1).map f2).map f4 = l3 at *
  have hl8 : l3.length = 8 := by rw [← hl3]; simp [hl]
  clear s1 s2 s4 hcs b1 b2 hb hl ha hb' hl3
  match l3, hl8 with
  | [x0, x1, x2, x3, x4, x5, x6, x7], _ =>
    have h0 := hle x0 (by simp)
    have h1 := hle x1 (by simp)
    have h2 := hle x2 (by simp)
    have h3 := hle x3 (by simp)
    have h4 := hle x4 (by simp)
    have h5 := hle x5 (by simp)
    have h6 := hle x6 (by simp)
    have h7 := hle x7 (by simp)
    obtain ⟨hd, he, hf, hm⟩ := fold_sum x0 x1 x2 x3 x4 x5 x6 x7 h0 h1 h2 h3 h4 h5 h6 h7 c d e f hcc hdd hee hff
    exact ⟨by omega, by omega, by omega, by omega, hd, he, by omega, by rw [hc]; exact hm, hf⟩
theorem swar' (u : Nat) (hu : u < 18446744073709551616) : ∃ a b c d e f, (u / 2 &&& 6148914691236517205) + (u &&& 6148914691236517205) = a ∧ (a / 4 &&& 3689348814741910323) + (a &&& 3689348814741910323) = b ∧
    (b / 16 + b) &&& 1085102592571150095 = c ∧ c + c / 256 = d ∧ d + d / 65536 = e ∧ e + e / 4294967296 = f ∧
    a < 18446744073709551616 ∧ b < 18446744073709551616 ∧ b / 16 + b < 18446744073709551616 ∧ c < 18446744073709551616 ∧ d < 18446744073709551616 ∧ e < 18446744073709551616 ∧ f < 18446744073709551616 ∧ f % 128 = cnt 64 u ∧ f < 9223372036854775808 :=
  ⟨_, _, _, _, _, _, rfl, rfl, rfl, rfl, rfl, rfl, swar u hu⟩
end Go.Proofs.YtompmejidaddoaaDoor
