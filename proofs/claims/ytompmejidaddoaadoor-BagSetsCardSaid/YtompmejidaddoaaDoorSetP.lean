/- Sets of small numbers as words of 64 bits: plain facts on numbers and lists. No program. -/
import Derived.WalkKit
import Derived.Laws.BitsAllLaws
set_option linter.unusedVariables false
set_option linter.unusedSimpArgs false
namespace Go.Proofs.YtompmejidaddoaaDoor
open Go.RowKit

def u64s (ws : List Nat) : List Value := ws.map fun (u : Nat) => .int .u64 (u : Int)
/-- The j-th word. -/
def wd (ws : List Nat) (j : Nat) : Nat := ws.getD j 0
theorem u64s_length (ws : List Nat) : (u64s ws).length = ws.length := by simp [u64s]
theorem u64s_get (ws : List Nat) (j : Nat) (h : j < ws.length) : (u64s ws)[j]? = some (.int .u64 ((wd ws j : Nat) : Int)) := by simp [u64s, wd, h]
theorem u64s_set (ws : List Nat) (j u : Nat) : (u64s ws).set j (.int .u64 (u : Int)) = u64s (ws.set j u) := by simp [u64s, List.map_set]
theorem u64s_snoc (ws : List Nat) (u : Nat) : u64s ws ++ [.int .u64 (u : Int)] = u64s (ws ++ [u]) := by simp [u64s]

def Words (ws : List Nat) : Prop := ws.length ≤ 64 ∧ ∀ j, ws.getD j 0 < 18446744073709551616
def mem (ws : List Nat) (i : Nat) : Bool := (ws.getD (i / 64) 0).testBit (i % 64)

theorem mem_past {ws : List Nat} {i : Nat} (h : ws.length ≤ i / 64) : mem ws i = false := by simp [mem, List.getD_eq_getElem?_getD, List.getElem?_eq_none h]
theorem mem_lt {ws : List Nat} (h : Words ws) {i : Nat} (hm : mem ws i = true) : i < 4096 := by
  by_cases hi : ws.length ≤ i / 64
  · rw [mem_past hi] at hm; cases hm
  · have := h.1; omega

theorem getD_set (ws : List Nat) (k u j : Nat) : (ws.set k u).getD j 0 = if k = j ∧ k < ws.length then u else ws.getD j 0 := by
  simp only [List.getD_eq_getElem?_getD, List.getElem?_set]
  split
  · rename_i h; subst h
    by_cases hl : k < ws.length <;> simp [hl]
  · rename_i h; simp [h]
theorem getD_snoc (ws : List Nat) (j : Nat) : (ws ++ [0]).getD j 0 = ws.getD j 0 := by
  simp only [List.getD_eq_getElem?_getD, List.getElem?_append]
  split
  · rfl
  · rename_i h
    rw [List.getElem?_eq_none (l := ws) (by omega)]
    cases hj : ([0] : List Nat)[j - ws.length]? with
    | none => rfl
    | some y =>
      have := List.mem_of_getElem? hj
      simp at this; subst this; rfl

theorem words_snoc {ws : List Nat} (h : Words ws) (hl : ws.length < 64) : Words (ws ++ [0]) := ⟨by simp; omega, fun j => by rw [getD_snoc]; exact h.2 j⟩
theorem mem_snoc (ws : List Nat) (i : Nat) : mem (ws ++ [0]) i = mem ws i := by unfold mem; rw [getD_snoc]

theorem words_set {ws : List Nat} (h : Words ws) (k u : Nat) (hu : u < 18446744073709551616) : Words (ws.set k u) := ⟨by simpa using h.1, fun j => by
  rw [getD_set]
  split
  · exact hu
  · exact h.2 j⟩

/-- What Go's 'words[x/64] >> (x%64) & 1 == 1' answers. -/
theorem bit_test (u : Nat) (k : Int) (hu : u < 18446744073709551616) (h0 : 0 ≤ k) (h1 : k < 64) : (bits .and .u64 ((u : Int) / 2 ^ k.toNat) 1 == 1) = u.testBit k.toNat := by
  have e : ((u : Int) / 2 ^ k.toNat) = ((u / 2 ^ k.toNat : Nat) : Int) := by simp
  have hl : u / 2 ^ k.toNat < 18446744073709551616 := Nat.lt_of_le_of_lt (Nat.div_le_self _ _) hu
  rw [e, show (1 : Int) = ((1 : Nat) : Int) from rfl, u64_and_nat _ _ hl (by decide), Nat.testBit, Nat.shiftRight_eq_div_pow, Nat.and_comm]
  rcases Nat.mod_two_eq_zero_or_one (u / 2 ^ k.toNat) with h | h <;> simp [Nat.one_and_eq_mod_two, h] <;> rfl

theorem two64 : 2 ^ 64 = 18446744073709551616 := by decide
theorem pow_lt64 {k : Nat} (h : k < 64) : 2 ^ k < 18446744073709551616 := two64 ▸ Nat.pow_lt_pow_right (a := 2) (by decide) h

/-- 1 << k. -/
theorem one_shl (k : Int) (h0 : 0 ≤ k) (h1 : k < 64) : IntKind.u64.wrap (1 * 2 ^ (min k.toNat 64)) = ((2 ^ k.toNat : Nat) : Int) := by
  have : min k.toNat 64 = k.toNat := by omega
  have hp : 2 ^ k.toNat < 18446744073709551616 := pow_lt64 (show k.toNat < 64 by omega)
  rw [this, IntKind.wrap_u64]
  have : ((1 : Int) * 2 ^ k.toNat) = ((2 ^ k.toNat : Nat) : Int) := by rw [Int.one_mul, Int.natCast_pow]; rfl
  rw [this]
  clear this
  generalize 2 ^ k.toNat = p at *
  omega

theorem two_shl (k : Int) (h0 : 0 ≤ k) (h1 : k < 64) : IntKind.u64.wrap (2 ^ k.toNat) = ((2 ^ k.toNat : Nat) : Int) := by
  have := one_shl k h0 h1
  rwa [Int.one_mul, show min k.toNat 64 = k.toNat by omega] at this

theorem or_lt64 {a b : Nat} (ha : a < 18446744073709551616) (hb : b < 18446744073709551616) : a ||| b < 18446744073709551616 := by
  have := Nat.or_lt_two_pow (n := 64) (x := a) (y := b) (two64 ▸ ha) (two64 ▸ hb)
  rwa [two64] at this

theorem testBit_or_pow (a k j : Nat) : (a ||| 2 ^ k).testBit j = (a.testBit j || decide (k = j)) := by
  rw [Nat.testBit_or, Nat.testBit_two_pow]

def putW (ws : List Nat) (x : Nat) : List Nat := ws.set (x / 64) (ws.getD (x / 64) 0 ||| 2 ^ (x % 64))
theorem mem_putW {ws : List Nat} (x i : Nat) (h : x / 64 < ws.length) : mem (putW ws x) i = (mem ws i || decide (i = x)) := by
  unfold putW mem
  rw [getD_set]
  by_cases e : x / 64 = i / 64
  · rw [if_pos ⟨e, h⟩, testBit_or_pow, e]
    congr 1
    by_cases e2 : i = x
    · subst e2; simp
    · simp [e2]; omega
  · rw [if_neg (fun hh => e hh.1)]
    have : ¬ i = x := by rintro rfl; exact e rfl
    simp [this]
theorem words_putW {ws : List Nat} (hw : Words ws) (x : Nat) : Words (putW ws x) := words_set hw _ _ (or_lt64 (hw.2 _) (pow_lt64 (Nat.mod_lt _ (by decide))))

/-- What Go's 'words[x/64] |= 1 << (x%64)' stores. -/
theorem or_word {ws : List Nat} (hw : Words ws) (x : Int) (h0 : 0 ≤ x) : bits .or .u64 (((wd ws (x / 64).toNat : Nat) : Int)) (IntKind.u64.wrap (2 ^ (x % 64).toNat)) = ((ws.getD (x.toNat / 64) 0 ||| 2 ^ (x.toNat % 64) : Nat) : Int) := by
  have e1 : (x / 64).toNat = x.toNat / 64 := by omega
  have e2 : (x % 64).toNat = x.toNat % 64 := by omega
  rw [two_shl _ (by omega) (by omega), wd, u64_or_nat _ _ (hw.2 _) (pow_lt64 (by omega)), e1, e2]

def cutW (ws : List Nat) (x : Nat) : List Nat := ws.set (x / 64) (ws.getD (x / 64) 0 &&& (18446744073709551615 - 2 ^ (x % 64)))
theorem testBit_andNot (a k j : Nat) (ha : a < 18446744073709551616) (hk : k < 64) : (a &&& (18446744073709551615 - 2 ^ k)).testBit j = (a.testBit j && !decide (k = j)) := by
  rw [Nat.testBit_and]
  by_cases hj : j < 64
  · have e : 18446744073709551615 - 2 ^ k = 2 ^ 64 - (2 ^ k + 1) := by rw [two64]; omega
    rw [e, Nat.testBit_two_pow_sub_succ (by rw [two64]; exact pow_lt64 hk)]
    simp [hj, Nat.testBit_two_pow]
  · have : a.testBit j = false := Nat.testBit_lt_two_pow (Nat.lt_of_lt_of_le (two64 ▸ ha) (Nat.pow_le_pow_right (by decide) (show 64 ≤ j by omega)))
    simp [this]
theorem mem_cutW {ws : List Nat} (hw : Words ws) (x i : Nat) (h : x / 64 < ws.length) : mem (cutW ws x) i = (mem ws i && !decide (i = x)) := by
  unfold cutW mem
  rw [getD_set]
  by_cases e : x / 64 = i / 64
  · rw [if_pos ⟨e, h⟩, testBit_andNot _ _ _ (hw.2 _) (Nat.mod_lt _ (by decide)), e]
    congr 2
    by_cases e2 : i = x
    · subst e2; simp
    · simp [e2]; omega
  · rw [if_neg (fun hh => e hh.1)]
    have : ¬ i = x := by rintro rfl; exact e rfl
    simp [this]
theorem words_cutW {ws : List Nat} (hw : Words ws) (x : Nat) : Words (cutW ws x) := words_set hw _ _ (Nat.lt_of_le_of_lt Nat.and_le_left (hw.2 _))

/-- What Go's 'words[x/64] &^= 1 << (x%64)' stores. -/
theorem cut_word {ws : List Nat} (hw : Words ws) (x : Int) (h0 : 0 ≤ x) : bits .andNot .u64 (((wd ws (x / 64).toNat : Nat) : Int)) (IntKind.u64.wrap (2 ^ (x % 64).toNat)) = ((ws.getD (x.toNat / 64) 0 &&& (18446744073709551615 - 2 ^ (x.toNat % 64)) : Nat) : Int) := by
  have e1 : (x / 64).toNat = x.toNat / 64 := by omega
  have e2 : (x % 64).toNat = x.toNat % 64 := by omega
  rw [two_shl _ (by omega) (by omega), wd, u64_andNot_nat _ _ (hw.2 _) (pow_lt64 (by omega)), e1, e2]

theorem mem_set (ws : List Nat) (j u i : Nat) (h : j < ws.length) : mem (ws.set j u) i = if i / 64 = j then u.testBit (i % 64) else mem ws i := by
  unfold mem
  rw [getD_set]
  by_cases e : j = i / 64
  · rw [if_pos ⟨e, h⟩, if_pos e.symm]
  · rw [if_neg (fun hh => e hh.1), if_neg (fun hh => e hh.symm)]
theorem testBit_andNot' (a b j : Nat) (ha : a < 18446744073709551616) (hb : b < 18446744073709551616) : (a &&& (18446744073709551615 - b)).testBit j = (a.testBit j && !b.testBit j) := by
  rw [Nat.testBit_and]
  by_cases hj : j < 64
  · have e : 18446744073709551615 - b = 2 ^ 64 - (b + 1) := by rw [two64]; omega
    rw [e, Nat.testBit_two_pow_sub_succ (by rw [two64]; exact hb)]
    simp [hj]
  · have : a.testBit j = false := Nat.testBit_lt_two_pow (Nat.lt_of_lt_of_le (two64 ▸ ha) (Nat.pow_le_pow_right (by decide) (show 64 ≤ j by omega)))
    simp [this]
theorem mem_wd (ws : List Nat) (i : Nat) : mem ws i = (wd ws (i / 64)).testBit (i % 64) := rfl

/-- What 'Less' has made of the words below k. -/
def lessTo (ws ws2 : List Nat) (k : Nat) (i : Nat) : Bool := if i / 64 < k then mem ws i && !mem ws2 i else mem ws i
theorem lessTo_step {ws ws1 ws2 : List Nat} (hw2 : Words ws2) (hw1 : Words ws1) (k : Nat) (hk : k < ws1.length) (h : mem ws1 = lessTo ws ws2 k) : mem (ws1.set k (wd ws1 k &&& (18446744073709551615 - wd ws2 k))) = lessTo ws ws2 (k + 1) := by
  funext i
  rw [mem_set _ _ _ _ hk]
  by_cases e : i / 64 = k
  · rw [if_pos e, testBit_andNot' _ _ _ (show wd ws1 k < _ from hw1.2 k) (show wd ws2 k < _ from hw2.2 k), ← e, ← mem_wd, ← mem_wd, h]
    simp [lessTo, e]
  · rw [if_neg e, h]
    unfold lessTo
    by_cases e2 : i / 64 < k
    · rw [if_pos e2, if_pos (by omega)]
    · rw [if_neg e2, if_neg (by omega)]
theorem lessTo_all {ws ws2 : List Nat} (k : Nat) (hk : ws.length ≤ k ∨ ws2.length ≤ k) : lessTo ws ws2 k = fun i => mem ws i && !mem ws2 i := by
  funext i
  unfold lessTo
  split
  · rfl
  · rcases hk with h | h
    · rw [mem_past (ws := ws) (by omega)]; rfl
    · rw [mem_past (ws := ws2) (by omega)]; simp
def meetTo (ws ws2 : List Nat) (k : Nat) (i : Nat) : Bool := if i / 64 < k then mem ws i && mem ws2 i else mem ws i
theorem meetTo_step {ws ws1 ws2 : List Nat} (k u : Nat) (hk : k < ws1.length) (hu : u = wd ws1 k &&& wd ws2 k) (h : mem ws1 = meetTo ws ws2 k) : mem (ws1.set k u) = meetTo ws ws2 (k + 1) := by
  funext i
  rw [mem_set _ _ _ _ hk]
  by_cases e : i / 64 = k
  · rw [if_pos e, hu, Nat.testBit_and, ← e, ← mem_wd, ← mem_wd, h]
    simp [meetTo, e]
  · rw [if_neg e, h]
    unfold meetTo
    by_cases e2 : i / 64 < k
    · rw [if_pos e2, if_pos (by omega)]
    · rw [if_neg e2, if_neg (by omega)]
theorem meetTo_all {ws ws2 : List Nat} (k : Nat) (hk : ws.length ≤ k) : meetTo ws ws2 k = fun i => mem ws i && mem ws2 i := by
  funext i
  unfold meetTo
  split
  · rfl
  · rw [mem_past (ws := ws) (by omega)]; rfl
theorem wd_past {ws : List Nat} {k : Nat} (h : ws.length ≤ k) : wd ws k = 0 := by simp [wd, List.getD_eq_getElem?_getD, List.getElem?_eq_none h]

/-- What 'Has' answers. -/
def hasW (ws : List Nat) (x : Int) : Bool := decide (0 ≤ x) && mem ws x.toNat
theorem hasW_neg {ws : List Nat} {x : Int} (h : x < 0) : hasW ws x = false := by simp [hasW]; omega
theorem hasW_past {ws : List Nat} {x : Int} (h0 : 0 ≤ x) (h : ¬ x / 64 < (ws.length : Int)) : hasW ws x = false := by
  simp only [hasW, mem_past (ws := ws) (i := x.toNat) (by omega), Bool.and_false]
theorem hasW_in {ws : List Nat} {x : Int} (hw : Words ws) (h0 : 0 ≤ x) : (bits .and .u64 (((wd ws (x / 64).toNat : Nat) : Int) / 2 ^ (x % 64).toNat) 1 == 1) = hasW ws x := by
  rw [wd, bit_test _ _ (hw.2 _) (by omega) (by omega)]
  have e1 : (x / 64).toNat = x.toNat / 64 := by omega
  have e2 : (x % 64).toNat = x.toNat % 64 := by omega
  simp [hasW, mem, h0, e1, e2]

end Go.Proofs.YtompmejidaddoaaDoor
