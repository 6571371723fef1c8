/- The walks of math/bits' OnesCount64 and TrailingZeros64. -/
import Derived.Test.YtompmejidaddoaaDoorProg
import Derived.Test.YtompmejidaddoaaDoorBitsP
import Derived.Laws.Bits64b
set_option linter.unusedVariables false
set_option linter.unusedSimpArgs false
namespace Go.Proofs.YtompmejidaddoaaDoor
open Go.RowKit

section
set_option maxRecDepth 100000
set_option maxHeartbeats 400000
theorem ones_core (u a b c d e f r : Int) (w : World) (h0 : 0 ≤ u) (ha0 : 0 ≤ a) (hb0 : 0 ≤ b) (hc0 : 0 ≤ c) (hd0 : 0 ≤ d) (he0 : 0 ≤ e) (hf0 : 0 ≤ f)
    (ha : IntKind.u64.wrap (bits BinOp.and IntKind.u64 (u / 2) 6148914691236517205 + bits BinOp.and IntKind.u64 u 6148914691236517205) = a)
    (hb : IntKind.u64.wrap (bits BinOp.and IntKind.u64 (a / 4) 3689348814741910323 + bits BinOp.and IntKind.u64 a 3689348814741910323) = b)
    (hc : bits BinOp.and IntKind.u64 (IntKind.u64.wrap (b / 16 + b)) 1085102592571150095 = c)
    (hd : IntKind.u64.wrap (c + c / 256) = d) (he : IntKind.u64.wrap (d + d / 65536) = e) (hf : IntKind.u64.wrap (e + e / 4294967296) = f) (hf1 : f ≤ 9223372036854775807) (hr : bits BinOp.and IntKind.i64 f 127 = r) :
    Calls Tryd.prog 47 #[.int .u64 u] w fun e w' => e = .returned (.int .i64 r) ∧ w = w' := by
  go_enter Tryd.func47, Tryd.ntmps47
  go_wp2
  go_ret
  exact ⟨rfl, rfl⟩

theorem wrap_u64_nat (n : Nat) (h : n < 18446744073709551616) : IntKind.u64.wrap (n : Int) = (n : Int) := by rw [IntKind.wrap_u64]; omega

theorem two63 : (2 : Int) ^ 63 = 9223372036854775808 := by decide
theorem wraps_i64 (n : Int) (h0 : 0 ≤ n) (h1 : n < 2 ^ 63) : IntKind.i64.wrap n = n := by rw [two63] at h1; rw [IntKind.wrap_i64]; omega
theorem and127 (f : Nat) (h : f < 9223372036854775808) : bits BinOp.and IntKind.i64 (f : Int) 127 = ((f % 128 : Nat) : Int) := by
  have := bits_mask .i64 63 (by decide) wraps_i64 7 (by decide) (f : Int) (by omega) (by rw [two63]; omega)
  simpa using this

theorem ones_any (u : Nat) (hu : u < 18446744073709551616) (w : World) :
    Calls Tryd.prog 47 #[.int .u64 u] w fun e w' => e = .returned (.int .i64 ((bitsOf u).length : Nat)) ∧ w = w' := by
  obtain ⟨a, b, c, d, e, f, ha, hb, hc, hd, he, hf, h1, h2, h3, h4, h5, h6, h7, h8, h9⟩ := swar' u hu
  rw [← cnt_bitsOf, ← h8]
  have q : ∀ (x k : Nat), ((x : Int) / (k : Int)) = ((x / k : Nat) : Int) := fun x k => by simp
  have A : ∀ x m : Nat, x < 18446744073709551616 → m < 18446744073709551616 → bits BinOp.and IntKind.u64 (x : Int) (m : Int) = ((x &&& m : Nat) : Int) := fun x m hx hm => u64_and_nat x m hx hm
  refine ones_core (u : Int) a b c d e f _ w (by omega) (by omega) (by omega) (by omega) (by omega) (by omega) (by omega) ?_ ?_ ?_ ?_ ?_ ?_ (by omega) (and127 f h9)
  · have q1 := q u 2
    have A1 := A (u / 2) 6148914691236517205 (by omega) (by omega)
    have A2 := A u 6148914691236517205 hu (by omega)
    simp only [Int.cast_ofNat_Int] at q1 A1 A2
    rw [q1, A1, A2, ← Int.natCast_add, ha, wrap_u64_nat a h1]
  · have q1 := q a 4
    have A1 := A (a / 4) 3689348814741910323 (by omega) (by omega)
    have A2 := A a 3689348814741910323 h1 (by omega)
    simp only [Int.cast_ofNat_Int] at q1 A1 A2
    rw [q1, A1, A2, ← Int.natCast_add, hb, wrap_u64_nat b h2]
  · have q1 := q b 16
    have A1 := A (b / 16 + b) 1085102592571150095 h3 (by omega)
    simp only [Int.cast_ofNat_Int] at q1 A1
    rw [q1, ← Int.natCast_add, wrap_u64_nat _ h3, A1, hc]
  · have q1 := q c 256
    simp only [Int.cast_ofNat_Int] at q1
    rw [q1, ← Int.natCast_add, hd, wrap_u64_nat _ h5]
  · have q1 := q d 65536
    simp only [Int.cast_ofNat_Int] at q1
    rw [q1, ← Int.natCast_add, he, wrap_u64_nat _ h6]
  · have q1 := q e 4294967296
    simp only [Int.cast_ofNat_Int] at q1
    rw [q1, ← Int.natCast_add, hf, wrap_u64_nat _ h7]

/-- The table lies in its variable. -/
def Tab (w : World) : Prop := ∀ j, j < Lib.deBruijn64tab.length → w.cell? ⟨0, j, none⟩ = some (.int .u8 ((Lib.deBruijn64tab.getD j 0 : Nat) : Int))

theorem Tab.old {w w' : World} (hT : Tab w) (h : ∀ i, i < w.heap.size → w'.heap[i]? = w.heap[i]?) : Tab w' := fun j hj => by
  have := hT j hj
  rw [← this]
  exact World.cell?_of_block (h _ (World.block_lt_of_cell? w _ this))

theorem tz_core (x k idx : Nat) (w : World) (hx0 : ((x : Int) == 0) = false)
    (key : IntKind.u64.wrap (bits BinOp.and IntKind.u64 (x : Int) (IntKind.u64.wrap (-(x : Int))) * 285870213051353865) / 288230376151711744 = (idx : Int))
    (hi : idx < 64) (hk : k < 64) (hcell : w.cell? ⟨0, idx, none⟩ = some (.int .u8 k)) :
    Calls Tryd.prog 42 #[.int .u64 x] w fun e w' => e = .returned (.int .i64 k) ∧ w = w' := by
  go_enter Tryd.func42, Tryd.ntmps42
  go_wp2_with (simp only [key])
  go_ret
  exact ⟨rfl, rfl⟩
theorem tz_zero (w : World) :
    Calls Tryd.prog 42 #[.int .u64 0] w fun e w' => e = .returned (.int .i64 64) ∧ w = w' := by
  go_enter Tryd.func42, Tryd.ntmps42
  go_wp2
  go_ret
  exact ⟨rfl, rfl⟩
end
theorem tz_key (x a : Nat) (hx : x < 18446744073709551616) (hx0 : x ≠ 0) (hlow : x &&& (18446744073709551616 - x) = a) :
    IntKind.u64.wrap (bits BinOp.and IntKind.u64 (x : Int) (IntKind.u64.wrap (-(x : Int))) * 285870213051353865) / 288230376151711744 = ((a * 285870213051353865 % 18446744073709551616 / 288230376151711744 : Nat) : Int) := by
  have e1 : IntKind.u64.wrap (-(x : Int)) = ((18446744073709551616 - x : Nat) : Int) := by rw [IntKind.wrap_u64]; omega
  rw [e1, bits_and_u64_nat x _ hx (by omega), hlow, IntKind.wrap_u64]
  omega
theorem tz_any (x : Nat) (hx : x < 18446744073709551616) (w : World) (hT : Tab w) :
    Calls Tryd.prog 42 #[.int .u64 x] w fun e w' => e = .returned (.int .i64 (Lib.ctz 64 x)) ∧ w = w' := by
  by_cases hx0 : x = 0
  · subst hx0
    exact tz_zero w
  · obtain ⟨hlow, hk⟩ := Lib.lowest_bit 64 x hx0 hx
    obtain ⟨hi, htab⟩ := Lib.deBruijn64_at _ hk
    have hcell := hT _ hi
    rw [htab] at hcell
    exact tz_core x _ _ w (by simp; omega) (tz_key x _ hx hx0 hlow) hi hk hcell
end Go.Proofs.YtompmejidaddoaaDoor
