/- The walk of slices.BinarySearch[[]string]. -/
import Derived.Test.YtompmejidaddoaaDoorQueueW
import Derived.Test.YtompmejidaddoaaDoorSetW
import Derived.Shelf.Spec.SearchS
set_option linter.unusedVariables false
set_option linter.unusedSimpArgs false
namespace Go.Proofs.YtompmejidaddoaaDoor
open Go.RowKit

def slt (a b : ByteArray) : Bool := Op.bytesLess a.toList b.toList
/-- Where Go's search ends, and whether the target stands there. -/
def bsI (ks : List ByteArray) (x : ByteArray) : Nat := Lib.bsGo (fun t => slt (sth ks t) x) ks.length 0 ks.length
def bsF (ks : List ByteArray) (x : ByteArray) : Bool := decide (bsI ks x < ks.length ∧ sth ks (bsI ks x) = x)

section
set_option maxRecDepth 100000
set_option maxHeartbeats 2000000
theorem isNaN_any (x : ByteArray) (w : World) : Calls Tryd.prog 51 #[.string x] w fun e w' => e = .returned (.bool false) ∧ w = w' := by
  go_enter Tryd.func51, Tryd.ntmps51
  go_wp2
  go_ret
  exact ⟨by simp, rfl⟩
theorem cisNaN_any (x : ByteArray) (w : World) : Calls Tryd.prog 58 #[.string x] w fun e w' => e = .returned (.bool false) ∧ w = w' := by
  go_enter Tryd.func58, Tryd.ntmps58
  go_wp2
  go_ret
  exact ⟨by simp, rfl⟩
theorem cmpless_any (x y : ByteArray) (w : World) : Calls Tryd.prog 50 #[.string x, .string y] w fun e w' => e = .returned (.bool (slt x y)) ∧ w = w' := by
  go_enter Tryd.func50, Tryd.ntmps50
  go_wp2_with (first | (go_at_call 58; refine (cisNaN_any _ _).mono ?_; rintro e w' ⟨rfl, rfl⟩))
  go_ret
  exact ⟨by simp [slt], rfl⟩
theorem bs_core (g n c : Nat) (Sx : Nat → ByteArray) (x : ByteArray) (w : World) (hn : n ≤ 1000000) (hc : ∀ j, j < n → w.cell? ⟨g, j, none⟩ = some (.string (Sx j))) :
    Calls Tryd.prog 39 #[.slice (some ⟨g, 0, none⟩) n c, .string x] w fun e w' =>
      e = .returned (.tuple #[.int .i64 (Lib.bsGo (fun t => slt (Sx t) x) n 0 n : Nat), .bool (decide (Lib.bsGo (fun t => slt (Sx t) x) n 0 n < n ∧ Sx (Lib.bsGo (fun t => slt (Sx t) x) n 0 n) = x))]) ∧ Below w.heap.size w w' := by
  obtain ⟨I, hI⟩ : ∃ I, Lib.bsGo (fun t => slt (Sx t) x) n 0 n = I := ⟨_, rfl⟩
  rw [hI]
  have HI := Hd.mk hI
  have HC := Hd.mk hc
  clear hI hc
  go_enter Tryd.func39, Tryd.ntmps39
  go_wp2_with fail
  go_loopg [7, 8] n (fun g s7 s8 wr => ∃ lo hi q : Nat, s7 = .int .i64 lo ∧ s8 = .int .i64 hi ∧ lo ≤ hi ∧ hi ≤ n ∧ hi - lo ≤ g ∧ w.drewN q = wr ∧ Lib.bsGo (fun t => slt (Sx t) x) g lo hi = I)
  case atStart => exact ⟨0, n, 0, rfl, rfl, Nat.zero_le _, Nat.le_refl _, by omega, rfl, HI.out⟩
  case round =>
    obtain ⟨lo, hi, q, rfl, rfl, hlh, hin, hg, rfl, hb⟩ := hrel
    by_cases hlt : lo < hi
    · have cm := HC.out ((lo + hi) / 2) (by omega)
      obtain ⟨g', rfl⟩ : ∃ g', gk = g' + 1 := ⟨gk - 1, by omega⟩
      have hm2 : (lo + hi) / 2 < n := by omega
      simp only [Lib.bsGo, hlt, if_true] at hb
      cases hyx : slt (Sx ((lo + hi) / 2)) x <;> simp only [hyx, if_true, Bool.false_eq_true, if_false] at hb
      · have HB := Hd.mk hb
        have HY : Hd _ := Hd.mk (fun W => cmpless_any (Sx ((lo + hi) / 2)) x W)
        rw [hyx] at HY
        clear hb hyx
        go_wp2_with (first | (go_at_call 50; refine (HY.out _).mono ?_; rintro e w' ⟨rfl, rfl⟩))
        go_roundg ((lo + hi) / 2 - lo)
        case measure => omega
        case rel => exact ⟨lo, (lo + hi) / 2, _, rfl, by rw [show ((lo : Int) + (hi : Int)) / 2 = (((lo + hi) / 2 : Nat) : Int) by omega], by omega, by omega, Nat.le_refl _, rfl, by rw [← HB.out]; exact Lib.bsGo_fuel _ _ _ _ _ (Nat.le_refl _) (by omega)⟩
      · have HB := Hd.mk hb
        have HY : Hd _ := Hd.mk (fun W => cmpless_any (Sx ((lo + hi) / 2)) x W)
        rw [hyx] at HY
        clear hb hyx
        go_wp2_with (first | (go_at_call 50; refine (HY.out _).mono ?_; rintro e w' ⟨rfl, rfl⟩))
        go_roundg (hi - ((lo + hi) / 2 + 1))
        case measure => omega
        case rel => exact ⟨(lo + hi) / 2 + 1, hi, _, by rw [show ((lo : Int) + (hi : Int)) / 2 + 1 = (((lo + hi) / 2 + 1 : Nat) : Int) by omega], rfl, by omega, hin, Nat.le_refl _, rfl, by rw [← HB.out]; exact Lib.bsGo_fuel _ _ _ _ _ (Nat.le_refl _) (by omega)⟩
    · have hh : hi = lo := by omega
      subst hh
      have HIe : Hd (hi = I) := ⟨by
        rw [← hb]
        cases gk <;> simp [Lib.bsGo]⟩
      clear hb
      by_cases hn2 : hi < n
      · have cl := HC.out hi hn2
        by_cases hyx : Sx hi = x
        · have HY := Hd.mk hyx
          rw [hyx] at cl
          clear hyx
          go_wp2_with (first | (go_at_call 51; refine (isNaN_any _ _).mono ?_; rintro e w' ⟨rfl, rfl⟩))
          go_ret2
          refine ⟨?_, ⟨rfl, rfl, rfl, Nat.le_refl _, fun _ _ => rfl⟩⟩
          rw [← HIe.out, decide_eq_true (show hi < n ∧ Sx hi = x from ⟨hn2, HY.out⟩)]
          first | rfl | simp [*]
        · have hne : ((Sx hi).toList == x.toList) = false := by
            rw [beq_eq_false_iff_ne]
            intro h
            apply hyx
            rw [Lib.toList_data, Lib.toList_data] at h
            cases hy : Sx hi with
            | mk yd => cases x with
              | mk xd => rw [hy] at h; exact congrArg ByteArray.mk (Array.toList_inj.1 h)
          have HY := Hd.mk hyx
          clear hyx
          go_wp2_with (first | (go_at_call 51; refine (isNaN_any _ _).mono ?_; rintro e w' ⟨rfl, rfl⟩))
          all_goals
            (go_ret2
             refine ⟨?_, ⟨rfl, rfl, rfl, Nat.le_refl _, fun _ _ => rfl⟩⟩
             rw [← HIe.out, decide_eq_false (show ¬ (hi < n ∧ Sx hi = x) from fun h => HY.out h.2)]
             first | rfl | simp [*])
      · go_wp2_with (first | (go_at_call 51; refine (isNaN_any _ _).mono ?_; rintro e w' ⟨rfl, rfl⟩))
        go_ret2
        refine ⟨?_, ⟨rfl, rfl, rfl, Nat.le_refl _, fun _ _ => rfl⟩⟩
        rw [← HIe.out, decide_eq_false (show ¬ (hi < n ∧ Sx hi = x) from fun h => hn2 h.1)]
        first | rfl | simp [*]
theorem bs_nil (A : Option Addr) (c : Nat) (x : ByteArray) (w : World) :
    Calls Tryd.prog 39 #[.slice A 0 c, .string x] w fun e w' => e = .returned (.tuple #[.int .i64 (0 : Nat), .bool false]) ∧ Below w.heap.size w w' := by
  go_enter Tryd.func39, Tryd.ntmps39
  go_wp2_with fail
  refine wp_loop_rounds 1 ?_
  rw [rounds_succ]
  go_wp2
  go_ret2
  exact ⟨rfl, Below.refl _ _⟩
end
theorem bs_any (v : Value) (ks : List ByteArray) (x : ByteArray) (base : Nat) (w : World) (hn : ks.length ≤ 1000000) (ho : w.ownsRow base 9 1 v ks.length (strs ks)) :
    Calls Tryd.prog 39 #[v, .string x] w fun e w' => e = .returned (.tuple #[.int .i64 (bsI ks x : Nat), .bool (bsF ks x)]) ∧ Below w.heap.size w w' := by
  by_cases h0 : ks.length = 0
  · have : ks = [] := List.eq_nil_of_length_eq_zero h0
    subst this
    obtain ⟨A, c, rfl⟩ := own_shape ho
    exact bs_nil A c x w
  · obtain ⟨g, cap, rfl, hg, hcap, hcs, hfr⟩ := own_form ho (by omega)
    exact bs_core g ks.length cap (sth ks) x w hn (fun j hj => hcs j _ (strs_get ks j hj))
end Go.Proofs.YtompmejidaddoaaDoor
