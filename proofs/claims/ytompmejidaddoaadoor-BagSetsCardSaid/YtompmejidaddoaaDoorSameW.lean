/- The walk of SameInts: are two lists of numbers the same? -/
import Derived.Test.YtompmejidaddoaaDoorSetS
set_option linter.unusedVariables false
set_option linter.unusedSimpArgs false
namespace Go.Proofs.YtompmejidaddoaaDoor
open Go.RowKit

section
set_option maxRecDepth 100000
set_option maxHeartbeats 400000
theorem si_lens (A B : Option Addr) (n m c d : Nat) (w : World) (hn : (n : Int) ≤ 9223372036854775807) (hm : (m : Int) ≤ 9223372036854775807) (h : ((n : Int) == (m : Int)) = false) (h2 : ((n : Int) != (m : Int)) = true) :
    Calls Tryd.prog 36 #[.slice A n c, .slice B m d] w fun e w' => e = .returned (.bool false) ∧ Below w.heap.size w w' := by
  go_enter Tryd.func36, Tryd.ntmps36
  go_wp2
  go_ret
  exact ⟨rfl, Below.refl _ _⟩
theorem si_same (v1 v2 : Value) (xs ys : List Int) (b1 b2 : Nat) (w : World) (hn : (xs.length : Int) ≤ 9223372036854775807) (hl : xs.length = ys.length) (h1 : w.ownsRow b1 3 1 v1 xs.length (i64s xs)) (h2 : w.ownsRow b2 3 1 v2 ys.length (i64s ys)) :
    Calls Tryd.prog 36 #[v1, v2] w fun e w' => e = .returned (.bool (decide (xs = ys))) ∧ Below w.heap.size w w' := by
  rw [← hl] at h2
  obtain ⟨A, c, rfl⟩ := own_shape h1
  obtain ⟨B, d, rfl⟩ := own_shape h2
  have HL := Hd.mk hl
  have H1 := Hd.mk h1
  have H2 := Hd.mk h2
  have hq : ((xs.length : Int) != (xs.length : Int)) = false := by simp
  clear hl h1 h2
  go_enter Tryd.func36, Tryd.ntmps36
  go_wp2_with fail
  go_loopg [5] xs.length (fun k i wr => ∃ j q, j + k = xs.length ∧ i = .int .i64 (j : Nat) ∧ (∀ t, t < j → nth xs t = nth ys t) ∧ w.drewN q = wr)
  case atStart => exact ⟨0, 0, by omega, rfl, fun t ht => by omega, rfl⟩
  case round =>
    obtain ⟨j, q, hj, rfl, hall, rfl⟩ := hrel
    have HJ := Hd.mk hj
    have HA := Hd.mk hall
    have hjm : j ≤ xs.length := by omega
    clear hj hall
    by_cases hlt : j < xs.length
    · obtain ⟨g1, cap1, hv1, hg1, hcap1, hcs1, hfr1⟩ := own_form H1.out (by omega)
      obtain ⟨g2, cap2, hv2, hg2, hcap2, hcs2, hfr2⟩ := own_form H2.out (by omega)
      injection hv1 with hA1 _ hcc1
      injection hv2 with hA2 _ hcc2
      subst hA1 hcc1 hA2 hcc2
      have hc1 := hcs1 j _ (i64s_nth xs j hlt)
      have hc2 := hcs2 j _ (i64s_nth ys j (by have := HL.out; omega))
      clear hcs1 hcs2 hfr1 hfr2
      by_cases he : nth xs j = nth ys j
      · have he2 : ((nth xs j) != (nth ys j)) = false := by simp [he]
        have HE := Hd.mk he
        clear he
        go_wp2_with fail
        go_quiet (fail)
        go_wp2
        go_roundg (gk - 1)
        case measure => have := HJ.out; omega
        case rel => exact ⟨j + 1, _, by have := HJ.out; omega, by go_num, fun t ht => by
          by_cases e : t = j
          · rw [e]; exact HE.out
          · exact HA.out t (by omega), rfl⟩
      · have he2 : ((nth xs j) != (nth ys j)) = true := by simp [he]
        have HE := Hd.mk he
        clear he
        go_wp2_with fail
        go_quiet (fail)
        go_wp2
        go_ret
        refine ⟨?_, ?_⟩
        · have : ¬ xs = ys := fun e => HE.out (by rw [e])
          simp [this]
        · exact ⟨rfl, rfl, rfl, Nat.le_refl _, fun _ _ => rfl⟩
    · have HQ := Hd.mk (show xs.length ≤ j by omega)
      go_wp2
      go_ret
      refine ⟨?_, ⟨rfl, rfl, rfl, Nat.le_refl _, fun _ _ => rfl⟩⟩
      have : xs = ys := take_eq_all HL.out (fun t ht => HA.out t (by have := HQ.out; omega))
      simp [this]
end
theorem si_any (v1 v2 : Value) (xs ys : List Int) (b1 b2 : Nat) (w : World) (hn : (xs.length : Int) ≤ 9223372036854775807) (hm : (ys.length : Int) ≤ 9223372036854775807) (h1 : w.ownsRow b1 3 1 v1 xs.length (i64s xs)) (h2 : w.ownsRow b2 3 1 v2 ys.length (i64s ys)) :
    Calls Tryd.prog 36 #[v1, v2] w fun e w' => e = .returned (.bool (decide (xs = ys))) ∧ Below w.heap.size w w' := by
  by_cases hl : xs.length = ys.length
  · exact si_same v1 v2 xs ys b1 b2 w hn hl h1 h2
  · obtain ⟨A, c, rfl⟩ := own_shape h1
    obtain ⟨B, d, rfl⟩ := own_shape h2
    have : decide (xs = ys) = false := decide_eq_false (fun e => hl (by rw [e]))
    rw [this]
    exact si_lens A B _ _ c d w hn hm (by simp; omega) (by simp; omega)

end Go.Proofs.YtompmejidaddoaaDoor
