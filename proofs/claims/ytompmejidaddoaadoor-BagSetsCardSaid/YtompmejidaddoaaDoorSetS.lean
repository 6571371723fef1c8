/- The walks of slices.Equal[[]int], and of package bag's Set[int]: Same, Of. -/
import Derived.Test.YtompmejidaddoaaDoorSetJ
set_option linter.unusedVariables false
set_option linter.unusedSimpArgs false
namespace Go.Proofs.YtompmejidaddoaaDoor
open Go.RowKit

/-- The j-th number. -/
def nth (xs : List Int) (j : Nat) : Int := xs.getD j 0
theorem i64s_nth (xs : List Int) (j : Nat) (h : j < xs.length) : (i64s xs)[j]? = some (.int .i64 (nth xs j)) := i64s_get xs j h
theorem take_eq_all {xs ys : List Int} (hl : xs.length = ys.length) (h : ∀ j, j < xs.length → nth xs j = nth ys j) : xs = ys :=
  List.ext_getElem hl (fun j h1 h2 => by have := h j h1; simpa [nth, h1, h2] using this)

section
set_option maxRecDepth 100000
set_option maxHeartbeats 400000
theorem equal_lens (A B : Option Addr) (n m c d : Nat) (w : World) (hn : (n : Int) ≤ 9223372036854775807) (hm : (m : Int) ≤ 9223372036854775807) (h : ((n : Int) == (m : Int)) = false) (h2 : ((n : Int) != (m : Int)) = true) :
    Calls Tryd.prog 49 #[.slice A n c, .slice B m d] w fun e w' => e = .returned (.bool false) ∧ Below w.heap.size w w' := by
  go_enter Tryd.func49, Tryd.ntmps49
  go_wp2
  go_ret
  exact ⟨rfl, Below.refl _ _⟩
theorem equal_same (v1 v2 : Value) (xs ys : List Int) (b1 b2 : Nat) (w : World) (hn : (xs.length : Int) ≤ 9223372036854775807) (hl : xs.length = ys.length) (h1 : w.ownsRow b1 3 1 v1 xs.length (i64s xs)) (h2 : w.ownsRow b2 3 1 v2 ys.length (i64s ys)) :
    Calls Tryd.prog 49 #[v1, v2] w fun e w' => e = .returned (.bool (decide (xs = ys))) ∧ Below w.heap.size w w' := by
  rw [← hl] at h2
  obtain ⟨A, c, rfl⟩ := own_shape h1
  obtain ⟨B, d, rfl⟩ := own_shape h2
  have HL := Hd.mk hl
  have H1 := Hd.mk h1
  have H2 := Hd.mk h2
  have hq : ((xs.length : Int) != (xs.length : Int)) = false := by simp
  clear hl h1 h2
  go_enter Tryd.func49, Tryd.ntmps49
  go_wp2_with fail
  go_loopg [13] xs.length (fun k i wr => ∃ j q, j + k = xs.length ∧ i = .int .i64 (j : Nat) ∧ (∀ t, t < j → nth xs t = nth ys t) ∧ w.drewN q = wr)
  case atStart => exact ⟨0, 0, by omega, rfl, fun t ht => by omega, rfl⟩
  case round =>
    obtain ⟨j, q, hj, rfl, hall, rfl⟩ := hrel
    have HJ := Hd.mk hj
    have HA := Hd.mk hall
    have hjm : j ≤ xs.length := by omega
    clear hj hall
    by_cases hlt : j < xs.length
    · obtain ⟨g1, cap1, hv1, hg1, hcap1, hcs1, hfr1⟩ := own_form H1.out (by omega)
      obtain ⟨g2, cap2, hv2, hg2, hcap2, hcs2, hfr2⟩ := own_form H2.out (by omega)
      injection hv1 with hA1 _ hcc1
      injection hv2 with hA2 _ hcc2
      subst hA1 hcc1 hA2 hcc2
      have hc1 := hcs1 j _ (i64s_nth xs j hlt)
      have hc2 := hcs2 j _ (i64s_nth ys j (by have := HL.out; omega))
      clear hcs1 hcs2 hfr1 hfr2
      by_cases he : nth xs j = nth ys j
      · have he2 : ((nth xs j) != (nth ys j)) = false := by simp [he]
        have HE := Hd.mk he
        clear he
        go_wp2_with fail
        go_quiet (fail)
        go_wp2
        go_roundg (gk - 1)
        case measure => have := HJ.out; omega
        case rel => exact ⟨j + 1, _, by have := HJ.out; omega, by go_num, fun t ht => by
          by_cases e : t = j
          · rw [e]; exact HE.out
          · exact HA.out t (by omega), rfl⟩
      · have he2 : ((nth xs j) != (nth ys j)) = true := by simp [he]
        have HE := Hd.mk he
        clear he
        go_wp2_with fail
        go_quiet (fail)
        go_wp2
        go_ret
        refine ⟨?_, ?_⟩
        · have : ¬ xs = ys := fun e => HE.out (by rw [e])
          simp [this]
        · exact ⟨rfl, rfl, rfl, Nat.le_refl _, fun _ _ => rfl⟩
    · have HQ := Hd.mk (show xs.length ≤ j by omega)
      go_wp2
      go_ret
      refine ⟨?_, ⟨rfl, rfl, rfl, Nat.le_refl _, fun _ _ => rfl⟩⟩
      have : xs = ys := take_eq_all HL.out (fun t ht => HA.out t (by have := HQ.out; omega))
      simp [this]
end
theorem equal_any (v1 v2 : Value) (xs ys : List Int) (b1 b2 : Nat) (w : World) (hn : (xs.length : Int) ≤ 9223372036854775807) (hm : (ys.length : Int) ≤ 9223372036854775807) (h1 : w.ownsRow b1 3 1 v1 xs.length (i64s xs)) (h2 : w.ownsRow b2 3 1 v2 ys.length (i64s ys)) :
    Calls Tryd.prog 49 #[v1, v2] w fun e w' => e = .returned (.bool (decide (xs = ys))) ∧ Below w.heap.size w w' := by
  by_cases hl : xs.length = ys.length
  · exact equal_same v1 v2 xs ys b1 b2 w hn hl h1 h2
  · obtain ⟨A, c, rfl⟩ := own_shape h1
    obtain ⟨B, d, rfl⟩ := own_shape h2
    have : decide (xs = ys) = false := decide_eq_false (fun e => hl (by rw [e]))
    rw [this]
    exact equal_lens A B _ _ c d w hn hm (by simp; omega) (by simp; omega)

theorem allI_length (M : Nat → Bool) : (allI M).length = (elems M).length := by simp [allI, ints]
/-- What 'Same' answers. -/
def sameM (M M2 : Nat → Bool) : Bool := decide (allI M = allI M2)
theorem sameM_iff {M M2 : Nat → Bool} (h : InSet M) (h2 : InSet M2) : sameM M M2 = true ↔ M = M2 := by
  unfold sameM
  rw [decide_eq_true_iff]
  refine ⟨fun e2 => funext fun i => ?_, fun e => by rw [e]⟩
  have e3 : elems M = elems M2 := by
    have := congrArg (List.map Int.toNat) e2
    have q : ∀ l : List Nat, (ints l).map Int.toNat = l := fun l => by
      rw [ints, List.map_map]
      induction l with
      | nil => rfl
      | cons a l ih => rw [List.map_cons, ih]; rfl
    rw [allI, allI, q, q] at this
    exact this
  have h3 := mem_elems h i
  rw [e3, mem_elems h2 i] at h3
  rw [Bool.eq_iff_iff]
  exact h3.symm

theorem own_below {w W : World} {base e size n : Nat} {v : Value} {xs : List Value} (hb : Below w.heap.size w W) (ho : w.ownsRow base e size v n xs) : W.ownsRow base e size v n xs :=
  ho.kept (row := none) ⟨hb.os, hb.tape, hb.output, hb.size, fun k hk _ => hb.block k hk⟩ (Classical.em _)

section
set_option maxRecDepth 100000
set_option maxHeartbeats 1000000
theorem same_any (v1 v2 : Value) (ws1 ws2 : List Nat) (w : World) (hw1 : Words ws1) (hw2 : Words ws2) (hT : Tab w) (h1 : w.ownsRow 0 84 1 v1 ws1.length (u64s ws1)) (h2 : w.ownsRow 0 84 1 v2 ws2.length (u64s ws2)) :
    Calls Tryd.prog 33 #[.agg #[v1], .agg #[v2]] w fun e w' => e = .returned (.bool (sameM (mem ws1) (mem ws2))) ∧ Below w.heap.size w w' := by
  have C1 := Hd.mk fun W (hb : Below w.heap.size w W) => all_loop v1 ws1 W hw1 (own_below hb h1) (hT.old hb.block)
  have C2 := Hd.mk fun W (hb : Below w.heap.size w W) => all_loop v2 ws2 W hw2 (own_below hb h2) (hT.old hb.block)
  have C3 : Hd (∀ (W : World) (x1 x2 : Value) (b1 b2 : Nat), W.ownsRow b1 3 1 x1 (elems (mem ws1)).length (i64s (allI (mem ws1))) → W.ownsRow b2 3 1 x2 (elems (mem ws2)).length (i64s (allI (mem ws2))) →
      Calls Tryd.prog 49 #[x1, x2] W fun e w' => e = .returned (.bool (sameM (mem ws1) (mem ws2))) ∧ Below W.heap.size W w') := ⟨fun W x1 x2 b1 b2 g1 g2 => by
    have l1 := allI_length (mem ws1)
    have l2 := allI_length (mem ws2)
    rw [← l1] at g1
    rw [← l2] at g2
    exact equal_any x1 x2 (allI (mem ws1)) (allI (mem ws2)) b1 b2 W (by have := elems_le (mem ws1); omega) (by have := elems_le (mem ws2); omega) g1 g2⟩
  obtain ⟨A, c, rfl⟩ := own_shape h1
  obtain ⟨B, d, rfl⟩ := own_shape h2
  clear hw1 hw2 hT h1 h2
  go_enter Tryd.func33, Tryd.ntmps33
  go_wp2_with fail
  have HB2 := Hd.mk (((Below.refl w.heap.size w).alloc (Nat.le_refl _) (.cells #[.slice A ws1.length c] 28)).alloc (by simp) (.cells #[.slice B ws2.length d] 28))
  have HK2 := Hd.mk (show ((w.alloc (.cells #[.slice A ws1.length c] 28)).alloc (.cells #[.slice B ws2.length d] 28)).cell? ⟨w.heap.size + 1, 0, none⟩ = some (.slice B ws2.length d) from by rw [← alloc_size w (.cells #[.slice A ws1.length c] 28)]; exact blk_cell (heap_alloc_new _ _) 0)
  go_region_with ((first | (go_at_call 15; (with_reducible refine (C1.out _ ?_).mono ?_); (focus (first | exact HB2.out | exact HB2.out.drew)); rintro e W1 ⟨x1, rfl, hf1⟩; have HF1 := Hd.mk hf1; have HB1 := Hd.mk (HB2.out.drew.trans (hf1.below.mono HB2.out.drew.size)); have hk1 : W1.cell? ⟨w.heap.size + 1, 0, none⟩ = some (.slice B ws2.length d) := cell_later hf1.below (HK2.out.trans rfl); clear hf1) | (go_at_call 15; (with_reducible refine (C2.out _ HB1.out).mono ?_); rintro e W2 ⟨x2, rfl, hf2⟩; have HF2 := Hd.mk hf2; clear hf2) | (go_at_call 49; (with_reducible refine (C3.out _ _ _ _ _ (own_below HF2.out.below HF1.out.own) HF2.out.own).mono ?_); rintro e W3 ⟨rfl, hb3⟩; have HB3 := Hd.mk (HB1.out.trans ((HF2.out.below.mono HB1.out.size).trans (hb3.mono (Nat.le_trans HB1.out.size HF2.out.below.size)))); clear hb3)))
  all_goals go_wp2
  all_goals go_ret
  all_goals exact ⟨rfl, HB3.out⟩
end
end Go.Proofs.YtompmejidaddoaaDoor
