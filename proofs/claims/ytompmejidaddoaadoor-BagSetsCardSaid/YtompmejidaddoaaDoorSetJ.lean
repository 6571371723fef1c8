/- The walks of package bag's Set[int]: Join, Of, Same; and of slices.Equal. -/
import Derived.Test.YtompmejidaddoaaDoorSetC
set_option linter.unusedVariables false
set_option linter.unusedSimpArgs false
namespace Go.Proofs.YtompmejidaddoaaDoor
open Go.RowKit

/-- The table lies there as long as what L says holds. -/
def TabL (L : List HP) : Prop := ∀ w, Sat w L → Tab w
theorem TabL.cons {L : List HP} (h : TabL L) (x : HP) : TabL (x :: L) := fun w hs => h w hs.tail
theorem TabL.old {w0 : World} (h : Tab w0) : TabL [Old w0] := fun w hs => h.old hs.old

/-- Of which numbers a set of words may be. -/
def InSet (M : Nat → Bool) : Prop := ∀ i, M i = true → i < 4096
theorem InSet.of_mem {ws : List Nat} (hw : Words ws) : InSet (mem ws) := fun i h => mem_lt hw h
theorem mem_elems {M : Nat → Bool} (h : InSet M) (i : Nat) : i ∈ elems M ↔ M i = true := by
  unfold elems
  rw [List.mem_filter, List.mem_range]
  exact ⟨fun hh => hh.2, fun hh => ⟨h i hh, hh⟩⟩

theorem or_same {a b c : Bool} (h : b = c) : (a || b) = (a || c) := by rw [h]
/-- M with the first k of M2's. -/
def joinTo (M M2 : Nat → Bool) (k : Nat) (i : Nat) : Bool := M i || decide (i ∈ (elems M2).take k)
theorem joinTo_zero (M M2 : Nat → Bool) : joinTo M M2 0 = M := by funext i; simp [joinTo]
theorem joinTo_all {M M2 : Nat → Bool} (h : InSet M2) (k : Nat) (hk : (elems M2).length ≤ k) : joinTo M M2 k = fun i => M i || M2 i := by
  funext i
  unfold joinTo
  refine or_same ?_
  rw [List.take_of_length_le hk, Bool.eq_iff_iff, decide_eq_true_iff]
  exact mem_elems h i
theorem joinTo_succ (M M2 : Nat → Bool) (k : Nat) (hk : k < (elems M2).length) : putM (joinTo M M2 k) (((elems M2).getD k 0 : Nat) : Int) = joinTo M M2 (k + 1) := by
  have e1 : (elems M2).getD k 0 = (elems M2)[k] := by simp [hk]
  have hl : (elems M2)[k] < 4096 := by
    have := List.getElem_mem hk
    unfold elems at this
    exact List.mem_range.1 (List.mem_filter.1 this).1
  rw [e1]
  unfold putM
  rw [if_pos (by omega)]
  funext i
  unfold joinTo
  rw [List.take_succ_eq_append_getElem hk, Bool.or_assoc]
  refine or_same ?_
  simp only [List.mem_append, List.mem_singleton, Bool.decide_or, Int.toNat_natCast]

def el (M : Nat → Bool) (k : Nat) : Nat := (elems M).getD k 0
theorem el_lt (M : Nat → Bool) (k : Nat) (hk : k < (elems M).length) : el M k < 4096 := by
  have e1 : el M k = (elems M)[k] := by simp [el, hk]
  have := List.getElem_mem hk
  unfold elems at this
  rw [e1]
  exact List.mem_range.1 (List.mem_filter.1 this).1
theorem allI_get (M : Nat → Bool) (k : Nat) (hk : k < (elems M).length) : (i64s (allI M))[k]? = some (.int .i64 (el M k : Nat)) := by simp [i64s, allI, ints, el, hk]

section
set_option maxRecDepth 100000
set_option maxHeartbeats 400000
theorem join_any (g : Nat) (v2 : Value) (M M2 : Nat → Bool) (w : World) (L : List HP) (hT : TabL L) (hs : Sat w (SetH g M :: SetV v2 M2 :: L)) :
    Calls Tryd.prog 32 #[.pointer (some ⟨g, 0, none⟩), .agg #[v2]] w fun e w' => e = .returned (.bool (decide ((elems M).length < (elems fun i => M i || M2 i).length))) ∧ Sat w' (SetH g (fun i => M i || M2 i) :: SetV v2 M2 :: L) ∧ Ext w w' := by
  obtain ⟨ws, v, ⟨hw, rfl⟩, hs1⟩ := SetH_iff.1 hs
  obtain ⟨ws2, ⟨hw2, rfl⟩, hs2⟩ := SetV_iff.1 (hs1.front 2 rfl)
  obtain ⟨A, c, rfl⟩ := own_shape (hs2.rowAt 2 rfl)
  obtain ⟨A2, c2, rfl⟩ := own_shape (hs2.rowAt 0 rfl)
  have HW := Hd.mk hw
  have HW2 := Hd.mk hw2
  have HS : Sat (w.alloc (.cells #[.slice A2 ws2.length c2] 28)) (Blk w.heap.size (.cells #[.slice A2 ws2.length c2] 28) :: SetH g (mem ws) :: SetV (.slice A2 ws2.length c2) (mem ws2) :: L) := hs.alloc _
  have HE := (Ext.refl w).alloc (.cells #[.slice A2 ws2.length c2] 28)
  have hc0 : w.cell? ⟨g, 0, none⟩ = some (.slice A ws.length c) := blk_cell (hs2.blkAt 1 rfl) 0
  have hg0 : g < w.heap.size := (hs2.front 1 rfl).lt
  have H1 := Hd.mk (len_any _ ws _ hw ((HS.tail.tail).below (Below.refl _ _) |> fun _ => (hs2.alloc_skip (.cells #[.slice A2 ws2.length c2] 28)).rowAt 2 rfl))
  clear hw hw2 hs hs1 hs2
  go_enter Tryd.func32, Tryd.ntmps32
  go_wp2_with fail
  refine H1.out.mono ?_
  rintro e w1 ⟨rfl, hb1⟩
  have HS1 := HS.below hb1
  have HE1 := HE.trans (Ext.of_below hb1)
  have hcb : w1.cell? ⟨w.heap.size, 0, none⟩ = some (.slice A2 ws2.length c2) := blk_cell HS1.blk 0
  clear HS HE hc0 H1 hb1
  go_wp2_with fail
  have hT1 := hT w1 HS1.tail.tail.tail
  obtain ⟨ws3, ⟨hw3, hm3⟩, hs3⟩ := SetV_iff.1 (HS1.front 2 rfl)
  have H2 := all_loop _ ws3 w1 hw3 (by
    have h9 := hs3.rowAt 0 rfl
    exact h9) hT1
  rw [hm3] at H2
  have H3 := Hd.mk H2
  clear H2 hs3 hm3 hw3 hT1
  refine H3.out.mono ?_
  rintro e w2 ⟨v3, rfl, hf⟩
  obtain ⟨A3, c3, rfl⟩ := own_shape hf.own
  have HS2 := hf.sat HS1
  have HE2 := HE1.trans (Ext.of_below hf.below)
  have HI := Hd.mk (elems_le (mem ws2))
  clear hf H3 HS1 HE1 hcb
  go_wp2_with fail
  go_loopg [15] (elems (mem ws2)).length (fun k i wr => ∃ j, j + k = (elems (mem ws2)).length ∧ i = .int .i64 (j : Nat) ∧ Sat wr (RowH 3 1 (.slice A3 (elems (mem ws2)).length c3) (elems (mem ws2)).length (i64s (allI (mem ws2))) :: Blk w.heap.size (.cells #[.slice A2 ws2.length c2] 28) :: SetH g (joinTo (mem ws) (mem ws2) j) :: SetV (.slice A2 ws2.length c2) (mem ws2) :: L) ∧ Ext w wr)
  case atStart => exact ⟨0, by omega, rfl, by rw [joinTo_zero]; exact HS2, HE2⟩
  case round =>
    obtain ⟨j, hj, rfl, hs, he⟩ := hrel
    have HJ := Hd.mk hj
    have hjm : j ≤ (elems (mem ws2)).length := by omega
    clear hj
    by_cases hlt : j < (elems (mem ws2)).length
    · obtain ⟨g1, cap1, hv1, hg1, hcap1, hcs1, hfr1⟩ := own_form (hs.rowAt 0 rfl) (by omega)
      injection hv1 with hA1 _ hcc1
      subst hA1 hcc1
      have hc1 := hcs1 j (.int .i64 (el (mem ws2) j : Nat)) (allI_get _ j hlt)
      have hel : el (mem ws2) j < 4096 := el_lt _ _ hlt
      have hle := HI.out
      clear hcs1 hfr1
      have H4 := Hd.mk (put_any g _ ((el (mem ws2) j : Nat) : Int) wr _ (hs.front 2 rfl) (by omega))
      go_wp2_with (go_at_call 11; refine H4.out.mono ?_; rintro e w3 ⟨rfl, hs4, he4⟩)
      go_roundg (gk - 1)
      case measure => have := HJ.out; omega
      case rel =>
        refine ⟨j + 1, by have := HJ.out; omega, by go_num, ?_, he.trans he4⟩
        rw [el, joinTo_succ _ _ _ hlt] at hs4
        exact (hs4.front 2 rfl).front 2 rfl
    · have HQ := Hd.mk (show (elems (mem ws2)).length ≤ j by omega)
      obtain ⟨ws4, v4, ⟨hw4, hm4⟩, hs4⟩ := SetH_iff.1 (hs.front 2 rfl)
      obtain ⟨A4, c4, rfl⟩ := own_shape (hs4.rowAt 1 rfl)
      have hc4 : wr.cell? ⟨g, 0, none⟩ = some (.slice A4 ws4.length c4) := blk_cell hs4.blk 0
      have H5 := len_any _ ws4 wr hw4 (by
        have h9 := hs4.rowAt 1 rfl
        exact h9)
      rw [hm4, joinTo_all (InSet.of_mem HW2.out) j HQ.out] at H5
      have H6 := Hd.mk H5
      have HS5 := hs.drop 0 |>.drop 0
      rw [joinTo_all (InSet.of_mem HW2.out) j HQ.out] at HS5
      have hl1 := elems_le (mem ws)
      have hl2 := elems_le fun i => mem ws i || mem ws2 i
      clear H5 hs4 hw4 hm4 hs
      go_wp2_with (go_at_call 25; refine H6.out.mono ?_; rintro e w3 ⟨rfl, hb3⟩)
      go_ret
      exact ⟨by simp, HS5.below hb3, he.trans (Ext.of_below hb3)⟩
end
end Go.Proofs.YtompmejidaddoaaDoor
