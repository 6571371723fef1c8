/- The walks of package bag's Set[int]: Cut, Less, Meet. -/
import Derived.Test.YtompmejidaddoaaDoorSetL
set_option linter.unusedVariables false
set_option linter.unusedSimpArgs false
namespace Go.Proofs.YtompmejidaddoaaDoor
open Go.RowKit

/-- A set's value: whose words it bears. -/
def SetV (v : Value) (M : Nat → Bool) : HP := HP.ex fun ws : List Nat => HP.and (Words ws ∧ mem ws = M) (RowH 84 1 v ws.length (u64s ws))
theorem SetV_iff {w : World} {v : Value} {M : Nat → Bool} {L : List HP} : Sat w (SetV v M :: L) ↔ ∃ ws, (Words ws ∧ mem ws = M) ∧ Sat w (RowH 84 1 v ws.length (u64s ws) :: L) := by
  simp only [SetV, Sat_ex, Sat_and]
theorem SetH_SetV {w : World} {g : Nat} {M : Nat → Bool} {L : List HP} : Sat w (SetH g M :: L) ↔ ∃ v, Sat w (Blk g (.cells #[v] 28 (0, 0)) :: SetV v M :: L) := by
  rw [SetH_iff]
  constructor
  · rintro ⟨ws, v, h, hs⟩
    exact ⟨v, (SetV_iff.2 ⟨ws, h, hs.front 1 rfl⟩).front 1 rfl⟩
  · rintro ⟨v, hs⟩
    obtain ⟨ws, h, hs⟩ := SetV_iff.1 (hs.front 1 rfl)
    exact ⟨ws, v, h, hs.front 1 rfl⟩

def hasM (M : Nat → Bool) (x : Int) : Bool := decide (0 ≤ x) && M x.toNat
def cutM (M : Nat → Bool) (x : Int) : Nat → Bool := fun i => M i && !decide ((i : Int) = x)

section cut
set_option maxRecDepth 100000
set_option maxHeartbeats 400000
theorem cut_no (g : Nat) (v : Value) (x : Int) (w : World) (hc : w.cell? ⟨g, 0, none⟩ = some v)
    (hh : Calls Tryd.prog 26 #[.agg #[v], .int .i64 x] w fun e w' => e = .returned (.bool false) ∧ Below w.heap.size w w') :
    Calls Tryd.prog 27 #[.pointer (some ⟨g, 0, none⟩), .int .i64 x] w fun e w' => e = .returned (.bool false) ∧ Below w.heap.size w w' := by
  have HH := Hd.mk hh
  clear hh
  go_enter Tryd.func27, Tryd.ntmps27
  go_wp2_with fail
  refine HH.out.mono ?_
  rintro e w1 ⟨rfl, hb⟩
  go_wp2
  go_ret
  exact ⟨rfl, hb⟩
theorem cut_is (g : Nat) (v : Value) (ws : List Nat) (x : Int) (w : World) (L : List HP) (h0 : 0 ≤ x) (h1 : x < 4096) (hw : Words ws) (hn : hasW ws x = true) (hlt : x / 64 < ws.length)
    (hs : Sat w (Blk g (.cells #[v] 28 (0, 0)) :: RowH 84 1 v ws.length (u64s ws) :: L)) :
    Calls Tryd.prog 27 #[.pointer (some ⟨g, 0, none⟩), .int .i64 x] w fun e w' => e = .returned (.bool true) ∧ Sat w' (SetH g (fun i => mem ws i && !decide (i = x.toNat)) :: L) ∧ Ext w w' := by
  have hc : w.cell? ⟨g, 0, none⟩ = some v := blk_cell hs.blk 0
  have HH := Hd.mk (has_any v ws x w hw (hs.rowAt 1 rfl) (by omega))
  rw [hn] at HH
  have HN := Hd.mk hn
  have HW := Hd.mk hw
  clear hn hw
  go_enter Tryd.func27, Tryd.ntmps27
  go_wp2_with fail
  refine HH.out.mono ?_
  rintro e w1 ⟨rfl, hb⟩
  have hs1 := hs.below hb
  have he1 := Ext.of_below hb
  clear hc HH hs hb
  obtain ⟨g2, cap, rfl, hg2, hcap, hcs, hfr⟩ := own_form (hs1.rowAt 1 rfl) (by omega)
  have hc : w1.cell? ⟨g, 0, none⟩ = some (.slice (some ⟨g2, 0, none⟩) ws.length cap) := blk_cell hs1.blk 0
  have hcw := hcs (x / 64).toNat _ (u64s_get ws _ (by omega))
  have hfw := hfr (x / 64).toNat
  clear hcs hfr
  go_wp2_with fail
  go_region
  all_goals go_wp2
  all_goals go_ret
  all_goals
    rw [cut_word HW.out x h0]
    have h5 := hs1.rowSetAt 1 rfl (x / 64).toNat (.int .u64 ((ws.getD (x.toNat / 64) 0 &&& (18446744073709551615 - 2 ^ (x.toNat % 64)) : Nat) : Int))
    refine ⟨rfl, (SetH_iff.2 ⟨cutW ws x.toNat, .slice (some ⟨g2, 0, none⟩) ws.length cap, ⟨words_cutW HW.out _, ?_⟩, ?_⟩).drew, (he1.setCell _ _).drew⟩
    · funext i
      rw [mem_cutW HW.out _ _ (by omega)]
    · have e1 : (x / 64).toNat = x.toNat / 64 := by omega
      rw [u64s_set, e1] at h5
      rw [e1]
      have e2 : (cutW ws x.toNat).length = ws.length := by simp [cutW]
      rw [e2]
      exact h5
end cut

theorem cut_any (g : Nat) (M : Nat → Bool) (x : Int) (w : World) (L : List HP) (hs : Sat w (SetH g M :: L)) (hx : x ≤ 9223372036854775807) :
    Calls Tryd.prog 27 #[.pointer (some ⟨g, 0, none⟩), .int .i64 x] w fun e w' => e = .returned (.bool (hasM M x)) ∧ Sat w' (SetH g (cutM M x) :: L) ∧ Ext w w' := by
  obtain ⟨ws, v, ⟨hw, rfl⟩, hs'⟩ := SetH_iff.1 hs
  have hc : w.cell? ⟨g, 0, none⟩ = some v := blk_cell hs'.blk 0
  have hh := has_any v ws x w hw (hs'.rowAt 1 rfl) hx
  cases hm : hasW ws x with
  | false =>
    rw [hm] at hh
    refine (cut_no g v x w hc hh).mono fun e w' ⟨he, hb⟩ => ⟨by rw [he]; exact congrArg _ (congrArg _ hm.symm), ?_, Ext.of_below hb⟩
    have : cutM (mem ws) x = mem ws := by
      funext i
      unfold cutM
      by_cases hi : (i : Int) = x
      · subst hi
        have : mem ws i = false := by simpa [hasW] using hm
        simp [this]
      · simp [hi]
    rw [this]
    exact hs.below hb
  | true =>
    have h1 : 0 ≤ x ∧ mem ws x.toNat = true := by simpa [hasW] using hm
    have h2 := mem_lt hw h1.2
    have h3 : x / 64 < ws.length := by
      refine Int.not_le.1 fun hle => ?_
      have := mem_past (ws := ws) (i := x.toNat) (by omega)
      rw [this] at h1
      cases h1.2
    refine (cut_is g v ws x w L h1.1 (by omega) hw hm h3 hs').mono fun e w' ⟨he, hb, hx⟩ => ⟨by rw [he]; exact congrArg _ (congrArg _ hm.symm), ?_, hx⟩
    have : cutM (mem ws) x = fun i => mem ws i && !decide (i = x.toNat) := by
      funext i
      unfold cutM
      have : ((i : Int) = x) ↔ i = x.toNat := by omega
      simp [this]
    rw [this]
    exact hb

section meet
set_option maxRecDepth 100000
set_option maxHeartbeats 400000
theorem less_any (g : Nat) (v2 : Value) (M M2 : Nat → Bool) (w : World) (L : List HP) (hs : Sat w (SetH g M :: SetV v2 M2 :: L)) :
    Calls Tryd.prog 31 #[.pointer (some ⟨g, 0, none⟩), .agg #[v2]] w fun e w' => e = .returned (.tuple #[]) ∧ Sat w' (SetH g (fun i => M i && !M2 i) :: SetV v2 M2 :: L) ∧ Ext w w' := by
  obtain ⟨ws, v, ⟨hw, rfl⟩, hs1⟩ := SetH_iff.1 hs
  obtain ⟨ws2, ⟨hw2, rfl⟩, hs2⟩ := SetV_iff.1 (hs1.front 2 rfl)
  obtain ⟨A, c, rfl⟩ := own_shape (hs2.rowAt 2 rfl)
  obtain ⟨A2, c2, rfl⟩ := own_shape (hs2.rowAt 0 rfl)
  have hn1 := hw.1
  have hn2 := hw2.1
  have HW := Hd.mk hw
  have HW2 := Hd.mk hw2
  have HS : Sat (w.alloc (.cells #[.slice A2 ws2.length c2] 28)) (Blk w.heap.size (.cells #[.slice A2 ws2.length c2] 28) :: RowH 84 1 (.slice A2 ws2.length c2) ws2.length (u64s ws2) :: Blk g (.cells #[.slice A ws.length c] 28 (0, 0)) :: RowH 84 1 (.slice A ws.length c) ws.length (u64s ws) :: L) := hs2.alloc _
  have HE := (Ext.refl w).alloc (.cells #[.slice A2 ws2.length c2] 28)
  have hc0 : w.cell? ⟨g, 0, none⟩ = some (.slice A ws.length c) := blk_cell (hs2.blkAt 1 rfl) 0
  have hg0 : g < w.heap.size := (hs2.front 1 rfl).lt
  clear hw hw2 hs hs1 hs2
  obtain ⟨m, HM, hms⟩ : ∃ m : Nat, Hd (ws.length ≤ m ∨ ws2.length ≤ m) ∧ (m = ws2.length ∧ ws2.length < ws.length ∨ m = ws.length ∧ ¬ ws2.length < ws.length) := by
    by_cases h : ws2.length < ws.length
    · exact ⟨ws2.length, ⟨by omega⟩, .inl ⟨rfl, h⟩⟩
    · exact ⟨ws.length, ⟨by omega⟩, .inr ⟨rfl, h⟩⟩
  rcases hms with ⟨hmd, hlt0⟩ | ⟨hmd, hlt0⟩
  all_goals
    have HD := Hd.mk hmd
    clear hmd
    go_enter Tryd.func31, Tryd.ntmps31
    go_wp2_with fail
    go_quiet (fail)
    go_wp2_with fail
    go_loopg [14] m (fun k i wr => ∃ j ws1, j + k = m ∧ i = .int .i64 (j : Nat) ∧ Words ws1 ∧ ws1.length = ws.length ∧ mem ws1 = lessTo ws ws2 j ∧ Sat wr (Blk w.heap.size (.cells #[.slice A2 ws2.length c2] 28) :: RowH 84 1 (.slice A2 ws2.length c2) ws2.length (u64s ws2) :: Blk g (.cells #[.slice A ws.length c] 28 (0, 0)) :: RowH 84 1 (.slice A ws.length c) ws.length (u64s ws1) :: L) ∧ Ext w wr)
    case atStart => exact ⟨0, ws, by omega, rfl, HW.out, rfl, by funext i; simp [lessTo], HS.drewN _, HE.drewN _⟩
    case round =>
      obtain ⟨j, ws1, hj, rfl, hw1, hl1, hm1, hs, he⟩ := hrel
      have HJ := Hd.mk hj
      have HW1 := Hd.mk hw1
      have HL1 := Hd.mk hl1
      have HM1 := Hd.mk hm1
      have hjm : j ≤ m := by omega
      clear hj hw1 hl1 hm1
      have hcb : wr.cell? ⟨w.heap.size, 0, none⟩ = some (.slice A2 ws2.length c2) := blk_cell hs.blk 0
      have hcg : wr.cell? ⟨g, 0, none⟩ = some (.slice A ws.length c) := blk_cell (hs.blkAt 2 rfl) 0
      by_cases hlt : j < m
      · have hlt1 : j < ws.length := by have := HD.out; omega
        have hlt2 : j < ws2.length := by have := HD.out; omega
        obtain ⟨g1, cap1, hv1, hg1, hcap1, hcs1, hfr1⟩ := own_form (hs.rowAt 3 rfl) (by omega)
        obtain ⟨g2, cap2, hv2, hg2, hcap2, hcs2, hfr2⟩ := own_form (hs.rowAt 1 rfl) (by omega)
        injection hv1 with hA1 _ hcc1
        injection hv2 with hA2 _ hcc2
        subst hA1 hcc1 hA2 hcc2
        have hc1 := hcs1 j _ (u64s_get ws1 j (by have := HL1.out; omega))
        have hc2 := hcs2 j _ (u64s_get ws2 j hlt2)
        have hf1 := hfr1 j
        clear hcs1 hcs2 hfr1 hfr2
        go_wp2_with fail
        go_region
        all_goals go_wp2
        all_goals go_roundg (gk - 1)
        case measure => have := HJ.out; omega
        case rel =>
          rw [u64_andNot_nat _ _ (show wd ws1 j < _ from HW1.out.2 j) (show wd ws2 j < _ from HW2.out.2 j)]
          refine ⟨j + 1, ws1.set j (wd ws1 j &&& (18446744073709551615 - wd ws2 j)), by have := HJ.out; omega, by go_num, words_set HW1.out _ _ (Nat.lt_of_le_of_lt Nat.and_le_left (HW1.out.2 j)), by have := HL1.out; simpa using this, lessTo_step HW2.out HW1.out j (by have := HL1.out; omega) HM1.out, ?_, ?_⟩
          · have h5 := hs.rowSetAt 3 rfl j (.int .u64 ((wd ws1 j &&& (18446744073709551615 - wd ws2 j) : Nat) : Int))
            rw [u64s_set] at h5
            first | exact h5.drew | exact h5
          · first | exact (he.setCell _ _).drew | exact he.setCell _ _
      · first | have q : ws2.length ≤ j := by have := HD.out; omega | have q : ws.length ≤ j := by have := HD.out; omega
        have hjm2 : j = m := by omega
        have HQ := Hd.mk hjm2
        clear hjm2
        go_wp2
        go_end0
        have h6 := HM1.out
        rw [HQ.out, lessTo_all m HM.out] at h6
        refine ⟨rfl, ?_, he⟩
        have h7 := hs.tail
        rw [← HL1.out] at h7
        exact (SetV_iff.2 ⟨ws2, ⟨HW2.out, rfl⟩, (SetH_iff.2 ⟨ws1, _, ⟨HW1.out, h6⟩, (h7.front 2 rfl).front 2 rfl⟩).front 1 rfl⟩).front 1 rfl
theorem meet_any (g : Nat) (v2 : Value) (M M2 : Nat → Bool) (w : World) (L : List HP) (hs : Sat w (SetH g M :: SetV v2 M2 :: L)) :
    Calls Tryd.prog 30 #[.pointer (some ⟨g, 0, none⟩), .agg #[v2]] w fun e w' => e = .returned (.tuple #[]) ∧ Sat w' (SetH g (fun i => M i && M2 i) :: SetV v2 M2 :: L) ∧ Ext w w' := by
  obtain ⟨ws, v, ⟨hw, rfl⟩, hs1⟩ := SetH_iff.1 hs
  obtain ⟨ws2, ⟨hw2, rfl⟩, hs2⟩ := SetV_iff.1 (hs1.front 2 rfl)
  obtain ⟨A, c, rfl⟩ := own_shape (hs2.rowAt 2 rfl)
  obtain ⟨A2, c2, rfl⟩ := own_shape (hs2.rowAt 0 rfl)
  have hn1 := hw.1
  have hn2 := hw2.1
  have HW := Hd.mk hw
  have HW2 := Hd.mk hw2
  have HS : Sat (w.alloc (.cells #[.slice A2 ws2.length c2] 28)) (Blk w.heap.size (.cells #[.slice A2 ws2.length c2] 28) :: RowH 84 1 (.slice A2 ws2.length c2) ws2.length (u64s ws2) :: Blk g (.cells #[.slice A ws.length c] 28 (0, 0)) :: RowH 84 1 (.slice A ws.length c) ws.length (u64s ws) :: L) := hs2.alloc _
  have HE := (Ext.refl w).alloc (.cells #[.slice A2 ws2.length c2] 28)
  have hc0 : w.cell? ⟨g, 0, none⟩ = some (.slice A ws.length c) := blk_cell (hs2.blkAt 1 rfl) 0
  have hg0 : g < w.heap.size := (hs2.front 1 rfl).lt
  clear hw hw2 hs hs1 hs2
  go_enter Tryd.func30, Tryd.ntmps30
  go_wp2_with fail
  go_loopg [10] ws.length (fun k i wr => ∃ j ws1, j + k = ws.length ∧ i = .int .i64 (j : Nat) ∧ Words ws1 ∧ ws1.length = ws.length ∧ mem ws1 = meetTo ws ws2 j ∧ Sat wr (Blk w.heap.size (.cells #[.slice A2 ws2.length c2] 28) :: RowH 84 1 (.slice A2 ws2.length c2) ws2.length (u64s ws2) :: Blk g (.cells #[.slice A ws.length c] 28 (0, 0)) :: RowH 84 1 (.slice A ws.length c) ws.length (u64s ws1) :: L) ∧ Ext w wr)
  case atStart => exact ⟨0, ws, by omega, rfl, HW.out, rfl, by funext i; simp [meetTo], HS, HE⟩
  case round =>
    obtain ⟨j, ws1, hj, rfl, hw1, hl1, hm1, hs, he⟩ := hrel
    have HJ := Hd.mk hj
    have HW1 := Hd.mk hw1
    have HL1 := Hd.mk hl1
    have HM1 := Hd.mk hm1
    have hjm : j ≤ ws.length := by omega
    clear hj hw1 hl1 hm1
    have hcb : wr.cell? ⟨w.heap.size, 0, none⟩ = some (.slice A2 ws2.length c2) := blk_cell hs.blk 0
    have hcg : wr.cell? ⟨g, 0, none⟩ = some (.slice A ws.length c) := blk_cell (hs.blkAt 2 rfl) 0
    by_cases hlt : j < ws.length
    · obtain ⟨g1, cap1, hv1, hg1, hcap1, hcs1, hfr1⟩ := own_form (hs.rowAt 3 rfl) (by omega)
      injection hv1 with hA1 _ hcc1
      subst hA1 hcc1
      have hc1 := hcs1 j _ (u64s_get ws1 j (by have := HL1.out; omega))
      have hf1 := hfr1 j
      clear hcs1 hfr1
      by_cases hlt2 : j < ws2.length
      · obtain ⟨g2, cap2, hv2, hg2, hcap2, hcs2, hfr2⟩ := own_form (hs.rowAt 1 rfl) (by omega)
        injection hv2 with hA2 _ hcc2
        subst hA2 hcc2
        have hc2 := hcs2 j _ (u64s_get ws2 j hlt2)
        clear hcs2 hfr2
        go_wp2_with fail
        go_region
        all_goals go_wp2
        all_goals go_roundg (gk - 1)
        case measure => have := HJ.out; omega
        case rel =>
          rw [u64_and_nat _ _ (show wd ws1 j < _ from HW1.out.2 j) (show wd ws2 j < _ from HW2.out.2 j)]
          refine ⟨j + 1, ws1.set j (wd ws1 j &&& wd ws2 j), by have := HJ.out; omega, by go_num, words_set HW1.out _ _ (Nat.lt_of_le_of_lt Nat.and_le_left (HW1.out.2 j)), by have := HL1.out; simpa using this, meetTo_step j _ (by have := HL1.out; omega) rfl HM1.out, ?_, ?_⟩
          · have h5 := hs.rowSetAt 3 rfl j (.int .u64 ((wd ws1 j &&& wd ws2 j : Nat) : Int))
            rw [u64s_set] at h5
            first | exact h5.drew | exact h5
          · first | exact (he.setCell _ _).drew | exact he.setCell _ _
      · go_wp2
        go_roundg (gk - 1)
        case measure => have := HJ.out; omega
        case rel =>
          refine ⟨j + 1, ws1.set j 0, by have := HJ.out; omega, by go_num, words_set HW1.out _ _ (by decide), by have := HL1.out; simpa using this, meetTo_step j _ (by have := HL1.out; omega) (by rw [wd_past (ws := ws2) (by omega)]; simp) HM1.out, ?_, he.setCell _ _⟩
          have h5 := hs.rowSetAt 3 rfl j (.int .u64 ((0 : Nat) : Int))
          rw [u64s_set] at h5
          exact h5
    · have HQ := Hd.mk (show j = ws.length by omega)
      go_wp2
      go_end0
      have h6 := HM1.out
      rw [HQ.out, meetTo_all _ (Nat.le_refl _)] at h6
      refine ⟨rfl, ?_, he⟩
      have h7 := hs.tail
      rw [← HL1.out] at h7
      exact (SetV_iff.2 ⟨ws2, ⟨HW2.out, rfl⟩, (SetH_iff.2 ⟨ws1, _, ⟨HW1.out, h6⟩, (h7.front 2 rfl).front 2 rfl⟩).front 1 rfl⟩).front 1 rfl
end meet
end Go.Proofs.YtompmejidaddoaaDoor
