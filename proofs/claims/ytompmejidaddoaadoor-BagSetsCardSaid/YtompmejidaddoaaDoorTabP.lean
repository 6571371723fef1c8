/- The walks under package bag's Table[string, int]. -/
import Derived.Test.YtompmejidaddoaaDoorTabA
import Derived.Test.YtompmejidaddoaaDoorBinS
import Derived.Test.YtompmejidaddoaaDoorLate
set_option linter.unusedVariables false
set_option linter.unusedSimpArgs false
namespace Go.Proofs.YtompmejidaddoaaDoor
open Go.RowKit Go.ChangeMaps

section
set_option maxRecDepth 100000
set_option maxHeartbeats 400000
theorem drew_size (w : World) : w.drew.heap.size = w.heap.size := rfl
def TPost (g n : Nat) (ks : List ByteArray) (vs : List Int) (L : List HP) (w : World) (e : Ending) (w' : World) : Prop :=
  ∃ vk' vv', e = .returned (.bool true) ∧ Sat w' (Blk g (.cells #[vk', vv'] 61 (0, 0)) :: RowH 9 1 vk' n (strs ks) :: RowH 3 1 vv' n (i64s vs) :: L) ∧ Ext w w'
theorem tput_end (g : Nat) (vk vv : Value) (ks : List ByteArray) (vs : List Int) (k : ByteArray) (x : Int) (w : World) (L : List HP) (hl : vs.length = ks.length) (hn : ks.length ≤ 1000000) (hi : bsI ks k = ks.length) (hf : bsF ks k = false)
    (hs : Sat w (Blk g (.cells #[vk, vv] 61 (0, 0)) :: RowH 9 1 vk ks.length (strs ks) :: RowH 3 1 vv ks.length (i64s vs) :: L)) :
    Calls Tryd.prog 21 #[.pointer (some ⟨g, 0, none⟩), .string k, .int .i64 x] w (TPost g (ks.length + 1) (ks ++ [k]) (vs ++ [x]) L w) := by
  obtain ⟨A, c, rfl⟩ := own_shape (hs.rowAt 1 rfl)
  obtain ⟨B, d, rfl⟩ := own_shape (hs.rowAt 2 rfl)
  have hb := bs_any (.slice A ks.length c) ks k 0 w hn (hs.rowAt 1 rfl)
  rw [hi, hf] at hb
  have hc0 := blk_cell hs.blk 0
  have HB := Hd.mk hb
  have HS := Hd.mk hs
  clear hs hi hf hb
  go_enter Tryd.func21, Tryd.ntmps21
  go_wp2_with (go_at_call 39; refine HB.out.mono ?_; rintro e w1 ⟨rfl, hw1⟩; have HW1 := Hd.mk hw1; clear hw1)
  have hs1 := HS.out.below HW1.out
  have hc0 := blk_cell hs1.blk 0
  have hc1 := blk_cell hs1.blk 1
  have hf0 := blk_free hs1.blk 0
  have hf1 := blk_free hs1.blk 1
  have hg := hs1.lt
  have HS1 := Hd.mk hs1
  have HEW := Hd.mk (Ext.of_below HW1.out)
  clear hs1 HS HB
  refine wp_region_any (by kernel_rfl) ?_
  change wpAny _ _ _ _ _ _ _ (World.drew _)
  refine wpAny_take (i := 0) (v := ?v0a) rfl (by kernel_rfl) (by kernel_rfl) (by kernel_rfl) (fun _ _ _ h => h) (Or.inl ⟨by rfl, ?h0a⟩) ?r0a
  case h0a => (intro w; go_simp; try with_reducible rfl)
  refine wpAny_take (i := 1) (v := ?v1a) rfl (by kernel_rfl) (by kernel_rfl) (by kernel_rfl) (fun _ _ _ h => h) (Or.inl ⟨by rfl, ?h1a⟩) ?r1a
  case h1a => (intro w; go_simp; try with_reducible rfl)
  refine wpAny_take (i := 2) (v := ?v2a) rfl (by kernel_rfl) (by kernel_rfl) (by kernel_rfl) (fun _ _ _ h => h) (Or.inl ⟨by rfl, ?h2a⟩) ?r2a
  case h2a => (intro w; go_simp; try with_reducible rfl)
  refine wpAny_take (i := 3) (v := ?v3a) rfl (by kernel_rfl) (by kernel_rfl) (by kernel_rfl) (fun _ _ _ h => h) (Or.inl ⟨by rfl, ?h3a⟩) ?r3a
  case h3a => (intro w; go_simp; try with_reducible rfl)
  refine wpAny_take (i := 4) (v := ?v4a) rfl (by kernel_rfl) (by kernel_rfl) (by kernel_rfl) (fun _ _ _ h => h) (Or.inl ⟨by rfl, ?h4a⟩) ?r4a
  case h4a => (intro w; go_simp; try with_reducible rfl)
  refine wpAny_take (i := 6) (v := ?v6a) rfl (by kernel_rfl) (by kernel_rfl) (by kernel_rfl) (fun _ _ _ h => h) (Or.inl ⟨by rfl, ?h6a⟩) ?r6a
  case h6a => (intro w; go_simp; try with_reducible rfl)
  refine wpAny_take (i := 7) (v := ?v7a) rfl (by kernel_rfl) (by kernel_rfl) (by kernel_rfl) (fun _ _ _ h => h) (Or.inl ⟨by rfl, ?h7a⟩) ?r7a
  case h7a => (intro w; go_simp; try with_reducible rfl)
  refine wpAny_take (i := 10) (v := ?v10a) rfl (by kernel_rfl) (by kernel_rfl) (by kernel_rfl) (fun _ _ _ h => h) (Or.inl ⟨by rfl, ?h10a⟩) ?r10a
  case h10a => (intro w; go_simp; try with_reducible rfl)
  refine wpAny_take (i := 11) (v := ?v11a) rfl (by kernel_rfl) (by kernel_rfl) (by kernel_rfl) (fun _ _ _ h => h) (Or.inl ⟨by rfl, ?h11a⟩) ?r11a
  case h11a => (intro w; go_simp; try with_reducible rfl)
  refine wpAny_take (i := 12) (v := ?v12a) rfl (by kernel_rfl) (by kernel_rfl) (by kernel_rfl) (fun _ _ _ h => h) (Or.inl ⟨by rfl, ?h12a⟩) ?r12a
  case h12a => (intro w; go_simp; try with_reducible rfl)
  refine wpAny_take (i := 14) (v := ?v14a) rfl (by kernel_rfl) (by kernel_rfl) (by kernel_rfl) (fun _ _ _ h => h) (Or.inl ⟨by rfl, ?h14a⟩) ?r14a
  case h14a => (intro w; go_simp; try with_reducible rfl)
  refine wpAny_take (i := 15) (v := ?v15a) rfl (by kernel_rfl) (by kernel_rfl) (by kernel_rfl) (fun _ _ _ h => h) (Or.inl ⟨by rfl, ?h15a⟩) ?r15a
  case h15a => (intro w; go_simp; try with_reducible rfl)
  refine wpAny_of_K (S := Two 9 17 (fun W => W.cell? ⟨g, 0, none⟩ = some (.slice A ks.length c)) (fun W => W.cell? ⟨g, 1, none⟩ = some (.slice B ks.length d))) _ _ _ _ ?_
  refine wpAnyK_take (i := 5) (k := 9) (v := ?v5) (fun W => W.cell? ⟨g, 0, none⟩ = some (.slice A ks.length c)) rfl (by kernel_rfl) (by kernel_rfl) (by kernel_rfl) (fun _ _ _ h => h) (by kernel_rfl) (by kernel_rfl) (Two.put (by decide) (by decide)) (fun l w h1 h2 => h2.1 h1) (Or.inl ⟨by rfl, ?h5⟩) ⟨fun _ => hc0, fun _ => hc1⟩ ?r5
  case h5 => (intro w hT; go_simp; try with_reducible rfl)
  refine wpAnyK_take (i := 13) (k := 17) (v := ?v13) (fun W => W.cell? ⟨g, 1, none⟩ = some (.slice B ks.length d)) rfl (by kernel_rfl) (by kernel_rfl) (by kernel_rfl) (fun _ _ _ h => h) (by kernel_rfl) (by kernel_rfl) (Two.put (by decide) (by decide)) (fun l w h1 h2 => h2.2 h1) (Or.inl ⟨by rfl, ?h13⟩) ⟨fun _ => hc0, fun _ => hc1⟩ ?r13
  case h13 => (intro w hT; go_simp; try with_reducible rfl)
  have HSD := Hd.mk HS1.out.drew
  have HED := Hd.mk (Ext.refl w1).drew
  refine wpAnyK_ready (rs := [8, 16]) (by kernel_rfl) (by simp) ?_
  refine AllReadyK.cons rfl (fun K hK => ?_) (AllReadyK.cons rfl (fun K hK => ?_) AllReadyK.nil)
  · skip
    go_simp
    have hs5 := HSD.out.alloc (.cells #[.string k] 9)
    try simp only [alloc_size, drew_size] at hs5
    have HE5 := Hd.mk (HED.out.alloc (.cells #[.string k] 9))
    have HS5 := Hd.mk hs5
    refine hK _ _ ⟨fun _ => blk_cell (hs5.blkAt 1 rfl) 0, fun _ => blk_cell (hs5.blkAt 1 rfl) 1⟩ ?_
    clear hK K hs5
    refine wpAnyK_ready (rs := [9, 16]) (by kernel_rfl) (by simp) ?_
    refine AllReadyK.cons rfl (fun K hK => ?_) (AllReadyK.cons rfl (fun K hK => ?_) AllReadyK.nil)
    · skip
      go_simp
      refine (insS_end _ (strs ks) (.string k) _ ks.length _ _ rfl hn (HS5.out.front 2 rfl)).mono ?_
      rintro e w2 ⟨v2, rfl, hs2, he2⟩
      obtain ⟨A2, c2, rfl⟩ := own_shape (hs2.rowAt 0 rfl)
      have HS2 := Hd.mk hs2
      have HE2 := Hd.mk (HE5.out.trans he2)
      have hb2 : w2.heap[g]? = some (.cells #[.slice A ks.length c, .slice B ks.length d] 61 (0, 0)) := hs2.blkAt 2 rfl
      have hb3 : w2.cell? ⟨g, 1, none⟩ = some (.slice B ks.length d) := blk_cell hb2 1
      go_simp
      refine hK _ _ ⟨fun h => absurd h (by decide), fun _ => hb3⟩ ?_
      clear hK K hs2 he2 hb2 hb3
      refine wpAnyK_ready (rs := [16]) (by kernel_rfl) (by simp) (AllReadyK.cons rfl (fun K hK => ?_) AllReadyK.nil)
      go_simp
      have hs6 := HS2.out.alloc (.cells #[.int .i64 x] 3)
      try simp only [alloc_size, drew_size] at hs6
      have HE6 := Hd.mk (HE2.out.alloc (.cells #[.int .i64 x] 3))
      have HS6 := Hd.mk hs6
      refine hK _ _ ⟨fun _ => blk_cell (hs6.blkAt 3 rfl) 0, fun _ => blk_cell (hs6.blkAt 3 rfl) 1⟩ ?_
      clear hK K hs6
      refine wpAnyK_ready (rs := [17]) (by kernel_rfl) (by simp) (AllReadyK.cons rfl (fun K hK => ?_) AllReadyK.nil)
      go_simp
      refine (insI_end _ (i64s vs) (.int .i64 x) _ ks.length _ _ rfl hn (HS6.out.front 4 rfl)).mono ?_
      rintro e w3 ⟨v3, rfl, hs3, he3⟩
      obtain ⟨A3, c3, rfl⟩ := own_shape (hs3.rowAt 0 rfl)
      have hs4 : Sat w3 (Blk g (.cells #[.slice A ks.length c, .slice B ks.length d] 61 (0, 0)) :: RowH 9 1 (.slice A2 (ks.length + 1) c2) (ks.length + 1) (strs ks ++ [.string k]) :: RowH 3 1 (.slice A3 (ks.length + 1) c3) (ks.length + 1) (i64s vs ++ [.int .i64 x]) :: L) := (((hs3.drop 3).drop 1).front 1 rfl).front 2 rfl
      have HS3 := Hd.mk hs4
      have HE3 := Hd.mk (HE6.out.trans he3)
      have he0 := blk_free hs4.blk 0
      have he1 := blk_free hs4.blk 1
      have hh0 := blk_cell hs4.blk 0
      have hh1 := blk_cell hs4.blk 1
      have hgg := hs4.lt
      clear hs3 hs4 he3
      go_simp
      refine hK _ _ (Two.past (by kernel_rfl) (by kernel_rfl) _ (fun _ h => h) _) ?_
      clear hK K
      refine wpAnyK_of_any _ _ _ _ (Two.past (by kernel_rfl) (by kernel_rfl)) ?_
      refine wpAny_take (i := 18) (v := ?v18b1) rfl (by kernel_rfl) (by kernel_rfl) (by kernel_rfl) (fun _ _ _ h => h) (Or.inl ⟨by rfl, ?h18b1⟩) ?r18b1
      case h18b1 => (intro w; go_simp; try with_reducible rfl)
      refine wpAny_take (i := 19) (v := ?v19b1) rfl (by kernel_rfl) (by kernel_rfl) (by kernel_rfl) (fun _ _ _ h => h) (Or.inl ⟨by rfl, ?h19b1⟩) ?r19b1
      case h19b1 => (intro w; go_simp; try with_reducible rfl)
      refine wpAny_ready (rs := [20]) (by kernel_rfl) (by simp) (AllReady.cons rfl (fun K hK => ?_) AllReady.nil)
      go_simp
      refine hK _ _ ?_
      clear hK K
      refine wpAny_take (i := 21) (v := ?v21b1) rfl (by kernel_rfl) (by kernel_rfl) (by kernel_rfl) (fun _ _ _ h => h) (Or.inl ⟨by rfl, ?h21b1⟩) ?r21b1
      case h21b1 => (intro w; go_simp; try with_reducible rfl)
      refine wpAny_take (i := 22) (v := ?v22b1) rfl (by kernel_rfl) (by kernel_rfl) (by kernel_rfl) (fun _ _ _ h => h) (Or.inl ⟨by rfl, ?h22b1⟩) ?r22b1
      case h22b1 => (intro w; go_simp; try with_reducible rfl)
      refine wpAny_ready (rs := [23]) (by kernel_rfl) (by simp) (AllReady.cons rfl (fun K hK => ?_) AllReady.nil)
      go_simp
      refine hK _ _ ?_
      clear hK K
      refine wpAny_done (by kernel_rfl) ?_ _
      go_wp2
      go_ret
      refine ⟨.slice A2 (ks.length + 1) c2, .slice A3 (ks.length + 1) c3, rfl, ?_, ((HEW.out.trans HE3.out).setCell _ _).setCell _ _⟩
      have h9 := (HS3.out.setAt 0 rfl 0 (.slice A2 (ks.length + 1) c2)).setAt 0 rfl 1 (.slice A3 (ks.length + 1) c3)
      have e1 : strs ks ++ [Value.string k] = strs (ks ++ [k]) := by simp [strs]
      have e2 : i64s vs ++ [Value.int .i64 x] = i64s (vs ++ [x]) := by simp [i64s]
      rw [← e1, ← e2]
      exact h9
    · skip
      go_simp
      have hs6 := HS5.out.alloc (.cells #[.int .i64 x] 3)
      try simp only [alloc_size, drew_size] at hs6
      have HE6 := Hd.mk (HE5.out.alloc (.cells #[.int .i64 x] 3))
      have HS6 := Hd.mk hs6
      refine hK _ _ ⟨fun _ => blk_cell (hs6.blkAt 2 rfl) 0, fun _ => blk_cell (hs6.blkAt 2 rfl) 1⟩ ?_
      clear hK K hs6
      refine wpAnyK_ready (rs := [9]) (by kernel_rfl) (by simp) (AllReadyK.cons rfl (fun K hK => ?_) AllReadyK.nil)
      go_simp
      refine (insS_end _ (strs ks) (.string k) _ ks.length _ _ rfl hn ((HS6.out.front 1 rfl).front 3 rfl)).mono ?_
      rintro e w2 ⟨v2, rfl, hs2, he2⟩
      obtain ⟨A2, c2, rfl⟩ := own_shape (hs2.rowAt 0 rfl)
      have HS2 := Hd.mk hs2
      have HE2 := Hd.mk (HE6.out.trans he2)
      have hb2 : w2.heap[g]? = some (.cells #[.slice A ks.length c, .slice B ks.length d] 61 (0, 0)) := hs2.blkAt 3 rfl
      have hb3 : w2.cell? ⟨g, 1, none⟩ = some (.slice B ks.length d) := blk_cell hb2 1
      go_simp
      refine hK _ _ ⟨fun h => absurd h (by decide), fun _ => hb3⟩ ?_
      clear hK K hs2 he2 hb2 hb3
      refine wpAnyK_ready (rs := [17]) (by kernel_rfl) (by simp) (AllReadyK.cons rfl (fun K hK => ?_) AllReadyK.nil)
      go_simp
      refine (insI_end _ (i64s vs) (.int .i64 x) _ ks.length _ _ rfl hn ((HS2.out.front 2 rfl).front 4 rfl)).mono ?_
      rintro e w3 ⟨v3, rfl, hs3, he3⟩
      obtain ⟨A3, c3, rfl⟩ := own_shape (hs3.rowAt 0 rfl)
      have hs4 : Sat w3 (Blk g (.cells #[.slice A ks.length c, .slice B ks.length d] 61 (0, 0)) :: RowH 9 1 (.slice A2 (ks.length + 1) c2) (ks.length + 1) (strs ks ++ [.string k]) :: RowH 3 1 (.slice A3 (ks.length + 1) c3) (ks.length + 1) (i64s vs ++ [.int .i64 x]) :: L) := (((hs3.drop 3).drop 1).front 1 rfl).front 2 rfl
      have HS3 := Hd.mk hs4
      have HE3 := Hd.mk (HE2.out.trans he3)
      have he0 := blk_free hs4.blk 0
      have he1 := blk_free hs4.blk 1
      have hh0 := blk_cell hs4.blk 0
      have hh1 := blk_cell hs4.blk 1
      have hgg := hs4.lt
      clear hs3 hs4 he3
      go_simp
      refine hK _ _ (Two.past (by kernel_rfl) (by kernel_rfl) _ (fun _ h => h) _) ?_
      clear hK K
      refine wpAnyK_of_any _ _ _ _ (Two.past (by kernel_rfl) (by kernel_rfl)) ?_
      refine wpAny_take (i := 18) (v := ?v18b2) rfl (by kernel_rfl) (by kernel_rfl) (by kernel_rfl) (fun _ _ _ h => h) (Or.inl ⟨by rfl, ?h18b2⟩) ?r18b2
      case h18b2 => (intro w; go_simp; try with_reducible rfl)
      refine wpAny_take (i := 19) (v := ?v19b2) rfl (by kernel_rfl) (by kernel_rfl) (by kernel_rfl) (fun _ _ _ h => h) (Or.inl ⟨by rfl, ?h19b2⟩) ?r19b2
      case h19b2 => (intro w; go_simp; try with_reducible rfl)
      refine wpAny_ready (rs := [20]) (by kernel_rfl) (by simp) (AllReady.cons rfl (fun K hK => ?_) AllReady.nil)
      go_simp
      refine hK _ _ ?_
      clear hK K
      refine wpAny_take (i := 21) (v := ?v21b2) rfl (by kernel_rfl) (by kernel_rfl) (by kernel_rfl) (fun _ _ _ h => h) (Or.inl ⟨by rfl, ?h21b2⟩) ?r21b2
      case h21b2 => (intro w; go_simp; try with_reducible rfl)
      refine wpAny_take (i := 22) (v := ?v22b2) rfl (by kernel_rfl) (by kernel_rfl) (by kernel_rfl) (fun _ _ _ h => h) (Or.inl ⟨by rfl, ?h22b2⟩) ?r22b2
      case h22b2 => (intro w; go_simp; try with_reducible rfl)
      refine wpAny_ready (rs := [23]) (by kernel_rfl) (by simp) (AllReady.cons rfl (fun K hK => ?_) AllReady.nil)
      go_simp
      refine hK _ _ ?_
      clear hK K
      refine wpAny_done (by kernel_rfl) ?_ _
      go_wp2
      go_ret
      refine ⟨.slice A2 (ks.length + 1) c2, .slice A3 (ks.length + 1) c3, rfl, ?_, ((HEW.out.trans HE3.out).setCell _ _).setCell _ _⟩
      have h9 := (HS3.out.setAt 0 rfl 0 (.slice A2 (ks.length + 1) c2)).setAt 0 rfl 1 (.slice A3 (ks.length + 1) c3)
      have e1 : strs ks ++ [Value.string k] = strs (ks ++ [k]) := by simp [strs]
      have e2 : i64s vs ++ [Value.int .i64 x] = i64s (vs ++ [x]) := by simp [i64s]
      rw [← e1, ← e2]
      exact h9
  · skip
    go_simp
    have hs5 := HSD.out.alloc (.cells #[.int .i64 x] 3)
    try simp only [alloc_size, drew_size] at hs5
    have HE5 := Hd.mk (HED.out.alloc (.cells #[.int .i64 x] 3))
    have HS5 := Hd.mk hs5
    refine hK _ _ ⟨fun _ => blk_cell (hs5.blkAt 1 rfl) 0, fun _ => blk_cell (hs5.blkAt 1 rfl) 1⟩ ?_
    clear hK K hs5
    refine wpAnyK_ready (rs := [8]) (by kernel_rfl) (by simp) (AllReadyK.cons rfl (fun K hK => ?_) AllReadyK.nil)
    go_simp
    have hs6 := HS5.out.alloc (.cells #[.string k] 9)
    try simp only [alloc_size, drew_size] at hs6
    have HE6 := Hd.mk (HE5.out.alloc (.cells #[.string k] 9))
    have HS6 := Hd.mk hs6
    refine hK _ _ ⟨fun _ => blk_cell (hs6.blkAt 2 rfl) 0, fun _ => blk_cell (hs6.blkAt 2 rfl) 1⟩ ?_
    clear hK K hs6
    refine wpAnyK_ready (rs := [9]) (by kernel_rfl) (by simp) (AllReadyK.cons rfl (fun K hK => ?_) AllReadyK.nil)
    go_simp
    refine (insS_end _ (strs ks) (.string k) _ ks.length _ _ rfl hn (HS6.out.front 3 rfl)).mono ?_
    rintro e w2 ⟨v2, rfl, hs2, he2⟩
    obtain ⟨A2, c2, rfl⟩ := own_shape (hs2.rowAt 0 rfl)
    have HS2 := Hd.mk hs2
    have HE2 := Hd.mk (HE6.out.trans he2)
    have hb2 : w2.heap[g]? = some (.cells #[.slice A ks.length c, .slice B ks.length d] 61 (0, 0)) := hs2.blkAt 3 rfl
    have hb3 : w2.cell? ⟨g, 1, none⟩ = some (.slice B ks.length d) := blk_cell hb2 1
    go_simp
    refine hK _ _ ⟨fun h => absurd h (by decide), fun _ => hb3⟩ ?_
    clear hK K hs2 he2 hb2 hb3
    refine wpAnyK_ready (rs := [17]) (by kernel_rfl) (by simp) (AllReadyK.cons rfl (fun K hK => ?_) AllReadyK.nil)
    go_simp
    refine (insI_end _ (i64s vs) (.int .i64 x) _ ks.length _ _ rfl hn ((HS2.out.front 2 rfl).front 4 rfl)).mono ?_
    rintro e w3 ⟨v3, rfl, hs3, he3⟩
    obtain ⟨A3, c3, rfl⟩ := own_shape (hs3.rowAt 0 rfl)
    have hs4 : Sat w3 (Blk g (.cells #[.slice A ks.length c, .slice B ks.length d] 61 (0, 0)) :: RowH 9 1 (.slice A2 (ks.length + 1) c2) (ks.length + 1) (strs ks ++ [.string k]) :: RowH 3 1 (.slice A3 (ks.length + 1) c3) (ks.length + 1) (i64s vs ++ [.int .i64 x]) :: L) := (((hs3.drop 3).drop 1).front 1 rfl).front 2 rfl
    have HS3 := Hd.mk hs4
    have HE3 := Hd.mk (HE2.out.trans he3)
    have he0 := blk_free hs4.blk 0
    have he1 := blk_free hs4.blk 1
    have hh0 := blk_cell hs4.blk 0
    have hh1 := blk_cell hs4.blk 1
    have hgg := hs4.lt
    clear hs3 hs4 he3
    go_simp
    refine hK _ _ (Two.past (by kernel_rfl) (by kernel_rfl) _ (fun _ h => h) _) ?_
    clear hK K
    refine wpAnyK_of_any _ _ _ _ (Two.past (by kernel_rfl) (by kernel_rfl)) ?_
    refine wpAny_take (i := 18) (v := ?v18b3) rfl (by kernel_rfl) (by kernel_rfl) (by kernel_rfl) (fun _ _ _ h => h) (Or.inl ⟨by rfl, ?h18b3⟩) ?r18b3
    case h18b3 => (intro w; go_simp; try with_reducible rfl)
    refine wpAny_take (i := 19) (v := ?v19b3) rfl (by kernel_rfl) (by kernel_rfl) (by kernel_rfl) (fun _ _ _ h => h) (Or.inl ⟨by rfl, ?h19b3⟩) ?r19b3
    case h19b3 => (intro w; go_simp; try with_reducible rfl)
    refine wpAny_ready (rs := [20]) (by kernel_rfl) (by simp) (AllReady.cons rfl (fun K hK => ?_) AllReady.nil)
    go_simp
    refine hK _ _ ?_
    clear hK K
    refine wpAny_take (i := 21) (v := ?v21b3) rfl (by kernel_rfl) (by kernel_rfl) (by kernel_rfl) (fun _ _ _ h => h) (Or.inl ⟨by rfl, ?h21b3⟩) ?r21b3
    case h21b3 => (intro w; go_simp; try with_reducible rfl)
    refine wpAny_take (i := 22) (v := ?v22b3) rfl (by kernel_rfl) (by kernel_rfl) (by kernel_rfl) (fun _ _ _ h => h) (Or.inl ⟨by rfl, ?h22b3⟩) ?r22b3
    case h22b3 => (intro w; go_simp; try with_reducible rfl)
    refine wpAny_ready (rs := [23]) (by kernel_rfl) (by simp) (AllReady.cons rfl (fun K hK => ?_) AllReady.nil)
    go_simp
    refine hK _ _ ?_
    clear hK K
    refine wpAny_done (by kernel_rfl) ?_ _
    go_wp2
    go_ret
    refine ⟨.slice A2 (ks.length + 1) c2, .slice A3 (ks.length + 1) c3, rfl, ?_, ((HEW.out.trans HE3.out).setCell _ _).setCell _ _⟩
    have h9 := (HS3.out.setAt 0 rfl 0 (.slice A2 (ks.length + 1) c2)).setAt 0 rfl 1 (.slice A3 (ks.length + 1) c3)
    have e1 : strs ks ++ [Value.string k] = strs (ks ++ [k]) := by simp [strs]
    have e2 : i64s vs ++ [Value.int .i64 x] = i64s (vs ++ [x]) := by simp [i64s]
    rw [← e1, ← e2]
    exact h9
end
end Go.Proofs.YtompmejidaddoaaDoor
