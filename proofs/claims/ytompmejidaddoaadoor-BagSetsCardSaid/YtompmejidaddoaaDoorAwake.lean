/- The walk of the fixed fact that each law of package bag opens with: it is true, and turns nothing that was there. -/
import Derived.Test.YtompmejidaddoaaDoorAwakeA
import Derived.Test.YtompmejidaddoaaDoorTabP
set_option linter.unusedVariables false
set_option linter.unusedSimpArgs false
namespace Go.Proofs.YtompmejidaddoaaDoor
open Go.RowKit Go.ChangeMaps

/-- Of two keys' table with one key. -/
theorem tput_end' (g : Nat) (k : ByteArray) (x : Int) (w : World) (L : List HP) (hs : Sat w (TabR g (.slice none 0 0) (.slice none 0 0) [] [] L)) :
    Calls Tryd.prog 21 #[.pointer (some ⟨g, 0, none⟩), .string k, .int .i64 x] w fun e w' => ∃ vk' vv', e = .returned (.bool true) ∧ Sat w' (TabR g vk' vv' [k] [x] L) ∧ Ext w w' :=
  (tput_end g _ _ [] [] k x w L rfl (by decide) rfl rfl hs)

section
set_option maxRecDepth 100000
set_option maxHeartbeats 2000000
theorem awake_any (w : World) (hT : Tab w) : Calls Tryd.prog 9 #[] w fun e w' => e = .returned (.bool true) ∧ Below w.heap.size w w' := by
  have hs0 := Sat.to_row (n := 3) (size := 1) ((Sat_old w).alloc (.cells #[.int .i64 5, .int .i64 3, .int .i64 5] 3)) rfl (by decide)
  have hT1 : TabL [RowH 3 1 (.slice (some ⟨w.heap.size, 0, none⟩) 3 3) 3 (i64s [5, 3, 5]), Old w] := (TabL.old hT).cons _
  have H1 := Hd.mk (of_any _ [5, 3, 5] _ _ (fun j => by match j with | 0 => decide | 1 => decide | 2 => decide | n + 3 => simp [nth]) (by decide) hs0)
  have HE0 := Hd.mk ((Ext.refl w).alloc (.cells #[.int .i64 5, .int .i64 3, .int .i64 5] 3))
  clear hs0
  go_enter Tryd.func9, Tryd.ntmps9
  go_wp2_with (first
    | (go_at_call 37; refine H1.out.mono ?_; rintro e w2 ⟨v2, rfl, hs2, he2⟩; obtain ⟨ws2, hw2, hs5⟩ := SetV_iff.1 hs2; obtain ⟨A2, c2, rfl⟩ := own_shape (hs5.rowAt 0 rfl); have HE2 := Hd.mk ((((HE0.out.trans he2).alloc (.cells #[.slice A2 ws2.length c2] 28)).alloc (.cells #[.slice none 0 0, .map none] 53)).alloc (.cells #[.slice none 0 0, .slice none 0 0] 61)); have hs6 := (hs2.alloc (.cells #[.slice A2 ws2.length c2] 28)).alloc (.cells #[.slice none 0 0, .map none] 53); rw [alloc_size] at hs6; have hs7 := (QueueH_new hs6).alloc (.cells #[.slice none 0 0, .slice none 0 0] 61); rw [alloc_size, alloc_size] at hs7; have HS2 := Hd.mk ((TabR_new hs7).front 3 rfl); clear hs2 he2 hs5 hw2 hs6 hs7)
    | (go_at_call 18; refine (qput_first (w2.heap.size + 1) { data := #[120] } _ _ sv_x HS2.out).mono ?_; rintro e w3 ⟨rfl, hs3, he3⟩; have HS3 := Hd.mk hs3; have HE3 := Hd.mk (HE2.out.trans he3); clear hs3 he3 HS2 HE2)
    | (go_at_call 18; refine (qput_again (w2.heap.size + 1) { data := #[120] } _ _ sv_x HS3.out).mono ?_; rintro e w4 ⟨rfl, hs4, he4⟩; have HS4 := Hd.mk (((hs4.front 3 rfl).front 3 rfl).front 3 rfl); have HE4 := Hd.mk (HE3.out.trans he4); clear hs4 he4 HS3 HE3)
    | (go_at_call 21; refine (tput_end' (w2.heap.size + 1 + 1) { data := #[107] } 1 _ _ HS4.out).mono ?_; rintro e w5 ⟨vk, vv, rfl, hs5, he5⟩; have HS5 := Hd.mk hs5; have HE5 := Hd.mk (HE4.out.trans he5); clear hs5 he5 HS4 HE4)
    | (go_at_call 21; refine (tput_in (w2.heap.size + 1 + 1) _ _ [{ data := #[107] }] [1] { data := #[107] } 2 0 _ _ rfl (by decide) (bsI_one _) (by decide) (bsF_one _) HS5.out).mono ?_; rintro e w6 ⟨rfl, hs6, he6⟩; have HS6 := Hd.mk hs6; have HE6 := Hd.mk (HE5.out.trans he6); clear hs6 he6 HS5 HE5)
    | (go_at_call 23; refine (tget_in (w2.heap.size + 1 + 1) _ _ [{ data := #[107] }] [2] { data := #[107] } 0 _ _ rfl (by decide) (bsI_one _) (by decide) (bsF_one _) HS6.out).mono ?_; rintro e w7 ⟨rfl, hb7⟩; have hs7 := HS6.out.below hb7; have HS7 := Hd.mk hs7; have HE7 := Hd.mk (HE6.out.trans (Ext.of_below hb7)); have hcs := blk_cell (hs7.blkAt 4 rfl) 0; obtain ⟨ws7, hw7, hs8⟩ := SetV_iff.1 (hs7.front 5 rfl); have h8 := all_loop _ ws7 w7 hw7.1 hs8.row (hT.old (hs7.front 7 rfl).old); rw [hw7.2, el2, all536] at h8; have H8 := Hd.mk h8; clear h8 hs7 hs8 hw7 hb7 HS6 HE6)
    | (go_at_call 15; refine H8.out.mono ?_; rintro e w8 ⟨v8, rfl, hf8⟩; obtain ⟨A8, c8, rfl⟩ := own_shape hf8.own; have HE8 := Hd.mk (HE7.out.trans (Ext.of_below hf8.below)); have HS8 := Hd.mk (Sat.to_row (n := 2) (size := 1) ((hf8.sat HS7.out).alloc (.cells #[.int .i64 3, .int .i64 5] 3)) rfl (by decide)); clear hf8 H8 HS7 HE7)
    | (go_at_call 36; refine (si_any _ _ [3, 5] [3, 5] 0 0 _ (by decide) (by decide) (HS8.out.rowAt 1 rfl) (HS8.out.rowAt 0 rfl)).mono ?_; rintro e w9 ⟨rfl, hb9⟩; have HS9 := Hd.mk (HS8.out.below hb9); have HE9 := Hd.mk ((HE8.out.alloc _).trans (Ext.of_below hb9)); clear hb9 HS8 HE8)
    )
  go_ret
  refine ⟨rfl, Sat.below_old (HS9.out.front 9 rfl) HE9.out⟩
end
end Go.Proofs.YtompmejidaddoaaDoor
