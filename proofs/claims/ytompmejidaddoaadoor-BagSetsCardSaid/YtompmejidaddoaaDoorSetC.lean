/- The walks of package bag's Set[int]: Copy, Join, Same, Of; and of slices.Clone, slices.Equal under them. -/
import Derived.Test.YtompmejidaddoaaDoorSetM
set_option linter.unusedVariables false
set_option linter.unusedSimpArgs false
namespace Go.Proofs.YtompmejidaddoaaDoor
open Go.RowKit

theorem u64s_one (ws : List Nat) : ∀ u ∈ u64s ws, u.oneCell' = true := by
  intro u hu
  obtain ⟨x, _, rfl⟩ := List.mem_map.1 hu
  rfl
theorem i64s_one (xs : List Int) : ∀ u ∈ i64s xs, u.oneCell' = true := by
  intro u hu
  obtain ⟨x, _, rfl⟩ := List.mem_map.1 hu
  rfl
/-- The first of a list and what was there before: a new row. -/
theorem Sat.first {w : World} {l : List HP} {x y : HP} (h : Sat w (x :: y :: l)) : Sat w [x, y] := by
  obtain ⟨S, hS, h1, R, hR, h2, _⟩ := h
  exact ⟨S, hS, h1, R, hR, h2, trivial⟩

section
set_option maxRecDepth 100000
set_option maxHeartbeats 400000
theorem clone64_any (v : Value) (ws : List Nat) (w : World) (hw : ws.length ≤ 64) (ho : w.ownsRow 0 84 1 v ws.length (u64s ws)) :
    Calls Tryd.prog 48 #[v] w fun e w' => ∃ v', e = .returned v' ∧ Fresh w w' 84 1 v' ws.length (u64s ws) := by
  have HO := Hd.mk ho
  rcases ho.2 with ⟨rfl, h0⟩ | ⟨g, cap, cur, rfl, hb, hg, hnc, _⟩
  · have HN := Hd.mk h0
    clear ho h0
    have he := fun W : World => Lib.run_eql_slice_nil (P := Tryd.prog) W 25 84 none 0 0 0 0 Tryd.underlying25
    go_enter Tryd.func48, Tryd.ntmps48
    go_wp2
    go_ret
    refine ⟨_, rfl, Below.refl _ _, ?_⟩
    have : ws = [] := List.eq_nil_of_length_eq_zero HN.out
    subst this
    exact World.ownsRow_nil w _ _ _
  · clear ho
    have he := fun W : World => Lib.run_eql_slice_nil (P := Tryd.prog) W 25 84 (some ⟨g, 0, none⟩) ws.length cap 0 0 Tryd.underlying25
    have HG := Hd.mk hg
    clear hg
    have HS : Sat (w.alloc (.cells #[] 84)) [RowH 84 1 (.slice (some ⟨w.heap.size, 0, none⟩) 0 0) 0 [], Old w] := ((Sat_old w).alloc (.cells #[] 84)).to_row (n := 0) rfl (Nat.zero_le _)
    go_enter Tryd.func48, Tryd.ntmps48
    go_wp2_with (at_builtin; refine wpList_append_from rfl _ _ 25 rfl 84 (.int .u64 0) 1 8 Tryd.underlying25 (by kernel_rfl) rfl (by decide) _ 0 _ rfl HS 0 rfl ⟨g, 0, none⟩ ws.length cap (u64s ws) rfl (by simp [u64s]) ?_ (u64s_one ws) (by omega) (by omega) ?_)
    · intro j u hu
      have h1 := (HO.out.cells (g := g) rfl) j u hu
      rw [← h1]
      exact (World.cell?_of_block (Below.heap_alloc w _ _ (by rw [Addr.add_lit]; exact (Array.getElem?_eq_some_iff.1 HG.out).1)))
    · intro v1 w1 hs1 he1
      have hs2 : Sat w1 [RowH 84 1 v1 ws.length (u64s ws), Old w] := by simpa using hs1
      obtain ⟨A1, c1, rfl⟩ := own_shape (hs2.rowAt 0 rfl)
      have HE := ((Ext.refl w).alloc (.cells #[] 84)).trans he1
      go_wp2
      go_ret
      exact ⟨_, rfl, Fresh.of_sat hs2 HE⟩

theorem copy_any (v : Value) (M : Nat → Bool) (w : World) (L : List HP) (hs : Sat w (SetV v M :: L)) :
    Calls Tryd.prog 29 #[.agg #[v]] w fun e w' => ∃ v', e = .returned (.agg #[v']) ∧ Sat w' (SetV v' M :: SetV v M :: L) ∧ Below w.heap.size w w' := by
  obtain ⟨ws, ⟨hw, rfl⟩, hs1⟩ := SetV_iff.1 hs
  have HW := Hd.mk hw
  have hn := hw.1
  have ho := hs1.rowAt 0 rfl
  have HH := fun W (h : Below w.heap.size w W) => clone64_any v ws W hn (by
    have := ((hs1.below h).rowAt 0 rfl : W.ownsRow 0 84 1 v ws.length (u64s ws))
    exact this)
  obtain ⟨A, c, rfl⟩ := own_shape ho
  have HC := Hd.mk HH
  have HS := (hs1.alloc (.cells #[.slice A ws.length c] 28)).alloc (.cells #[.slice none 0 0] 28)
  rw [alloc_size] at HS
  clear HH hw ho
  go_enter Tryd.func29, Tryd.ntmps29
  go_wp2_with fail
  refine (HC.out _ (((Below.refl _ _).alloc (Nat.le_refl _) _).alloc (by simp) _)).mono ?_
  rintro e w1 ⟨v1, rfl, hf⟩
  obtain ⟨A1, c1, rfl⟩ := own_shape hf.own
  have HS1 := hf.sat HS
  have hc1 : w1.cell? ⟨w.heap.size + 1, 0, none⟩ = some (.slice none 0 0) := blk_cell (HS1.blkAt 1 rfl) 0
  have hf1 : w1.frozen? ⟨w.heap.size + 1, 0, none⟩ = false := blk_free (HS1.blkAt 1 rfl) 0
  have HB := Hd.mk hf.below
  have HS2 := HS1.setAt 1 rfl 0 (.slice A1 ws.length c1)
  clear hf HS HS1
  go_wp2
  refine bodyPost_ret (v := .agg #[.slice A1 ws.length c1]) ?_ rfl ?_
  · simp [results, Tryd.results29, go_sem, hc1]
  · refine ⟨_, rfl, ?_, ?_⟩
    · have h1 : Sat _ (RowH 84 1 (.slice A1 ws.length c1) ws.length (u64s ws) :: RowH 84 1 (.slice A ws.length c) ws.length (u64s ws) :: L) := (HS2.drop 1).drop 1
      exact SetV_iff.2 ⟨ws, ⟨HW.out, rfl⟩, (SetV_iff.2 ⟨ws, ⟨HW.out, rfl⟩, h1.front 1 rfl⟩).front 1 rfl⟩
    · exact ((((Below.refl _ _).alloc (Nat.le_refl _) _).alloc (by simp) _).trans (HB.out.mono (by simp; omega))).setCell (by simp) _
end
end Go.Proofs.YtompmejidaddoaaDoor
