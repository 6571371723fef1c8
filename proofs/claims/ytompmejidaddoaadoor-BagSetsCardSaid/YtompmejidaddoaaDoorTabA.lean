/- The walks under package bag's Table[string, int], as far as a table of one key needs them. -/
import Derived.Test.YtompmejidaddoaaDoorQueueT
import Derived.Test.YtompmejidaddoaaDoorSetS
set_option linter.unusedVariables false
set_option linter.unusedSimpArgs false
namespace Go.Proofs.YtompmejidaddoaaDoor
open Go.RowKit Go.ChangeMaps

section
set_option maxRecDepth 100000
set_option maxHeartbeats 1000000
theorem insS_end (v : Value) (xs : List Value) (x : Value) (vb n : Nat) (w : World) (l : List HP) (hx : x.oneCell' = true) (hn : n ≤ 1000000) (hs : Sat w (RowH 9 1 v n xs :: Blk vb (.cells #[x] 9 (0, 0)) :: l)) :
    Calls Tryd.prog 40 #[v, .int .i64 (n : Nat), .slice (some ⟨vb, 0, none⟩) 1 1] w fun e w' => ∃ v', e = .returned v' ∧ Sat w' (RowH 9 1 v' (n + 1) (xs ++ [x]) :: Blk vb (.cells #[x] 9 (0, 0)) :: l) ∧ Ext w w' := by
  obtain ⟨A, c, rfl⟩ := own_shape (hs.rowAt 0 rfl)
  have hnc : n ≤ c := by
    rcases (hs.rowAt 0 rfl).2 with ⟨h1, h2⟩ | ⟨g, cap, cur, h1, _, _, h2, _⟩
    · omega
    · injection h1 with _ _ h3; omega
  have hb := blk_cell (hs.blkAt 1 rfl) 0
  have H1 : ∀ u ∈ [x], u.oneCell' = true := fun u hu => by simp at hu; subst hu; exact hx
  have HO := Hd.mk H1
  have HB : Hd (∀ j u, [x][j]? = some u → w.cell? ((⟨vb, 0, none⟩ : Addr).add j) = some u) := ⟨fun j u hj => by
    rw [Addr.add_lit, Nat.zero_add, blk_cell (hs.blkAt 1 rfl)]
    simpa using hj⟩
  have HS := Hd.mk hs
  clear hs H1 hx
  go_enter Tryd.func40, Tryd.ntmps40
  go_wp2_with (at_builtin; refine wpList_append_from rfl _ _ 23 rfl 9 (.string ByteArray.empty) 1 16 Tryd.underlying23 (by kernel_rfl) rfl (by decide) _ n _ rfl HS.out 0 rfl ⟨vb, 0, none⟩ 1 1 [x] rfl rfl HB.out HO.out (by omega) (by omega) ?_; intro v1 w1 hs1 he1; obtain ⟨A1, c1, rfl⟩ := own_shape (hs1.rowAt 0 rfl); have HS1 := Hd.mk hs1; have HE1 := Hd.mk he1; clear hs1 he1)
  all_goals go_ret
  all_goals exact ⟨_, rfl, HS1.out, HE1.out⟩
theorem insI_end (v : Value) (xs : List Value) (x : Value) (vb n : Nat) (w : World) (l : List HP) (hx : x.oneCell' = true) (hn : n ≤ 1000000) (hs : Sat w (RowH 3 1 v n xs :: Blk vb (.cells #[x] 3 (0, 0)) :: l)) :
    Calls Tryd.prog 44 #[v, .int .i64 (n : Nat), .slice (some ⟨vb, 0, none⟩) 1 1] w fun e w' => ∃ v', e = .returned v' ∧ Sat w' (RowH 3 1 v' (n + 1) (xs ++ [x]) :: Blk vb (.cells #[x] 3 (0, 0)) :: l) ∧ Ext w w' := by
  obtain ⟨A, c, rfl⟩ := own_shape (hs.rowAt 0 rfl)
  have hnc : n ≤ c := by
    rcases (hs.rowAt 0 rfl).2 with ⟨h1, h2⟩ | ⟨g, cap, cur, h1, _, _, h2, _⟩
    · omega
    · injection h1 with _ _ h3; omega
  have hb := blk_cell (hs.blkAt 1 rfl) 0
  have H1 : ∀ u ∈ [x], u.oneCell' = true := fun u hu => by simp at hu; subst hu; exact hx
  have HO := Hd.mk H1
  have HB : Hd (∀ j u, [x][j]? = some u → w.cell? ((⟨vb, 0, none⟩ : Addr).add j) = some u) := ⟨fun j u hj => by
    rw [Addr.add_lit, Nat.zero_add, blk_cell (hs.blkAt 1 rfl)]
    simpa using hj⟩
  have HS := Hd.mk hs
  clear hs H1 hx
  go_enter Tryd.func44, Tryd.ntmps44
  go_wp2_with (at_builtin; refine wpList_append_from rfl _ _ 46 rfl 3 (.int .i64 0) 1 8 Tryd.underlying46 (by kernel_rfl) rfl (by decide) _ n _ rfl HS.out 0 rfl ⟨vb, 0, none⟩ 1 1 [x] rfl rfl HB.out HO.out (by omega) (by omega) ?_; intro v1 w1 hs1 he1; obtain ⟨A1, c1, rfl⟩ := own_shape (hs1.rowAt 0 rfl); have HS1 := Hd.mk hs1; have HE1 := Hd.mk he1; clear hs1 he1)
  all_goals go_ret
  all_goals exact ⟨_, rfl, HS1.out, HE1.out⟩

end
end Go.Proofs.YtompmejidaddoaaDoor
