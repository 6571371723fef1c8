/- The walks of package bag's Queue[string]: Len, Take. -/
import Derived.Test.YtompmejidaddoaaDoorQueueW
set_option linter.unusedVariables false
set_option linter.unusedSimpArgs false
namespace Go.Proofs.YtompmejidaddoaaDoor
open Go.RowKit Go.ChangeMaps Go.WideMaps
theorem qinv_take {row : List ByteArray} {mr : Option Nat} {r : Nat} {l : List (ByteArray × Unit)} {x : ByteArray} (h : QInv (x :: row) mr l) : QInv row (some r) (adel l x) := by
  have hn := List.nodup_cons.1 h.2.1
  refine ⟨fun y => ?_, hn.2, fun h => by cases h⟩
  rw [aget_adel]
  split
  · rename_i e; subst e
    exact ⟨fun h => (nomatch h), fun h => absurd h hn.1⟩
  · rename_i e
    rw [h.1 y]
    simp [e]

section
set_option maxRecDepth 100000
set_option maxHeartbeats 400000
theorem qlen_any (g : Nat) (row : List ByteArray) (w : World) (L : List HP) (hs : Sat w (QueueH g row :: L)) (hr : row.length ≤ 1000000) :
    Calls Tryd.prog 20 #[.pointer (some ⟨g, 0, none⟩)] w fun e w' => e = .returned (.int .i64 (row.length : Nat)) ∧ w = w' := by
  obtain ⟨v, mr, l, hinv, hs1⟩ := QueueH_iff.1 hs
  obtain ⟨A, c, rfl, hnc⟩ := RowO.shape (hs1.front 1 rfl)
  have hc0 : w.cell? ⟨g, 0, none⟩ = some (.slice A row.length c) := blk_cell hs1.blk 0
  clear hs hs1 hinv
  go_enter Tryd.func20, Tryd.ntmps20
  go_wp2
  go_ret
  exact ⟨rfl, rfl⟩
theorem qtake_none (g : Nat) (w : World) (L : List HP) (hs : Sat w (QueueH g [] :: L)) :
    Calls Tryd.prog 19 #[.pointer (some ⟨g, 0, none⟩)] w fun e w' => e = .returned (.tuple #[.string ByteArray.empty, .bool false]) ∧ w = w' := by
  obtain ⟨v, mr, l, hinv, hs1⟩ := QueueH_iff.1 hs
  obtain ⟨A, c, rfl, hnc⟩ := RowO.shape (hs1.front 1 rfl)
  have hc0 : w.cell? ⟨g, 0, none⟩ = some (.slice A 0 c) := blk_cell hs1.blk 0
  clear hs hs1 hinv
  go_enter Tryd.func19, Tryd.ntmps19
  go_wp2
  go_ret2
  exact ⟨rfl, rfl⟩
theorem qtake_some (g : Nat) (x : ByteArray) (row : List ByteArray) (w : World) (L : List HP) (hx : SV x) (hr : (x :: row).length ≤ 1000000) (hs : Sat w (QueueH g (x :: row) :: L)) :
    Calls Tryd.prog 19 #[.pointer (some ⟨g, 0, none⟩)] w fun e w' => e = .returned (.tuple #[.string x, .bool true]) ∧ Sat w' (QueueH g row :: L) ∧ Ext w w' := by
  obtain ⟨v, mr, l, hinv, hs1⟩ := QueueH_iff.1 hs
  obtain ⟨g1, off, cap, rfl, hg1, hnc, hcs, hfr⟩ := RowO.form (hs1.front 1 rfl) (by simp)
  have hlen : (x :: row).length = row.length + 1 := by simp
  rw [hlen] at hs1 hnc hr
  rcases mr with _ | r
  · have := hinv.2.2 rfl
    subst this
    exact absurd ((hinv.1 x).2 (by simp)) (by simp [aget])
  have hs2 : Sat w (Blk g (.cells #[.slice (some ⟨g1, off, none⟩) (row.length + 1) cap, .map (some r)] 53 (0, 0)) :: RowO 9 1 (.slice (some ⟨g1, off, none⟩) (row.length + 1) cap) (row.length + 1) (strs (x :: row)) :: SMap r l :: L) := hs1
  have hc0 : w.cell? ⟨g, 0, none⟩ = some (.slice (some ⟨g1, off, none⟩) (row.length + 1) cap) := blk_cell hs2.blk 0
  have hc1 : w.cell? ⟨g, 1, none⟩ = some (.map (some r)) := blk_cell hs2.blk 1
  have hf0 : w.frozen? ⟨g, 0, none⟩ = false := blk_free hs2.blk 0
  have hx0 : w.cell? ⟨g1, off, none⟩ = some (.string x) := hcs 0 _ rfl
  have HS := Hd.mk hs2
  have HI := Hd.mk hinv
  have HX := Hd.mk hx
  clear hs hs1 hs2 hcs hfr hinv hx
  by_cases hcap : cap = 1
  · have HC := Hd.mk hcap
    subst hcap
    have h0 : row.length = 0 := by omega
    have HZ := Hd.mk h0
    clear h0
    have hs3 := HS.out.setAt 0 rfl 0 (.slice (some ⟨g1, off, none⟩) 0 0)
    have hs4 : Sat (w.setCell ⟨g, 0, none⟩ (.slice (some ⟨g1, off, none⟩) 0 0)) (Blk g (.cells #[.slice (some ⟨g1, off, none⟩) 0 0, .map (some r)] 53 (0, 0)) :: RowO 9 1 (.slice (some ⟨g1, off, none⟩) 0 0) 0 (strs row) :: SMap r l :: L) := by
      have h5 := RowO.cut (hs3.front 1 rfl) (m := 1) (by omega) off (.inr ⟨rfl, rfl⟩)
      rw [show row.length + 1 - 1 = 0 by have := HZ.out; omega] at h5
      exact h5.front 1 rfl
    have HS4 := Hd.mk hs4
    clear hs3 hs4
    go_enter Tryd.func19, Tryd.ntmps19
    go_wp2_with (at_delete; refine wpList_delete_sat rfl _ _ 40 rfl 4 sk Tryd.underlying40 HS4.out 2 rfl rfl x HX.out rfl ?_; intro w2 hs5 he5)
    go_ret2
    refine ⟨rfl, QueueH_iff.2 ⟨.slice (some ⟨g1, off, none⟩) 0 0, some r, adel l x, qinv_take HI.out, ?_⟩, ((Ext.refl w).setCell _ _).trans he5⟩
    rw [HZ.out]
    exact hs5
  · have hs3 := HS.out.setAt 0 rfl 0 (.slice (some ⟨g1, off + 1, none⟩) row.length (cap - 1))
    have hs4 : Sat (w.setCell ⟨g, 0, none⟩ (.slice (some ⟨g1, off + 1, none⟩) row.length (cap - 1))) (Blk g (.cells #[.slice (some ⟨g1, off + 1, none⟩) row.length (cap - 1), .map (some r)] 53 (0, 0)) :: RowO 9 1 (.slice (some ⟨g1, off + 1, none⟩) row.length (cap - 1)) row.length (strs row) :: SMap r l :: L) := by
      have h5 := RowO.cut (hs3.front 1 rfl) (m := 1) (by omega) (off + 1) (.inl (by omega))
      rw [show row.length + 1 - 1 = row.length by omega] at h5
      exact h5.front 1 rfl
    have HS4 := Hd.mk hs4
    clear hs3 hs4
    go_enter Tryd.func19, Tryd.ntmps19
    go_wp2_with (at_delete; refine wpList_delete_sat rfl _ _ 40 rfl 4 sk Tryd.underlying40 HS4.out 2 rfl rfl x HX.out rfl ?_; intro w2 hs5 he5)
    go_ret2
    exact ⟨rfl, QueueH_iff.2 ⟨.slice (some ⟨g1, off + 1, none⟩) row.length (cap - 1), some r, adel l x, qinv_take HI.out, hs5⟩, ((Ext.refl w).setCell _ _).trans he5⟩
end
end Go.Proofs.YtompmejidaddoaaDoor
