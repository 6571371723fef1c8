/- The walk of package bag's Of[int]. -/
import Derived.Test.YtompmejidaddoaaDoorSetS
set_option linter.unusedVariables false
set_option linter.unusedSimpArgs false
namespace Go.Proofs.YtompmejidaddoaaDoor
open Go.RowKit

def noneM : Nat → Bool := fun _ => false
/-- The set of the first k. -/
def ofTo (xs : List Int) (k : Nat) : Nat → Bool := (xs.take k).foldl putM noneM
def ofM (xs : List Int) : Nat → Bool := xs.foldl putM noneM
theorem ofTo_all (xs : List Int) (k : Nat) (h : xs.length ≤ k) : ofTo xs k = ofM xs := by rw [ofTo, List.take_of_length_le h, ofM]
theorem ofTo_succ (xs : List Int) (k : Nat) (h : k < xs.length) : putM (ofTo xs k) (nth xs k) = ofTo xs (k + 1) := by
  rw [ofTo, ofTo, List.take_succ_eq_append_getElem h, List.foldl_append]
  simp [nth, h]
theorem mem_nil : mem [] = noneM := by funext i; simp [mem, noneM]
theorem SetH_new {w : World} {g : Nat} {L : List HP} (h : Sat w (Blk g (.cells #[.slice none 0 0] 28 (0, 0)) :: L)) : Sat w (SetH g noneM :: L) :=
  SetH_iff.2 ⟨[], _, ⟨⟨by simp, fun j => by simp⟩, mem_nil⟩, (h.nil_row 84 1).front 1 rfl⟩

section
set_option maxRecDepth 100000
set_option maxHeartbeats 400000
theorem of_any (v : Value) (xs : List Int) (w : World) (L : List HP) (hx : ∀ j, nth xs j ≤ 9223372036854775807) (hn : (xs.length : Int) ≤ 9223372036854775807) (hs : Sat w (RowH 3 1 v xs.length (i64s xs) :: L)) :
    Calls Tryd.prog 37 #[v] w fun e w' => ∃ v', e = .returned (.agg #[v']) ∧ Sat w' (SetV v' (ofM xs) :: RowH 3 1 v xs.length (i64s xs) :: L) ∧ Ext w w' := by
  obtain ⟨A, c, rfl⟩ := own_shape (hs.rowAt 0 rfl)
  have HS := (hs.alloc (.cells #[.slice none 0 0] 28)).alloc (.cells #[.slice none 0 0] 28)
  rw [alloc_size] at HS
  have HE := ((Ext.refl w).alloc (.cells #[.slice none 0 0] 28)).alloc (.cells #[.slice none 0 0] 28)
  have HX := Hd.mk hx
  clear hx hs
  go_enter Tryd.func37, Tryd.ntmps37
  go_wp2_with fail
  go_loopg [8] xs.length (fun k i wr => ∃ j, j + k = xs.length ∧ i = .int .i64 (j : Nat) ∧ Sat wr (SetH (w.heap.size + 1) (ofTo xs j) :: Blk w.heap.size (.cells #[.slice none 0 0] 28 (0, 0)) :: RowH 3 1 (.slice A xs.length c) xs.length (i64s xs) :: L) ∧ Ext w wr)
  case atStart => exact ⟨0, by omega, rfl, SetH_new HS, HE⟩
  case round =>
    obtain ⟨j, hj, rfl, hs, he⟩ := hrel
    have HJ := Hd.mk hj
    have hjm : j ≤ xs.length := by omega
    clear hj HS HE
    by_cases hlt : j < xs.length
    · obtain ⟨g1, cap1, hv1, hg1, hcap1, hcs1, hfr1⟩ := own_form (hs.rowAt 2 rfl) (by omega)
      injection hv1 with hA1 _ hcc1
      subst hA1 hcc1
      have hc1 := hcs1 j _ (i64s_nth xs j hlt)
      clear hcs1 hfr1
      have H4 := Hd.mk (put_any (w.heap.size + 1) _ (nth xs j) wr _ hs (HX.out j))
      go_wp2_with (go_at_call 11; refine H4.out.mono ?_; rintro e w3 ⟨rfl, hs4, he4⟩)
      go_roundg (gk - 1)
      case measure => have := HJ.out; omega
      case rel =>
        rw [ofTo_succ xs j hlt] at hs4
        exact ⟨j + 1, by have := HJ.out; omega, by go_num, hs4, he.trans he4⟩
    · have HQ := Hd.mk (show xs.length ≤ j by omega)
      rw [ofTo_all xs j HQ.out] at hs
      obtain ⟨v4, hs4⟩ := SetH_SetV.1 hs
      obtain ⟨ws4, hw4, hs5⟩ := SetV_iff.1 (hs4.front 1 rfl)
      obtain ⟨A4, c4, rfl⟩ := own_shape (hs5.rowAt 0 rfl)
      have hc4 : wr.cell? ⟨w.heap.size + 1, 0, none⟩ = some (.slice A4 ws4.length c4) := blk_cell hs4.blk 0
      have hc5 : wr.cell? ⟨w.heap.size, 0, none⟩ = some (.slice none 0 0) := blk_cell (hs4.blkAt 2 rfl) 0
      have hf5 : wr.frozen? ⟨w.heap.size, 0, none⟩ = false := blk_free (hs4.blkAt 2 rfl) 0
      have HS6 := hs4.setAt 2 rfl 0 (.slice A4 ws4.length c4)
      clear hs hs4 hs5 hw4
      go_wp2
      refine bodyPost_ret (v := .agg #[.slice A4 ws4.length c4]) ?_ rfl ?_
      · simp [results, Tryd.results37, go_sem, hc5]
      · refine ⟨_, rfl, ?_, he.setCell _ _⟩
        have h1 := (HS6.drop 0).drop 1
        exact h1
end
end Go.Proofs.YtompmejidaddoaaDoor
