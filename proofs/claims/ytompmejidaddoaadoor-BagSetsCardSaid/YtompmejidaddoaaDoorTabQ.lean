/- The walks under package bag's Table[string, int]: Get, and Put of a key that is there. -/
import Derived.Test.YtompmejidaddoaaDoorTabA
import Derived.Test.YtompmejidaddoaaDoorBinS
set_option linter.unusedVariables false
set_option linter.unusedSimpArgs false
namespace Go.Proofs.YtompmejidaddoaaDoor
open Go.RowKit Go.ChangeMaps

/-- A table's two rows. -/
abbrev TabR (g : Nat) (vk vv : Value) (ks : List ByteArray) (vs : List Int) (L : List HP) : List HP :=
  Blk g (.cells #[vk, vv] 61 (0, 0)) :: RowH 9 1 vk ks.length (strs ks) :: RowH 3 1 vv ks.length (i64s vs) :: L

theorem i64s_set (vs : List Int) (i : Nat) (x : Int) : (i64s vs).set i (.int .i64 x) = i64s (vs.set i x) := by simp [i64s, List.map_set]

section
set_option maxRecDepth 100000
set_option maxHeartbeats 1000000
theorem tput_in (g : Nat) (vk vv : Value) (ks : List ByteArray) (vs : List Int) (k : ByteArray) (x : Int) (i : Nat) (w : World) (L : List HP) (hl : vs.length = ks.length) (hn : ks.length ≤ 1000000) (hi : bsI ks k = i) (hin : i < ks.length) (hf : bsF ks k = true)
    (hs : Sat w (TabR g vk vv ks vs L)) :
    Calls Tryd.prog 21 #[.pointer (some ⟨g, 0, none⟩), .string k, .int .i64 x] w fun e w' => e = .returned (.bool false) ∧ Sat w' (TabR g vk vv ks (vs.set i x) L) ∧ Ext w w' := by
  obtain ⟨A, c, rfl⟩ := own_shape (hs.rowAt 1 rfl)
  have hb := bs_any (.slice A ks.length c) ks k 0 w hn (hs.rowAt 1 rfl)
  rw [hi, hf] at hb
  have hc0 := blk_cell hs.blk 0
  have HB := Hd.mk hb
  have HS := Hd.mk hs
  have HL := Hd.mk hl
  clear hs hi hf hb hl
  go_enter Tryd.func21, Tryd.ntmps21
  go_wp2_with (go_at_call 39; refine HB.out.mono ?_; rintro e w1 ⟨rfl, hw1⟩; have HW1 := Hd.mk hw1; have hs1 := HS.out.below hw1; have HS1 := Hd.mk hs1; have hd1 := blk_cell hs1.blk 1; obtain ⟨b, d, rfl, hb, hcap, hcs, hfr⟩ := own_form (hs1.rowAt 2 rfl) (by omega); have hcv := hcs i _ (i64s_nth vs i (by rw [HL.out]; exact hin)); have hfv := hfr i; clear hw1 hs1 hcs hfr)
  go_ret
  have h9 := HS1.out.rowSetAt 2 rfl i (.int .i64 x)
  rw [i64s_set] at h9
  exact ⟨rfl, h9, (Ext.of_below HW1.out).setCell _ _⟩
theorem tget_in (g : Nat) (vk vv : Value) (ks : List ByteArray) (vs : List Int) (k : ByteArray) (i : Nat) (w : World) (L : List HP) (hl : vs.length = ks.length) (hn : ks.length ≤ 1000000) (hi : bsI ks k = i) (hin : i < ks.length) (hf : bsF ks k = true)
    (hs : Sat w (TabR g vk vv ks vs L)) :
    Calls Tryd.prog 23 #[.pointer (some ⟨g, 0, none⟩), .string k] w fun e w' => e = .returned (.tuple #[.int .i64 (nth vs i), .bool true]) ∧ Below w.heap.size w w' := by
  obtain ⟨A, c, rfl⟩ := own_shape (hs.rowAt 1 rfl)
  have hb := bs_any (.slice A ks.length c) ks k 0 w hn (hs.rowAt 1 rfl)
  rw [hi, hf] at hb
  have hc0 := blk_cell hs.blk 0
  have HB := Hd.mk hb
  have HS := Hd.mk hs
  have HL := Hd.mk hl
  clear hs hi hf hb hl
  go_enter Tryd.func23, Tryd.ntmps23
  go_wp2_with (go_at_call 39; refine HB.out.mono ?_; rintro e w1 ⟨rfl, hw1⟩; have HW1 := Hd.mk hw1; have hs1 := HS.out.below hw1; have hd1 := blk_cell hs1.blk 1; obtain ⟨b, d, rfl, hb, hcap, hcs, hfr⟩ := own_form (hs1.rowAt 2 rfl) (by omega); have hcv := hcs i _ (i64s_nth vs i (by rw [HL.out]; exact hin)); clear hw1 hs1 hcs hfr)
  go_ret2
  exact ⟨rfl, HW1.out⟩
theorem tget_out (g : Nat) (vk vv : Value) (ks : List ByteArray) (vs : List Int) (k : ByteArray) (i : Nat) (w : World) (L : List HP) (hn : ks.length ≤ 1000000) (hf : bsF ks k = false)
    (hs : Sat w (TabR g vk vv ks vs L)) :
    Calls Tryd.prog 23 #[.pointer (some ⟨g, 0, none⟩), .string k] w fun e w' => e = .returned (.tuple #[.int .i64 0, .bool false]) ∧ Below w.heap.size w w' := by
  obtain ⟨A, c, rfl⟩ := own_shape (hs.rowAt 1 rfl)
  have hb := bs_any (.slice A ks.length c) ks k 0 w hn (hs.rowAt 1 rfl)
  rw [hf] at hb
  have hc0 := blk_cell hs.blk 0
  have HB := Hd.mk hb
  have HS := Hd.mk hs
  clear hs hf hb
  go_enter Tryd.func23, Tryd.ntmps23
  go_wp2_with (go_at_call 39; refine HB.out.mono ?_; rintro e w1 ⟨rfl, hw1⟩; have HW1 := Hd.mk hw1; clear hw1)
  go_ret2
  exact ⟨rfl, HW1.out⟩
end
end Go.Proofs.YtompmejidaddoaaDoor
