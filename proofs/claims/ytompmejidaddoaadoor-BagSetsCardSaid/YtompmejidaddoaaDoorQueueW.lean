/- The walks of package bag's Queue[string]. -/
import Derived.Test.YtompmejidaddoaaDoorRowO
import Derived.Test.YtompmejidaddoaaDoorProg
import Derived.StringKeys
import Derived.Deep.RegionLaw
set_option linter.unusedVariables false
set_option linter.unusedSimpArgs false
namespace Go.Proofs.YtompmejidaddoaaDoor
open Go.RowKit Go.ChangeMaps Go.WideMaps

def strs (xs : List ByteArray) : List Value := xs.map fun s => .string s
theorem strs_length (xs : List ByteArray) : (strs xs).length = xs.length := by simp [strs]
def sth (xs : List ByteArray) (j : Nat) : ByteArray := xs.getD j ByteArray.empty
theorem strs_get (xs : List ByteArray) (j : Nat) (h : j < xs.length) : (strs xs)[j]? = some (.string (sth xs j)) := by simp [strs, sth, h]
theorem strs_one (xs : List ByteArray) : ∀ u ∈ strs xs, u.oneCell' = true := by
  intro u hu
  obtain ⟨x, _, rfl⟩ := List.mem_map.1 hu
  rfl
theorem one_str (s : ByteArray) : ∀ u ∈ [Value.string s], u.oneCell' = true := by intro u hu; simp at hu; subst hu; rfl

def SV (s : ByteArray) : Prop := s.size ≤ maxLen
theorem sk : KK Tryd.prog 9 (fun s : ByteArray => Value.string s) SV where
  keyed := Maps.string_keyed Tryd.underlying9
  key := fun x hx => ⟨_, keyOf_string_mk Tryd.underlying9 hx⟩
  inj := fun x y h => by injection h

abbrev SMap (r : Nat) (l : List (ByteArray × Unit)) : HP := MapH Tryd.prog 9 (fun s : ByteArray => Value.string s) (fun _ : Unit => .bool true) SV r l
/-- The map of a queue: which things are in. -/
def QMap (mr : Option Nat) (l : List (ByteArray × Unit)) : HP := match mr with
  | none => HP.sep []
  | some r => SMap r l
def QInv (row : List ByteArray) (mr : Option Nat) (l : List (ByteArray × Unit)) : Prop := (∀ x, aget l x = some () ↔ x ∈ row) ∧ row.Nodup ∧ (mr = none → l = [])
/-- A queue at block g: its things in a row. -/
def QueueH (g : Nat) (row : List ByteArray) : HP := HP.ex fun v => HP.ex fun mr : Option Nat => HP.ex fun l : List (ByteArray × Unit) => HP.and (QInv row mr l)
  (HP.sep [Blk g (.cells #[v, .map mr] 53 (0, 0)), RowO 9 1 v row.length (strs row), QMap mr l])
theorem QueueH_iff {w : World} {g : Nat} {row : List ByteArray} {L : List HP} : Sat w (QueueH g row :: L) ↔ ∃ v mr l, QInv row mr l ∧ Sat w (Blk g (.cells #[v, .map mr] 53 (0, 0)) :: RowO 9 1 v row.length (strs row) :: QMap mr l :: L) := by
  simp only [QueueH, Sat_ex, Sat_and, Sat_sep, List.cons_append, List.nil_append]

theorem qinv_put {row : List ByteArray} {mr : Option Nat} {r : Nat} {l : List (ByteArray × Unit)} {x : ByteArray} (h : QInv row mr l) (hn : x ∉ row) : QInv (row ++ [x]) (some r) (aput l x ()) := by
  refine ⟨fun y => ?_, ?_, fun h => by cases h⟩
  · rw [aget_aput, List.mem_append, List.mem_singleton]
    split
    · rename_i e; simp [e]
    · rename_i e; rw [h.1 y]; simp [e]
  · rw [List.nodup_append]
    exact ⟨h.2.1, by simp, fun a ha b hb => by simp at hb; subst hb; exact fun e => hn (e ▸ ha)⟩

theorem zero_bool (W : World) : (zeroValue 4).run Tryd.prog W = .ok (.bool false) W := by kernel_rfl

section
set_option maxRecDepth 100000
set_option maxHeartbeats 2000000
theorem qput_in (g : Nat) (v m : Value) (x : ByteArray) (w : World) (hc : w.cell? ⟨g, 1, none⟩ = some m) (hl : (Instr.lookup 40 m (.string x) false).run Tryd.prog w = .ok (.bool true) w) (hm : m.oneCell' = true) :
    Calls Tryd.prog 18 #[.pointer (some ⟨g, 0, none⟩), .string x] w fun e w' => e = .returned (.bool false) ∧ Below w.heap.size w w' := by
  go_enter Tryd.func18, Tryd.ntmps18
  go_wp2
  go_ret
  exact ⟨rfl, Below.refl _ _⟩
theorem qput_out (g : Nat) (row : List ByteArray) (x : ByteArray) (w : World) (L : List HP) (hx : SV x) (hn : x ∉ row) (hr : row.length ≤ 1000000) (hs : Sat w (QueueH g row :: L)) :
    Calls Tryd.prog 18 #[.pointer (some ⟨g, 0, none⟩), .string x] w fun e w' => e = .returned (.bool true) ∧ Sat w' (QueueH g (row ++ [x]) :: L) ∧ Ext w w' := by
  obtain ⟨v, mr, l, hinv, hs1⟩ := QueueH_iff.1 hs
  obtain ⟨A, c, rfl, hnc⟩ := RowO.shape (hs1.front 1 rfl)
  have hc0 : w.cell? ⟨g, 0, none⟩ = some (.slice A row.length c) := blk_cell hs1.blk 0
  have hc1 : w.cell? ⟨g, 1, none⟩ = some (.map mr) := blk_cell hs1.blk 1
  have hf0 : w.frozen? ⟨g, 0, none⟩ = false := blk_free hs1.blk 0
  have hf1 : w.frozen? ⟨g, 1, none⟩ = false := blk_free hs1.blk 1
  have hg0 : g < w.heap.size := hs1.lt
  have hag : aget l x = none := by
    cases h : aget l x with
    | none => rfl
    | some u => exact absurd ((hinv.1 x).1 h) hn
  have hmm := @run_makeMap Tryd.prog
  have HI := Hd.mk hinv
  have HX := Hd.mk hx
  have HN := Hd.mk hn
  have he := fun (W : World) => run_eql_map_nil (P := Tryd.prog) W 40 9 4 mr Tryd.underlying40
  rcases mr with _ | r
  · have hl : (Instr.lookup 40 (.map none) (.string x) false).run Tryd.prog w = .ok (.bool false) w := look_nil sk Tryd.underlying40 zero_bool x hx false
    have hs2 : Sat ((w.setCell ⟨g, 1, none⟩ (.map (some w.heap.size))).alloc (.map #[] 0)) (Blk g (.cells #[.slice A row.length c, .map (some w.heap.size)] 53 (0, 0)) :: RowO 9 1 (.slice A row.length c) row.length (strs row) :: SMap w.heap.size l :: L) := by
      have h1 := (((hs1.drop 2).setAt 0 rfl 1 (.map (some w.heap.size))).alloc (.map #[] 0))
      rw [setCell_size] at h1
      have h2 : Sat _ (Blk w.heap.size (.map #[] 0) :: Blk g (.cells #[.slice A row.length c, .map (some w.heap.size)] 53 (0, 0)) :: RowO 9 1 (.slice A row.length c) row.length (strs row) :: L) := h1
      have hl0 := hinv.2.2 rfl
      have h3 := MapH_iff.2 ⟨#[], 0, map_empty (P := Tryd.prog) (k := 9) (ek := fun s : ByteArray => Value.string s) (ev := fun _ : Unit => .bool true) (V := SV), h2⟩
      rw [hl0]
      exact ((h3.front 1 rfl).front 2 rfl).front 1 rfl
    have he2 := ((Ext.refl w).setCell ⟨g, 1, none⟩ (.map (some w.heap.size))).alloc (.map #[] 0)
    clear hs hs1 hinv hx hn
    go_enter Tryd.func18, Tryd.ntmps18
    go_wp2_with fail
    obtain ⟨r, hr0⟩ : ∃ r, r = w.heap.size := ⟨_, rfl⟩
    rw [← hr0] at hs2 he2 ⊢
    generalize hW : (w.setCell ⟨g, 1, none⟩ (.map (some r))).alloc (.map #[] 0) = WW at *
    clear hW hr0 hc0 hc1 hf0 hf1 hl hag hg0
    have hcc0 := blk_cell hs2.blk 0
    have hcc1 := blk_cell hs2.blk 1
    have hff0 := blk_free hs2.blk 0
    have HS3 := Hd.mk ((hs2.alloc_skip (.cells #[.string x] 9)).drew)
    have HK := Hd.mk (fun (W : World) => cell_one_new W (.string x) 9)
    have hgW := hs2.lt
    have HE2 := Hd.mk he2
    clear hs2 he2
    go_region_law (first | (refine step_append_o rfl _ _ 23 rfl 9 (.string ByteArray.empty) 1 16 Tryd.underlying23 (by kernel_rfl) rfl (by decide) _ row.length _ rfl HS3.out 1 rfl ⟨WW.heap.size, 0, none⟩ 1 1 [.string x] rfl rfl (HK.out WW) (one_str x) (by decide) (by omega) (by omega) ?_; intro v1 w1 hs4 he4; obtain ⟨A1, c1, rfl, hnc1⟩ := RowO.shape (hs4.front 1 rfl); have hd0 := blk_cell hs4.blk 0; have hd1 := blk_cell hs4.blk 1; have hk0 := blk_free hs4.blk 0; have hs5 := hs4.setAt 0 rfl 0 (.slice A1 (row.length + 1) c1); obtain ⟨es, clock, M, hs6⟩ := MapH_iff.1 (hs5.front 2 rfl); obtain ⟨v0, st, es1, clock1, hrun1, hrun2⟩ := map_entry sk M Tryd.underlying40 zero_bool hs6.blk x HX.out; obtain ⟨W5, hW5⟩ : ∃ W5, W5 = setBlock (w1.setCell ⟨g, 0, none⟩ (.slice A1 (row.length + 1) c1)) r (.map es1 clock1) := ⟨_, rfl⟩; have hs7 := hs6.block 0 rfl (.map es1 clock1); rw [← hW5] at hrun1 hs7; obtain ⟨es2, clock2, hrun3, M3⟩ := hrun2 W5 () hs7.blk; obtain ⟨W6, hW6⟩ : ∃ W6, W6 = setBlock W5 r (.map es2 clock2) := ⟨_, rfl⟩; have hs8 := hs7.block 0 rfl (.map es2 clock2); rw [← hW6] at hrun3 hs8; have hE := ((((HE2.out.alloc (.cells #[.string x] 9)).drew.trans he4).setCell ⟨g, 0, none⟩ (.slice A1 (row.length + 1) c1)).block r (.map es1 clock1)).block r (.map es2 clock2); rw [← hW5, ← hW6] at hE; have HE8 := Hd.mk hE; have HS8 := Hd.mk (MapH_iff.2 ⟨es2, clock2, M3, hs8⟩); have HC8 := Hd.mk hnc1; simp only [goInt] at hrun1 hrun3; clear hE hs4 he4 hs5 M hs6 hs7 hs8 hrun2 M3 hW5 hW6 hnc1))
    all_goals go_wp2
    all_goals go_ret
    all_goals
      refine ⟨rfl, QueueH_iff.2 ⟨.slice A1 (row.length + 1) c1, some r, aput l x (), ?_, ?_⟩, HE8.out⟩
      · exact qinv_put HI.out HN.out
      · have h9 := (HS8.out.front 2 rfl).front 2 rfl
        have e1 : strs row ++ [Value.string x] = strs (row ++ [x]) := by simp [strs]
        have e2 : (row ++ [x]).length = row.length + 1 := by simp
        rw [e2, ← e1]
        exact h9
  · have hs2 : Sat w (Blk g (.cells #[.slice A row.length c, .map (some r)] 53 (0, 0)) :: RowO 9 1 (.slice A row.length c) row.length (strs row) :: SMap r l :: L) := hs1
    obtain ⟨es, clock, M, hs3⟩ := MapH_iff.1 (hs2.front 2 rfl)
    have hl := map_look (z := .bool false) sk M Tryd.underlying40 zero_bool hs3.blk x hx false
    rw [hag] at hl
    have he2 := Ext.refl w
    clear hs hs1 hinv hx hn hs3 M hc0 hf0 hf1
    go_enter Tryd.func18, Tryd.ntmps18
    go_wp2_with fail
    clear hc1 hl hag hg0
    obtain ⟨WW, rfl⟩ : ∃ W : World, W = w := ⟨_, rfl⟩
    have hcc0 := blk_cell hs2.blk 0
    have hcc1 := blk_cell hs2.blk 1
    have hff0 := blk_free hs2.blk 0
    have HS3 := Hd.mk ((hs2.alloc_skip (.cells #[.string x] 9)).drew)
    have HK := Hd.mk (fun (W : World) => cell_one_new W (.string x) 9)
    have hgW := hs2.lt
    have HE2 := Hd.mk he2
    clear hs2 he2
    go_region_law (first | (refine step_append_o rfl _ _ 23 rfl 9 (.string ByteArray.empty) 1 16 Tryd.underlying23 (by kernel_rfl) rfl (by decide) _ row.length _ rfl HS3.out 1 rfl ⟨WW.heap.size, 0, none⟩ 1 1 [.string x] rfl rfl (HK.out WW) (one_str x) (by decide) (by omega) (by omega) ?_; intro v1 w1 hs4 he4; obtain ⟨A1, c1, rfl, hnc1⟩ := RowO.shape (hs4.front 1 rfl); have hd0 := blk_cell hs4.blk 0; have hd1 := blk_cell hs4.blk 1; have hk0 := blk_free hs4.blk 0; have hs5 := hs4.setAt 0 rfl 0 (.slice A1 (row.length + 1) c1); obtain ⟨es, clock, M, hs6⟩ := MapH_iff.1 (hs5.front 2 rfl); obtain ⟨v0, st, es1, clock1, hrun1, hrun2⟩ := map_entry sk M Tryd.underlying40 zero_bool hs6.blk x HX.out; obtain ⟨W5, hW5⟩ : ∃ W5, W5 = setBlock (w1.setCell ⟨g, 0, none⟩ (.slice A1 (row.length + 1) c1)) r (.map es1 clock1) := ⟨_, rfl⟩; have hs7 := hs6.block 0 rfl (.map es1 clock1); rw [← hW5] at hrun1 hs7; obtain ⟨es2, clock2, hrun3, M3⟩ := hrun2 W5 () hs7.blk; obtain ⟨W6, hW6⟩ : ∃ W6, W6 = setBlock W5 r (.map es2 clock2) := ⟨_, rfl⟩; have hs8 := hs7.block 0 rfl (.map es2 clock2); rw [← hW6] at hrun3 hs8; have hE := ((((HE2.out.alloc (.cells #[.string x] 9)).drew.trans he4).setCell ⟨g, 0, none⟩ (.slice A1 (row.length + 1) c1)).block r (.map es1 clock1)).block r (.map es2 clock2); rw [← hW5, ← hW6] at hE; have HE8 := Hd.mk hE; have HS8 := Hd.mk (MapH_iff.2 ⟨es2, clock2, M3, hs8⟩); have HC8 := Hd.mk hnc1; simp only [goInt] at hrun1 hrun3; clear hE hs4 he4 hs5 M hs6 hs7 hs8 hrun2 M3 hW5 hW6 hnc1))
    all_goals go_wp2
    all_goals go_ret
    all_goals
      refine ⟨rfl, QueueH_iff.2 ⟨.slice A1 (row.length + 1) c1, some r, aput l x (), ?_, ?_⟩, HE8.out⟩
      · exact qinv_put HI.out HN.out
      · have h9 := (HS8.out.front 2 rfl).front 2 rfl
        have e1 : strs row ++ [Value.string x] = strs (row ++ [x]) := by simp [strs]
        have e2 : (row ++ [x]).length = row.length + 1 := by simp
        rw [e2, ← e1]
        exact h9

def inRow (row : List ByteArray) (x : ByteArray) : Bool := row.any fun y => decide (y = x)
theorem inRow_iff {row : List ByteArray} {x : ByteArray} : inRow row x = true ↔ x ∈ row := by
  simp [inRow, List.any_eq_true]
theorem qput_any (g : Nat) (row : List ByteArray) (x : ByteArray) (w : World) (L : List HP) (hx : SV x) (hr : row.length ≤ 1000000) (hs : Sat w (QueueH g row :: L)) :
    Calls Tryd.prog 18 #[.pointer (some ⟨g, 0, none⟩), .string x] w fun e w' => e = .returned (.bool (!inRow row x)) ∧ Sat w' (QueueH g (if inRow row x then row else row ++ [x]) :: L) ∧ Ext w w' := by
  by_cases hm : x ∈ row
  · have hb := inRow_iff.2 hm
    rw [hb, if_pos rfl]
    obtain ⟨v, mr, l, hinv, hs1⟩ := QueueH_iff.1 hs
    rcases mr with _ | r
    · have := hinv.2.2 rfl
      subst this
      exact absurd ((hinv.1 x).2 hm) (by simp [aget])
    · obtain ⟨es, clock, M, hs3⟩ := MapH_iff.1 (hs1.front 2 rfl)
      have hl := map_look (z := .bool false) sk M Tryd.underlying40 zero_bool hs3.blk x hx false
      rw [(hinv.1 x).2 hm] at hl
      exact (qput_in g v (.map (some r)) x w (blk_cell hs1.blk 1) hl rfl).mono fun e w' ⟨h1, h2⟩ => ⟨h1, hs.below h2, Ext.of_below h2⟩
  · have hb : inRow row x = false := Bool.eq_false_iff.2 (fun h => hm (inRow_iff.1 h))
    rw [hb, if_neg (by decide)]
    exact qput_out g row x w L hx hm hr hs

end
end Go.Proofs.YtompmejidaddoaaDoor
