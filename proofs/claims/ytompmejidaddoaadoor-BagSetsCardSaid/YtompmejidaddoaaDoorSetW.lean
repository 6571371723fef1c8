/- The walks of package bag's Set[int]: what each method computes, over words. -/
import Derived.Test.YtompmejidaddoaaDoorProg
import Derived.Test.YtompmejidaddoaaDoorSep
import Derived.Test.YtompmejidaddoaaDoorSetP
set_option linter.unusedVariables false
set_option linter.unusedSimpArgs false
namespace Go.Proofs.YtompmejidaddoaaDoor
open Go.RowKit

theorem below1 (w : World) (o : Obj) : Below w.heap.size w (w.alloc o) := (Below.refl _ _).alloc (Nat.le_refl _) o

/-- Where an owned row's cells lie. -/
theorem own_form {w : World} {e n base : Nat} {v : Value} {xs : List Value} (h : w.ownsRow base e 1 v n xs) (hn : 0 < n) :
    ∃ g cap, v = .slice (some ⟨g, 0, none⟩) n cap ∧ g < w.heap.size ∧ n ≤ cap ∧ (∀ j u, xs[j]? = some u → w.cell? ⟨g, j, none⟩ = some u) ∧ (∀ j, w.frozen? ⟨g, j, none⟩ = false) := by
  rcases h.2 with ⟨_, h0⟩ | ⟨g, cap, cur, rfl, hb, hg, hnc, _⟩
  · omega
  · refine ⟨g, cap, rfl, (Array.getElem?_eq_some_iff.1 hg).1, hnc, fun j u hu => ?_, fun j => by simp [World.frozen?, hg]⟩
    have := h.cells (g := g) rfl j u hu
    rwa [Addr.add_lit, Nat.zero_add] at this
theorem own_shape {w : World} {e n size base : Nat} {v : Value} {xs : List Value} (h : w.ownsRow base e size v n xs) : ∃ A c, v = .slice A n c := by
  rcases h.2 with ⟨rfl, rfl⟩ | ⟨g, cap, cur, rfl, _⟩
  · exact ⟨none, 0, rfl⟩
  · exact ⟨_, cap, rfl⟩

section has
set_option maxRecDepth 100000
set_option maxHeartbeats 400000
theorem has_lt (v : Value) (x : Int) (w : World) (h : x < 0) :
    Calls Tryd.prog 26 #[.agg #[v], .int .i64 x] w fun e w' => e = .returned (.bool false) ∧ Below w.heap.size w w' := by
  have h0 : decide (0 ≤ x) = false := by simp; omega
  go_enter Tryd.func26, Tryd.ntmps26
  go_wp2
  go_ret
  exact ⟨rfl, below1 _ _⟩
theorem has_ge (A : Option Addr) (n c : Nat) (x : Int) (w : World) (h : 0 ≤ x) (h1 : x ≤ 9223372036854775807) (hx : ¬ x / 64 < (n : Int)) :
    Calls Tryd.prog 26 #[.agg #[.slice A n c], .int .i64 x] w fun e w' => e = .returned (.bool false) ∧ Below w.heap.size w w' := by
  go_enter Tryd.func26, Tryd.ntmps26
  go_wp2
  go_ret
  exact ⟨rfl, below1 _ _⟩
theorem has_in (b : Nat) (n c : Nat) (x : Int) (u : Int) (w : World) (h : 0 ≤ x) (h1 : x ≤ 9223372036854775807) (hx : x / 64 < n) (hc : w.cell? ⟨b, (x / 64).toNat, none⟩ = some (.int .u64 u)) (hb : b < w.heap.size) :
    Calls Tryd.prog 26 #[.agg #[.slice (some ⟨b, 0, none⟩) n c], .int .i64 x] w fun e w' => e = .returned (.bool (bits BinOp.and IntKind.u64 (u / 2 ^ (x % 64).toNat) 1 == 1)) ∧ Below w.heap.size w w' := by
  go_enter Tryd.func26, Tryd.ntmps26
  go_wp2
  go_ret
  exact ⟨rfl, below1 _ _⟩
end has

theorem has_any (v : Value) (ws : List Nat) (x : Int) (w : World) (hw : Words ws) (ho : w.ownsRow 0 84 1 v ws.length (u64s ws)) (hx : x ≤ 9223372036854775807) :
    Calls Tryd.prog 26 #[.agg #[v], .int .i64 x] w fun e w' => e = .returned (.bool (hasW ws x)) ∧ Below w.heap.size w w' := by
  by_cases h0 : x < 0
  · rw [hasW_neg h0]; exact has_lt v x w h0
  · by_cases h1 : x / 64 < (ws.length : Int)
    · obtain ⟨g, cap, rfl, hg, _, hc, _⟩ := own_form ho (by omega)
      rw [← hasW_in hw (by omega)]
      exact has_in g _ cap x _ w (by omega) hx h1 (hc _ _ (u64s_get ws _ (by omega))) hg
    · obtain ⟨A, c, rfl⟩ := own_shape ho
      rw [hasW_past (by omega) h1]
      exact has_ge A _ c x w (by omega) hx h1

/-! ### Sets in memory -/
/-- A set at the head of block g: which numbers it has. -/
def SetH (g : Nat) (M : Nat → Bool) : HP := HP.ex fun ws : List Nat => HP.ex fun v => HP.and (Words ws ∧ mem ws = M) (HP.sep [Blk g (.cells #[v] 28 (0, 0)), RowH 84 1 v ws.length (u64s ws)])
theorem SetH_iff {w : World} {g : Nat} {M : Nat → Bool} {L : List HP} : Sat w (SetH g M :: L) ↔ ∃ ws v, (Words ws ∧ mem ws = M) ∧ Sat w (Blk g (.cells #[v] 28 (0, 0)) :: RowH 84 1 v ws.length (u64s ws) :: L) := by
  simp only [SetH, Sat_ex, Sat_and, Sat_sep, List.cons_append, List.nil_append]

def canPut (M : Nat → Bool) (x : Int) : Bool := decide (0 ≤ x ∧ x < 4096) && !M x.toNat
def putM (M : Nat → Bool) (x : Int) : Nat → Bool := if 0 ≤ x ∧ x < 4096 then fun i => M i || decide (i = x.toNat) else M

theorem one_u64 : ∀ u ∈ [Value.int .u64 0], u.oneCell' = true := by intro u hu; simp at hu; subst hu; rfl

section put
set_option maxRecDepth 100000
set_option maxHeartbeats 400000
theorem put_lt (g : Nat) (x : Int) (w : World) (h : x < 0) :
    Calls Tryd.prog 11 #[.pointer (some ⟨g, 0, none⟩), .int .i64 x] w fun e w' => e = .returned (.bool false) ∧ Below w.heap.size w w' := by
  go_enter Tryd.func11, Tryd.ntmps11
  go_wp2
  go_ret
  exact ⟨rfl, Below.refl _ _⟩
theorem put_ge (g : Nat) (x : Int) (w : World) (h : 4096 ≤ x) :
    Calls Tryd.prog 11 #[.pointer (some ⟨g, 0, none⟩), .int .i64 x] w fun e w' => e = .returned (.bool false) ∧ Below w.heap.size w w' := by
  go_enter Tryd.func11, Tryd.ntmps11
  go_wp2
  go_ret
  exact ⟨rfl, Below.refl _ _⟩
theorem put_is (g : Nat) (v : Value) (x : Int) (w : World) (h0 : 0 ≤ x) (h1 : x < 4096) (hc : w.cell? ⟨g, 0, none⟩ = some v)
    (hh : Calls Tryd.prog 26 #[.agg #[v], .int .i64 x] w fun e w' => e = .returned (.bool true) ∧ Below w.heap.size w w') :
    Calls Tryd.prog 11 #[.pointer (some ⟨g, 0, none⟩), .int .i64 x] w fun e w' => e = .returned (.bool false) ∧ Below w.heap.size w w' := by
  have HH := Hd.mk hh
  clear hh
  go_enter Tryd.func11, Tryd.ntmps11
  go_wp2_with fail
  refine HH.out.mono ?_
  rintro e w1 ⟨rfl, hb⟩
  go_wp2
  go_ret
  exact ⟨rfl, hb⟩
theorem put_new (g : Nat) (v : Value) (ws : List Nat) (x : Int) (w : World) (L : List HP) (h0 : 0 ≤ x) (h1 : x < 4096) (hw : Words ws) (hn : hasW ws x = false)
    (hs : Sat w (Blk g (.cells #[v] 28 (0, 0)) :: RowH 84 1 v ws.length (u64s ws) :: L)) :
    Calls Tryd.prog 11 #[.pointer (some ⟨g, 0, none⟩), .int .i64 x] w fun e w' => e = .returned (.bool true) ∧ Sat w' (SetH g (fun i => mem ws i || decide (i = x.toNat)) :: L) ∧ Ext w w' := by
  have hc : w.cell? ⟨g, 0, none⟩ = some v := blk_cell hs.blk 0
  have HH := Hd.mk (has_any v ws x w hw (hs.rowAt 1 rfl) (by omega))
  rw [hn] at HH
  have HN := Hd.mk hn
  clear hn
  go_enter Tryd.func11, Tryd.ntmps11
  go_wp2_with fail
  refine HH.out.mono ?_
  rintro e w1 ⟨rfl, hb⟩
  have hs1 := hs.below hb
  have he1 := Ext.of_below hb
  clear hc HH hs hb
  go_wp2
  go_loopg [] (65 - ws.length) (fun k wr => ∃ v1 ws1, Words ws1 ∧ mem ws1 = mem ws ∧ ws1.length + k = 65 ∧ Sat wr (Blk g (.cells #[v1] 28 (0, 0)) :: RowH 84 1 v1 ws1.length (u64s ws1) :: L) ∧ Ext w wr)
  case atStart => exact ⟨v, ws, hw, rfl, by have := hw.1; omega, hs1, he1⟩
  case round =>
    obtain ⟨v1, ws1, hw1, hm1, hl1, hs2, he2⟩ := hrel
    obtain ⟨A, c, rfl⟩ := own_shape (hs2.rowAt 1 rfl)
    have hc : wr.cell? ⟨g, 0, none⟩ = some (.slice A ws1.length c) := blk_cell hs2.blk 0
    have HM := Hd.mk hm1
    have HL := Hd.mk hl1
    clear hm1 hl1
    by_cases hlt : (ws1.length : Int) ≤ x / 64
    · go_wp2_with (at_builtin; refine wpList_append_sat rfl _ _ 25 rfl 84 (.int .u64 0) 1 8 Tryd.underlying25 (by kernel_rfl) rfl (by decide) _ ws1.length _ rfl hs2 1 rfl 1 1 [.int .u64 0] rfl rfl one_u64 (by have := hw1.1; omega) (by have := hw1.1; omega) ?_; intro v2 w2 hs3 he3; obtain ⟨A2, c2, rfl⟩ := own_shape (hs3.rowAt 1 rfl); have hc2 := blk_cell hs3.blk 0; have hf2 := blk_free hs3.blk 0)
      go_roundg (gk - 1)
      case measure => have := HL.out; have := hw1.1; omega
      case rel =>
        refine ⟨.slice A2 (ws1.length + 1) c2, ws1 ++ [0], words_snoc hw1 (by omega), ?_, by have := HL.out; simp; omega, ?_, (he2.trans he3).setCell _ _⟩
        · rw [← HM.out]; funext i; exact mem_snoc _ _
        · have h4 := hs3.setAt 0 rfl 0 (.slice A2 (ws1.length + 1) c2)
          simpa [u64s] using h4
    · obtain ⟨g2, cap, hv, hg2, hcap, hcs, hfr⟩ := own_form (hs2.rowAt 1 rfl) (by omega)
      injection hv with hA _ hcc
      subst hA hcc
      have hcw := hcs (x / 64).toNat _ (u64s_get ws1 _ (by omega))
      have hfw := hfr (x / 64).toNat
      clear hcs hfr
      go_wp2_with fail
      go_region
      all_goals go_wp2
      all_goals go_ret
      all_goals
        rw [or_word hw1 x h0]
        have h5 := hs2.rowSetAt 1 rfl (x / 64).toNat (.int .u64 ((ws1.getD (x.toNat / 64) 0 ||| 2 ^ (x.toNat % 64) : Nat) : Int))
        refine ⟨rfl, (SetH_iff.2 ⟨putW ws1 x.toNat, .slice (some ⟨g2, 0, none⟩) ws1.length c, ⟨words_putW hw1 _, ?_⟩, ?_⟩).drew, (he2.setCell _ _).drew⟩
        · funext i
          rw [mem_putW _ _ (by omega), HM.out]
        · have e1 : (x / 64).toNat = x.toNat / 64 := by omega
          rw [u64s_set, e1] at h5
          rw [e1]
          have e2 : (putW ws1 x.toNat).length = ws1.length := by simp [putW]
          rw [e2]
          exact h5
end put

theorem put_any (g : Nat) (M : Nat → Bool) (x : Int) (w : World) (L : List HP) (hs : Sat w (SetH g M :: L)) (hx : x ≤ 9223372036854775807) :
    Calls Tryd.prog 11 #[.pointer (some ⟨g, 0, none⟩), .int .i64 x] w fun e w' => e = .returned (.bool (canPut M x)) ∧ Sat w' (SetH g (putM M x) :: L) ∧ Ext w w' := by
  by_cases h0 : x < 0
  · refine (put_lt g x w h0).mono fun e w' ⟨he, hb⟩ => ⟨?_, ?_, Ext.of_below hb⟩
    · rw [he, canPut, decide_eq_false (by omega)]; rfl
    · rw [putM, if_neg (by omega)]; exact hs.below hb
  · by_cases h1 : 4096 ≤ x
    · refine (put_ge g x w h1).mono fun e w' ⟨he, hb⟩ => ⟨?_, ?_, Ext.of_below hb⟩
      · rw [he, canPut, decide_eq_false (by omega)]; rfl
      · rw [putM, if_neg (by omega)]; exact hs.below hb
    · obtain ⟨ws, v, ⟨hw, rfl⟩, hs'⟩ := SetH_iff.1 hs
      have hc : w.cell? ⟨g, 0, none⟩ = some v := blk_cell hs'.blk 0
      have hh := has_any v ws x w hw (hs'.rowAt 1 rfl) hx
      rw [putM, if_pos (by omega), canPut, decide_eq_true (by omega)]
      have e : hasW ws x = mem ws x.toNat := by simp [hasW]; omega
      cases hm : mem ws x.toNat with
      | true =>
        rw [e, hm] at hh
        refine (put_is g v x w (by omega) (by omega) hc hh).mono fun e w' ⟨he, hb⟩ => ⟨by simpa using he, ?_, Ext.of_below hb⟩
        have : (fun i => mem ws i || decide (i = x.toNat)) = mem ws := by
          funext i
          by_cases hi : i = x.toNat
          · subst hi; simp [hm]
          · simp [hi]
        rw [this]
        exact hs.below hb
      | false =>
        exact (put_new g v ws x w L (by omega) (by omega) hw (e.trans hm) hs').mono fun e w' ⟨he, h2, h3⟩ => ⟨by simpa using he, h2, h3⟩

end Go.Proofs.YtompmejidaddoaaDoor
