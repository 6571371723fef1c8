/- Lists compared; the numbers of a model. -/
import Derived.Test.YtompmejidaddoaaDoorBagE
import Derived.Test.YtompmejidaddoaaDoorEngT
set_option linter.unusedVariables false
set_option linter.unusedSimpArgs false
namespace Go.Proofs.YtompmejidaddoaaDoor
open Go Go.RowKit

theorem rowH_rowO {w : World} {e s n : Nat} {v : Value} {xs : List Value} {l : List HP} (h : Sat w (RowH e s v n xs :: l)) : Sat w (RowO e s v n xs :: l) := by
  refine h.conv fun S hS => ⟨⟨hS.1.1, ?_⟩, fun i => hS.2 i⟩
  rcases hS.1.2 with hn | ⟨g, cap, cur, rfl, _, hg, h1, h2, h3, h4⟩
  · exact .inl hn
  · refine .inr ⟨g, 0, cap, cur, rfl, hg, h1, h2, by omega, fun j hj => ?_⟩
    rw [← h4, List.getElem?_take_of_lt hj]
    simp
theorem ct_allR (W0 : World) (hT : Tab W0) (M : Nat → Bool) (v : Value) : Ct Tryd.prog 15 [.agg [v].toArray] [.old W0, .hp (SetV v M)] [.emp] (X := RowV (elems M).length) (fun x => x.1) (fun x => [.row 3 1 x.1 (elems M).length (i64s (allI M))]) := by
  intro w l hs
  have hs0 : Sat w (Old W0 :: SetV v M :: HP.sep [] :: l) := hs
  refine (ct_allV W0 hT M v w l (hs0.perm (List.Perm.swap _ _ _))).mono fun e w' ⟨x, he, h1, h2⟩ => ?_
  have h3 : Sat w' (SetV v M :: Old W0 :: RowH 3 1 x.1 (elems M).length (i64s (allI M)) :: l) := h1
  have h4 := rowH_rowO (h3.front 2 rfl)
  exact ⟨x, he, h4.perm ((List.Perm.swap _ _ _).trans ((List.Perm.swap _ _ _).cons _ |>.trans (List.Perm.swap _ _ _))), h2⟩
set_option maxRecDepth 100000 in
theorem ct_SameInts (c d : Chunk) (va vb : Value) (xs ys : List Int) (ha : Rds c va xs.length 1 (i64s xs)) (hb : Rds d vb ys.length 1 (i64s ys)) : Ct Tryd.prog 36 [va, vb] [c, d] [] (X := Unit) (fun _ => .bool (decide (xs = ys))) (fun _ => []) := by
  refine ct_of fun w l hs => ?_
  have hra := ha.row
  have hrb := hb.row
  have hm := hra.max
  simp only [maxLen] at hm
  refine enter (c := bodyOf Tryd.f36) Tryd.func36 rfl Tryd.ntmps36 rfl (L := [c, d, .hp (HP.sep l)]) hs ?_
  refine W_seq rfl ?_
  refine W_reg (m := 1) rfl rfl ?_
  refine RN_op rfl rfl rfl (st_pure pure_assign rfl rfl rfl ?_)
  refine RN_end ?_
  refine WQ_keep [(0, _), (1, _)] ⟨rfl, rfl, trivial⟩ ?_
  refine WQ_then ?_
  refine W_seq rfl ?_
  refine W_seq rfl ?_
  refine W_reg (m := 5) rfl rfl ?_
  refine RN_op rfl rfl rfl (st_pure pure_move rfl rfl rfl ?_)
  refine RN_op rfl rfl rfl (st_pure (pure_lenR Tryd.underlying46 (by assumption)) rfl rfl rfl ?_)
  refine RN_op rfl rfl rfl (st_pure pure_move rfl rfl rfl ?_)
  refine RN_op rfl rfl rfl (st_pure (pure_lenR Tryd.underlying46 (by assumption)) rfl rfl rfl ?_)
  refine RN_op rfl rfl rfl (st_pure pure_neq rfl rfl rfl ?_)
  refine RN_end ?_
  refine WQ_keep [(10, _), (0, _), (1, _)] ⟨rfl, rfl, rfl, trivial⟩ ?_
  refine WQ_then ?_
  refine W_cond rfl rfl (fun hc1 => ?_) (fun hc1 => ?_)
  · refine W_seq rfl ?_
    refine W_reg (m := 1) rfl rfl ?_
    refine RN_op rfl rfl rfl (st_pure pure_assign rfl rfl rfl ?_)
    refine RN_end ?_
    refine WQ_keep [(4, _)] ⟨rfl, trivial⟩ ?_
    refine WQ_then ?_
    refine W_ret rfl ?_
    refine WQ_thenX rfl ?_
    refine WQ_ret (vs := [_]) (by rw [Tryd.results36]; rfl) fun w' hs' he' => ?_
    exact ⟨(), by rw [decide_eq_false (fun h => hc1 (by rw [h]))]; rfl, hs', he'⟩
  · refine W_skip rfl ?_
    refine WQ_then ?_
    refine W_seq rfl ?_
    refine W_seq rfl ?_
    refine W_reg (m := 1) rfl rfl ?_
    refine RN_op rfl rfl rfl (st_pure pure_assign rfl rfl rfl ?_)
    refine RN_end ?_
    refine WQ_keep [(5, _), (0, _), (1, _)] ⟨rfl, rfl, rfl, trivial⟩ ?_
    refine WQ_then ?_
    refine W_block rfl ?_
    have hl : xs.length = ys.length := by omega
    refine W_loop (σ := Nat) (fun i => xs.length - i) (fun i => [(0, va), (1, vb), (5, .int .i64 ((i : Nat) : Int))]) (fun i => [c, d, .hp (HP.sep l)]) (fun i => i ≤ xs.length ∧ ∀ j, j < i → nth xs j = nth ys j) (0) rfl (⟨Nat.zero_le _, fun j hj => by omega⟩) (AllIn.sub ⟨rfl, rfl, rfl, trivial⟩) (EntP.ent (by repeat' first | exact EntP.nil | refine EntP.same ?_ | refine EntP.drop ?_ | refine EntP.nilRow ?_)) ?_
    rintro i hI
    refine W_as [(0, va), (1, vb), (5, .int .i64 ((i : Nat) : Int))] [c, d, .hp (HP.sep l)] ⟨rfl, rfl, rfl, trivial⟩ (EntP.refl _) ?_
    obtain ⟨hi, hsame⟩ := hI
    refine W_seq rfl ?_
    refine W_seq rfl ?_
    refine W_reg (m := 4) rfl rfl ?_
    refine RN_op rfl rfl rfl (st_pure pure_move rfl rfl rfl ?_)
    refine RN_op rfl rfl rfl (st_pure pure_move rfl rfl rfl ?_)
    refine RN_op rfl rfl rfl (st_pure (pure_lenR Tryd.underlying46 (by assumption)) rfl rfl rfl ?_)
    refine RN_op rfl rfl rfl (st_pure pure_lss rfl rfl rfl ?_)
    refine RN_end ?_
    refine WQ_keep [(14, _), (0, _), (1, _), (5, _)] ⟨rfl, rfl, rfl, rfl, trivial⟩ ?_
    refine WQ_then ?_
    refine W_cond rfl rfl (fun hc2 => ?_) (fun hc2 => ?_)
    · refine W_skip rfl ?_
      refine WQ_then ?_
      refine W_seq rfl ?_
      refine W_block rfl ?_
      refine W_seq rfl ?_
      refine W_draw (m := 9) [(3, Spec.ld 0), (7, Spec.ld 1)] #[0, 0, 3, 7, 0, 0, 48, 112, 255] rfl rfl mixed (by kernel_rfl) (by kernel_rfl) ?_
      refine RG_op rfl rfl rfl rfl (st_pure pure_move rfl rfl rfl ?_)
      refine RG_op rfl rfl rfl rfl (st_pure pure_move rfl rfl rfl ?_)
      refine RG_op rfl rfl rfl rfl (st_pure (pure_indexR Tryd.underlying46 sz3 (by assumption) (by omega)) rfl rfl rfl ?_)
      refine RG_op rfl rfl rfl rfl (st_ld 0 rfl Tryd.underlying3 rfl rfl rfl (ha.cell (nth_get xs i (by omega))) rfl rfl ?_)
      refine RG_op rfl rfl rfl rfl (st_pure pure_move rfl rfl rfl ?_)
      refine RG_op rfl rfl rfl rfl (st_pure pure_move rfl rfl rfl ?_)
      refine RG_op rfl rfl rfl rfl (st_pure (pure_indexR Tryd.underlying46 sz3 (by assumption) (by omega)) rfl rfl rfl ?_)
      refine RG_op rfl rfl rfl rfl (st_ld 1 rfl Tryd.underlying3 rfl rfl rfl (hb.cell (nth_get ys i (by omega))) rfl rfl ?_)
      refine RG_op rfl rfl rfl rfl (st_pure pure_neq rfl rfl rfl ?_)
      refine RG_end ?_
      refine WQ_keep [(25, _), (0, _), (1, _), (5, _)] ⟨rfl, rfl, rfl, rfl, trivial⟩ ?_
      refine WQ_then ?_
      refine W_cond rfl rfl (fun hc3 => ?_) (fun hc3 => ?_)
      · refine W_seq rfl ?_
        refine W_reg (m := 1) rfl rfl ?_
        refine RN_op rfl rfl rfl (st_pure pure_assign rfl rfl rfl ?_)
        refine RN_end ?_
        refine WQ_keep [(4, _)] ⟨rfl, trivial⟩ ?_
        refine WQ_then ?_
        refine W_ret rfl ?_
        refine WQ_inBR ?_
        refine WQ_thenX rfl ?_
        refine WQ_thenX rfl ?_
        refine WQ_inBR ?_
        refine WQ_thenX rfl ?_
        refine WQ_ret (vs := [_]) (by rw [Tryd.results36]; rfl) fun w' hs' he' => ?_
        exact ⟨(), by rw [decide_eq_false (fun h => hc3 (by rw [h]))]; rfl, hs', he'⟩
      · refine W_skip rfl ?_
        refine WQ_inB ?_
        refine WQ_then ?_
        refine W_reg (m := 3) rfl rfl ?_
        refine RN_op rfl rfl rfl (st_pure pure_move rfl rfl rfl ?_)
        refine RN_op rfl rfl rfl (st_pure (pure_add64 (by omega)) rfl rfl rfl ?_)
        refine RN_op rfl rfl rfl (st_pure pure_assign rfl rfl rfl ?_)
        refine RN_end ?_
        refine WQ_keep [(5, _), (0, _), (1, _)] ⟨rfl, rfl, rfl, trivial⟩ ?_
        refine WQ_hand (i + 1) (⟨by omega, fun j hj => by rcases Nat.lt_or_ge j i with h | h; exact hsame j h; have := (show j = i by omega); subst this; omega⟩) (by (try dsimp only); omega) (AllIn.sub ⟨rfl, rfl, rfl, trivial⟩) (EntP.ent (by repeat' first | exact EntP.nil | refine EntP.same ?_ | refine EntP.drop ?_ | refine EntP.nilRow ?_))
    · refine W_exit rfl ?_
      refine WQ_thenX rfl ?_
      refine WQ_thenX rfl ?_
      refine WQ_hit ?_
      refine WQ_then ?_
      refine W_seq rfl ?_
      refine W_reg (m := 1) rfl rfl ?_
      refine RN_op rfl rfl rfl (st_pure pure_assign rfl rfl rfl ?_)
      refine RN_end ?_
      refine WQ_keep [(4, _)] ⟨rfl, trivial⟩ ?_
      refine WQ_then ?_
      refine W_ret rfl ?_
      refine WQ_ret (vs := [_]) (by rw [Tryd.results36]; rfl) fun w' hs' he' => ?_
      exact ⟨(), by rw [decide_eq_true (take_eq_all hl (fun j hj => hsame j (by omega)))]; rfl, hs', he'⟩
/-- The numbers below i that are there. -/
def upI (M : Nat → Bool) (i : Nat) : List Int := ((List.range i).filter M).map fun n : Nat => (n : Int)
theorem upI_succ (M : Nat → Bool) (i : Nat) : upI M (i + 1) = if M i = true then upI M i ++ [(i : Int)] else upI M i := by
  unfold upI
  rw [List.range_succ, List.filter_append]
  by_cases h : M i = true
  · rw [if_pos h]; simp [h]
  · rw [if_neg h]; simp [h]
theorem upI_all (M : Nat → Bool) : upI M 4096 = allI M := rfl
theorem upI_le (M : Nat → Bool) (i : Nat) : (upI M i).length ≤ i := by
  unfold upI
  rw [List.length_map]
  exact Nat.le_trans (List.length_filter_le _ _) (by simp)
set_option maxRecDepth 100000 in
set_option maxHeartbeats 1000000 in
theorem ct_all (g : Nat) (M : Nat → Bool) : Ct Tryd.prog 35 [.pointer (some ⟨g, 0, none⟩)] [ArC g M] [.emp] (X := RowV (elems M).length) (fun x => x.1) (fun x => [.row 3 1 x.1 (elems M).length (i64s (allI M))]) := by
  refine ct_of fun w l hs => ?_
  refine enter (c := bodyOf Tryd.f35) Tryd.func35 rfl Tryd.ntmps35 rfl (L := [ArC g M, .emp, .hp (HP.sep l), .emp]) (SatC.pad hs 1) ?_
  refine W_seq rfl ?_
  refine W_reg (m := 1) rfl rfl ?_
  refine RN_op rfl rfl rfl (st_pure pure_assign rfl rfl rfl ?_)
  refine RN_end ?_
  refine WQ_keep [(0, _)] ⟨rfl, trivial⟩ ?_
  refine WQ_then ?_
  refine W_seq rfl ?_
  refine W_reg (m := 1) rfl rfl ?_
  refine RN_op rfl rfl rfl (st_pure pure_assign rfl rfl rfl ?_)
  refine RN_end ?_
  refine WQ_keep [(3, _), (0, _)] ⟨rfl, rfl, trivial⟩ ?_
  refine WQ_then ?_
  refine W_seq rfl ?_
  refine W_seq rfl ?_
  refine W_reg (m := 2) rfl rfl ?_
  refine RN_op rfl rfl rfl (st_pure pure_move rfl rfl rfl ?_)
  refine RN_op rfl rfl rfl (st_pure pure_move rfl rfl rfl ?_)
  refine RN_end ?_
  refine WQ_keep [(7, _), (6, _), (3, _)] ⟨rfl, rfl, rfl, trivial⟩ ?_
  refine WQ_then ?_
  refine W_block rfl ?_
  refine W_loop (σ := Nat × Value) (fun ⟨i, v⟩ => 4096 - i) (fun ⟨i, v⟩ => [(3, v), (6, .pointer (some ⟨g, 0, none⟩)), (7, .int .i64 ((i : Nat) : Int))]) (fun ⟨i, v⟩ => [ArC g M, .row 3 1 v (upI M i).length (i64s (upI M i)), .hp (HP.sep l), .emp]) (fun ⟨i, v⟩ => i ≤ 4096 ∧ IsRow v (upI M i).length) ((0, .slice none 0 0)) rfl (⟨Nat.zero_le _, .inl ⟨rfl, rfl⟩⟩) (AllIn.sub ⟨rfl, rfl, rfl, trivial⟩) (EntP.ent (by repeat' first | exact EntP.nil | refine EntP.same ?_ | refine EntP.drop ?_ | refine EntP.nilRow ?_)) ?_
  rintro ⟨i, v⟩ hI
  refine W_as [(3, v), (6, .pointer (some ⟨g, 0, none⟩)), (7, .int .i64 ((i : Nat) : Int))] [ArC g M, .row 3 1 v (upI M i).length (i64s (upI M i)), .hp (HP.sep l), .emp] ⟨rfl, rfl, rfl, trivial⟩ (EntP.refl _) ?_
  obtain ⟨hi, hv⟩ := hI
  have hle := upI_le M i
  refine W_seq rfl ?_
  refine W_reg (m := 1) rfl rfl ?_
  refine RN_op rfl rfl rfl (st_pure pure_lss rfl rfl rfl ?_)
  refine RN_end ?_
  refine WQ_keep [(8, _), (3, _), (6, _), (7, _)] ⟨rfl, rfl, rfl, rfl, trivial⟩ ?_
  refine WQ_then ?_
  refine W_seq rfl ?_
  refine W_cond rfl rfl (fun hc1 => ?_) (fun hc1 => ?_)
  · refine W_skip rfl ?_
    refine WQ_then ?_
    refine W_seq rfl ?_
    refine W_block rfl ?_
    refine W_seq rfl ?_
    refine W_draw (m := 6) [(3, Spec.ld 0)] #[0, 0, 2, 6, 1, 31] rfl rfl mixed (by kernel_rfl) (by kernel_rfl) ?_
    refine RG_op rfl rfl rfl rfl (st_pure pure_move rfl rfl rfl ?_)
    refine RG_op rfl rfl rfl rfl (st_pure pure_nil rfl rfl rfl ?_)
    refine RG_op rfl rfl rfl rfl (st_pure (pure_indexA Tryd.underlying78 sz4 (by omega)) rfl rfl rfl ?_)
    refine RG_op rfl rfl rfl rfl (st_ld 0 rfl Tryd.underlying4 rfl rfl rfl (cell_arr (by omega)) rfl rfl ?_)
    refine RG_op rfl rfl rfl rfl (st_pure pure_assign rfl rfl rfl ?_)
    refine RG_op rfl rfl rfl rfl (st_pure pure_assign rfl rfl rfl ?_)
    refine RG_end ?_
    refine WQ_keep [(5, _), (4, _), (3, _), (6, _), (7, _)] ⟨rfl, rfl, rfl, rfl, rfl, trivial⟩ ?_
    refine WQ_then ?_
    refine W_seq rfl ?_
    refine W_reg (m := 1) rfl rfl ?_
    refine RN_op rfl rfl rfl (st_pure pure_move rfl rfl rfl ?_)
    refine RN_end ?_
    refine WQ_keep [(13, _), (4, _), (3, _), (6, _), (7, _)] ⟨rfl, rfl, rfl, rfl, rfl, trivial⟩ ?_
    refine WQ_then ?_
    refine W_condB rfl rfl (fun hc2 => ?_) (fun hc2 => ?_)
    · refine W_reg (m := 5) rfl rfl ?_
      refine RN_op rfl rfl rfl (st_pure pure_move rfl rfl rfl ?_)
      refine RN_op rfl rfl rfl (st_pure pure_move rfl rfl rfl ?_)
      refine RN_op rfl rfl rfl (s_al 3 (alloc_buildSlice Tryd.underlying46 el46.zero rfl (by decide)) rfl rfl rfl fun g3 => ?_)
      refine RN_op rfl rfl rfl (s_appR 3 1 rfl el46 rfl rfl rfl rfl rfl toRow_row (rds_blk rfl (by decide)) AllOne.out (by omega) (by omega) rfl rfl fun v17 hv17 => ?_)
      have e1 : upI M i ++ [(i : Int)] = upI M (i + 1) := by rw [upI_succ, if_pos hc2]
      have e2 : (upI M i).length + 1 = (upI M (i + 1)).length := by rw [← e1]; simp
      rw [i64s_snoc, e1, e2]
      rw [e2] at hv17
      refine RN_op rfl rfl rfl (st_pure pure_assign rfl rfl rfl ?_)
      refine RN_end ?_
      refine WQ_keep [(3, _), (6, _), (7, _)] ⟨rfl, rfl, rfl, trivial⟩ ?_
      refine WQ_inB ?_
      refine WQ_then ?_
      refine W_reg (m := 2) rfl rfl ?_
      refine RN_op rfl rfl rfl (st_pure (pure_add64 (by omega)) rfl rfl rfl ?_)
      refine RN_op rfl rfl rfl (st_pure pure_move rfl rfl rfl ?_)
      refine RN_end ?_
      refine WQ_keep [(7, _), (3, _), (6, _)] ⟨rfl, rfl, rfl, trivial⟩ ?_
      refine WQ_hand ((i + 1, v17)) (⟨by omega, hv17⟩) (by (try dsimp only); omega) (AllIn.sub ⟨rfl, rfl, rfl, trivial⟩) (EntP.ent (by repeat' first | exact EntP.nil | refine EntP.same ?_ | refine EntP.drop ?_ | refine EntP.nilRow ?_))
    · refine W_skip rfl ?_
      refine WQ_inB ?_
      refine WQ_then ?_
      refine W_reg (m := 2) rfl rfl ?_
      refine RN_op rfl rfl rfl (st_pure (pure_add64 (by omega)) rfl rfl rfl ?_)
      refine RN_op rfl rfl rfl (st_pure pure_move rfl rfl rfl ?_)
      refine RN_end ?_
      refine WQ_keep [(7, _), (3, _), (6, _)] ⟨rfl, rfl, rfl, trivial⟩ ?_
      have e3 : upI M (i + 1) = upI M i := by rw [upI_succ, if_neg (by rw [hc2]; decide)]
      rw [← e3]
      refine WQ_hand ((i + 1, v)) (⟨by omega, by rw [e3]; exact hv⟩) (by (try dsimp only); omega) (AllIn.sub ⟨rfl, rfl, rfl, trivial⟩) (EntP.ent (by repeat' first | exact EntP.nil | refine EntP.same ?_ | refine EntP.drop ?_ | refine EntP.nilRow ?_))
  · refine W_exit rfl ?_
    refine WQ_thenX rfl ?_
    refine WQ_thenX rfl ?_
    refine WQ_hit ?_
    refine WQ_then ?_
    refine W_seq rfl ?_
    refine W_reg (m := 2) rfl rfl ?_
    refine RN_op rfl rfl rfl (st_pure pure_move rfl rfl rfl ?_)
    refine RN_op rfl rfl rfl (st_pure pure_assign rfl rfl rfl ?_)
    refine RN_end ?_
    refine WQ_keep [(2, _)] ⟨rfl, trivial⟩ ?_
    refine WQ_then ?_
    refine W_ret rfl ?_
    refine WQ_ret (vs := [_]) (by rw [Tryd.results35]; rfl) fun w' hs' he' => ?_
    have hi2 : i = 4096 := by omega
    subst hi2
    have hl : (upI M 4096).length = (elems M).length := by rw [upI_all, allI_length]
    rw [hl] at hv
    rw [upI_all, allI_length] at hs'
    exact ⟨⟨v, hv⟩, rfl, hs'.pick [0, 1, 2] (by decide), he'⟩
end Go.Proofs.YtompmejidaddoaaDoor
