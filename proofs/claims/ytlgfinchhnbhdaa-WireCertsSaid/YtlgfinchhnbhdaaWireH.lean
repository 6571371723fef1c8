/- An end: what it takes, its fault. -/
import Derived.Test.YtlgfinchhnbhdaaWireG
import Derived.Test.YtlgfinchhnbhdaaEngM
set_option linter.unusedVariables false
set_option linter.unusedSimpArgs false
namespace Go.Proofs.Ytlgfinchhnbhdaa
open Go Go.RowKit

abbrev enV (k a t e : Int) : Value := .agg [.int .u8 k, .int .i64 a, .int .i64 t, .int .i64 e].toArray
theorem ct_Last (k a t e : Int) : Ct Try.prog 71 [enV k a t e] [] [] (X := Unit) (fun _ => .tuple #[.int .i64 a, .bool (decide (k = 2 ∨ k = 3))]) (fun _ => []) := by
  refine ct_of fun w l hs => ?_
  refine enter (c := bodyOf Try.f71) Try.func71 rfl Try.ntmps71 rfl (L := [.hp (HP.sep l), .emp]) (SatC.pad hs 1) ?_
  refine W_seq rfl ?_
  refine W_reg (m := 3) rfl rfl ?_
  refine RN_op rfl rfl rfl (s_al 1 alloc_boxA rfl rfl rfl fun g1 => ?_)
  refine RN_op rfl rfl rfl (st_pure pure_assign rfl rfl rfl ?_)
  refine RN_op rfl rfl rfl (st_pure pure_assign rfl rfl rfl ?_)
  refine RN_end ?_
  refine WQ_keep [(1, _)] ⟨rfl, trivial⟩ ?_
  refine WQ_then ?_
  refine W_seq rfl ?_
  refine W_draw (m := 12) [(1, Spec.ld 1), (3, Spec.ld 1), (7, Spec.ld 1)] #[0, 1, 0, 4, 12, 28, 60, 124, 252, 508, 63, 2047] rfl rfl mixed (by kernel_rfl) (by kernel_rfl) ?_
  refine RG_op rfl rfl rfl rfl (st_pure (pure_field0 1 Try.underlying71 rfl rfl sz3) rfl rfl rfl ?_)
  refine RG_op rfl rfl rfl rfl (st_ld 1 rfl Try.underlying3 rfl rfl rfl cell_blk rfl rfl ?_)
  refine RG_op rfl rfl rfl rfl (st_pure (pure_field0 0 Try.underlying71 rfl rfl sz69) rfl rfl rfl ?_)
  refine RG_op rfl rfl rfl rfl (st_ld 1 rfl Try.underlying69 rfl rfl rfl cell_blk rfl rfl ?_)
  refine RG_op rfl rfl rfl rfl (st_pure pure_eql rfl rfl rfl ?_)
  refine RG_op rfl rfl rfl rfl (st_pure pure_move rfl rfl rfl ?_)
  refine' RG_or 5 3 [(5, _)] rfl rfl rfl rfl rfl rfl rfl rfl rfl rfl rfl rfl rfl ⟨rfl, trivial⟩ (wanted_none rfl) (fun hg9 => ?_) ?_ rfl
  rotate_left 2
  · refine RG_gT rfl rfl rfl rfl rfl rfl rfl (st_pure (pure_field0 0 Try.underlying71 rfl rfl sz69) rfl rfl rfl ?_)
    refine RG_gT rfl rfl rfl rfl rfl rfl rfl (st_ld 1 rfl Try.underlying69 rfl rfl rfl cell_blk rfl rfl ?_)
    refine RG_gT rfl rfl rfl rfl rfl rfl rfl (st_pure pure_eql rfl rfl rfl ?_)
    exact cutF_end (AllIn.sub ⟨rfl, rfl, rfl, trivial⟩)
  refine RG_op rfl rfl rfl rfl (st_pure pure_assign rfl rfl rfl ?_)
  refine RG_op rfl rfl rfl rfl (st_pure pure_assign rfl rfl rfl ?_)
  refine RG_end ?_
  refine WQ_keep [(3, _), (2, _)] ⟨rfl, rfl, trivial⟩ ?_
  refine WQ_then ?_
  refine W_ret rfl ?_
  refine WQ_ret (vs := [_, _]) (by rw [Try.results71]; rfl) fun w' hs' he' => ?_
  exact ⟨(), rfl, SatC.fin 1 hs' (by repeat' first | exact EntP.nil | refine EntP.same ?_ | refine EntP.drop ?_ | refine EntP.nilRow ?_), he'⟩
/-- An end's fault. -/
def endsErr (k a t e vregs blocks : Int) : Int :=
  if k < 1 ∨ k > 3 ∨ (¬ (k = 2 ∨ k = 3) ∧ a ≠ 0) ∨ (k = 3 ∧ t ≠ 0) ∨ (k ≠ 2 ∧ e ≠ 0) then 20
  else if (k = 2 ∨ k = 3) ∧ (a < 0 ∨ a ≥ vregs) then 21
  else if (k ≠ 3 ∧ (t < 0 ∨ t ≥ blocks)) ∨ (k = 2 ∧ (e < 0 ∨ e ≥ blocks)) then 22 else 0
set_option maxRecDepth 100000 in
set_option maxHeartbeats 1000000 in
theorem ct_Ends (k a t e vregs blocks : Int) : Ct Try.prog 81 [enV k a t e, .int .i64 vregs, .int .i64 blocks] [] [] (X := Unit) (fun _ => .int .i64 (endsErr k a t e vregs blocks)) (fun _ => []) := by
  refine ct_of fun w l hs => ?_
  refine enter (c := bodyOf Try.f81) Try.func81 rfl Try.ntmps81 rfl (L := [.hp (HP.sep l), .emp]) (SatC.pad hs 1) ?_
  refine W_seq rfl ?_
  refine W_reg (m := 2) rfl rfl ?_
  refine RN_op rfl rfl rfl (s_al 1 alloc_boxA rfl rfl rfl fun g1 => ?_)
  refine RN_op rfl rfl rfl (st_pure pure_assign rfl rfl rfl ?_)
  refine RN_end ?_
  refine WQ_keep [(3, _), (1, _), (2, _)] ⟨rfl, rfl, rfl, trivial⟩ ?_
  refine WQ_then ?_
  refine W_seq rfl ?_
  refine W_reg (m := 7) rfl rfl ?_
  refine RN_op rfl rfl rfl (st_ldN 1 rfl Try.underlying71 rfl sz71 rfl rfl cells_blk rfl rfl ?_)
  refine RN_op rfl rfl rfl (s_ct (R := []) (W := []) (x0 := ()) (ct_Last k a t e) fnF71 rfl rfl rfl rfl (by decide) rfl (fun _ => rfl) rfl rfl fun _ => ?_)
  refine RN_op rfl rfl rfl (st_pure pure_move rfl rfl rfl ?_)
  refine RN_op rfl rfl rfl (st_pure (pure_extract rfl) rfl rfl rfl ?_)
  refine RN_op rfl rfl rfl (st_pure (pure_extract rfl) rfl rfl rfl ?_)
  refine RN_op rfl rfl rfl (st_pure pure_assign rfl rfl rfl ?_)
  refine RN_op rfl rfl rfl (st_pure pure_assign rfl rfl rfl ?_)
  refine RN_end ?_
  refine WQ_keep [(8, _), (7, _), (3, _), (1, _), (2, _)] ⟨rfl, rfl, rfl, rfl, rfl, trivial⟩ ?_
  refine WQ_then ?_
  refine W_seq rfl ?_
  refine W_block rfl ?_
  refine W_seq rfl ?_
  refine W_reg (m := 38) rfl rfl ?_
  refine RN_op rfl rfl rfl (st_pure (pure_field0 0 Try.underlying71 rfl rfl sz69) rfl rfl rfl ?_)
  refine RN_op rfl rfl rfl (st_ld 1 rfl Try.underlying69 rfl rfl rfl cell_blk rfl rfl ?_)
  refine RN_op rfl rfl rfl (st_pure pure_lss rfl rfl rfl ?_)
  refine RN_op rfl rfl rfl (st_pure pure_move rfl rfl rfl ?_)
  refine' RN_or 3 3 [(8, _), (7, _), (3, _), (1, _), (2, _)] rfl rfl rfl rfl rfl rfl rfl rfl rfl rfl rfl rfl rfl ⟨rfl, rfl, rfl, rfl, rfl, trivial⟩ (wanted_none rfl) (fun hg7 => ?_) ?_
  rotate_left 2
  · refine RN_gT rfl rfl rfl rfl rfl rfl (st_pure (pure_field0 0 Try.underlying71 rfl rfl sz69) rfl rfl rfl ?_)
    refine RN_gT rfl rfl rfl rfl rfl rfl (st_ld 1 rfl Try.underlying69 rfl rfl rfl cell_blk rfl rfl ?_)
    refine RN_gT rfl rfl rfl rfl rfl rfl (st_pure pure_gtr rfl rfl rfl ?_)
    exact RN_end (cut_end (AllIn.sub ⟨rfl, rfl, rfl, rfl, rfl, rfl, rfl, trivial⟩) (Ent.refl _))
  refine RN_op rfl rfl rfl (st_pure pure_move rfl rfl rfl ?_)
  refine' RN_or 8 7 [(8, _), (7, _), (3, _), (1, _), (2, _)] rfl rfl rfl rfl rfl rfl rfl rfl rfl rfl rfl rfl rfl ⟨rfl, rfl, rfl, rfl, rfl, trivial⟩ (wanted_none rfl) (fun hg16 => ?_) ?_
  rotate_left 2
  · refine RN_gT rfl rfl rfl rfl rfl rfl (st_pure pure_move rfl rfl rfl ?_)
    refine RN_gT rfl rfl rfl rfl rfl rfl (st_pure pure_notD rfl rfl rfl ?_)
    refine RN_gT rfl rfl rfl rfl rfl rfl (st_pure pure_move rfl rfl rfl ?_)
    refine' RN_and 11 3 [(23, _), (8, _), (7, _), (3, _), (1, _), (2, _)] rfl rfl rfl rfl rfl rfl rfl rfl rfl rfl rfl rfl rfl ⟨rfl, rfl, rfl, rfl, rfl, rfl, trivial⟩ (wanted_some rfl rfl rfl rfl) (fun hg15 => ?_) ?_
    rotate_left 2
    · refine RN_gT rfl rfl rfl rfl rfl rfl (st_pure (pure_field0 1 Try.underlying71 rfl rfl sz3) rfl rfl rfl ?_)
      refine RN_gT rfl rfl rfl rfl rfl rfl (st_ld 1 rfl Try.underlying3 rfl rfl rfl cell_blk rfl rfl ?_)
      refine RN_gT rfl rfl rfl rfl rfl rfl (st_pure pure_neq rfl rfl rfl ?_)
      exact RN_end (cut_end (AllIn.sub ⟨rfl, rfl, rfl, rfl, rfl, rfl, rfl, rfl, trivial⟩) (Ent.refl _))
    exact RN_end (cut_end (AllIn.sub ⟨rfl, rfl, rfl, rfl, rfl, rfl, rfl, trivial⟩) (Ent.refl _))
  refine RN_op rfl rfl rfl (st_pure pure_move rfl rfl rfl ?_)
  refine' RN_or 17 8 [(8, _), (7, _), (3, _), (1, _), (2, _)] rfl rfl rfl rfl rfl rfl rfl rfl rfl rfl rfl rfl rfl ⟨rfl, rfl, rfl, rfl, rfl, trivial⟩ (wanted_none rfl) (fun hg26 => ?_) ?_
  rotate_left 2
  · refine RN_gT rfl rfl rfl rfl rfl rfl (st_pure (pure_field0 0 Try.underlying71 rfl rfl sz69) rfl rfl rfl ?_)
    refine RN_gT rfl rfl rfl rfl rfl rfl (st_ld 1 rfl Try.underlying69 rfl rfl rfl cell_blk rfl rfl ?_)
    refine RN_gT rfl rfl rfl rfl rfl rfl (st_pure pure_eql rfl rfl rfl ?_)
    refine RN_gT rfl rfl rfl rfl rfl rfl (st_pure pure_move rfl rfl rfl ?_)
    refine' RN_and 21 3 [(32, _), (8, _), (7, _), (3, _), (1, _), (2, _)] rfl rfl rfl rfl rfl rfl rfl rfl rfl rfl rfl rfl rfl ⟨rfl, rfl, rfl, rfl, rfl, rfl, trivial⟩ (wanted_some rfl rfl rfl rfl) (fun hg25 => ?_) ?_
    rotate_left 2
    · refine RN_gT rfl rfl rfl rfl rfl rfl (st_pure (pure_field0 2 Try.underlying71 rfl rfl sz3) rfl rfl rfl ?_)
      refine RN_gT rfl rfl rfl rfl rfl rfl (st_ld 1 rfl Try.underlying3 rfl rfl rfl cell_blk rfl rfl ?_)
      refine RN_gT rfl rfl rfl rfl rfl rfl (st_pure pure_neq rfl rfl rfl ?_)
      exact RN_end (cut_end (AllIn.sub ⟨rfl, rfl, rfl, rfl, rfl, rfl, rfl, rfl, trivial⟩) (Ent.refl _))
    exact RN_end (cut_end (AllIn.sub ⟨rfl, rfl, rfl, rfl, rfl, rfl, rfl, trivial⟩) (Ent.refl _))
  refine RN_op rfl rfl rfl (st_pure pure_move rfl rfl rfl ?_)
  refine' RN_or 27 8 [(8, _), (7, _), (3, _), (1, _), (2, _)] rfl rfl rfl rfl rfl rfl rfl rfl rfl rfl rfl rfl rfl ⟨rfl, rfl, rfl, rfl, rfl, trivial⟩ (wanted_none rfl) (fun hg36 => ?_) ?_
  rotate_left 2
  · refine RN_gT rfl rfl rfl rfl rfl rfl (st_pure (pure_field0 0 Try.underlying71 rfl rfl sz69) rfl rfl rfl ?_)
    refine RN_gT rfl rfl rfl rfl rfl rfl (st_ld 1 rfl Try.underlying69 rfl rfl rfl cell_blk rfl rfl ?_)
    refine RN_gT rfl rfl rfl rfl rfl rfl (st_pure pure_neq rfl rfl rfl ?_)
    refine RN_gT rfl rfl rfl rfl rfl rfl (st_pure pure_move rfl rfl rfl ?_)
    refine' RN_and 31 3 [(42, _), (8, _), (7, _), (3, _), (1, _), (2, _)] rfl rfl rfl rfl rfl rfl rfl rfl rfl rfl rfl rfl rfl ⟨rfl, rfl, rfl, rfl, rfl, rfl, trivial⟩ (wanted_some rfl rfl rfl rfl) (fun hg35 => ?_) ?_
    rotate_left 2
    · refine RN_gT rfl rfl rfl rfl rfl rfl (st_pure (pure_field0 3 Try.underlying71 rfl rfl sz3) rfl rfl rfl ?_)
      refine RN_gT rfl rfl rfl rfl rfl rfl (st_ld 1 rfl Try.underlying3 rfl rfl rfl cell_blk rfl rfl ?_)
      refine RN_gT rfl rfl rfl rfl rfl rfl (st_pure pure_neq rfl rfl rfl ?_)
      exact RN_end (cut_end (AllIn.sub ⟨rfl, rfl, rfl, rfl, rfl, rfl, rfl, rfl, trivial⟩) (Ent.refl _))
    exact RN_end (cut_end (AllIn.sub ⟨rfl, rfl, rfl, rfl, rfl, rfl, rfl, trivial⟩) (Ent.refl _))
  refine RN_op rfl rfl rfl (st_pure pure_assign rfl rfl rfl ?_)
  refine RN_end ?_
  refine WQ_keep [(14, _), (8, _), (7, _), (3, _), (1, _), (2, _)] ⟨rfl, rfl, rfl, rfl, rfl, rfl, trivial⟩ ?_
  refine WQ_then ?_
  refine W_cond rfl rfl (fun hc1 => ?_) (fun hc1 => ?_)
  · refine W_seq rfl ?_
    refine W_reg (m := 1) rfl rfl ?_
    refine RN_op rfl rfl rfl (st_pure pure_assign rfl rfl rfl ?_)
    refine RN_end ?_
    refine WQ_keep [(6, _)] ⟨rfl, trivial⟩ ?_
    refine WQ_then ?_
    refine W_ret rfl ?_
    refine WQ_inBR ?_
    refine WQ_thenX rfl ?_
    refine WQ_ret (vs := [_]) (by rw [Try.results81]; rfl) fun w' hs' he' => ?_
    have e1 : endsErr k a t e vregs blocks = 20 := by unfold endsErr; (repeat' split) <;> first | rfl | omega | (exfalso; simp at *; omega)
    rw [e1]
    exact ⟨(), rfl, SatC.fin 1 hs' (by repeat' first | exact EntP.nil | refine EntP.same ?_ | refine EntP.drop ?_ | refine EntP.nilRow ?_), he'⟩
  · refine W_seq rfl ?_
    refine W_reg (m := 11) rfl rfl ?_
    refine RN_op rfl rfl rfl (st_pure pure_move rfl rfl rfl ?_)
    refine RN_op rfl rfl rfl (st_pure pure_move rfl rfl rfl ?_)
    refine' RN_and 1 7 [(3, _), (2, _)] rfl rfl rfl rfl rfl rfl rfl rfl rfl rfl rfl rfl rfl ⟨rfl, rfl, trivial⟩ (wanted_none rfl) (fun hg9 => ?_) ?_
    rotate_left 2
    · refine RN_gT rfl rfl rfl rfl rfl rfl (st_pure pure_move rfl rfl rfl ?_)
      refine RN_gT rfl rfl rfl rfl rfl rfl (st_pure pure_lss rfl rfl rfl ?_)
      refine RN_gT rfl rfl rfl rfl rfl rfl (st_pure pure_move rfl rfl rfl ?_)
      refine' RN_or 4 3 [(54, _), (3, _), (2, _)] rfl rfl rfl rfl rfl rfl rfl rfl rfl rfl rfl rfl rfl ⟨rfl, rfl, rfl, trivial⟩ (wanted_some rfl rfl rfl rfl) (fun hg8 => ?_) ?_
      rotate_left 2
      · refine RN_gT rfl rfl rfl rfl rfl rfl (st_pure pure_move rfl rfl rfl ?_)
        refine RN_gT rfl rfl rfl rfl rfl rfl (st_pure pure_move rfl rfl rfl ?_)
        refine RN_gT rfl rfl rfl rfl rfl rfl (st_pure pure_geq rfl rfl rfl ?_)
        exact RN_end (cut_end (AllIn.sub ⟨rfl, rfl, rfl, rfl, rfl, trivial⟩) (Ent.refl _))
      exact RN_end (cut_end (AllIn.sub ⟨rfl, rfl, rfl, rfl, trivial⟩) (Ent.refl _))
    refine RN_op rfl rfl rfl (st_pure pure_assign rfl rfl rfl ?_)
    refine RN_end ?_
    refine WQ_keep [(52, _), (3, _), (2, _)] ⟨rfl, rfl, rfl, trivial⟩ ?_
    refine WQ_then ?_
    refine W_cond rfl rfl (fun hc2 => ?_) (fun hc2 => ?_)
    · refine W_seq rfl ?_
      refine W_reg (m := 1) rfl rfl ?_
      refine RN_op rfl rfl rfl (st_pure pure_assign rfl rfl rfl ?_)
      refine RN_end ?_
      refine WQ_keep [(6, _)] ⟨rfl, trivial⟩ ?_
      refine WQ_then ?_
      refine W_ret rfl ?_
      refine WQ_inBR ?_
      refine WQ_thenX rfl ?_
      refine WQ_ret (vs := [_]) (by rw [Try.results81]; rfl) fun w' hs' he' => ?_
      have e1 : endsErr k a t e vregs blocks = 21 := by unfold endsErr; (repeat' split) <;> first | rfl | omega | (exfalso; simp at *; omega)
      rw [e1]
      exact ⟨(), rfl, SatC.fin 1 hs' (by repeat' first | exact EntP.nil | refine EntP.same ?_ | refine EntP.drop ?_ | refine EntP.nilRow ?_), he'⟩
    · refine W_seq rfl ?_
      refine W_seq rfl ?_
      refine W_reg (m := 15) rfl rfl ?_
      refine RN_op rfl rfl rfl (st_pure (pure_field0 0 Try.underlying71 rfl rfl sz69) rfl rfl rfl ?_)
      refine RN_op rfl rfl rfl (st_ld 1 rfl Try.underlying69 rfl rfl rfl cell_blk rfl rfl ?_)
      refine RN_op rfl rfl rfl (st_pure pure_neq rfl rfl rfl ?_)
      refine RN_op rfl rfl rfl (st_pure pure_move rfl rfl rfl ?_)
      refine' RN_and 3 9 [(3, _), (2, _)] rfl rfl rfl rfl rfl rfl rfl rfl rfl rfl rfl rfl rfl ⟨rfl, rfl, trivial⟩ (wanted_none rfl) (fun hg13 => ?_) ?_
      rotate_left 2
      · refine RN_gT rfl rfl rfl rfl rfl rfl (st_pure (pure_field0 2 Try.underlying71 rfl rfl sz3) rfl rfl rfl ?_)
        refine RN_gT rfl rfl rfl rfl rfl rfl (st_ld 1 rfl Try.underlying3 rfl rfl rfl cell_blk rfl rfl ?_)
        refine RN_gT rfl rfl rfl rfl rfl rfl (st_pure pure_lss rfl rfl rfl ?_)
        refine RN_gT rfl rfl rfl rfl rfl rfl (st_pure pure_move rfl rfl rfl ?_)
        refine' RN_or 7 4 [(67, _), (3, _), (2, _)] rfl rfl rfl rfl rfl rfl rfl rfl rfl rfl rfl rfl rfl ⟨rfl, rfl, rfl, trivial⟩ (wanted_some rfl rfl rfl rfl) (fun hg12 => ?_) ?_
        rotate_left 2
        · refine RN_gT rfl rfl rfl rfl rfl rfl (st_pure (pure_field0 2 Try.underlying71 rfl rfl sz3) rfl rfl rfl ?_)
          refine RN_gT rfl rfl rfl rfl rfl rfl (st_ld 1 rfl Try.underlying3 rfl rfl rfl cell_blk rfl rfl ?_)
          refine RN_gT rfl rfl rfl rfl rfl rfl (st_pure pure_move rfl rfl rfl ?_)
          refine RN_gT rfl rfl rfl rfl rfl rfl (st_pure pure_geq rfl rfl rfl ?_)
          exact RN_end (cut_end (AllIn.sub ⟨rfl, rfl, rfl, rfl, rfl, trivial⟩) (Ent.refl _))
        exact RN_end (cut_end (AllIn.sub ⟨rfl, rfl, rfl, rfl, trivial⟩) (Ent.refl _))
      refine RN_op rfl rfl rfl (st_pure pure_assign rfl rfl rfl ?_)
      refine RN_end ?_
      refine WQ_keep [(63, _), (3, _), (2, _)] ⟨rfl, rfl, rfl, trivial⟩ ?_
      refine WQ_then ?_
      refine W_cond rfl rfl (fun hc3 => ?_) (fun hc3 => ?_)
      · refine W_skip rfl ?_
        refine WQ_then ?_
        refine W_cond rfl rfl (fun hc4 => ?_) (fun hc4 => ?_)
        · refine W_seq rfl ?_
          refine W_reg (m := 1) rfl rfl ?_
          refine RN_op rfl rfl rfl (st_pure pure_assign rfl rfl rfl ?_)
          refine RN_end ?_
          refine WQ_keep [(6, _)] ⟨rfl, trivial⟩ ?_
          refine WQ_then ?_
          refine W_ret rfl ?_
          refine WQ_inBR ?_
          refine WQ_thenX rfl ?_
          refine WQ_ret (vs := [_]) (by rw [Try.results81]; rfl) fun w' hs' he' => ?_
          have e1 : endsErr k a t e vregs blocks = 22 := by unfold endsErr; (repeat' split) <;> first | rfl | omega | (exfalso; simp at *; omega)
          rw [e1]
          exact ⟨(), rfl, SatC.fin 1 hs' (by repeat' first | exact EntP.nil | refine EntP.same ?_ | refine EntP.drop ?_ | refine EntP.nilRow ?_), he'⟩
        · refine W_skip rfl ?_
          refine WQ_inB ?_
          refine WQ_then ?_
          refine W_seq rfl ?_
          refine W_reg (m := 1) rfl rfl ?_
          refine RN_op rfl rfl rfl (st_pure pure_assign rfl rfl rfl ?_)
          refine RN_end ?_
          refine WQ_keep [(6, _)] ⟨rfl, trivial⟩ ?_
          refine WQ_then ?_
          refine W_ret rfl ?_
          refine WQ_ret (vs := [_]) (by rw [Try.results81]; rfl) fun w' hs' he' => ?_
          have e1 : endsErr k a t e vregs blocks = 0 := by unfold endsErr; (repeat' split) <;> first | rfl | omega | (exfalso; simp at *; omega)
          rw [e1]
          exact ⟨(), rfl, SatC.fin 1 hs' (by repeat' first | exact EntP.nil | refine EntP.same ?_ | refine EntP.drop ?_ | refine EntP.nilRow ?_), he'⟩
      · refine W_reg (m := 15) rfl rfl ?_
        refine RN_op rfl rfl rfl (st_pure (pure_field0 0 Try.underlying71 rfl rfl sz69) rfl rfl rfl ?_)
        refine RN_op rfl rfl rfl (st_ld 1 rfl Try.underlying69 rfl rfl rfl cell_blk rfl rfl ?_)
        refine RN_op rfl rfl rfl (st_pure pure_eql rfl rfl rfl ?_)
        refine RN_op rfl rfl rfl (st_pure pure_move rfl rfl rfl ?_)
        refine' RN_and 3 9 [] rfl rfl rfl rfl rfl rfl rfl rfl rfl rfl rfl rfl rfl trivial (wanted_none rfl) (fun hg13 => ?_) ?_
        rotate_left 2
        · refine RN_gT rfl rfl rfl rfl rfl rfl (st_pure (pure_field0 3 Try.underlying71 rfl rfl sz3) rfl rfl rfl ?_)
          refine RN_gT rfl rfl rfl rfl rfl rfl (st_ld 1 rfl Try.underlying3 rfl rfl rfl cell_blk rfl rfl ?_)
          refine RN_gT rfl rfl rfl rfl rfl rfl (st_pure pure_lss rfl rfl rfl ?_)
          refine RN_gT rfl rfl rfl rfl rfl rfl (st_pure pure_move rfl rfl rfl ?_)
          refine' RN_or 7 4 [(81, _)] rfl rfl rfl rfl rfl rfl rfl rfl rfl rfl rfl rfl rfl ⟨rfl, trivial⟩ (wanted_some rfl rfl rfl rfl) (fun hg12 => ?_) ?_
          rotate_left 2
          · refine RN_gT rfl rfl rfl rfl rfl rfl (st_pure (pure_field0 3 Try.underlying71 rfl rfl sz3) rfl rfl rfl ?_)
            refine RN_gT rfl rfl rfl rfl rfl rfl (st_ld 1 rfl Try.underlying3 rfl rfl rfl cell_blk rfl rfl ?_)
            refine RN_gT rfl rfl rfl rfl rfl rfl (st_pure pure_move rfl rfl rfl ?_)
            refine RN_gT rfl rfl rfl rfl rfl rfl (st_pure pure_geq rfl rfl rfl ?_)
            exact RN_end (cut_end (AllIn.sub ⟨rfl, rfl, rfl, trivial⟩) (Ent.refl _))
          exact RN_end (cut_end (AllIn.sub ⟨rfl, rfl, trivial⟩) (Ent.refl _))
        refine RN_op rfl rfl rfl (st_pure pure_assign rfl rfl rfl ?_)
        refine RN_end ?_
        refine WQ_keep [(63, _)] ⟨rfl, trivial⟩ ?_
        refine WQ_then ?_
        refine W_cond rfl rfl (fun hc5 => ?_) (fun hc5 => ?_)
        · refine W_seq rfl ?_
          refine W_reg (m := 1) rfl rfl ?_
          refine RN_op rfl rfl rfl (st_pure pure_assign rfl rfl rfl ?_)
          refine RN_end ?_
          refine WQ_keep [(6, _)] ⟨rfl, trivial⟩ ?_
          refine WQ_then ?_
          refine W_ret rfl ?_
          refine WQ_inBR ?_
          refine WQ_thenX rfl ?_
          refine WQ_ret (vs := [_]) (by rw [Try.results81]; rfl) fun w' hs' he' => ?_
          have e1 : endsErr k a t e vregs blocks = 22 := by unfold endsErr; (repeat' split) <;> first | rfl | omega | (exfalso; simp at *; omega)
          rw [e1]
          exact ⟨(), rfl, SatC.fin 1 hs' (by repeat' first | exact EntP.nil | refine EntP.same ?_ | refine EntP.drop ?_ | refine EntP.nilRow ?_), he'⟩
        · refine W_skip rfl ?_
          refine WQ_inB ?_
          refine WQ_then ?_
          refine W_seq rfl ?_
          refine W_reg (m := 1) rfl rfl ?_
          refine RN_op rfl rfl rfl (st_pure pure_assign rfl rfl rfl ?_)
          refine RN_end ?_
          refine WQ_keep [(6, _)] ⟨rfl, trivial⟩ ?_
          refine WQ_then ?_
          refine W_ret rfl ?_
          refine WQ_ret (vs := [_]) (by rw [Try.results81]; rfl) fun w' hs' he' => ?_
          have e1 : endsErr k a t e vregs blocks = 0 := by unfold endsErr; (repeat' split) <;> first | rfl | omega | (exfalso; simp at *; omega)
          rw [e1]
          exact ⟨(), rfl, SatC.fin 1 hs' (by repeat' first | exact EntP.nil | refine EntP.same ?_ | refine EntP.drop ?_ | refine EntP.nilRow ?_), he'⟩
end Go.Proofs.Ytlgfinchhnbhdaa
