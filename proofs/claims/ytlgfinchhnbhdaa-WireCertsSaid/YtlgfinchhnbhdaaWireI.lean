/- The fixed fact that each law of package wire opens with: the function of one block that returns, checked and written. -/
import Derived.Test.YtlgfinchhnbhdaaWireH
set_option linter.unusedVariables false
set_option linter.unusedSimpArgs false
namespace Go.Proofs.Ytlgfinchhnbhdaa
open Go Go.RowKit

abbrev blk0 : List Value := [.slice none 0 0, .int .u8 3, .int .i64 0, .int .i64 0, .int .i64 0]
set_option maxRecDepth 100000 in
set_option maxHeartbeats 1000000 in
theorem ct_Check0 (c : Chunk) (vb : Value) (hR : Rds c vb 1 5 blk0) : Ct Try.prog 62 [.agg [.int .i64 0, .int .i64 1, vb].toArray] [c] [] (X := Unit) (fun _ => .agg [.int .i64 0, .int .i64 0, .int .i64 0].toArray) (fun _ => []) := by
  refine ct_of fun w l hs => ?_
  have hr := hR.row
  haveI := hr.one
  have hnil : IsRow (.slice none 0 0) 0 := .inl ⟨rfl, rfl⟩
  have hE : endsErr 3 0 0 0 1 1 = 0 := by unfold endsErr; simp
  refine enter (c := bodyOf Try.f62) Try.func62 rfl Try.ntmps62 rfl (L := [c, .hp (HP.sep l), .emp, .emp, .emp, .emp]) (SatC.pad hs 4) ?_
  refine W_seq rfl ?_
  refine W_reg (m := 2) rfl rfl ?_
  refine RN_op rfl rfl rfl (s_al 2 alloc_boxA rfl rfl rfl fun g2 => ?_)
  refine RN_op rfl rfl rfl (s_al 3 (alloc_new zr63) rfl rfl rfl fun g3 => ?_)
  refine RN_end ?_
  refine WQ_keep [(2, _), (1, _)] ⟨rfl, rfl, trivial⟩ ?_
  refine WQ_then ?_
  refine W_seq rfl ?_
  refine W_seq rfl ?_
  refine W_reg (m := 32) rfl rfl ?_
  refine RN_op rfl rfl rfl (st_pure (pure_field0 0 Try.underlying80 rfl rfl sz3) rfl rfl rfl ?_)
  refine RN_op rfl rfl rfl (st_ld 2 rfl Try.underlying3 rfl rfl rfl cell_blk rfl rfl ?_)
  refine RN_op rfl rfl rfl (st_pure pure_lss rfl rfl rfl ?_)
  refine RN_op rfl rfl rfl (st_pure pure_move rfl rfl rfl ?_)
  refine' RN_or 3 3 [(2, _), (1, _)] rfl rfl rfl rfl rfl rfl rfl rfl rfl rfl rfl rfl rfl ⟨rfl, rfl, trivial⟩ (wanted_none rfl) (fun hg7 => ?_) ?_
  rotate_left 2
  · refine RN_gT rfl rfl rfl rfl rfl rfl (st_pure (pure_field0 0 Try.underlying80 rfl rfl sz3) rfl rfl rfl ?_)
    refine RN_gT rfl rfl rfl rfl rfl rfl (st_ld 2 rfl Try.underlying3 rfl rfl rfl cell_blk rfl rfl ?_)
    refine RN_gT rfl rfl rfl rfl rfl rfl (st_pure pure_gtr rfl rfl rfl ?_)
    exact RN_end (cut_end (AllIn.sub ⟨rfl, rfl, rfl, rfl, trivial⟩) (Ent.refl _))
  refine RN_op rfl rfl rfl (st_pure pure_move rfl rfl rfl ?_)
  refine' RN_or 8 5 [(2, _), (1, _)] rfl rfl rfl rfl rfl rfl rfl rfl rfl rfl rfl rfl rfl ⟨rfl, rfl, trivial⟩ (wanted_none rfl) (fun hg14 => ?_) ?_
  rotate_left 2
  · refine RN_gT rfl rfl rfl rfl rfl rfl (st_pure (pure_field0 1 Try.underlying80 rfl rfl sz3) rfl rfl rfl ?_)
    refine RN_gT rfl rfl rfl rfl rfl rfl (st_ld 2 rfl Try.underlying3 rfl rfl rfl cell_blk rfl rfl ?_)
    refine RN_gT rfl rfl rfl rfl rfl rfl (st_pure (pure_field0 0 Try.underlying80 rfl rfl sz3) rfl rfl rfl ?_)
    refine RN_gT rfl rfl rfl rfl rfl rfl (st_ld 2 rfl Try.underlying3 rfl rfl rfl cell_blk rfl rfl ?_)
    refine RN_gT rfl rfl rfl rfl rfl rfl (st_pure pure_lss rfl rfl rfl ?_)
    exact RN_end (cut_end (AllIn.sub ⟨rfl, rfl, rfl, rfl, trivial⟩) (Ent.refl _))
  refine RN_op rfl rfl rfl (st_pure pure_move rfl rfl rfl ?_)
  refine' RN_or 15 3 [(2, _), (1, _)] rfl rfl rfl rfl rfl rfl rfl rfl rfl rfl rfl rfl rfl ⟨rfl, rfl, trivial⟩ (wanted_none rfl) (fun hg19 => ?_) ?_
  rotate_left 2
  · refine RN_gT rfl rfl rfl rfl rfl rfl (st_pure (pure_field0 1 Try.underlying80 rfl rfl sz3) rfl rfl rfl ?_)
    refine RN_gT rfl rfl rfl rfl rfl rfl (st_ld 2 rfl Try.underlying3 rfl rfl rfl cell_blk rfl rfl ?_)
    refine RN_gT rfl rfl rfl rfl rfl rfl (st_pure pure_gtr rfl rfl rfl ?_)
    exact RN_end (cut_end (AllIn.sub ⟨rfl, rfl, rfl, rfl, trivial⟩) (Ent.refl _))
  refine RN_op rfl rfl rfl (st_pure pure_move rfl rfl rfl ?_)
  refine' RN_or 20 4 [(2, _), (1, _)] rfl rfl rfl rfl rfl rfl rfl rfl rfl rfl rfl rfl rfl ⟨rfl, rfl, trivial⟩ (wanted_none rfl) (fun hg25 => ?_) ?_
  rotate_left 2
  · refine RN_gT rfl rfl rfl rfl rfl rfl (st_pure (pure_field0 2 Try.underlying80 rfl rfl sz45) rfl rfl rfl ?_)
    refine RN_gT rfl rfl rfl rfl rfl rfl (st_ld 2 rfl Try.underlying45 rfl rfl rfl cell_blk rfl rfl ?_)
    refine RN_gT rfl rfl rfl rfl rfl rfl (st_pure (pure_lenR Try.underlying45 (by assumption)) rfl rfl rfl ?_)
    refine RN_gT rfl rfl rfl rfl rfl rfl (st_pure pure_lss rfl rfl rfl ?_)
    exact RN_end (cut_end (AllIn.sub ⟨rfl, rfl, rfl, rfl, trivial⟩) (Ent.refl _))
  refine RN_op rfl rfl rfl (st_pure pure_move rfl rfl rfl ?_)
  refine' RN_or 26 4 [(2, _), (1, _)] rfl rfl rfl rfl rfl rfl rfl rfl rfl rfl rfl rfl rfl ⟨rfl, rfl, trivial⟩ (wanted_none rfl) (fun hg31 => ?_) ?_
  rotate_left 2
  · refine RN_gT rfl rfl rfl rfl rfl rfl (st_pure (pure_field0 2 Try.underlying80 rfl rfl sz45) rfl rfl rfl ?_)
    refine RN_gT rfl rfl rfl rfl rfl rfl (st_ld 2 rfl Try.underlying45 rfl rfl rfl cell_blk rfl rfl ?_)
    refine RN_gT rfl rfl rfl rfl rfl rfl (st_pure (pure_lenR Try.underlying45 (by assumption)) rfl rfl rfl ?_)
    refine RN_gT rfl rfl rfl rfl rfl rfl (st_pure pure_gtr rfl rfl rfl ?_)
    exact RN_end (cut_end (AllIn.sub ⟨rfl, rfl, rfl, rfl, trivial⟩) (Ent.refl _))
  refine RN_end ?_
  refine WQ_keep [(40, _), (2, _), (1, _)] ⟨rfl, rfl, rfl, trivial⟩ ?_
  refine WQ_then ?_
  refine W_cond rfl rfl (fun hc1 => ?_) (fun hc1 => ?_)
  · omega
  · refine W_skip rfl ?_
    refine WQ_then ?_
    refine W_seq rfl ?_
    refine W_seq rfl ?_
    refine W_reg (m := 4) rfl rfl ?_
    refine RN_op rfl rfl rfl (st_pure (pure_field0 2 Try.underlying80 rfl rfl sz45) rfl rfl rfl ?_)
    refine RN_op rfl rfl rfl (st_ld 2 rfl Try.underlying45 rfl rfl rfl cell_blk rfl rfl ?_)
    refine RN_op rfl rfl rfl (st_pure (pure_lenR Try.underlying45 (by assumption)) rfl rfl rfl ?_)
    refine RN_op rfl rfl rfl (st_pure pure_move rfl rfl rfl ?_)
    refine RN_end ?_
    refine WQ_keep [(45, _), (44, _), (43, _), (2, _), (1, _)] ⟨rfl, rfl, rfl, rfl, rfl, trivial⟩ ?_
    refine WQ_then ?_
    refine W_block rfl ?_
    refine W_loop (σ := Nat) (fun i => 1 - i) (fun i => [(1, .pointer (some ⟨g2, 0, none⟩)), (2, .pointer (some ⟨g3, 0, none⟩)), (43, vb), (44, .int .i64 ((1 : Nat) : Int)), (45, .int .i64 ((i : Nat) : Int))]) (fun i => [c, .hp (HP.sep l), .blk g2 (.cells [.int .i64 0, .int .i64 1, vb].toArray 80 (0, 0)), .blk g3 (.cells [.int .i64 0, .int .i64 0, .int .i64 0].toArray 63 (0, 0)), .emp, .emp]) (fun i => i ≤ 1) (0) rfl ((Nat.zero_le _)) (AllIn.sub ⟨rfl, rfl, rfl, rfl, rfl, trivial⟩) (EntP.ent (by repeat' first | exact EntP.nil | refine EntP.same ?_ | refine EntP.drop ?_ | refine EntP.nilRow ?_)) ?_
    rintro i hI
    refine W_as [(1, .pointer (some ⟨g2, 0, none⟩)), (2, .pointer (some ⟨g3, 0, none⟩)), (43, vb), (44, .int .i64 ((1 : Nat) : Int)), (45, .int .i64 ((i : Nat) : Int))] [c, .hp (HP.sep l), .blk g2 (.cells [.int .i64 0, .int .i64 1, vb].toArray 80 (0, 0)), .blk g3 (.cells [.int .i64 0, .int .i64 0, .int .i64 0].toArray 63 (0, 0)), .emp, .emp] ⟨rfl, rfl, rfl, rfl, rfl, trivial⟩ (EntP.refl _) ?_
    refine W_seq rfl ?_
    refine W_reg (m := 1) rfl rfl ?_
    refine RN_op rfl rfl rfl (st_pure pure_lss rfl rfl rfl ?_)
    refine RN_end ?_
    refine WQ_keep [(46, _), (1, _), (2, _), (43, _), (44, _), (45, _)] ⟨rfl, rfl, rfl, rfl, rfl, rfl, trivial⟩ ?_
    refine WQ_then ?_
    refine W_seq rfl ?_
    refine W_cond rfl rfl (fun hc2 => ?_) (fun hc2 => ?_)
    · have hi0 : i = 0 := by omega
      subst hi0
      refine W_skip rfl ?_
      refine WQ_then ?_
      refine W_seq rfl ?_
      refine W_block rfl ?_
      refine W_seq rfl ?_
      refine W_reg (m := 6) rfl rfl ?_
      refine RN_op rfl rfl rfl (st_pure pure_move rfl rfl rfl ?_)
      refine RN_op rfl rfl rfl (st_pure (pure_indexR Try.underlying45 sz73 (by assumption) (by omega)) rfl rfl rfl ?_)
      refine RN_op rfl rfl rfl (st_ldN 0 rfl Try.underlying73 rfl sz73 rfl rfl (hR.cells (j := 0 * 5) (r := blk0) (by decide) rfl (fun i u h => by simpa using h)) rfl rfl ?_)
      refine RN_op rfl rfl rfl (s_al 4 (alloc_new zr73) rfl rfl rfl fun g4 => ?_)
      refine RN_op rfl rfl rfl (st_pure pure_assign rfl rfl rfl ?_)
      refine RN_op rfl rfl rfl (s_st 4 rfl sz73 rfl rfl rfl rfl puts_agg rfl ?_)
      refine RN_end ?_
      refine WQ_keep [(3, _), (4, _), (1, _), (2, _), (43, _), (44, _), (45, _)] ⟨rfl, rfl, rfl, rfl, rfl, rfl, rfl, trivial⟩ ?_
      refine WQ_then ?_
      refine W_seq rfl ?_
      refine W_seq rfl ?_
      refine W_reg (m := 4) rfl rfl ?_
      refine RN_op rfl rfl rfl (st_pure (pure_field0 0 Try.underlying73 rfl rfl sz68) rfl rfl rfl ?_)
      refine RN_op rfl rfl rfl (st_ld 4 rfl Try.underlying68 rfl rfl rfl cell_blk rfl rfl ?_)
      refine RN_op rfl rfl rfl (st_pure (pure_lenR Try.underlying68 (by assumption)) rfl rfl rfl ?_)
      refine RN_op rfl rfl rfl (st_pure pure_gtr rfl rfl rfl ?_)
      refine RN_end ?_
      refine WQ_keep [(53, _), (3, _), (4, _), (1, _), (2, _), (43, _), (44, _), (45, _)] ⟨rfl, rfl, rfl, rfl, rfl, rfl, rfl, rfl, trivial⟩ ?_
      refine WQ_then ?_
      refine W_cond rfl rfl (fun hc3 => ?_) (fun hc3 => ?_)
      · omega
      · refine W_skip rfl ?_
        refine WQ_then ?_
        refine W_seq rfl ?_
        refine W_seq rfl ?_
        refine W_reg (m := 4) rfl rfl ?_
        refine RN_op rfl rfl rfl (st_pure (pure_field0 0 Try.underlying73 rfl rfl sz68) rfl rfl rfl ?_)
        refine RN_op rfl rfl rfl (st_ld 4 rfl Try.underlying68 rfl rfl rfl cell_blk rfl rfl ?_)
        refine RN_op rfl rfl rfl (st_pure (pure_lenR Try.underlying68 (by assumption)) rfl rfl rfl ?_)
        refine RN_op rfl rfl rfl (st_pure pure_move rfl rfl rfl ?_)
        refine RN_end ?_
        refine WQ_keep [(59, _), (58, _), (57, _), (3, _), (4, _), (1, _), (2, _), (43, _), (44, _), (45, _)] ⟨rfl, rfl, rfl, rfl, rfl, rfl, rfl, rfl, rfl, rfl, trivial⟩ ?_
        refine WQ_then ?_
        refine W_block rfl ?_
        refine W_loop (σ := Nat) (fun k => 0) (fun k => [(1, .pointer (some ⟨g2, 0, none⟩)), (2, .pointer (some ⟨g3, 0, none⟩)), (3, .int .i64 ((0 : Nat) : Int)), (4, .pointer (some ⟨g4, 0, none⟩)), (43, vb), (44, .int .i64 ((1 : Nat) : Int)), (45, .int .i64 ((0 : Nat) : Int)), (57, .slice none 0 0), (58, .int .i64 ((0 : Nat) : Int)), (59, .int .i64 ((k : Nat) : Int))]) (fun k => [c, .hp (HP.sep l), .blk g2 (.cells [.int .i64 0, .int .i64 1, vb].toArray 80 (0, 0)), .blk g3 (.cells [.int .i64 0, .int .i64 0, .int .i64 0].toArray 63 (0, 0)), .blk g4 (.cells blk0.toArray 73 (0, 0)), .emp]) (fun k => k = 0) (0) rfl (rfl) (AllIn.sub ⟨rfl, rfl, rfl, rfl, rfl, rfl, rfl, rfl, rfl, rfl, trivial⟩) (EntP.ent (by repeat' first | exact EntP.nil | refine EntP.same ?_ | refine EntP.drop ?_ | refine EntP.nilRow ?_)) ?_
        rintro k hI2
        refine W_as [(1, .pointer (some ⟨g2, 0, none⟩)), (2, .pointer (some ⟨g3, 0, none⟩)), (3, .int .i64 ((0 : Nat) : Int)), (4, .pointer (some ⟨g4, 0, none⟩)), (43, vb), (44, .int .i64 ((1 : Nat) : Int)), (45, .int .i64 ((0 : Nat) : Int)), (57, .slice none 0 0), (58, .int .i64 ((0 : Nat) : Int)), (59, .int .i64 ((k : Nat) : Int))] [c, .hp (HP.sep l), .blk g2 (.cells [.int .i64 0, .int .i64 1, vb].toArray 80 (0, 0)), .blk g3 (.cells [.int .i64 0, .int .i64 0, .int .i64 0].toArray 63 (0, 0)), .blk g4 (.cells blk0.toArray 73 (0, 0)), .emp] ⟨rfl, rfl, rfl, rfl, rfl, rfl, rfl, rfl, rfl, rfl, trivial⟩ (EntP.refl _) ?_
        refine W_seq rfl ?_
        refine W_reg (m := 1) rfl rfl ?_
        refine RN_op rfl rfl rfl (st_pure pure_lss rfl rfl rfl ?_)
        refine RN_end ?_
        refine WQ_keep [(60, _), (1, _), (2, _), (3, _), (4, _), (43, _), (44, _), (45, _), (57, _), (58, _), (59, _)] ⟨rfl, rfl, rfl, rfl, rfl, rfl, rfl, rfl, rfl, rfl, rfl, trivial⟩ ?_
        refine WQ_then ?_
        refine W_seq rfl ?_
        refine W_cond rfl rfl (fun hc4 => ?_) (fun hc4 => ?_)
        · omega
        · refine W_exit rfl ?_
          refine WQ_thenX rfl ?_
          refine WQ_thenX rfl ?_
          refine WQ_hit ?_
          refine WQ_then ?_
          refine W_seq rfl ?_
          refine W_reg (m := 9) rfl rfl ?_
          refine RN_op rfl rfl rfl (st_pure (pure_field0 1 Try.underlying73 rfl rfl sz71) rfl rfl rfl ?_)
          refine RN_op rfl rfl rfl (st_ldN 4 rfl Try.underlying71 rfl sz71 rfl rfl cells_blk rfl rfl ?_)
          refine RN_op rfl rfl rfl (st_pure (pure_field0 1 Try.underlying80 rfl rfl sz3) rfl rfl rfl ?_)
          refine RN_op rfl rfl rfl (st_ld 2 rfl Try.underlying3 rfl rfl rfl cell_blk rfl rfl ?_)
          refine RN_op rfl rfl rfl (st_pure (pure_field0 2 Try.underlying80 rfl rfl sz45) rfl rfl rfl ?_)
          refine RN_op rfl rfl rfl (st_ld 2 rfl Try.underlying45 rfl rfl rfl cell_blk rfl rfl ?_)
          refine RN_op rfl rfl rfl (st_pure (pure_lenR Try.underlying45 (by assumption)) rfl rfl rfl ?_)
          refine RN_op rfl rfl rfl (s_ct (R := []) (W := []) (x0 := ()) (ct_Ends 3 0 0 0 1 1) fnF81 rfl rfl rfl rfl (by decide) rfl (fun _ => rfl) rfl rfl fun _ => ?_)
          refine RN_op rfl rfl rfl (st_pure pure_assign rfl rfl rfl ?_)
          refine RN_end ?_
          refine WQ_keep [(8, _), (1, _), (2, _), (3, _), (4, _), (43, _), (44, _), (45, _)] ⟨rfl, rfl, rfl, rfl, rfl, rfl, rfl, rfl, trivial⟩ ?_
          refine WQ_then ?_
          refine W_seq rfl ?_
          refine W_reg (m := 2) rfl rfl ?_
          refine RN_op rfl rfl rfl (st_pure pure_move rfl rfl rfl ?_)
          refine RN_op rfl rfl rfl (st_pure pure_neq rfl rfl rfl ?_)
          refine RN_end ?_
          refine WQ_keep [(84, _), (8, _), (1, _), (2, _), (3, _), (4, _), (43, _), (44, _), (45, _)] ⟨rfl, rfl, rfl, rfl, rfl, rfl, rfl, rfl, rfl, trivial⟩ ?_
          refine WQ_then ?_
          refine W_cond rfl rfl (fun hc5 => ?_) (fun hc5 => ?_)
          · exact absurd hE hc5
          · refine W_skip rfl ?_
            refine WQ_inB ?_
            refine WQ_then ?_
            refine W_reg (m := 2) rfl rfl ?_
            refine RN_op rfl rfl rfl (st_pure (pure_add64 (by omega)) rfl rfl rfl ?_)
            refine RN_op rfl rfl rfl (st_pure pure_move rfl rfl rfl ?_)
            refine RN_end ?_
            refine WQ_keep [(45, _), (1, _), (2, _), (43, _), (44, _)] ⟨rfl, rfl, rfl, rfl, rfl, trivial⟩ ?_
            refine WQ_hand (1) ((Nat.le_refl 1)) (by (try dsimp only); omega) (AllIn.sub ⟨rfl, rfl, rfl, rfl, rfl, trivial⟩) (EntP.ent (by repeat' first | exact EntP.nil | refine EntP.same ?_ | refine EntP.drop ?_ | refine EntP.nilRow ?_))
    · refine W_exit rfl ?_
      refine WQ_thenX rfl ?_
      refine WQ_thenX rfl ?_
      refine WQ_hit ?_
      refine WQ_then ?_
      refine W_seq rfl ?_
      refine W_reg (m := 2) rfl rfl ?_
      refine RN_op rfl rfl rfl (st_pure (pure_build Try.underlying63 zr63 (pl63 Try.underlying63)) rfl rfl rfl ?_)
      refine RN_op rfl rfl rfl (s_st 3 rfl sz63 rfl rfl rfl rfl puts_agg rfl ?_)
      refine RN_end ?_
      refine WQ_keep [(2, _)] ⟨rfl, trivial⟩ ?_
      refine WQ_then ?_
      refine W_ret rfl ?_
      refine WQ_retC (j := 3) Try.results62 rfl Try.underlying63 rfl sz63 rfl cells_blk rfl fun w' hs' he' => ?_
      exact ⟨(), rfl, SatC.fin 4 hs' (by repeat' first | exact EntP.nil | refine EntP.same ?_ | refine EntP.drop ?_ | refine EntP.nilRow ?_), he'⟩

set_option maxRecDepth 100000 in
set_option maxHeartbeats 1000000 in
theorem ct_blocks0 (g : Nat) (bs : List Nat) (c : Chunk) (vb : Value) (hR : Rds c vb 1 5 blk0) (hm : bs.length ≤ 1000) : Ct Try.prog 68 [.pointer (some ⟨g, 0, none⟩), vb] [c] [.hp (WrH g bs)] (X := Unit) (fun _ => .tuple #[]) (fun _ => [.hp (WrH g ((((bs ++ putsL [1]) ++ putsL [0]) ++ putsL [3]) ++ putsL [0]))]) := by
  refine ct_of fun w l hs => ?_
  have hr := hR.row
  have h1 := putsL_len [1]
  have h2 := putsL_len [0]
  have h3 := putsL_len [3]
  simp only [List.length_cons, List.length_nil] at h1 h2 h3
  have hnil : IsRow (.slice none 0 0) 0 := .inl ⟨rfl, rfl⟩
  refine enter (c := bodyOf Try.f68) Try.func68 rfl Try.ntmps68 rfl (L := [c, .hp (WrH g bs), .hp (HP.sep l), .emp, .emp, .emp, .emp, .emp, .emp, .emp, .emp]) (SatC.pad hs 8) ?_
  refine W_seq rfl ?_
  refine W_reg (m := 5) rfl rfl ?_
  refine RN_op rfl rfl rfl (st_pure pure_move rfl rfl rfl ?_)
  refine RN_op rfl rfl rfl (st_pure pure_move rfl rfl rfl ?_)
  refine RN_op rfl rfl rfl (st_pure (pure_lenR Try.underlying45 (by assumption)) rfl rfl rfl ?_)
  refine RN_op rfl rfl rfl (s_al 3 (alloc_buildSlice Try.underlying24 el24.zero rfl (by decide)) rfl rfl rfl fun g3 => ?_)
  refine RN_op rfl rfl rfl (s_ct (R := [3]) (W := [1]) (x0 := ()) (ct_nums g (.blk g3 (.cells [.int .i64 1].toArray 3 (0, 0))) _ bs [1] (rds_blk rfl (by decide)) (by simp; omega)) fnF46 rfl rfl rfl rfl (by decide) rfl (fun _ => rfl) rfl rfl fun _ => ?_)
  refine RN_end ?_
  refine WQ_keep [(0, _), (1, _)] ⟨rfl, rfl, trivial⟩ ?_
  refine WQ_then ?_
  refine W_seq rfl ?_
  refine W_reg (m := 3) rfl rfl ?_
  refine RN_op rfl rfl rfl (st_pure pure_move rfl rfl rfl ?_)
  refine RN_op rfl rfl rfl (st_pure (pure_lenR Try.underlying45 (by assumption)) rfl rfl rfl ?_)
  refine RN_op rfl rfl rfl (st_pure pure_move rfl rfl rfl ?_)
  refine RN_end ?_
  refine WQ_keep [(15, _), (14, _), (13, _), (0, _)] ⟨rfl, rfl, rfl, rfl, trivial⟩ ?_
  refine WQ_then ?_
  refine W_block rfl ?_
  refine W_loop (σ := Nat) (fun i => 1 - i) (fun i => [(0, .pointer (some ⟨g, 0, none⟩)), (13, vb), (14, .int .i64 ((1 : Nat) : Int)), (15, .int .i64 ((i : Nat) : Int))]) (fun i => [c, .hp (WrH g (if i = 0 then bs ++ putsL [1] else (((bs ++ putsL [1]) ++ putsL [0]) ++ putsL [3]) ++ putsL [0])), .hp (HP.sep l), .emp, .emp, .emp, .emp, .emp, .emp, .emp, .emp]) (fun i => i ≤ 1) (0) rfl ((Nat.zero_le _)) (AllIn.sub ⟨rfl, rfl, rfl, rfl, trivial⟩) (EntP.ent (by repeat' first | exact EntP.nil | refine EntP.same ?_ | refine EntP.drop ?_ | refine EntP.nilRow ?_)) ?_
  rintro i hI
  refine W_as [(0, .pointer (some ⟨g, 0, none⟩)), (13, vb), (14, .int .i64 ((1 : Nat) : Int)), (15, .int .i64 ((i : Nat) : Int))] [c, .hp (WrH g (if i = 0 then bs ++ putsL [1] else (((bs ++ putsL [1]) ++ putsL [0]) ++ putsL [3]) ++ putsL [0])), .hp (HP.sep l), .emp, .emp, .emp, .emp, .emp, .emp, .emp, .emp] ⟨rfl, rfl, rfl, rfl, trivial⟩ (EntP.refl _) ?_
  refine W_seq rfl ?_
  refine W_reg (m := 1) rfl rfl ?_
  refine RN_op rfl rfl rfl (st_pure pure_lss rfl rfl rfl ?_)
  refine RN_end ?_
  refine WQ_keep [(16, _), (0, _), (13, _), (14, _), (15, _)] ⟨rfl, rfl, rfl, rfl, rfl, trivial⟩ ?_
  refine WQ_then ?_
  refine W_seq rfl ?_
  refine W_cond rfl rfl (fun hc1 => ?_) (fun hc1 => ?_)
  · have hi0 : i = 0 := by omega
    subst hi0
    rw [if_pos rfl]
    refine W_skip rfl ?_
    refine WQ_then ?_
    refine W_seq rfl ?_
    refine W_block rfl ?_
    refine W_seq rfl ?_
    refine W_reg (m := 4) rfl rfl ?_
    refine RN_op rfl rfl rfl (st_pure (pure_indexR Try.underlying45 sz73 (by assumption) (by omega)) rfl rfl rfl ?_)
    refine RN_op rfl rfl rfl (st_ldN 0 rfl Try.underlying73 rfl sz73 rfl rfl (hR.cells (j := 0 * 5) (r := blk0) (by decide) rfl (fun i u h => by simpa using h)) rfl rfl ?_)
    refine RN_op rfl rfl rfl (s_al 4 (alloc_new zr73) rfl rfl rfl fun g4 => ?_)
    refine RN_op rfl rfl rfl (s_st 4 rfl sz73 rfl rfl rfl rfl puts_agg rfl ?_)
    refine RN_end ?_
    refine WQ_keep [(5, _), (0, _), (13, _), (14, _), (15, _)] ⟨rfl, rfl, rfl, rfl, rfl, trivial⟩ ?_
    refine WQ_then ?_
    refine W_seq rfl ?_
    refine W_reg (m := 6) rfl rfl ?_
    refine RN_op rfl rfl rfl (st_pure pure_move rfl rfl rfl ?_)
    refine RN_op rfl rfl rfl (st_pure (pure_field0 0 Try.underlying73 rfl rfl sz68) rfl rfl rfl ?_)
    refine RN_op rfl rfl rfl (st_ld 4 rfl Try.underlying68 rfl rfl rfl cell_blk rfl rfl ?_)
    refine RN_op rfl rfl rfl (st_pure (pure_lenR Try.underlying68 (by assumption)) rfl rfl rfl ?_)
    refine RN_op rfl rfl rfl (s_al 5 (alloc_buildSlice Try.underlying24 el24.zero rfl (by decide)) rfl rfl rfl fun g5 => ?_)
    refine RN_op rfl rfl rfl (s_ct (R := [5]) (W := [1]) (x0 := ()) (ct_nums g (.blk g5 (.cells [.int .i64 0].toArray 3 (0, 0))) _ (bs ++ putsL [1]) [0] (rds_blk rfl (by decide)) (by simp; omega)) fnF46 rfl rfl rfl rfl (by decide) rfl (fun _ => rfl) rfl rfl fun _ => ?_)
    refine RN_end ?_
    refine WQ_keep [(5, _), (0, _), (13, _), (14, _), (15, _)] ⟨rfl, rfl, rfl, rfl, rfl, trivial⟩ ?_
    refine WQ_then ?_
    refine W_seq rfl ?_
    refine W_seq rfl ?_
    refine W_reg (m := 4) rfl rfl ?_
    refine RN_op rfl rfl rfl (st_pure (pure_field0 0 Try.underlying73 rfl rfl sz68) rfl rfl rfl ?_)
    refine RN_op rfl rfl rfl (st_ld 4 rfl Try.underlying68 rfl rfl rfl cell_blk rfl rfl ?_)
    refine RN_op rfl rfl rfl (st_pure (pure_lenR Try.underlying68 (by assumption)) rfl rfl rfl ?_)
    refine RN_op rfl rfl rfl (st_pure pure_move rfl rfl rfl ?_)
    refine RN_end ?_
    refine WQ_keep [(28, _), (27, _), (26, _), (5, _), (0, _), (13, _), (14, _), (15, _)] ⟨rfl, rfl, rfl, rfl, rfl, rfl, rfl, rfl, trivial⟩ ?_
    refine WQ_then ?_
    refine W_block rfl ?_
    refine W_loop (σ := Nat) (fun k => 0) (fun k => [(0, .pointer (some ⟨g, 0, none⟩)), (5, .pointer (some ⟨g4, 0, none⟩)), (13, vb), (14, .int .i64 ((1 : Nat) : Int)), (15, .int .i64 ((0 : Nat) : Int)), (26, .slice none 0 0), (27, .int .i64 ((0 : Nat) : Int)), (28, .int .i64 ((k : Nat) : Int))]) (fun k => [c, .hp (WrH g ((bs ++ putsL [1]) ++ putsL [0])), .hp (HP.sep l), .emp, .blk g4 (.cells blk0.toArray 73 (0, 0)), .emp, .emp, .emp, .emp, .emp, .emp]) (fun k => k = 0) (0) rfl (rfl) (AllIn.sub ⟨rfl, rfl, rfl, rfl, rfl, rfl, rfl, rfl, trivial⟩) (EntP.ent (by repeat' first | exact EntP.nil | refine EntP.same ?_ | refine EntP.drop ?_ | refine EntP.nilRow ?_)) ?_
    rintro k hI2
    refine W_as [(0, .pointer (some ⟨g, 0, none⟩)), (5, .pointer (some ⟨g4, 0, none⟩)), (13, vb), (14, .int .i64 ((1 : Nat) : Int)), (15, .int .i64 ((0 : Nat) : Int)), (26, .slice none 0 0), (27, .int .i64 ((0 : Nat) : Int)), (28, .int .i64 ((k : Nat) : Int))] [c, .hp (WrH g ((bs ++ putsL [1]) ++ putsL [0])), .hp (HP.sep l), .emp, .blk g4 (.cells blk0.toArray 73 (0, 0)), .emp, .emp, .emp, .emp, .emp, .emp] ⟨rfl, rfl, rfl, rfl, rfl, rfl, rfl, rfl, trivial⟩ (EntP.refl _) ?_
    refine W_seq rfl ?_
    refine W_reg (m := 1) rfl rfl ?_
    refine RN_op rfl rfl rfl (st_pure pure_lss rfl rfl rfl ?_)
    refine RN_end ?_
    refine WQ_keep [(29, _), (0, _), (5, _), (13, _), (14, _), (15, _), (26, _), (27, _), (28, _)] ⟨rfl, rfl, rfl, rfl, rfl, rfl, rfl, rfl, rfl, trivial⟩ ?_
    refine WQ_then ?_
    refine W_seq rfl ?_
    refine W_cond rfl rfl (fun hc2 => ?_) (fun hc2 => ?_)
    · omega
    · refine W_exit rfl ?_
      refine WQ_thenX rfl ?_
      refine WQ_thenX rfl ?_
      refine WQ_hit ?_
      refine WQ_then ?_
      refine W_seq rfl ?_
      refine W_reg (m := 7) rfl rfl ?_
      refine RN_op rfl rfl rfl (st_pure pure_move rfl rfl rfl ?_)
      refine RN_op rfl rfl rfl (st_pure (pure_field0 1 Try.underlying73 rfl rfl sz71) rfl rfl rfl ?_)
      refine RN_op rfl rfl rfl (st_pure (pure_fieldB 0 Try.underlying71 rfl rfl sz69) rfl rfl rfl ?_)
      refine RN_op rfl rfl rfl (st_ld 4 rfl Try.underlying69 rfl rfl rfl cell_blk rfl rfl ?_)
      refine RN_op rfl rfl rfl (st_pure (pure_conv64 Try.underlying69 Try.underlying3 (by omega)) rfl rfl rfl ?_)
      refine RN_op rfl rfl rfl (s_al 7 (alloc_buildSlice Try.underlying24 el24.zero rfl (by decide)) rfl rfl rfl fun g7 => ?_)
      refine RN_op rfl rfl rfl (s_ct (R := [7]) (W := [1]) (x0 := ()) (ct_nums g (.blk g7 (.cells [.int .i64 3].toArray 3 (0, 0))) _ ((bs ++ putsL [1]) ++ putsL [0]) [3] (rds_blk rfl (by decide)) (by simp; omega)) fnF46 rfl rfl rfl rfl (by decide) rfl (fun _ => rfl) rfl rfl fun _ => ?_)
      refine RN_end ?_
      refine WQ_keep [(0, _), (5, _), (13, _), (14, _), (15, _)] ⟨rfl, rfl, rfl, rfl, rfl, trivial⟩ ?_
      refine WQ_then ?_
      refine W_seq rfl ?_
      refine W_reg (m := 3) rfl rfl ?_
      refine RN_op rfl rfl rfl (st_pure (pure_field0 1 Try.underlying73 rfl rfl sz71) rfl rfl rfl ?_)
      refine RN_op rfl rfl rfl (st_pure (pure_fieldB 0 Try.underlying71 rfl rfl sz69) rfl rfl rfl ?_)
      refine RN_op rfl rfl rfl (st_ld 4 rfl Try.underlying69 rfl rfl rfl cell_blk rfl rfl ?_)
      refine RN_end ?_
      refine WQ_keep [(45, _), (0, _), (5, _), (13, _), (14, _), (15, _)] ⟨rfl, rfl, rfl, rfl, rfl, rfl, trivial⟩ ?_
      refine WQ_then ?_
      refine W_block rfl ?_
      refine W_seq rfl ?_
      refine W_reg (m := 2) rfl rfl ?_
      refine RN_op rfl rfl rfl (st_pure pure_eql rfl rfl rfl ?_)
      refine RN_op rfl rfl rfl (st_pure pure_assign rfl rfl rfl ?_)
      refine RN_end ?_
      refine WQ_keep [(52, _), (45, _), (0, _), (5, _), (13, _), (14, _), (15, _)] ⟨rfl, rfl, rfl, rfl, rfl, rfl, rfl, trivial⟩ ?_
      refine WQ_then ?_
      refine W_cond rfl rfl (fun hc3 => ?_) (fun hc3 => ?_)
      · omega
      · refine W_seq rfl ?_
        refine W_reg (m := 2) rfl rfl ?_
        refine RN_op rfl rfl rfl (st_pure pure_eql rfl rfl rfl ?_)
        refine RN_op rfl rfl rfl (st_pure pure_assign rfl rfl rfl ?_)
        refine RN_end ?_
        refine WQ_keep [(60, _), (0, _), (5, _), (13, _), (14, _), (15, _)] ⟨rfl, rfl, rfl, rfl, rfl, rfl, trivial⟩ ?_
        refine WQ_then ?_
        refine W_cond rfl rfl (fun hc4 => ?_) (fun hc4 => ?_)
        · omega
        · refine W_reg (m := 6) rfl rfl ?_
          refine RN_op rfl rfl rfl (st_pure pure_move rfl rfl rfl ?_)
          refine RN_op rfl rfl rfl (st_pure (pure_field0 1 Try.underlying73 rfl rfl sz71) rfl rfl rfl ?_)
          refine RN_op rfl rfl rfl (st_pure (pure_fieldB 1 Try.underlying71 rfl rfl sz3) rfl rfl rfl ?_)
          refine RN_op rfl rfl rfl (st_ld 4 rfl Try.underlying3 rfl rfl rfl cell_blk rfl rfl ?_)
          refine RN_op rfl rfl rfl (s_al 10 (alloc_buildSlice Try.underlying24 el24.zero rfl (by decide)) rfl rfl rfl fun g10 => ?_)
          refine RN_op rfl rfl rfl (s_ct (R := [10]) (W := [1]) (x0 := ()) (ct_nums g (.blk g10 (.cells [.int .i64 0].toArray 3 (0, 0))) _ (((bs ++ putsL [1]) ++ putsL [0]) ++ putsL [3]) [0] (rds_blk rfl (by decide)) (by simp; omega)) fnF46 rfl rfl rfl rfl (by decide) rfl (fun _ => rfl) rfl rfl fun _ => ?_)
          refine RN_end ?_
          refine WQ_keep [(0, _), (13, _), (14, _), (15, _)] ⟨rfl, rfl, rfl, rfl, trivial⟩ ?_
          refine WQ_inB ?_
          refine WQ_inB ?_
          refine WQ_then ?_
          refine W_reg (m := 2) rfl rfl ?_
          refine RN_op rfl rfl rfl (st_pure (pure_add64 (by omega)) rfl rfl rfl ?_)
          refine RN_op rfl rfl rfl (st_pure pure_move rfl rfl rfl ?_)
          refine RN_end ?_
          refine WQ_keep [(15, _), (0, _), (13, _), (14, _)] ⟨rfl, rfl, rfl, rfl, trivial⟩ ?_
          rw [show (((bs ++ putsL [1]) ++ putsL [0]) ++ putsL [3]) ++ putsL [0] = (if (1 : Nat) = 0 then bs ++ putsL [1] else (((bs ++ putsL [1]) ++ putsL [0]) ++ putsL [3]) ++ putsL [0]) from (if_neg (by decide)).symm]
          refine WQ_hand (1) ((Nat.le_refl 1)) (by (try dsimp only); omega) (AllIn.sub ⟨rfl, rfl, rfl, rfl, trivial⟩) (EntP.ent (by repeat' first | exact EntP.nil | refine EntP.same ?_ | refine EntP.drop ?_ | refine EntP.nilRow ?_))
  · have hi1 : i = 1 := by omega
    subst hi1
    rw [if_neg (by decide)]
    refine W_exit rfl ?_
    refine WQ_thenX rfl ?_
    refine WQ_thenX rfl ?_
    refine WQ_hit ?_
    refine WQ_fall (vs := []) (by rw [Try.results68]; rfl) fun w' hs' he' => ?_
    exact ⟨(), rfl, SatC.fin 8 hs' (by repeat' first | exact EntP.nil | refine EntP.same ?_ | refine EntP.drop ?_ | refine EntP.nilRow ?_), he'⟩
end Go.Proofs.Ytlgfinchhnbhdaa
