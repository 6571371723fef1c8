/- Certificates read by the reference. -/
import Derived.Test.YtlgfinchhnbhdaaWireE
import Derived.Test.YtlgfinchhnbhdaaEngK
set_option linter.unusedVariables false
set_option linter.unusedSimpArgs false
namespace Go.Proofs.Ytlgfinchhnbhdaa
open Go Go.RowKit

theorem certErr_stuck {bs bs1 : List Nat} {c1 : Int} {out : List Prs} {n : Nat} (h : certRead bs = (out ++ (rdLists n bs1 c1).1, (rdLists n bs1 c1).2)) (hn : c1 ≠ 0 ∨ n = 0) : certErr bs = rdEndC bs1 c1 := by
  unfold certErr
  rw [h]
  rcases hn with hn | hn
  · rw [rdLists_stuck hn]
  · subst hn; rfl
theorem rdEndC_stuck {bs : List Nat} {c : Int} (h : rdEndC bs c = 0) : c = 0 := by
  unfold rdEndC at h
  split at h
  · cases h
  · exact h

set_option maxRecDepth 100000 in
set_option maxHeartbeats 1000000 in
theorem ct_ReadCertR (c : Chunk) (v : Value) (bs : List Nat) (hR : Rds c v bs.length 1 (byts bs)) (hb : BOk bs) : Ct Try.prog 17 [v] [c] [.emp] (X := Value) (fun x => .tuple #[x, .int .i64 (certErr bs)]) (fun x => [.hp (CertH x (certGot bs))]) := by
  refine ct_of fun w lf hs => ?_
  obtain ⟨hn0, hn1, hb1, _⟩ := rdBelow_ok (lim := 17) (c := 0) hb (by decide)
  have hr0 := hR.row
  haveI := hr0.one
  refine enter (c := bodyOf Try.f17) Try.func17 rfl Try.ntmps17 rfl (L := [c, .emp, .hp (HP.sep lf), .emp, .emp, .emp, .emp, .emp, .emp, .emp]) (SatC.pad (SatC.pad hs 3) 4) ?_
  refine W_seq rfl ?_
  refine W_reg (m := 2) rfl rfl ?_
  refine RN_op rfl rfl rfl (st_pure pure_assign rfl rfl rfl ?_)
  refine RN_op rfl rfl rfl (st_pure pure_assign rfl rfl rfl ?_)
  refine RN_end ?_
  refine WQ_keep [(0, _)] ⟨rfl, trivial⟩ ?_
  refine WQ_then ?_
  refine W_seq rfl ?_
  refine W_reg (m := 4) rfl rfl ?_
  refine RN_op rfl rfl rfl (st_pure pure_move rfl rfl rfl ?_)
  refine RN_op rfl rfl rfl (st_pure (pure_build Try.underlying123 zr123 (pl123 Try.underlying123)) rfl rfl rfl ?_)
  refine RN_op rfl rfl rfl (s_al 6 alloc_boxA rfl rfl rfl fun g6 => ?_)
  refine RN_op rfl rfl rfl (st_pure pure_assign rfl rfl rfl ?_)
  refine RN_end ?_
  refine WQ_keep [(4, _)] ⟨rfl, trivial⟩ ?_
  refine WQ_fold 6 rfl (fun _ _ h => rf_open.2 ⟨v, hR, h⟩) ?_
  refine WQ_then ?_
  refine W_seq rfl ?_
  refine W_reg (m := 1) rfl rfl ?_
  refine RN_op rfl rfl rfl (st_pure pure_assign rfl rfl rfl ?_)
  refine RN_end ?_
  refine WQ_keep [(5, _), (4, _)] ⟨rfl, rfl, trivial⟩ ?_
  refine WQ_then ?_
  refine W_seq rfl ?_
  refine W_reg (m := 3) rfl rfl ?_
  refine RN_op rfl rfl rfl (st_pure pure_move rfl rfl rfl ?_)
  refine RN_op rfl rfl rfl (s_ct (R := [0]) (W := [6]) (x0 := ()) (ct_BelowR c g6 bs 0 17 hb (by decide) (by decide)) fnF52 rfl rfl rfl rfl (by decide) rfl (fun _ => rfl) rfl rfl fun _ => ?_)
  refine RN_op rfl rfl rfl (st_pure pure_assign rfl rfl rfl ?_)
  refine RN_end ?_
  refine WQ_keep [(6, _), (5, _), (4, _)] ⟨rfl, rfl, rfl, trivial⟩ ?_
  refine WQ_then ?_
  refine W_seq rfl ?_
  refine W_seq rfl ?_
  refine W_reg (m := 1) rfl rfl ?_
  refine RN_op rfl rfl rfl (st_pure pure_assign rfl rfl rfl ?_)
  refine RN_end ?_
  refine WQ_keep [(7, _), (6, _), (5, _), (4, _)] ⟨rfl, rfl, rfl, rfl, trivial⟩ ?_
  refine WQ_then ?_
  refine W_block rfl ?_
  refine W_as [(7, _), (6, _), (5, _), (4, _)] [c, .emp, .hp (HP.sep lf), OutR (.slice none 0 0) 0 [], .emp, .emp, .hp (RfH c g6 (rdBelow 17 bs 0).2.1 (rdBelow 17 bs 0).2.2), .emp, .emp, .emp] ⟨rfl, rfl, rfl, rfl, trivial⟩ (by repeat' first | exact EntP.nil | refine EntP.same ?_ | refine EntP.drop ?_ | refine EntP.nilRow ?_) ?_
  refine W_loop (σ := Nat × List Prs × List Nat × Int × Value × List Value × Chunk) (fun ⟨i, out, bs1, c1, vo, vs, ac⟩ => (rdBelow 17 bs 0).1.toNat - i) (fun ⟨i, out, bs1, c1, vo, vs, ac⟩ => [(4, .pointer (some ⟨g6, 0, none⟩)), (5, vo), (6, .int .i64 (rdBelow 17 bs 0).1), (7, .int .i64 ((i : Nat) : Int))]) (fun ⟨i, out, bs1, c1, vo, vs, ac⟩ => [c, .emp, .hp (HP.sep lf), OutR vo i vs, ac, .emp, .hp (RfH c g6 bs1 c1), .emp, .emp, .emp]) (fun ⟨i, out, bs1, c1, vo, vs, ac⟩ => i = out.length ∧ i ≤ (rdBelow 17 bs 0).1.toNat ∧ BOk bs1 ∧ IsRow vo i ∧ Parts ac vs out ∧ certRead bs = (out ++ (rdLists ((rdBelow 17 bs 0).1.toNat - i) bs1 c1).1, (rdLists ((rdBelow 17 bs 0).1.toNat - i) bs1 c1).2)) ((0, [], (rdBelow 17 bs 0).2.1, (rdBelow 17 bs 0).2.2, .slice none 0 0, [], .emp)) rfl (⟨rfl, Nat.zero_le _, hb1, .inl ⟨rfl, rfl⟩, Parts.nil, rfl⟩) (AllIn.sub ⟨rfl, rfl, rfl, rfl, trivial⟩) (EntP.ent (by repeat' first | exact EntP.nil | refine EntP.same ?_ | refine EntP.drop ?_ | refine EntP.nilRow ?_)) ?_
  rintro ⟨i, out, bs1, c1, vo, vs, ac⟩ hI
  refine W_as [(4, .pointer (some ⟨g6, 0, none⟩)), (5, vo), (6, .int .i64 (rdBelow 17 bs 0).1), (7, .int .i64 ((i : Nat) : Int))] [c, .emp, .hp (HP.sep lf), OutR vo i vs, ac, .emp, .hp (RfH c g6 bs1 c1), .emp, .emp, .emp] ⟨rfl, rfl, rfl, rfl, trivial⟩ (EntP.refl _) ?_
  obtain ⟨hio, ho, hb2, hvo, hP, hE⟩ := hI
  refine W_open 6 rfl (fun _ _ => rf_open.1) fun v1 hR1 => ?_
  refine W_seq rfl ?_
  refine W_seq rfl ?_
  refine W_reg (m := 10) rfl rfl ?_
  refine RN_op rfl rfl rfl (st_pure pure_move rfl rfl rfl ?_)
  refine RN_op rfl rfl rfl (st_pure pure_move rfl rfl rfl ?_)
  refine RN_op rfl rfl rfl (st_pure pure_lss rfl rfl rfl ?_)
  refine RN_op rfl rfl rfl (st_pure pure_move rfl rfl rfl ?_)
  refine' RN_and 3 5 [(4, _), (5, _), (6, _), (7, _)] rfl rfl rfl rfl rfl rfl rfl rfl rfl rfl rfl rfl rfl ⟨rfl, rfl, rfl, rfl, trivial⟩ (wanted_none rfl) (fun hg9 => ?_) ?_
  rotate_left 2
  · refine RN_gT rfl rfl rfl rfl rfl rfl (st_pure pure_move rfl rfl rfl ?_)
    refine RN_gT rfl rfl rfl rfl rfl rfl (st_pure pure_nil rfl rfl rfl ?_)
    refine RN_gT rfl rfl rfl rfl rfl rfl (st_pure (pure_field0 1 Try.underlying123 rfl rfl sz3) rfl rfl rfl ?_)
    refine RN_gT rfl rfl rfl rfl rfl rfl (st_ld 6 rfl Try.underlying3 rfl rfl rfl cell_blk rfl rfl ?_)
    refine RN_gT rfl rfl rfl rfl rfl rfl (st_pure pure_eql rfl rfl rfl ?_)
    exact RN_end (cut_end (AllIn.sub ⟨rfl, rfl, rfl, rfl, rfl, rfl, trivial⟩) (Ent.refl _))
  refine RN_end ?_
  refine WQ_keep [(27, _), (4, _), (5, _), (6, _), (7, _)] ⟨rfl, rfl, rfl, rfl, rfl, trivial⟩ ?_
  refine WQ_then ?_
  refine W_cond rfl rfl (fun hc1 => ?_) (fun hc1 => ?_)
  · obtain ⟨hc1a, hc1b⟩ := hc1
    obtain ⟨hm0, hm1, hb3, _⟩ := rdBelow_ok (lim := 65536) (c := c1) hb2 (by decide)
    refine W_fold 6 rfl (fun _ _ h => rf_open.2 ⟨v1, hR1, h⟩) ?_
    refine W_skip rfl ?_
    refine WQ_then ?_
    refine W_seq rfl ?_
    refine W_block rfl ?_
    refine W_seq rfl ?_
    refine W_reg (m := 1) rfl rfl ?_
    refine RN_op rfl rfl rfl (st_pure pure_assign rfl rfl rfl ?_)
    refine RN_end ?_
    refine WQ_keep [(8, _), (4, _), (5, _), (6, _), (7, _)] ⟨rfl, rfl, rfl, rfl, rfl, trivial⟩ ?_
    refine WQ_then ?_
    refine W_seq rfl ?_
    refine W_reg (m := 3) rfl rfl ?_
    refine RN_op rfl rfl rfl (st_pure pure_move rfl rfl rfl ?_)
    refine RN_op rfl rfl rfl (s_ct (R := [0]) (W := [6]) (x0 := ()) (ct_BelowR c g6 bs1 c1 65536 hb2 (by decide) (by decide)) fnF52 rfl rfl rfl rfl (by decide) rfl (fun _ => rfl) rfl rfl fun _ => ?_)
    refine RN_op rfl rfl rfl (st_pure pure_assign rfl rfl rfl ?_)
    refine RN_end ?_
    refine WQ_keep [(9, _), (8, _), (4, _), (5, _), (6, _), (7, _)] ⟨rfl, rfl, rfl, rfl, rfl, rfl, trivial⟩ ?_
    refine WQ_then ?_
    refine W_seq rfl ?_
    refine W_seq rfl ?_
    refine W_reg (m := 1) rfl rfl ?_
    refine RN_op rfl rfl rfl (st_pure pure_assign rfl rfl rfl ?_)
    refine RN_end ?_
    refine WQ_keep [(10, _), (9, _), (8, _), (4, _), (5, _), (6, _), (7, _)] ⟨rfl, rfl, rfl, rfl, rfl, rfl, rfl, trivial⟩ ?_
    refine WQ_then ?_
    refine W_block rfl ?_
    refine W_as [(10, _), (9, _), (8, _), (7, _), (6, _), (5, _), (4, _)] [c, .emp, .hp (HP.sep lf), OutR vo i vs, ac, PrR (.slice none 0 0) [], .hp (RfH c g6 (rdBelow 65536 bs1 c1).2.1 (rdBelow 65536 bs1 c1).2.2), .emp, .emp, .emp] ⟨rfl, rfl, rfl, rfl, rfl, rfl, rfl, trivial⟩ (by repeat' first | exact EntP.nil | refine EntP.same ?_ | refine EntP.drop ?_ | refine EntP.nilRow ?_) ?_
    refine W_loop (σ := Nat × Prs × List Nat × Int × Value) (fun ⟨k, ls, bs2, c2, vl⟩ => (rdBelow 65536 bs1 c1).1.toNat - k) (fun ⟨k, ls, bs2, c2, vl⟩ => [(4, .pointer (some ⟨g6, 0, none⟩)), (5, vo), (6, .int .i64 (rdBelow 17 bs 0).1), (7, .int .i64 ((i : Nat) : Int)), (8, vl), (9, .int .i64 (rdBelow 65536 bs1 c1).1), (10, .int .i64 ((k : Nat) : Int))]) (fun ⟨k, ls, bs2, c2, vl⟩ => [c, .emp, .hp (HP.sep lf), OutR vo i vs, ac, PrR vl ls, .hp (RfH c g6 bs2 c2), .emp, .emp, .emp]) (fun ⟨k, ls, bs2, c2, vl⟩ => k ≤ (rdBelow 65536 bs1 c1).1.toNat ∧ List.length ls = k ∧ BOk bs2 ∧ IsRow vl (List.length ls) ∧ rdPairs (rdBelow 65536 bs1 c1).1.toNat (rdBelow 65536 bs1 c1).2.1 (rdBelow 65536 bs1 c1).2.2 = (ls ++ (rdPairs ((rdBelow 65536 bs1 c1).1.toNat - k) bs2 c2).1, (rdPairs ((rdBelow 65536 bs1 c1).1.toNat - k) bs2 c2).2)) ((0, [], (rdBelow 65536 bs1 c1).2.1, (rdBelow 65536 bs1 c1).2.2, .slice none 0 0)) rfl (⟨Nat.zero_le _, rfl, hb3, .inl ⟨rfl, rfl⟩, rfl⟩) (AllIn.sub ⟨rfl, rfl, rfl, rfl, rfl, rfl, rfl, trivial⟩) (EntP.ent (by repeat' first | exact EntP.nil | refine EntP.same ?_ | refine EntP.drop ?_ | refine EntP.nilRow ?_)) ?_
    rintro ⟨k, ls, bs2, c2, vl⟩ hI2
    refine W_as [(4, .pointer (some ⟨g6, 0, none⟩)), (5, vo), (6, .int .i64 (rdBelow 17 bs 0).1), (7, .int .i64 ((i : Nat) : Int)), (8, vl), (9, .int .i64 (rdBelow 65536 bs1 c1).1), (10, .int .i64 ((k : Nat) : Int))] [c, .emp, .hp (HP.sep lf), OutR vo i vs, ac, PrR vl ls, .hp (RfH c g6 bs2 c2), .emp, .emp, .emp] ⟨rfl, rfl, rfl, rfl, rfl, rfl, rfl, trivial⟩ (EntP.refl _) ?_
    obtain ⟨hk, hls, hb4, hvl, hE2⟩ := hI2
    refine W_open 6 rfl (fun _ _ => rf_open.1) fun v2 hR2 => ?_
    refine W_seq rfl ?_
    refine W_seq rfl ?_
    refine W_reg (m := 10) rfl rfl ?_
    refine RN_op rfl rfl rfl (st_pure pure_move rfl rfl rfl ?_)
    refine RN_op rfl rfl rfl (st_pure pure_move rfl rfl rfl ?_)
    refine RN_op rfl rfl rfl (st_pure pure_lss rfl rfl rfl ?_)
    refine RN_op rfl rfl rfl (st_pure pure_move rfl rfl rfl ?_)
    refine' RN_and 3 5 [(4, _), (5, _), (6, _), (7, _), (8, _), (9, _), (10, _)] rfl rfl rfl rfl rfl rfl rfl rfl rfl rfl rfl rfl rfl ⟨rfl, rfl, rfl, rfl, rfl, rfl, rfl, trivial⟩ (wanted_none rfl) (fun hg9 => ?_) ?_
    rotate_left 2
    · refine RN_gT rfl rfl rfl rfl rfl rfl (st_pure pure_move rfl rfl rfl ?_)
      refine RN_gT rfl rfl rfl rfl rfl rfl (st_pure pure_nil rfl rfl rfl ?_)
      refine RN_gT rfl rfl rfl rfl rfl rfl (st_pure (pure_field0 1 Try.underlying123 rfl rfl sz3) rfl rfl rfl ?_)
      refine RN_gT rfl rfl rfl rfl rfl rfl (st_ld 6 rfl Try.underlying3 rfl rfl rfl cell_blk rfl rfl ?_)
      refine RN_gT rfl rfl rfl rfl rfl rfl (st_pure pure_eql rfl rfl rfl ?_)
      exact RN_end (cut_end (AllIn.sub ⟨rfl, rfl, rfl, rfl, rfl, rfl, rfl, rfl, rfl, trivial⟩) (Ent.refl _))
    refine RN_end ?_
    refine WQ_keep [(41, _), (4, _), (5, _), (6, _), (7, _), (8, _), (9, _), (10, _)] ⟨rfl, rfl, rfl, rfl, rfl, rfl, rfl, rfl, trivial⟩ ?_
    refine WQ_then ?_
    refine W_cond rfl rfl (fun hc2 => ?_) (fun hc2 => ?_)
    · obtain ⟨hc2a, hc2⟩ := hc2
      subst hc2
      obtain ⟨_, _, hb5, _⟩ := rdBelow_ok (lim := 4096) (c := 0) hb4 (by decide)
      obtain ⟨_, _, hb6, _⟩ := rdBelow_ok (lim := 4096) (c := (rdBelow 4096 bs2 0).2.2) hb5 (by decide)
      refine W_fold 6 rfl (fun _ _ h => rf_open.2 ⟨v2, hR2, h⟩) ?_
      refine W_skip rfl ?_
      refine WQ_then ?_
      refine W_seq rfl ?_
      refine W_block rfl ?_
      refine W_seq rfl ?_
      refine W_reg (m := 3) rfl rfl ?_
      refine RN_op rfl rfl rfl (st_pure (pure_build Try.underlying114 zr114 (pl114 Try.underlying114)) rfl rfl rfl ?_)
      refine RN_op rfl rfl rfl (s_al 7 (alloc_new zr114) rfl rfl rfl fun g7 => ?_)
      refine RN_op rfl rfl rfl (s_st 7 rfl sz114 rfl rfl rfl rfl puts_agg rfl ?_)
      refine RN_end ?_
      refine WQ_keep [(11, _), (4, _), (5, _), (6, _), (7, _), (8, _), (9, _), (10, _)] ⟨rfl, rfl, rfl, rfl, rfl, rfl, rfl, rfl, trivial⟩ ?_
      refine WQ_then ?_
      refine W_seq rfl ?_
      refine W_reg (m := 4) rfl rfl ?_
      refine RN_op rfl rfl rfl (st_pure pure_move rfl rfl rfl ?_)
      refine RN_op rfl rfl rfl (s_ct (R := [0]) (W := [6]) (x0 := ()) (ct_BelowR c g6 bs2 0 4096 hb4 (by decide) (by decide)) fnF52 rfl rfl rfl rfl (by decide) rfl (fun _ => rfl) rfl rfl fun _ => ?_)
      refine RN_op rfl rfl rfl (st_pure (pure_field0 0 Try.underlying114 rfl rfl sz3) rfl rfl rfl ?_)
      refine RN_op rfl rfl rfl (s_st 7 rfl sz3 rfl rfl rfl one_cells (puts_one One.out (put_blk One.out)) rfl ?_)
      refine RN_end ?_
      refine WQ_keep [(11, _), (4, _), (5, _), (6, _), (7, _), (8, _), (9, _), (10, _)] ⟨rfl, rfl, rfl, rfl, rfl, rfl, rfl, rfl, trivial⟩ ?_
      refine WQ_then ?_
      refine W_seq rfl ?_
      refine W_reg (m := 4) rfl rfl ?_
      refine RN_op rfl rfl rfl (st_pure pure_move rfl rfl rfl ?_)
      refine RN_op rfl rfl rfl (s_ct (R := [0]) (W := [6]) (x0 := ()) (ct_BelowR c g6 (rdBelow 4096 bs2 0).2.1 (rdBelow 4096 bs2 0).2.2 4096 hb5 (by decide) (by decide)) fnF52 rfl rfl rfl rfl (by decide) rfl (fun _ => rfl) rfl rfl fun _ => ?_)
      refine RN_op rfl rfl rfl (st_pure (pure_field0 1 Try.underlying114 rfl rfl sz3) rfl rfl rfl ?_)
      refine RN_op rfl rfl rfl (s_st 7 rfl sz3 rfl rfl rfl one_cells (puts_one One.out (put_blk One.out)) rfl ?_)
      refine RN_end ?_
      refine WQ_keep [(11, _), (4, _), (5, _), (6, _), (7, _), (8, _), (9, _), (10, _)] ⟨rfl, rfl, rfl, rfl, rfl, rfl, rfl, rfl, trivial⟩ ?_
      refine WQ_then ?_
      refine W_reg (m := 5) rfl rfl ?_
      refine RN_op rfl rfl rfl (st_pure pure_move rfl rfl rfl ?_)
      refine RN_op rfl rfl rfl (st_ldN 7 rfl Try.underlying114 rfl sz114 rfl rfl cells_blk rfl rfl ?_)
      refine RN_op rfl rfl rfl (s_al 8 (alloc_buildSlice Try.underlying26 el26.zero rfl (by decide)) rfl rfl rfl fun g8 => ?_)
      refine RN_op rfl rfl rfl (s_appR 8 5 rfl el26 rfl rfl rfl rfl rfl toRow_row (rds_blk rfl (by decide)) AllOne.out (by omega) (by omega) rfl rfl fun v54 hv54 => ?_)
      rw [prs_snoc ls ((rdBelow 4096 bs2 0).1, (rdBelow 4096 (rdBelow 4096 bs2 0).2.1 (rdBelow 4096 bs2 0).2.2).1), psnoc_length ls ((rdBelow 4096 bs2 0).1, (rdBelow 4096 (rdBelow 4096 bs2 0).2.1 (rdBelow 4096 bs2 0).2.2).1)]
      rw [psnoc_length ls ((rdBelow 4096 bs2 0).1, (rdBelow 4096 (rdBelow 4096 bs2 0).2.1 (rdBelow 4096 bs2 0).2.2).1)] at hv54
      refine RN_op rfl rfl rfl (st_pure pure_assign rfl rfl rfl ?_)
      refine RN_end ?_
      refine WQ_keep [(8, _), (4, _), (5, _), (6, _), (7, _), (9, _), (10, _)] ⟨rfl, rfl, rfl, rfl, rfl, rfl, rfl, trivial⟩ ?_
      refine WQ_inB ?_
      refine WQ_then ?_
      refine W_reg (m := 3) rfl rfl ?_
      refine RN_op rfl rfl rfl (st_pure pure_move rfl rfl rfl ?_)
      refine RN_op rfl rfl rfl (st_pure (pure_add64 (by omega)) rfl rfl rfl ?_)
      refine RN_op rfl rfl rfl (st_pure pure_assign rfl rfl rfl ?_)
      refine RN_end ?_
      refine WQ_keep [(10, _), (8, _), (4, _), (5, _), (6, _), (7, _), (9, _)] ⟨rfl, rfl, rfl, rfl, rfl, rfl, rfl, trivial⟩ ?_
      rw [rdPairs_pos (by omega) bs2, Nat.sub_sub] at hE2
      refine WQ_hand ((k + 1, ls ++ [((rdBelow 4096 bs2 0).1, (rdBelow 4096 (rdBelow 4096 bs2 0).2.1 (rdBelow 4096 bs2 0).2.2).1)], (rdBelow 4096 (rdBelow 4096 bs2 0).2.1 (rdBelow 4096 bs2 0).2.2).2.1, (rdBelow 4096 (rdBelow 4096 bs2 0).2.1 (rdBelow 4096 bs2 0).2.2).2.2, v54)) (⟨by omega, by simp; omega, hb6, hv54, by rw [hE2]; simp⟩) (by (try dsimp only); omega) (AllIn.sub ⟨rfl, rfl, rfl, rfl, rfl, rfl, rfl, trivial⟩) (EntP.ent (by repeat' first | exact EntP.nil | refine EntP.same ?_ | refine EntP.drop ?_ | refine EntP.nilRow ?_))
    · refine W_fold 6 rfl (fun _ _ h => rf_open.2 ⟨v2, hR2, h⟩) ?_
      refine W_exit rfl ?_
      refine WQ_thenX rfl ?_
      refine WQ_thenX rfl ?_
      refine WQ_hit ?_
      refine WQ_then ?_
      have hE3 : rdPairs (rdBelow 65536 bs1 c1).1.toNat (rdBelow 65536 bs1 c1).2.1 (rdBelow 65536 bs1 c1).2.2 = (ls, bs2, c2) := by
        rw [hE2]
        by_cases hc3 : c2 = 0
        · have hk2 : (rdBelow 65536 bs1 c1).1.toNat - k = 0 := by omega
          rw [hk2]; simp [rdPairs]
        · rw [rdPairs_stuck hc3]; simp
      haveI := hvl.one
      refine W_reg (m := 5) rfl rfl ?_
      refine RN_op rfl rfl rfl (st_pure pure_move rfl rfl rfl ?_)
      refine RN_op rfl rfl rfl (st_pure pure_move rfl rfl rfl ?_)
      refine RN_op rfl rfl rfl (s_al 9 (alloc_buildSlice Try.underlying22 el22.zero rfl (by decide)) rfl rfl rfl fun g9 => ?_)
      refine RN_op rfl rfl rfl (s_appR 9 3 rfl el22 rfl rfl rfl rfl rfl toRow_row (rds_blk rfl (by decide)) AllOne.out (by omega) (by omega) rfl rfl fun v58 hv58 => ?_)
      refine RN_op rfl rfl rfl (st_pure pure_assign rfl rfl rfl ?_)
      refine RN_end ?_
      refine WQ_keep [(5, _), (4, _), (6, _), (7, _)] ⟨rfl, rfl, rfl, rfl, trivial⟩ ?_
      refine WQ_exP (L' := fun d => [c, .emp, .hp (HP.sep lf), OutR v58 (i + 1) (vs ++ [vl]), d, .emp, .hp (RfH c g6 bs2 c2), .emp, .emp, .emp]) (p := fun d => Parts d (vs ++ [vl]) (out ++ [ls])) (fun w hs _ => ?_) fun d hP2 => ?_
      · obtain ⟨d, h1, h2, h3⟩ := hs.freeze2 4 5 (by decide)
        exact ⟨d, (show EntP _ _ from (by repeat' first | exact EntP.nil | refine EntP.same ?_ | refine EntP.drop ?_ | refine EntP.nilRow ?_)).ent.sat h1, hP.snoc h2 ((rds_row hvl (prs_length ls)).mono h3)⟩
      refine WQ_inB ?_
      refine WQ_then ?_
      refine W_reg (m := 3) rfl rfl ?_
      refine RN_op rfl rfl rfl (st_pure pure_move rfl rfl rfl ?_)
      refine RN_op rfl rfl rfl (st_pure (pure_add64 (by omega)) rfl rfl rfl ?_)
      refine RN_op rfl rfl rfl (st_pure pure_assign rfl rfl rfl ?_)
      refine RN_end ?_
      refine WQ_keep [(7, _), (5, _), (4, _), (6, _)] ⟨rfl, rfl, rfl, rfl, trivial⟩ ?_
      rw [rdLists_pos (by omega), hE3, Nat.sub_sub] at hE
      refine WQ_hand ((i + 1, out ++ [ls], bs2, c2, v58, vs ++ [vl], d)) (⟨by simp [hio], by omega, hb4, hv58, hP2, by rw [hE]; simp⟩) (by (try dsimp only); omega) (AllIn.sub ⟨rfl, rfl, rfl, rfl, trivial⟩) (EntP.ent (by repeat' first | exact EntP.nil | refine EntP.same ?_ | refine EntP.drop ?_ | refine EntP.nilRow ?_))
  · refine W_fold 6 rfl (fun _ _ h => rf_open.2 ⟨v1, hR1, h⟩) ?_
    refine W_exit rfl ?_
    refine WQ_thenX rfl ?_
    refine WQ_thenX rfl ?_
    refine WQ_hit ?_
    refine WQ_then ?_
    refine W_seq rfl ?_
    refine W_seq rfl ?_
    have e2 : certErr bs = rdEndC bs1 c1 := certErr_stuck hE (by omega)
    refine W_reg (m := 3) rfl rfl ?_
    refine RN_op rfl rfl rfl (st_pure pure_move rfl rfl rfl ?_)
    refine RN_op rfl rfl rfl (s_ct (R := [0]) (W := [6]) (x0 := ()) (ct_EndR c g6 bs1 c1) fnF53 rfl rfl rfl rfl (by decide) rfl (fun _ => rfl) rfl rfl fun _ => ?_)
    refine RN_op rfl rfl rfl (st_pure pure_assign rfl rfl rfl ?_)
    refine RN_end ?_
    refine WQ_keep [(12, _), (5, _)] ⟨rfl, rfl, trivial⟩ ?_
    refine WQ_then ?_
    refine W_seq rfl ?_
    refine W_reg (m := 2) rfl rfl ?_
    refine RN_op rfl rfl rfl (st_pure pure_move rfl rfl rfl ?_)
    refine RN_op rfl rfl rfl (st_pure pure_neq rfl rfl rfl ?_)
    refine RN_end ?_
    refine WQ_keep [(62, _), (12, _), (5, _)] ⟨rfl, rfl, rfl, trivial⟩ ?_
    refine WQ_then ?_
    refine W_cond rfl rfl (fun hc3 => ?_) (fun hc3 => ?_)
    · refine W_seq rfl ?_
      refine W_reg (m := 3) rfl rfl ?_
      refine RN_op rfl rfl rfl (st_pure pure_move rfl rfl rfl ?_)
      refine RN_op rfl rfl rfl (st_pure pure_assign rfl rfl rfl ?_)
      refine RN_op rfl rfl rfl (st_pure pure_assign rfl rfl rfl ?_)
      refine RN_end ?_
      refine WQ_keep [(3, _), (2, _)] ⟨rfl, rfl, trivial⟩ ?_
      refine WQ_then ?_
      refine W_ret rfl ?_
      refine WQ_thenX rfl ?_
      refine WQ_ret (vs := [_, _]) (by rw [Try.results17]; rfl) fun w' hs' he' => ?_
      have e3 : certGot bs = [] := by unfold certGot; rw [if_neg (by rw [e2]; exact hc3)]
      rw [e3, e2]
      exact ⟨.slice none 0 0, rfl, (cert_open.2 ⟨.emp, cert_nil, hs'.pick [1, 0, 2] (by decide)⟩ : SatC w' [.hp (CertH (.slice none 0 0) []), c, .hp (HP.sep lf)]).pick [1, 0, 2] (by decide), he'⟩
    · refine W_skip rfl ?_
      refine WQ_then ?_
      refine W_seq rfl ?_
      refine W_reg (m := 3) rfl rfl ?_
      refine RN_op rfl rfl rfl (st_pure pure_move rfl rfl rfl ?_)
      refine RN_op rfl rfl rfl (st_pure pure_assign rfl rfl rfl ?_)
      refine RN_op rfl rfl rfl (st_pure pure_assign rfl rfl rfl ?_)
      refine RN_end ?_
      refine WQ_keep [(3, _), (2, _)] ⟨rfl, rfl, trivial⟩ ?_
      refine WQ_then ?_
      refine W_ret rfl ?_
      refine WQ_ret (vs := [_, _]) (by rw [Try.results17]; rfl) fun w' hs' he' => ?_
      have hc5 : rdEndC bs1 c1 = 0 := by omega
      have hi2 : (rdBelow 17 bs 0).1.toNat - i = 0 := by
        have := rdEndC_stuck hc5
        omega
      rw [hi2] at hE
      have e1 : (certRead bs).1 = out := by rw [hE]; simp [rdLists]
      have e3 : certGot bs = out := by unfold certGot; rw [e2, if_pos hc5, e1]
      rw [e3, e2, hc5]
      obtain ⟨d, h1, h2, h3⟩ := hs'.freeze2 3 4 (by decide)
      subst hio
      exact ⟨vo, rfl, (cert_open.2 ⟨d, hP.cert (rds_row hvo (by simp [hP.1])) h2 h3, h1.pick [3, 0, 2] (by decide)⟩ : SatC w' [.hp (CertH vo out), c, .hp (HP.sep lf)]).pick [1, 0, 2] (by decide), he'⟩
end Go.Proofs.Ytlgfinchhnbhdaa
