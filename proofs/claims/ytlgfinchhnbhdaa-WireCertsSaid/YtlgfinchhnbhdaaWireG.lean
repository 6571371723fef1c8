/- Bytes with bits turned, or left out. -/
import Derived.Test.YtlgfinchhnbhdaaWireF
import Derived.Test.YtlgfinchhnbhdaaEngL
set_option linter.unusedVariables false
set_option linter.unusedSimpArgs false
namespace Go.Proofs.Ytlgfinchhnbhdaa
open Go Go.RowKit

/-- Bytes that somebody has made: no more than so many. -/
def BtH (x : Value × List Nat) (n : Nat) : HP := HP.and (BOk x.2 ∧ x.2.length ≤ n) (ByR x.1 x.2).toHP
theorem bt_open {w : World} {x : Value × List Nat} {n : Nat} {L : List Chunk} : SatC w (.hp (BtH x n) :: L) ↔ (BOk x.2 ∧ x.2.length ≤ n) ∧ SatC w (ByR x.1 x.2 :: L) := by
  show Sat w (BtH x n :: hps L) ↔ _
  simp only [BtH, Sat_and]
  exact Iff.rfl
noncomputable def xorb (m n : Int) : Nat := (bitsV .xor .u8 m n).toNat
theorem xorb_lt (m n : Int) : xorb m n < 256 := by
  unfold xorb bitsV
  simp only [IntKind.wrap, IntKind.bits, IntKind.signed]
  simp; omega
theorem xorb_eq (m n : Int) : bitsV .xor .u8 m n = ((xorb m n : Nat) : Int) := by
  have : 0 ≤ bitsV .xor .u8 m n := by
    unfold bitsV
    simp only [IntKind.wrap, IntKind.bits, IntKind.signed]
    simp; omega
  unfold xorb; omega
theorem byts_set (bs : List Nat) (k b : Nat) : (byts bs).set (k * 1) (.int .u8 (b : Int)) = byts (bs.set k b) := by simp [byts, List.map_set]
theorem set_length' (bs : List Nat) (k b : Nat) : bs.length = (bs.set k b).length := by simp
theorem BOk.set {bs : List Nat} (h : BOk bs) (k : Nat) {b : Nat} (hb : b < 256) : BOk (bs.set k b) := fun x hx => by
  rcases List.mem_or_eq_of_mem_set hx with h1 | h1
  · exact h x h1
  · omega
theorem BOk.take {bs : List Nat} (h : BOk bs) (k : Nat) : BOk (bs.take k) := fun b hb => h b (List.mem_of_mem_take hb)
theorem byts_take (bs : List Nat) (k : Nat) : (byts bs).take (k * 1) = byts (bs.take k) := by simp [byts, List.map_take]
theorem byts_app (a b : List Nat) : byts a ++ byts b = byts (a ++ b) := by simp [byts]
theorem tmod_nat (a b : Nat) : ((a : Int)).tmod (b : Int) = ((a % b : Nat) : Int) := by
  rw [Int.tmod_eq_emod_of_nonneg (by omega)]; simp
theorem takedrop (bs : List Nat) {k : Nat} (h : k < bs.length) : k + (bs.drop (k + 1)).length = (bs.take k ++ bs.drop (k + 1)).length := by
  simp; omega

set_option maxRecDepth 100000 in
set_option maxHeartbeats 1000000 in
theorem ct_Turned (c d : Chunk) (v va vb : Value) (bs : List Nat) (ats : List Int) (qs : List Nat) (hR : Rds c v bs.length 1 (byts bs)) (hb : BOk bs) (hm : bs.length ≤ 1000000000) (hA : Rds d va ats.length 1 (ints ats)) (hB : Rds d vb qs.length 1 (byts qs)) (hq : BOk qs) : Ct Try.prog 15 [v, va, vb] [c, d] [.emp] (X := Value × List Nat) (fun x => x.1) (fun x => [.hp (BtH x bs.length)]) := by
  refine ct_of fun w l hs => ?_
  have hra := hA.row
  have hrb := hB.row
  refine enter (c := bodyOf Try.f15) Try.func15 rfl Try.ntmps15 rfl (L := [c, d, .emp, .hp (HP.sep l), .emp]) (SatC.pad hs 1) ?_
  refine W_seq rfl ?_
  refine W_reg (m := 1) rfl rfl ?_
  refine RN_op rfl rfl rfl (st_pure pure_assign rfl rfl rfl ?_)
  refine RN_end ?_
  refine WQ_keep [(0, _), (1, _), (2, _)] ⟨rfl, rfl, rfl, trivial⟩ ?_
  refine WQ_then ?_
  refine W_seq rfl ?_
  refine W_reg (m := 4) rfl rfl ?_
  refine RN_op rfl rfl rfl (s_al 4 (alloc_buildSlice Try.underlying23 el23.zero rfl (by decide)) rfl rfl rfl fun g4 => ?_)
  refine RN_op rfl rfl rfl (st_pure pure_move rfl rfl rfl ?_)
  refine RN_op rfl rfl rfl (s_appR 0 4 rfl el23 rfl rfl rfl rfl rfl (toRow_blk rfl (by decide)) hR (byts_one bs) (by omega) (by omega) rfl rfl fun v12 hv12 => ?_)
  simp only [Nat.zero_add, List.nil_append] at hv12 ⊢
  refine RN_op rfl rfl rfl (st_pure pure_assign rfl rfl rfl ?_)
  refine RN_end ?_
  refine WQ_keep [(7, _), (1, _), (2, _)] ⟨rfl, rfl, rfl, trivial⟩ ?_
  refine WQ_then ?_
  refine W_seq rfl ?_
  refine W_seq rfl ?_
  refine W_reg (m := 1) rfl rfl ?_
  refine RN_op rfl rfl rfl (st_pure pure_assign rfl rfl rfl ?_)
  refine RN_end ?_
  refine WQ_keep [(8, _), (7, _), (1, _), (2, _)] ⟨rfl, rfl, rfl, rfl, trivial⟩ ?_
  refine WQ_then ?_
  refine W_block rfl ?_
  refine W_loop (σ := Nat × Value × List Nat) (fun ⟨i, vo, out⟩ => 4 - i) (fun ⟨i, vo, out⟩ => [(1, va), (2, vb), (7, vo), (8, .int .i64 ((i : Nat) : Int))]) (fun ⟨i, vo, out⟩ => [c, d, .emp, .hp (HP.sep l), ByR vo out]) (fun ⟨i, vo, out⟩ => IsRow vo out.length ∧ BOk out ∧ out.length ≤ bs.length ∧ i ≤ 4) ((0, v12, bs)) rfl (⟨hv12, hb, Nat.le_refl _, by omega⟩) (AllIn.sub ⟨rfl, rfl, rfl, rfl, trivial⟩) (EntP.ent (by repeat' first | exact EntP.nil | refine EntP.same ?_ | refine EntP.drop ?_ | refine EntP.nilRow ?_)) ?_
  rintro ⟨i, vo, out⟩ hI
  refine W_as [(1, va), (2, vb), (7, vo), (8, .int .i64 ((i : Nat) : Int))] [c, d, .emp, .hp (HP.sep l), ByR vo out] ⟨rfl, rfl, rfl, rfl, trivial⟩ (EntP.refl _) ?_
  obtain ⟨hvo, ho, hl, hi4⟩ := hI
  refine W_seq rfl ?_
  refine W_seq rfl ?_
  refine W_reg (m := 19) rfl rfl ?_
  refine RN_op rfl rfl rfl (st_pure pure_move rfl rfl rfl ?_)
  refine RN_op rfl rfl rfl (st_pure pure_move rfl rfl rfl ?_)
  refine RN_op rfl rfl rfl (st_pure (pure_lenR Try.underlying24 (by assumption)) rfl rfl rfl ?_)
  refine RN_op rfl rfl rfl (st_pure pure_lss rfl rfl rfl ?_)
  refine RN_op rfl rfl rfl (st_pure pure_move rfl rfl rfl ?_)
  refine' RN_and 4 4 [(1, _), (2, _), (7, _), (8, _)] rfl rfl rfl rfl rfl rfl rfl rfl rfl rfl rfl rfl rfl ⟨rfl, rfl, rfl, rfl, trivial⟩ (wanted_none rfl) (fun hg9 => ?_) ?_
  rotate_left 2
  · refine RN_gT rfl rfl rfl rfl rfl rfl (st_pure pure_move rfl rfl rfl ?_)
    refine RN_gT rfl rfl rfl rfl rfl rfl (st_pure pure_move rfl rfl rfl ?_)
    refine RN_gT rfl rfl rfl rfl rfl rfl (st_pure (pure_lenR Try.underlying23 (by assumption)) rfl rfl rfl ?_)
    refine RN_gT rfl rfl rfl rfl rfl rfl (st_pure pure_lss rfl rfl rfl ?_)
    exact RN_end (cut_end (AllIn.sub ⟨rfl, rfl, rfl, rfl, rfl, rfl, trivial⟩) (Ent.refl _))
  refine RN_op rfl rfl rfl (st_pure pure_move rfl rfl rfl ?_)
  refine' RN_and 10 2 [(1, _), (2, _), (7, _), (8, _)] rfl rfl rfl rfl rfl rfl rfl rfl rfl rfl rfl rfl rfl ⟨rfl, rfl, rfl, rfl, trivial⟩ (wanted_none rfl) (fun hg13 => ?_) ?_
  rotate_left 2
  · refine RN_gT rfl rfl rfl rfl rfl rfl (st_pure pure_move rfl rfl rfl ?_)
    refine RN_gT rfl rfl rfl rfl rfl rfl (st_pure pure_lss rfl rfl rfl ?_)
    exact RN_end (cut_end (AllIn.sub ⟨rfl, rfl, rfl, rfl, rfl, rfl, trivial⟩) (Ent.refl _))
  refine RN_op rfl rfl rfl (st_pure pure_move rfl rfl rfl ?_)
  refine' RN_and 14 3 [(1, _), (2, _), (7, _), (8, _)] rfl rfl rfl rfl rfl rfl rfl rfl rfl rfl rfl rfl rfl ⟨rfl, rfl, rfl, rfl, trivial⟩ (wanted_none rfl) (fun hg18 => ?_) ?_
  rotate_left 2
  · refine RN_gT rfl rfl rfl rfl rfl rfl (st_pure pure_move rfl rfl rfl ?_)
    refine RN_gT rfl rfl rfl rfl rfl rfl (st_pure (pure_lenR Try.underlying23 (by assumption)) rfl rfl rfl ?_)
    refine RN_gT rfl rfl rfl rfl rfl rfl (st_pure pure_gtr rfl rfl rfl ?_)
    exact RN_end (cut_end (AllIn.sub ⟨rfl, rfl, rfl, rfl, rfl, rfl, trivial⟩) (Ent.refl _))
  refine RN_end ?_
  refine WQ_keep [(31, _), (1, _), (2, _), (7, _), (8, _)] ⟨rfl, rfl, rfl, rfl, rfl, trivial⟩ ?_
  refine WQ_then ?_
  refine W_cond rfl rfl (fun hc1 => ?_) (fun hc1 => ?_)
  · obtain ⟨⟨⟨hc1a, hc1b⟩, hc1c⟩, hc1d⟩ := hc1
    have hn0 : 0 < out.length := by omega
    obtain ⟨k, hk⟩ : ∃ k, k = u64 (ni ats i) % out.length := ⟨_, rfl⟩
    have hkl : k < out.length := by rw [hk]; exact Nat.mod_lt _ hn0
    refine W_skip rfl ?_
    refine WQ_then ?_
    refine W_seq rfl ?_
    refine W_block rfl ?_
    refine W_seq rfl ?_
    refine W_reg (m := 11) rfl rfl ?_
    refine RN_op rfl rfl rfl (st_pure pure_move rfl rfl rfl ?_)
    refine RN_op rfl rfl rfl (st_pure pure_move rfl rfl rfl ?_)
    refine RN_op rfl rfl rfl (st_pure (pure_indexR Try.underlying24 sz3 (by assumption) (by omega)) rfl rfl rfl ?_)
    refine RN_op rfl rfl rfl (st_ld 1 rfl Try.underlying3 rfl rfl rfl (hA.cell (ints_get ats i (by omega))) rfl rfl ?_)
    refine RN_op rfl rfl rfl (st_pure (pure_convN (r := ((u64 (ni ats i) : Nat) : Int)) Try.underlying3 Try.underlying99 (u64_wrap _)) rfl rfl rfl ?_)
    refine RN_op rfl rfl rfl (st_pure pure_move rfl rfl rfl ?_)
    refine RN_op rfl rfl rfl (st_pure (pure_lenR Try.underlying23 (by assumption)) rfl rfl rfl ?_)
    refine RN_op rfl rfl rfl (st_pure (pure_convU64 Try.underlying3 Try.underlying99 (by omega)) rfl rfl rfl ?_)
    refine RN_op rfl rfl rfl (st_pure (pure_remN (r := (k : Int)) (by omega) (by rw [hk]; exact tmod_nat _ _)) rfl rfl rfl ?_)
    refine RN_op rfl rfl rfl (st_pure (pure_conv64 Try.underlying99 Try.underlying3 (by omega)) rfl rfl rfl ?_)
    refine RN_op rfl rfl rfl (st_pure pure_assign rfl rfl rfl ?_)
    refine RN_end ?_
    refine WQ_keep [(9, _), (1, _), (2, _), (7, _), (8, _)] ⟨rfl, rfl, rfl, rfl, rfl, trivial⟩ ?_
    refine WQ_then ?_
    refine W_seq rfl ?_
    refine W_reg (m := 6) rfl rfl ?_
    refine RN_op rfl rfl rfl (st_pure pure_move rfl rfl rfl ?_)
    refine RN_op rfl rfl rfl (st_pure pure_move rfl rfl rfl ?_)
    refine RN_op rfl rfl rfl (st_pure (pure_indexR Try.underlying23 sz5 (by assumption) (by omega)) rfl rfl rfl ?_)
    refine RN_op rfl rfl rfl (st_ld 1 rfl Try.underlying5 rfl rfl rfl (hB.cell (byts_get qs i (by omega))) rfl rfl ?_)
    refine RN_op rfl rfl rfl (st_pure (pure_remP (by omega) (by omega)) rfl rfl rfl ?_)
    refine RN_op rfl rfl rfl (st_pure pure_eql rfl rfl rfl ?_)
    refine RN_end ?_
    refine WQ_keep [(49, _), (9, _), (1, _), (2, _), (7, _), (8, _)] ⟨rfl, rfl, rfl, rfl, rfl, rfl, trivial⟩ ?_
    refine WQ_then ?_
    refine W_cond rfl rfl (fun hc2 => ?_) (fun hc2 => ?_)
    · have hdl : (List.drop (k + 1) out).length ≤ out.length := by simp
      refine W_draw (m := 10) [(8, Spec.appS 4 5 1 1)] #[0, 0, 0, 7, 0, 0, 32, 112, 255, 511] rfl rfl mixed (by kernel_rfl) (by kernel_rfl) ?_
      refine RG_op rfl rfl rfl rfl (st_pure pure_move rfl rfl rfl ?_)
      refine RG_op rfl rfl rfl rfl (st_pure pure_move rfl rfl rfl ?_)
      refine RG_op rfl rfl rfl rfl (st_pure pure_move rfl rfl rfl ?_)
      refine RG_op rfl rfl rfl rfl (st_pure (pure_sliceMx Try.underlying23 sz5 (by assumption) (by omega) (by omega)) rfl rfl rfl ?_)
      refine RG_op rfl rfl rfl rfl (st_pure pure_move rfl rfl rfl ?_)
      refine RG_op rfl rfl rfl rfl (st_pure pure_move rfl rfl rfl ?_)
      refine RG_op rfl rfl rfl rfl (st_pure (pure_add64 (by omega)) rfl rfl rfl ?_)
      refine RG_op rfl rfl rfl rfl (st_pure (pure_sliceLo Try.underlying23 sz5 (by assumption) (by omega)) rfl rfl rfl ?_)
      refine RG_op rfl rfl rfl rfl (s_appS 4 rfl el23 rfl rfl rfl (toPre_vcp hvo hn0 (Nat.le_refl k) (by omega)) (rds_bytes (rds_row hvo (byts_len1 _)) (by omega)) (byts_one _) (by omega) (by omega) rfl rfl fun v58 hv58 => ?_)
      rw [byts_take, byts_app, takedrop out hkl]
      rw [takedrop out hkl] at hv58
      refine RG_op rfl rfl rfl rfl (st_pure pure_assign rfl rfl rfl ?_)
      refine RG_end ?_
      refine WQ_keep [(7, _), (1, _), (2, _), (8, _)] ⟨rfl, rfl, rfl, rfl, trivial⟩ ?_
      refine WQ_inB ?_
      refine WQ_then ?_
      refine W_reg (m := 3) rfl rfl ?_
      refine RN_op rfl rfl rfl (st_pure pure_move rfl rfl rfl ?_)
      refine RN_op rfl rfl rfl (st_pure (pure_add64 (by omega)) rfl rfl rfl ?_)
      refine RN_op rfl rfl rfl (st_pure pure_assign rfl rfl rfl ?_)
      refine RN_end ?_
      refine WQ_keep [(8, _), (7, _), (1, _), (2, _)] ⟨rfl, rfl, rfl, rfl, trivial⟩ ?_
      refine WQ_hand ((i + 1, v58, out.take k ++ out.drop (k + 1))) (⟨hv58, (ho.take k).app (ho.drop (k + 1)), by simp; omega, by omega⟩) (by (try dsimp only); omega) (AllIn.sub ⟨rfl, rfl, rfl, rfl, trivial⟩) (EntP.ent (by repeat' first | exact EntP.nil | refine EntP.same ?_ | refine EntP.drop ?_ | refine EntP.nilRow ?_))
    · refine W_draw (m := 13) [(3, Spec.ld 4), (7, Spec.ld 1), (12, Spec.sto 4 1)] #[0, 0, 3, 7, 0, 0, 48, 112, 240, 496, 1023, 2047, 4095] rfl rfl mixed (by kernel_rfl) (by kernel_rfl) ?_
      refine RG_op rfl rfl rfl rfl (st_pure pure_move rfl rfl rfl ?_)
      refine RG_op rfl rfl rfl rfl (st_pure pure_move rfl rfl rfl ?_)
      refine RG_op rfl rfl rfl rfl (st_pure (pure_indexR Try.underlying23 sz5 (by assumption) (by omega)) rfl rfl rfl ?_)
      refine RG_op rfl rfl rfl rfl (st_ld 4 rfl Try.underlying5 rfl rfl rfl (cell_row (by assumption) (by omega) (byts_get out k (by omega))) rfl rfl ?_)
      refine RG_op rfl rfl rfl rfl (st_pure pure_move rfl rfl rfl ?_)
      refine RG_op rfl rfl rfl rfl (st_pure pure_move rfl rfl rfl ?_)
      refine RG_op rfl rfl rfl rfl (st_pure (pure_indexR Try.underlying23 sz5 (by assumption) (by omega)) rfl rfl rfl ?_)
      refine RG_op rfl rfl rfl rfl (st_ld 1 rfl Try.underlying5 rfl rfl rfl (hB.cell (byts_get qs i (by omega))) rfl rfl ?_)
      refine RG_op rfl rfl rfl rfl (st_pure (pure_remP (by omega) (by omega)) rfl rfl rfl ?_)
      refine RG_op rfl rfl rfl rfl (st_pure (pure_shl (by omega)) rfl rfl rfl ?_)
      refine RG_op rfl rfl rfl rfl (st_pure (pure_bitsN rfl (xorb_eq _ _)) rfl rfl rfl ?_)
      refine RG_op rfl rfl rfl rfl (st_pure (pure_indexR Try.underlying23 sz5 (by assumption) (by omega)) rfl rfl rfl ?_)
      refine RG_op rfl rfl rfl rfl (s_st 4 rfl sz5 rfl rfl rfl one_cells (puts_one One.out (put_row (by assumption) (by omega) (by rw [byts_length]; omega) One.out)) rfl ?_)
      refine RG_end ?_
      refine WQ_keep [(1, _), (2, _), (7, _), (8, _)] ⟨rfl, rfl, rfl, rfl, trivial⟩ ?_
      rw [byts_set, set_length' out k (xorb (nb out k : Int) (IntKind.u8.wrap (1 * 2 ^ (min ((nb qs i : Int) % 9).toNat IntKind.u8.bits))))]
      refine WQ_inB ?_
      refine WQ_then ?_
      refine W_reg (m := 3) rfl rfl ?_
      refine RN_op rfl rfl rfl (st_pure pure_move rfl rfl rfl ?_)
      refine RN_op rfl rfl rfl (st_pure (pure_add64 (by omega)) rfl rfl rfl ?_)
      refine RN_op rfl rfl rfl (st_pure pure_assign rfl rfl rfl ?_)
      refine RN_end ?_
      refine WQ_keep [(8, _), (1, _), (2, _), (7, _)] ⟨rfl, rfl, rfl, rfl, trivial⟩ ?_
      refine WQ_hand ((i + 1, vo, out.set k (xorb (nb out k : Int) (IntKind.u8.wrap (1 * 2 ^ (min ((nb qs i : Int) % 9).toNat IntKind.u8.bits)))))) (⟨by simpa using hvo, ho.set k (xorb_lt _ _), by simpa using hl, by omega⟩) (by (try dsimp only); omega) (AllIn.sub ⟨rfl, rfl, rfl, rfl, trivial⟩) (EntP.ent (by repeat' first | exact EntP.nil | refine EntP.same ?_ | refine EntP.drop ?_ | refine EntP.nilRow ?_))
  · refine W_exit rfl ?_
    refine WQ_thenX rfl ?_
    refine WQ_thenX rfl ?_
    refine WQ_hit ?_
    refine WQ_then ?_
    refine W_seq rfl ?_
    refine W_reg (m := 2) rfl rfl ?_
    refine RN_op rfl rfl rfl (st_pure pure_move rfl rfl rfl ?_)
    refine RN_op rfl rfl rfl (st_pure pure_assign rfl rfl rfl ?_)
    refine RN_end ?_
    refine WQ_keep [(6, _)] ⟨rfl, trivial⟩ ?_
    refine WQ_then ?_
    refine W_ret rfl ?_
    refine WQ_ret (vs := [_]) (by rw [Try.results15]; rfl) fun w' hs' he' => ?_
    exact ⟨(vo, out), rfl, (bt_open.2 ⟨⟨ho, hl⟩, hs'.pick [4, 0, 1, 3] (by decide)⟩ : SatC w' [.hp (BtH (vo, out) bs.length), c, d, .hp (HP.sep l)]).pick [1, 2, 0, 3] (by decide), he'⟩
end Go.Proofs.Ytlgfinchhnbhdaa
