/- The reference's numbers as bytes: the walks. -/
import Derived.Test.YtlgfinchhnbhdaaWireB
set_option linter.unusedVariables false
set_option linter.unusedSimpArgs false
namespace Go.Proofs.Ytlgfinchhnbhdaa
open Go Go.RowKit

theorem tmodN (a b : Nat) : Int.tmod (a : Int) (b : Int) = ((a % b : Nat) : Int) := rfl
theorem tdivN (a b : Nat) : Int.tdiv (a : Int) (b : Int) = ((a / b : Nat) : Int) := rfl
theorem quoU (a b : Nat) (h : a < 2 ^ 64) : IntKind.u64.wrap (Int.tdiv (a : Int) (b : Int)) = ((a / b : Nat) : Int) := by
  rw [tdivN]
  have hq := Nat.div_le_self a b
  generalize a / b = q at hq ⊢
  exact wrapU64 (by omega)
theorem rds_vsl {c : Chunk} {v : Value} {n s k : Nat} {xs : List Value} (h : Rds c v n s xs) (hk : k ≤ n) : Rds c (vsl v k n s) (n - k) s (xs.drop (k * s)) := by
  obtain ⟨h1, h2, h3⟩ := h
  have hr := h1.vsl (lo := k) (hi := n) (s := s) hk (Nat.le_refl _)
  refine ⟨hr, by rw [List.length_drop, h2, Nat.sub_mul], fun j u hj => ?_⟩
  rw [List.getElem?_drop] at hj
  rcases Nat.lt_or_ge k n with h | h
  · rw [eaddr_vsl h1 h (Nat.le_refl _)]
    exact h3 _ _ hj
  · have : k = n := by omega
    subst this
    have := (List.getElem?_eq_some_iff.1 hj).1
    omega
theorem rds_bytes {c : Chunk} {v : Value} {bs : List Nat} (h : Rds c v bs.length 1 (byts bs)) {k : Nat} (hk : k ≤ bs.length) : Rds c (vsl v k bs.length 1) (bs.drop k).length 1 (byts (bs.drop k)) := by
  have := rds_vsl h hk
  rw [byts_drop] at this
  simpa using this

set_option maxRecDepth 100000 in
theorem ct_PutR (c : Chunk) (v : Value) (bs : List Nat) (n0 : Nat) (hR : Rds c v bs.length 1 (byts bs)) (hn0 : n0 < 2 ^ 64) (hm : bs.length ≤ 1000000000) : Ct Try.prog 47 [v, .int .u64 (n0 : Int)] [c] [.emp] (X := Value) (fun x => x) (fun x => [ByR x (bs ++ putL n0)]) := by
  refine ct_of fun w l hs => ?_
  have hl0 := putL_len64 hn0
  refine enter (c := bodyOf Try.f47) Try.func47 rfl Try.ntmps47 rfl (L := [c, .emp, .hp (HP.sep l), .emp, .emp, .emp]) (SatC.pad hs 3) ?_
  refine W_seq rfl ?_
  refine W_reg (m := 1) rfl rfl ?_
  refine RN_op rfl rfl rfl (st_pure pure_assign rfl rfl rfl ?_)
  refine RN_end ?_
  refine WQ_keep [(0, _), (1, _)] ⟨rfl, rfl, trivial⟩ ?_
  refine WQ_then ?_
  refine W_seq rfl ?_
  refine W_reg (m := 4) rfl rfl ?_
  refine RN_op rfl rfl rfl (s_al 3 (alloc_buildSlice Try.underlying23 el23.zero rfl (by decide)) rfl rfl rfl fun g3 => ?_)
  refine RN_op rfl rfl rfl (st_pure pure_move rfl rfl rfl ?_)
  refine RN_op rfl rfl rfl (s_appR 0 3 rfl el23 rfl rfl rfl rfl rfl (toRow_blk rfl (by decide)) hR (byts_one bs) (by omega) (by omega) rfl rfl fun v9 hv9 => ?_)
  simp only [Nat.zero_add, List.nil_append] at hv9 ⊢
  refine RN_op rfl rfl rfl (st_pure pure_assign rfl rfl rfl ?_)
  refine RN_end ?_
  refine WQ_keep [(5, _), (1, _)] ⟨rfl, rfl, trivial⟩ ?_
  refine WQ_then ?_
  refine W_block rfl ?_
  refine W_loop (σ := Nat × List Nat × Value) (fun ⟨n, out, vo⟩ => n) (fun ⟨n, out, vo⟩ => [(1, .int .u64 ((n : Nat) : Int)), (5, vo)]) (fun ⟨n, out, vo⟩ => [c, .emp, .hp (HP.sep l), ByR vo out, .emp, .emp]) (fun ⟨n, out, vo⟩ => bs ++ putL n0 = out ++ putL n ∧ n < 2 ^ 64 ∧ IsRow vo out.length) ((n0, bs, v9)) rfl (⟨rfl, hn0, hv9⟩) (AllIn.sub ⟨rfl, rfl, trivial⟩) (EntP.ent (by repeat' first | exact EntP.nil | refine EntP.same ?_ | refine EntP.drop ?_ | refine EntP.nilRow ?_)) ?_
  rintro ⟨n, out, vo⟩ hI
  refine W_as [(1, .int .u64 ((n : Nat) : Int)), (5, vo)] [c, .emp, .hp (HP.sep l), ByR vo out, .emp, .emp] ⟨rfl, rfl, trivial⟩ (EntP.refl _) ?_
  obtain ⟨hI1, hI2, hI3⟩ := hI
  have hlen := congrArg List.length hI1
  simp only [List.length_append] at hlen
  refine W_block rfl ?_
  refine W_seq rfl ?_
  refine W_reg (m := 3) rfl rfl ?_
  refine RN_op rfl rfl rfl (st_pure pure_move rfl rfl rfl ?_)
  refine RN_op rfl rfl rfl (st_pure (pure_remN (r := ((n % 128 : Nat) : Int)) (by decide) (tmodN n 128)) rfl rfl rfl ?_)
  refine RN_op rfl rfl rfl (st_pure pure_assign rfl rfl rfl ?_)
  refine RN_end ?_
  refine WQ_keep [(6, _), (1, _), (5, _)] ⟨rfl, rfl, rfl, trivial⟩ ?_
  refine WQ_then ?_
  refine W_seq rfl ?_
  refine W_reg (m := 3) rfl rfl ?_
  refine RN_op rfl rfl rfl (st_pure pure_move rfl rfl rfl ?_)
  refine RN_op rfl rfl rfl (st_pure (pure_quoN (r := ((n / 128 : Nat) : Int)) (by decide) (quoU n 128 hI2)) rfl rfl rfl ?_)
  refine RN_op rfl rfl rfl (st_pure pure_assign rfl rfl rfl ?_)
  refine RN_end ?_
  refine WQ_keep [(1, _), (6, _), (5, _)] ⟨rfl, rfl, rfl, trivial⟩ ?_
  refine WQ_then ?_
  refine W_seq rfl ?_
  refine W_seq rfl ?_
  refine W_reg (m := 2) rfl rfl ?_
  refine RN_op rfl rfl rfl (st_pure pure_move rfl rfl rfl ?_)
  refine RN_op rfl rfl rfl (st_pure pure_eql rfl rfl rfl ?_)
  refine RN_end ?_
  refine WQ_keep [(15, _), (1, _), (6, _), (5, _)] ⟨rfl, rfl, rfl, rfl, trivial⟩ ?_
  refine WQ_then ?_
  refine W_cond rfl rfl (fun hc1 => ?_) (fun hc1 => ?_)
  · have hp1 : putL n = [n] := putL_small (by omega)
    have e1 : n % 128 = n := by omega
    rw [hp1] at hlen
    simp only [List.length_cons, List.length_nil] at hlen
    refine W_seq rfl ?_
    refine W_reg (m := 6) rfl rfl ?_
    refine RN_op rfl rfl rfl (st_pure pure_move rfl rfl rfl ?_)
    refine RN_op rfl rfl rfl (st_pure pure_move rfl rfl rfl ?_)
    refine RN_op rfl rfl rfl (st_pure (pure_convU8 Try.underlying116 Try.underlying5 (by omega)) rfl rfl rfl ?_)
    refine RN_op rfl rfl rfl (s_al 4 (alloc_buildSlice Try.underlying23 el23.zero rfl (by decide)) rfl rfl rfl fun g4 => ?_)
    refine RN_op rfl rfl rfl (s_appR 4 3 rfl el23 rfl rfl rfl rfl rfl toRow_row (rds_blk rfl (by decide)) AllOne.out (by omega) (by omega) rfl rfl fun v20 hv20 => ?_)
    rw [byts_snoc, snoc_length out (n % 128)]
    refine RN_op rfl rfl rfl (st_pure pure_assign rfl rfl rfl ?_)
    refine RN_end ?_
    refine WQ_keep [(4, _)] ⟨rfl, trivial⟩ ?_
    refine WQ_then ?_
    refine W_ret rfl ?_
    refine WQ_thenX rfl ?_
    refine WQ_inBR ?_
    refine WQ_thenX rfl ?_
    refine WQ_inBR ?_
    refine WQ_ret (vs := [_]) (by rw [Try.results47]; rfl) fun w' hs' he' => ?_
    rw [hI1, hp1]
    rw [e1] at hs'
    exact ⟨v20, rfl, hs'.pick [0, 3, 2] (by decide), he'⟩
  · have hp1 : putL n = (n % 128 + 128) :: putL (n / 128) := putL_more (by omega)
    rw [hp1] at hlen
    simp only [List.length_cons] at hlen
    refine W_skip rfl ?_
    refine WQ_then ?_
    refine W_reg (m := 7) rfl rfl ?_
    refine RN_op rfl rfl rfl (st_pure pure_move rfl rfl rfl ?_)
    refine RN_op rfl rfl rfl (st_pure pure_move rfl rfl rfl ?_)
    refine RN_op rfl rfl rfl (st_pure (pure_addN (r := ((n % 128 + 128 : Nat) : Int)) (wrapU64 (by omega))) rfl rfl rfl ?_)
    refine RN_op rfl rfl rfl (st_pure (pure_convU8 Try.underlying116 Try.underlying5 (by omega)) rfl rfl rfl ?_)
    refine RN_op rfl rfl rfl (s_al 5 (alloc_buildSlice Try.underlying23 el23.zero rfl (by decide)) rfl rfl rfl fun g5 => ?_)
    refine RN_op rfl rfl rfl (s_appR 5 3 rfl el23 rfl rfl rfl rfl rfl toRow_row (rds_blk rfl (by decide)) AllOne.out (by omega) (by omega) rfl rfl fun v26 hv26 => ?_)
    rw [byts_snoc, snoc_length out (n % 128 + 128)]
    rw [snoc_length out (n % 128 + 128)] at hv26
    refine RN_op rfl rfl rfl (st_pure pure_assign rfl rfl rfl ?_)
    refine RN_end ?_
    refine WQ_keep [(5, _), (1, _)] ⟨rfl, rfl, trivial⟩ ?_
    refine WQ_inB ?_
    refine WQ_hand ((n / 128, out ++ [n % 128 + 128], v26)) (⟨by rw [hI1, hp1, List.append_assoc]; rfl, by omega, hv26⟩) (by (try dsimp only); omega) (AllIn.sub ⟨rfl, rfl, trivial⟩) (EntP.ent (by repeat' first | exact EntP.nil | refine EntP.same ?_ | refine EntP.drop ?_ | refine EntP.nilRow ?_))

/-! ### The reference's reader -/
abbrev RfC (g : Nat) (v : Value) (c : Int) : Chunk := .blk g (.cells [v, .int .i64 c].toArray 123 (0, 0))
def RfH (c : Chunk) (g : Nat) (bs : List Nat) (e : Int) : HP := HP.ex fun v => HP.and (Rds c v bs.length 1 (byts bs)) (RfC g v e).toHP
theorem rf_open {w : World} {c : Chunk} {g : Nat} {bs : List Nat} {e : Int} {L : List Chunk} : SatC w (.hp (RfH c g bs e) :: L) ↔ ∃ v, Rds c v bs.length 1 (byts bs) ∧ SatC w (RfC g v e :: L) := by
  show Sat w (RfH c g bs e :: hps L) ↔ _
  simp only [RfH, Sat_ex, Sat_and]
  exact Iff.rfl
theorem pow7 (i : Nat) : 2 ^ (7 * (i + 1)) = 2 ^ (7 * i) * 128 := by rw [show 7 * (i + 1) = 7 * i + 7 by omega, Nat.pow_add]
theorem pow_le9 {i : Nat} (h : i ≤ 9) : 2 ^ (7 * i) < 2 ^ 64 := Nat.pow_lt_pow_right (by decide) (by omega)
theorem pow_le8 {i : Nat} (h : i ≤ 8) : 2 ^ (7 * i) * 128 < 2 ^ 64 := by rw [← pow7]; exact pow_le9 (by omega)
/-- What holds at the head of the reference's loop. -/
def NumJ (bs : List Nat) (i acc : Nat) : Prop := i ≤ bs.length ∧ i ≤ 9 ∧ acc < 2 ^ (7 * i) ∧ numL 0 0 bs = numL i acc (bs.drop i)

set_option maxRecDepth 100000 in
set_option maxHeartbeats 1000000 in
theorem ct_NumR (c : Chunk) (g : Nat) (bs : List Nat) (c0 : Int) (hb : BOk bs) : Ct Try.prog 78 [.pointer (some ⟨g, 0, none⟩)] [c] [.hp (RfH c g bs c0)] (X := Unit) (fun _ => .int .u64 ((rdNum bs c0).1 : Nat)) (fun _ => [.hp (RfH c g (rdNum bs c0).2.1 (rdNum bs c0).2.2)]) := by
  refine ct_of fun w l hs0 => ?_
  obtain ⟨v, hR, hs⟩ := rf_open.1 (hs0.pick [1, 0, 2] (by decide))
  have hr := hR.row
  have hm := hr.max
  unfold maxLen at hm
  haveI := hr.one
  refine enter (c := bodyOf Try.f78) Try.func78 rfl Try.ntmps78 rfl (L := [RfC g v c0, c, .hp (HP.sep l)]) hs ?_
  refine W_seq rfl ?_
  refine W_reg (m := 1) rfl rfl ?_
  refine RN_op rfl rfl rfl (st_pure pure_assign rfl rfl rfl ?_)
  refine RN_end ?_
  refine WQ_keep [(0, _)] ⟨rfl, trivial⟩ ?_
  refine WQ_then ?_
  refine W_seq rfl ?_
  refine W_seq rfl ?_
  refine W_reg (m := 5) rfl rfl ?_
  refine RN_op rfl rfl rfl (st_pure pure_move rfl rfl rfl ?_)
  refine RN_op rfl rfl rfl (st_pure pure_nil rfl rfl rfl ?_)
  refine RN_op rfl rfl rfl (st_pure (pure_field0 1 Try.underlying123 rfl rfl sz3) rfl rfl rfl ?_)
  refine RN_op rfl rfl rfl (st_ld 0 rfl Try.underlying3 rfl rfl rfl cell_blk rfl rfl ?_)
  refine RN_op rfl rfl rfl (st_pure pure_neq rfl rfl rfl ?_)
  refine RN_end ?_
  refine WQ_keep [(11, _), (0, _)] ⟨rfl, rfl, trivial⟩ ?_
  refine WQ_then ?_
  refine W_cond rfl rfl (fun hc1 => ?_) (fun hc1 => ?_)
  · refine W_seq rfl ?_
    refine W_reg (m := 1) rfl rfl ?_
    refine RN_op rfl rfl rfl (st_pure pure_assign rfl rfl rfl ?_)
    refine RN_end ?_
    refine WQ_keep [(2, _)] ⟨rfl, trivial⟩ ?_
    refine WQ_then ?_
    refine W_ret rfl ?_
    refine WQ_thenX rfl ?_
    refine WQ_ret (vs := [_]) (by rw [Try.results78]; rfl) fun w' hs' he' => ?_
    have e : rdNum bs c0 = (0, bs, c0) := by unfold rdNum; rw [if_neg hc1]
    rw [e]
    exact ⟨(), rfl, (rf_open.2 ⟨v, hR, hs'⟩ : SatC w' [.hp (RfH c g bs c0), c, .hp (HP.sep l)]).pick [1, 0, 2] (by decide), he'⟩
  · have hc0 : c0 = 0 := by omega
    subst hc0
    refine W_skip rfl ?_
    refine WQ_then ?_
    refine W_seq rfl ?_
    refine W_reg (m := 1) rfl rfl ?_
    refine RN_op rfl rfl rfl (st_pure pure_assign rfl rfl rfl ?_)
    refine RN_end ?_
    refine WQ_keep [(3, _), (0, _)] ⟨rfl, rfl, trivial⟩ ?_
    refine WQ_then ?_
    refine W_seq rfl ?_
    refine W_reg (m := 1) rfl rfl ?_
    refine RN_op rfl rfl rfl (st_pure pure_assign rfl rfl rfl ?_)
    refine RN_end ?_
    refine WQ_keep [(4, _), (3, _), (0, _)] ⟨rfl, rfl, rfl, trivial⟩ ?_
    refine WQ_then ?_
    refine W_seq rfl ?_
    refine W_reg (m := 1) rfl rfl ?_
    refine RN_op rfl rfl rfl (st_pure pure_assign rfl rfl rfl ?_)
    refine RN_end ?_
    refine WQ_keep [(5, _), (4, _), (3, _), (0, _)] ⟨rfl, rfl, rfl, rfl, trivial⟩ ?_
    refine WQ_then ?_
    refine W_block rfl ?_
    refine W_loop (σ := Nat × Nat) (fun ⟨i, acc⟩ => bs.length + 1 - i) (fun ⟨i, acc⟩ => [(0, .pointer (some ⟨g, 0, none⟩)), (3, .int .u64 ((acc : Nat) : Int)), (4, .int .u64 ((2 ^ (7 * i) : Nat) : Int)), (5, .int .i64 ((i : Nat) : Int))]) (fun ⟨i, acc⟩ => [RfC g v 0, c, .hp (HP.sep l)]) (fun ⟨i, acc⟩ => NumJ bs i acc) ((0, 0)) rfl (⟨Nat.zero_le _, by omega, by simp, rfl⟩) (AllIn.sub ⟨rfl, rfl, rfl, rfl, trivial⟩) (EntP.ent (by repeat' first | exact EntP.nil | refine EntP.same ?_ | refine EntP.drop ?_ | refine EntP.nilRow ?_)) ?_
    rintro ⟨i, acc⟩ hI
    refine W_as [(0, .pointer (some ⟨g, 0, none⟩)), (3, .int .u64 ((acc : Nat) : Int)), (4, .int .u64 ((2 ^ (7 * i) : Nat) : Int)), (5, .int .i64 ((i : Nat) : Int))] [RfC g v 0, c, .hp (HP.sep l)] ⟨rfl, rfl, rfl, rfl, trivial⟩ (EntP.refl _) ?_
    obtain ⟨hi, hi9, hacc, hn⟩ := hI
    refine W_seq rfl ?_
    refine W_block rfl ?_
    refine W_seq rfl ?_
    refine W_seq rfl ?_
    refine W_reg (m := 7) rfl rfl ?_
    refine RN_op rfl rfl rfl (st_pure pure_move rfl rfl rfl ?_)
    refine RN_op rfl rfl rfl (st_pure pure_move rfl rfl rfl ?_)
    refine RN_op rfl rfl rfl (st_pure pure_nil rfl rfl rfl ?_)
    refine RN_op rfl rfl rfl (st_pure (pure_field0 0 Try.underlying123 rfl rfl sz23) rfl rfl rfl ?_)
    refine RN_op rfl rfl rfl (st_ld 0 rfl Try.underlying23 rfl rfl rfl cell_blk rfl rfl ?_)
    refine RN_op rfl rfl rfl (st_pure (pure_lenR Try.underlying23 (by assumption)) rfl rfl rfl ?_)
    refine RN_op rfl rfl rfl (st_pure pure_eql rfl rfl rfl ?_)
    refine RN_end ?_
    refine WQ_keep [(20, _), (0, _), (3, _), (4, _), (5, _)] ⟨rfl, rfl, rfl, rfl, rfl, trivial⟩ ?_
    refine WQ_then ?_
    refine W_cond rfl rfl (fun hc2 => ?_) (fun hc2 => ?_)
    · refine W_seq rfl ?_
      refine W_reg (m := 4) rfl rfl ?_
      refine RN_op rfl rfl rfl (st_pure pure_move rfl rfl rfl ?_)
      refine RN_op rfl rfl rfl (st_pure pure_nil rfl rfl rfl ?_)
      refine RN_op rfl rfl rfl (st_pure (pure_field0 1 Try.underlying123 rfl rfl sz3) rfl rfl rfl ?_)
      refine RN_op rfl rfl rfl (s_st 0 rfl sz3 rfl rfl rfl one_cells (puts_one One.out (put_blk One.out)) rfl ?_)
      refine RN_end ?_
      refine WQ_keep [] trivial ?_
      refine WQ_then ?_
      refine W_seq rfl ?_
      refine W_reg (m := 1) rfl rfl ?_
      refine RN_op rfl rfl rfl (st_pure pure_assign rfl rfl rfl ?_)
      refine RN_end ?_
      refine WQ_keep [(2, _)] ⟨rfl, trivial⟩ ?_
      refine WQ_then ?_
      refine W_ret rfl ?_
      refine WQ_thenX rfl ?_
      refine WQ_inBR ?_
      refine WQ_thenX rfl ?_
      refine WQ_thenX rfl ?_
      refine WQ_inBR ?_
      refine WQ_ret (vs := [_]) (by rw [Try.results78]; rfl) fun w' hs' he' => ?_
      have e : rdNum bs 0 = (0, bs, 3) := by
        unfold rdNum
        rw [if_pos rfl, hn, List.drop_eq_nil_of_le (by omega)]; rfl
      rw [e]
      exact ⟨(), rfl, (rf_open.2 ⟨v, hR, hs'⟩ : SatC w' [.hp (RfH c g bs 3), c, .hp (HP.sep l)]).pick [1, 0, 2] (by decide), he'⟩
    · refine W_skip rfl ?_
      refine WQ_then ?_
      refine W_seq rfl ?_
      refine W_reg (m := 8) rfl rfl ?_
      refine RN_op rfl rfl rfl (st_pure pure_move rfl rfl rfl ?_)
      refine RN_op rfl rfl rfl (st_pure pure_nil rfl rfl rfl ?_)
      refine RN_op rfl rfl rfl (st_pure (pure_field0 0 Try.underlying123 rfl rfl sz23) rfl rfl rfl ?_)
      refine RN_op rfl rfl rfl (st_ld 0 rfl Try.underlying23 rfl rfl rfl cell_blk rfl rfl ?_)
      refine RN_op rfl rfl rfl (st_pure pure_move rfl rfl rfl ?_)
      refine RN_op rfl rfl rfl (st_pure (pure_indexR Try.underlying23 sz5 (by assumption) (by omega)) rfl rfl rfl ?_)
      refine RN_op rfl rfl rfl (st_ld 1 rfl Try.underlying5 rfl rfl rfl (hR.cell (byts_get bs i (by omega))) rfl rfl ?_)
      refine RN_op rfl rfl rfl (st_pure pure_assign rfl rfl rfl ?_)
      refine RN_end ?_
      refine WQ_keep [(6, _), (0, _), (3, _), (4, _), (5, _)] ⟨rfl, rfl, rfl, rfl, rfl, trivial⟩ ?_
      refine WQ_then ?_
      refine W_seq rfl ?_
      refine W_seq rfl ?_
      refine W_reg (m := 14) rfl rfl ?_
      refine RN_op rfl rfl rfl (st_pure pure_move rfl rfl rfl ?_)
      refine RN_op rfl rfl rfl (st_pure pure_eql rfl rfl rfl ?_)
      refine RN_op rfl rfl rfl (st_pure pure_move rfl rfl rfl ?_)
      refine' RN_and 2 2 [(6, _), (0, _), (3, _), (4, _), (5, _)] rfl rfl rfl rfl rfl rfl rfl rfl rfl rfl rfl rfl rfl ⟨rfl, rfl, rfl, rfl, rfl, trivial⟩ (wanted_none rfl) (fun hg5 => ?_) ?_
      rotate_left 2
      · refine RN_gT rfl rfl rfl rfl rfl rfl (st_pure pure_move rfl rfl rfl ?_)
        refine RN_gT rfl rfl rfl rfl rfl rfl (st_pure pure_gtr rfl rfl rfl ?_)
        exact RN_end (cut_end (AllIn.sub ⟨rfl, rfl, rfl, rfl, rfl, rfl, rfl, trivial⟩) (Ent.refl _))
      refine RN_op rfl rfl rfl (st_pure pure_move rfl rfl rfl ?_)
      refine' RN_or 6 6 [(6, _), (0, _), (3, _), (4, _), (5, _)] rfl rfl rfl rfl rfl rfl rfl rfl rfl rfl rfl rfl rfl ⟨rfl, rfl, rfl, rfl, rfl, trivial⟩ (wanted_none rfl) (fun hg13 => ?_) ?_
      rotate_left 2
      · refine RN_gT rfl rfl rfl rfl rfl rfl (st_pure pure_move rfl rfl rfl ?_)
        refine RN_gT rfl rfl rfl rfl rfl rfl (st_pure pure_gtr rfl rfl rfl ?_)
        refine RN_gT rfl rfl rfl rfl rfl rfl (st_pure pure_move rfl rfl rfl ?_)
        refine' RN_and 9 2 [(37, _), (6, _), (0, _), (3, _), (4, _), (5, _)] rfl rfl rfl rfl rfl rfl rfl rfl rfl rfl rfl rfl rfl ⟨rfl, rfl, rfl, rfl, rfl, rfl, trivial⟩ (wanted_some rfl rfl rfl rfl) (fun hg12 => ?_) ?_
        rotate_left 2
        · refine RN_gT rfl rfl rfl rfl rfl rfl (st_pure pure_move rfl rfl rfl ?_)
          refine RN_gT rfl rfl rfl rfl rfl rfl (st_pure pure_eql rfl rfl rfl ?_)
          exact RN_end (cut_end (AllIn.sub ⟨rfl, rfl, rfl, rfl, rfl, rfl, rfl, rfl, trivial⟩) (Ent.refl _))
        exact RN_end (cut_end (AllIn.sub ⟨rfl, rfl, rfl, rfl, rfl, rfl, rfl, trivial⟩) (Ent.refl _))
      refine RN_end ?_
      refine WQ_keep [(44, _), (6, _), (0, _), (3, _), (4, _), (5, _)] ⟨rfl, rfl, rfl, rfl, rfl, rfl, trivial⟩ ?_
      refine WQ_then ?_
      refine W_cond rfl rfl (fun hc3 => ?_) (fun hc3 => ?_)
      · have hf : (i = 9 ∧ 1 < nb bs i) ∨ (0 < i ∧ nb bs i = 0) := by omega
        refine W_seq rfl ?_
        refine W_reg (m := 4) rfl rfl ?_
        refine RN_op rfl rfl rfl (st_pure pure_move rfl rfl rfl ?_)
        refine RN_op rfl rfl rfl (st_pure pure_nil rfl rfl rfl ?_)
        refine RN_op rfl rfl rfl (st_pure (pure_field0 1 Try.underlying123 rfl rfl sz3) rfl rfl rfl ?_)
        refine RN_op rfl rfl rfl (s_st 0 rfl sz3 rfl rfl rfl one_cells (puts_one One.out (put_blk One.out)) rfl ?_)
        refine RN_end ?_
        refine WQ_keep [] trivial ?_
        refine WQ_then ?_
        refine W_seq rfl ?_
        refine W_reg (m := 1) rfl rfl ?_
        refine RN_op rfl rfl rfl (st_pure pure_assign rfl rfl rfl ?_)
        refine RN_end ?_
        refine WQ_keep [(2, _)] ⟨rfl, trivial⟩ ?_
        refine WQ_then ?_
        refine W_ret rfl ?_
        refine WQ_thenX rfl ?_
        refine WQ_inBR ?_
        refine WQ_thenX rfl ?_
        refine WQ_thenX rfl ?_
        refine WQ_inBR ?_
        refine WQ_ret (vs := [_]) (by rw [Try.results78]; rfl) fun w' hs' he' => ?_
        have e : rdNum bs 0 = (0, bs, 8) := by
          unfold rdNum
          rw [if_pos rfl, hn, nb_drop bs i (by omega), numL, if_pos hf]
        rw [e]
        exact ⟨(), rfl, (rf_open.2 ⟨v, hR, hs'⟩ : SatC w' [.hp (RfH c g bs 8), c, .hp (HP.sep l)]).pick [1, 0, 2] (by decide), he'⟩
      · have hf : ¬ ((i = 9 ∧ 1 < nb bs i) ∨ (0 < i ∧ nb bs i = 0)) := by omega
        have hbi := hb.nb i
        have hp9 := pow_le9 hi9
        have hmul : nb bs i % 128 * 2 ^ (7 * i) ≤ 127 * 2 ^ (7 * i) := Nat.mul_le_mul_right _ (by omega)
        have hsum : acc + nb bs i % 128 * 2 ^ (7 * i) < 2 ^ 64 := by
          by_cases h9 : i = 9
          · subst h9
            have h1 : nb bs 9 ≤ 1 := by omega
            have h2 : nb bs 9 % 128 * 2 ^ (7 * 9) ≤ 1 * 2 ^ (7 * 9) := Nat.mul_le_mul_right _ (by omega)
            have e : (2 : Nat) ^ 64 = 2 ^ (7 * 9) * 2 := by decide
            omega
          · have := pow_le8 (i := i) (by omega)
            omega
        refine W_skip rfl ?_
        refine WQ_then ?_
        refine W_seq rfl ?_
        refine W_reg (m := 8) rfl rfl ?_
        refine RN_op rfl rfl rfl (st_pure pure_move rfl rfl rfl ?_)
        refine RN_op rfl rfl rfl (st_pure pure_move rfl rfl rfl ?_)
        refine RN_op rfl rfl rfl (st_pure (pure_remN (r := ((nb bs i % 128 : Nat) : Int)) (by decide) (tmodN (nb bs i) 128)) rfl rfl rfl ?_)
        refine RN_op rfl rfl rfl (st_pure (pure_convU64 Try.underlying5 Try.underlying116 (by omega)) rfl rfl rfl ?_)
        refine RN_op rfl rfl rfl (st_pure pure_move rfl rfl rfl ?_)
        refine RN_op rfl rfl rfl (st_pure (pure_mulN (r := ((nb bs i % 128 * 2 ^ (7 * i) : Nat) : Int)) ((congrArg IntKind.u64.wrap (by simp)).trans (wrapU64 (x := ((nb bs i % 128 * 2 ^ (7 * i) : Nat) : Int)) (by omega)))) rfl rfl rfl ?_)
        refine RN_op rfl rfl rfl (st_pure (pure_addN (r := ((acc + nb bs i % 128 * 2 ^ (7 * i) : Nat) : Int)) (wrapU64 (by omega))) rfl rfl rfl ?_)
        refine RN_op rfl rfl rfl (st_pure pure_assign rfl rfl rfl ?_)
        refine RN_end ?_
        refine WQ_keep [(3, _), (6, _), (0, _), (4, _), (5, _)] ⟨rfl, rfl, rfl, rfl, rfl, trivial⟩ ?_
        refine WQ_then ?_
        refine W_seq rfl ?_
        refine W_reg (m := 3) rfl rfl ?_
        refine RN_op rfl rfl rfl (st_pure pure_move rfl rfl rfl ?_)
        refine RN_op rfl rfl rfl (st_pure pure_mul rfl rfl rfl ?_)
        refine RN_op rfl rfl rfl (st_pure pure_assign rfl rfl rfl ?_)
        refine RN_end ?_
        refine WQ_keep [(4, _), (3, _), (6, _), (0, _), (5, _)] ⟨rfl, rfl, rfl, rfl, rfl, trivial⟩ ?_
        refine WQ_then ?_
        refine W_seq rfl ?_
        refine W_reg (m := 2) rfl rfl ?_
        refine RN_op rfl rfl rfl (st_pure pure_move rfl rfl rfl ?_)
        refine RN_op rfl rfl rfl (st_pure pure_lss rfl rfl rfl ?_)
        refine RN_end ?_
        refine WQ_keep [(58, _), (4, _), (3, _), (0, _), (5, _)] ⟨rfl, rfl, rfl, rfl, rfl, trivial⟩ ?_
        refine WQ_then ?_
        refine W_cond rfl rfl (fun hc4 => ?_) (fun hc4 => ?_)
        · refine W_seq rfl ?_
          haveI : One (vsl v (i + 1) bs.length 1) := (hr.vsl (lo := i + 1) (hi := bs.length) (by omega) (Nat.le_refl _)).one
          refine W_reg (m := 11) rfl rfl ?_
          refine RN_op rfl rfl rfl (st_pure pure_move rfl rfl rfl ?_)
          refine RN_op rfl rfl rfl (st_pure pure_move rfl rfl rfl ?_)
          refine RN_op rfl rfl rfl (st_pure pure_nil rfl rfl rfl ?_)
          refine RN_op rfl rfl rfl (st_pure (pure_field0 0 Try.underlying123 rfl rfl sz23) rfl rfl rfl ?_)
          refine RN_op rfl rfl rfl (st_ld 0 rfl Try.underlying23 rfl rfl rfl cell_blk rfl rfl ?_)
          refine RN_op rfl rfl rfl (st_pure pure_move rfl rfl rfl ?_)
          refine RN_op rfl rfl rfl (st_pure (pure_add64 (by omega)) rfl rfl rfl ?_)
          refine RN_op rfl rfl rfl (st_pure (pure_sliceLo Try.underlying23 sz5 (by assumption) (by omega)) rfl rfl rfl ?_)
          refine RN_op rfl rfl rfl (st_pure pure_nil rfl rfl rfl ?_)
          refine RN_op rfl rfl rfl (st_pure (pure_field0 0 Try.underlying123 rfl rfl sz23) rfl rfl rfl ?_)
          refine RN_op rfl rfl rfl (s_st 0 rfl sz23 rfl rfl rfl one_cells (puts_one One.out (put_blk One.out)) rfl ?_)
          refine RN_end ?_
          refine WQ_keep [(3, _)] ⟨rfl, trivial⟩ ?_
          refine WQ_then ?_
          refine W_seq rfl ?_
          refine W_reg (m := 2) rfl rfl ?_
          refine RN_op rfl rfl rfl (st_pure pure_move rfl rfl rfl ?_)
          refine RN_op rfl rfl rfl (st_pure pure_assign rfl rfl rfl ?_)
          refine RN_end ?_
          refine WQ_keep [(2, _)] ⟨rfl, trivial⟩ ?_
          refine WQ_then ?_
          refine W_ret rfl ?_
          refine WQ_inBR ?_
          refine WQ_thenX rfl ?_
          refine WQ_thenX rfl ?_
          refine WQ_inBR ?_
          refine WQ_ret (vs := [_]) (by rw [Try.results78]; rfl) fun w' hs' he' => ?_
          have e1 : nb bs i % 128 = nb bs i := by omega
          have e : rdNum bs 0 = (acc + nb bs i % 128 * 2 ^ (7 * i), bs.drop (i + 1), 0) := by rw [e1]; exact num_done hn (by omega) hf (by omega)
          rw [e]
          exact ⟨(), rfl, (rf_open.2 ⟨vsl v (i + 1) bs.length 1, rds_bytes hR (by omega), hs'⟩ : SatC w' [.hp (RfH c g (bs.drop (i + 1)) 0), c, .hp (HP.sep l)]).pick [1, 0, 2] (by decide), he'⟩
        · refine W_skip rfl ?_
          refine WQ_inB ?_
          refine WQ_then ?_
          have h8 : i ≤ 8 := by omega
          have hp8 := pow_le8 h8
          have hw : IntKind.u64.wrap (((2 ^ (7 * i) : Nat) : Int) * 128) = ((2 ^ (7 * (i + 1)) : Nat) : Int) := by
            rw [pow7, show ((2 ^ (7 * i) : Nat) : Int) * 128 = ((2 ^ (7 * i) * 128 : Nat) : Int) by simp]
            exact wrapU64 (by omega)
          rw [hw]
          refine W_reg (m := 3) rfl rfl ?_
          refine RN_op rfl rfl rfl (st_pure pure_move rfl rfl rfl ?_)
          refine RN_op rfl rfl rfl (st_pure (pure_add64 (by omega)) rfl rfl rfl ?_)
          refine RN_op rfl rfl rfl (st_pure pure_assign rfl rfl rfl ?_)
          refine RN_end ?_
          refine WQ_keep [(5, _), (4, _), (3, _), (0, _)] ⟨rfl, rfl, rfl, rfl, trivial⟩ ?_
          refine WQ_hand ((i + 1, acc + nb bs i % 128 * 2 ^ (7 * i))) (⟨by omega, by omega, by rw [pow7]; omega, by rw [hn, nb_drop bs i (by omega), numL, if_neg hf, if_neg (by omega)]⟩) (by (try dsimp only); omega) (AllIn.sub ⟨rfl, rfl, rfl, rfl, trivial⟩) (EntP.ent (by repeat' first | exact EntP.nil | refine EntP.same ?_ | refine EntP.drop ?_ | refine EntP.nilRow ?_))

set_option maxRecDepth 100000 in
theorem ct_BelowR (c : Chunk) (g : Nat) (bs : List Nat) (c0 lim : Int) (hb : BOk bs) (h1 : 0 ≤ lim) (h2 : lim ≤ 9223372036854775807) : Ct Try.prog 52 [.pointer (some ⟨g, 0, none⟩), .int .i64 lim] [c] [.hp (RfH c g bs c0)] (X := Unit) (fun _ => .int .i64 (rdBelow lim bs c0).1) (fun _ => [.hp (RfH c g (rdBelow lim bs c0).2.1 (rdBelow lim bs c0).2.2)]) := by
  refine ct_of fun w l hs => ?_
  obtain ⟨hn1, _, _⟩ := rdNum_ok (c := c0) hb
  have hn2 : ((rdNum bs c0).1 : Int) < 18446744073709551616 := by omega
  clear hn1
  refine enter (c := bodyOf Try.f52) Try.func52 rfl Try.ntmps52 rfl (L := [.hp (RfH c g bs c0), c, .hp (HP.sep l)]) (hs.pick [1, 0, 2] (by decide)) ?_
  refine W_seq rfl ?_
  refine W_reg (m := 1) rfl rfl ?_
  refine RN_op rfl rfl rfl (st_pure pure_assign rfl rfl rfl ?_)
  refine RN_end ?_
  refine WQ_keep [(0, _), (1, _)] ⟨rfl, rfl, trivial⟩ ?_
  refine WQ_then ?_
  refine W_seq rfl ?_
  refine W_reg (m := 3) rfl rfl ?_
  refine RN_op rfl rfl rfl (st_pure pure_move rfl rfl rfl ?_)
  refine RN_op rfl rfl rfl (s_ct (R := [1]) (W := [0]) (x0 := ()) (ct_NumR c g bs c0 hb) fnF78 rfl rfl rfl rfl (by decide) rfl (fun _ => rfl) rfl rfl fun _ => ?_)
  refine RN_op rfl rfl rfl (st_pure pure_assign rfl rfl rfl ?_)
  refine RN_end ?_
  refine WQ_keep [(5, _), (0, _), (1, _)] ⟨rfl, rfl, rfl, trivial⟩ ?_
  refine WQ_exP (fun w hs _ => let ⟨v, hv, hs⟩ := rf_open.1 hs; ⟨v, hs, hv⟩) fun v hR => ?_
  have hr := hR.row
  haveI := hr.one
  refine WQ_then ?_
  refine W_seq rfl ?_
  apply W_cut [(0, _), (5, _)] [RfC g v (rdBelowC lim bs c0), c, .hp (HP.sep l)]
  · refine W_seq rfl ?_
    refine W_reg (m := 15) rfl rfl ?_
    refine RN_op rfl rfl rfl (st_pure pure_move rfl rfl rfl ?_)
    refine RN_op rfl rfl rfl (st_pure pure_nil rfl rfl rfl ?_)
    refine RN_op rfl rfl rfl (st_pure (pure_field0 1 Try.underlying123 rfl rfl sz3) rfl rfl rfl ?_)
    refine RN_op rfl rfl rfl (st_ld 0 rfl Try.underlying3 rfl rfl rfl cell_blk rfl rfl ?_)
    refine RN_op rfl rfl rfl (st_pure pure_eql rfl rfl rfl ?_)
    refine RN_op rfl rfl rfl (st_pure pure_move rfl rfl rfl ?_)
    refine' RN_and 5 8 [(5, _), (0, _)] rfl rfl rfl rfl rfl rfl rfl rfl rfl rfl rfl rfl rfl ⟨rfl, rfl, trivial⟩ (wanted_none rfl) (fun hg14 => ?_) ?_
    rotate_left 2
    · refine RN_gT rfl rfl rfl rfl rfl rfl (st_pure pure_move rfl rfl rfl ?_)
      refine RN_gT rfl rfl rfl rfl rfl rfl (st_pure pure_leq rfl rfl rfl ?_)
      refine RN_gT rfl rfl rfl rfl rfl rfl (st_pure pure_move rfl rfl rfl ?_)
      refine' RN_or 8 4 [(13, _), (5, _), (0, _)] rfl rfl rfl rfl rfl rfl rfl rfl rfl rfl rfl rfl rfl ⟨rfl, rfl, rfl, trivial⟩ (wanted_some rfl rfl rfl rfl) (fun hg13 => ?_) ?_
      rotate_left 2
      · refine RN_gT rfl rfl rfl rfl rfl rfl (st_pure pure_move rfl rfl rfl ?_)
        refine RN_gT rfl rfl rfl rfl rfl rfl (st_pure pure_move rfl rfl rfl ?_)
        refine RN_gT rfl rfl rfl rfl rfl rfl (st_pure (pure_convU64 Try.underlying3 Try.underlying116 (by omega)) rfl rfl rfl ?_)
        refine RN_gT rfl rfl rfl rfl rfl rfl (st_pure pure_geq rfl rfl rfl ?_)
        exact RN_end (cut_end (AllIn.sub ⟨rfl, rfl, rfl, rfl, rfl, trivial⟩) (Ent.refl _))
      exact RN_end (cut_end (AllIn.sub ⟨rfl, rfl, rfl, rfl, trivial⟩) (Ent.refl _))
    refine RN_end ?_
    refine WQ_keep [(22, _), (5, _), (0, _)] ⟨rfl, rfl, rfl, trivial⟩ ?_
    refine WQ_then ?_
    refine W_cond rfl rfl (fun hc1 => ?_) (fun hc1 => ?_)
    · refine W_reg (m := 4) rfl rfl ?_
      refine RN_op rfl rfl rfl (st_pure pure_move rfl rfl rfl ?_)
      refine RN_op rfl rfl rfl (st_pure pure_nil rfl rfl rfl ?_)
      refine RN_op rfl rfl rfl (st_pure (pure_field0 1 Try.underlying123 rfl rfl sz3) rfl rfl rfl ?_)
      refine RN_op rfl rfl rfl (s_st 0 rfl sz3 rfl rfl rfl one_cells (puts_one One.out (put_blk One.out)) rfl ?_)
      refine RN_end ?_
      refine WQ_keep [(5, _), (0, _)] ⟨rfl, rfl, trivial⟩ ?_
      rw [show (2 : Int) = rdBelowC lim bs c0 from (if_pos (by omega)).symm]
      exact WQ_mid (AllIn.sub ⟨rfl, rfl, trivial⟩) (EntP.ent (by repeat' first | exact EntP.nil | refine EntP.same ?_ | refine EntP.drop ?_ | refine EntP.nilRow ?_))
    · refine W_skip rfl ?_
      rw [show rdBelowC lim bs c0 = (rdNum bs c0).2.2 from if_neg (by omega)]
      exact WQ_mid (AllIn.sub ⟨rfl, rfl, trivial⟩) (EntP.ent (by repeat' first | exact EntP.nil | refine EntP.same ?_ | refine EntP.drop ?_ | refine EntP.nilRow ?_))
  · refine W_seq rfl ?_
    refine W_seq rfl ?_
    refine W_reg (m := 5) rfl rfl ?_
    refine RN_op rfl rfl rfl (st_pure pure_move rfl rfl rfl ?_)
    refine RN_op rfl rfl rfl (st_pure pure_nil rfl rfl rfl ?_)
    refine RN_op rfl rfl rfl (st_pure (pure_field0 1 Try.underlying123 rfl rfl sz3) rfl rfl rfl ?_)
    refine RN_op rfl rfl rfl (st_ld 0 rfl Try.underlying3 rfl rfl rfl cell_blk rfl rfl ?_)
    refine RN_op rfl rfl rfl (st_pure pure_neq rfl rfl rfl ?_)
    refine RN_end ?_
    refine WQ_keep [(30, _), (5, _)] ⟨rfl, rfl, trivial⟩ ?_
    refine WQ_then ?_
    refine W_cond rfl rfl (fun hc2 => ?_) (fun hc2 => ?_)
    · have e : rdBelow lim bs c0 = (0, (rdNum bs c0).2.1, rdBelowC lim bs c0) := by unfold rdBelow; rw [if_neg hc2]
      refine W_seq rfl ?_
      refine W_reg (m := 1) rfl rfl ?_
      refine RN_op rfl rfl rfl (st_pure pure_assign rfl rfl rfl ?_)
      refine RN_end ?_
      refine WQ_keep [(4, _)] ⟨rfl, trivial⟩ ?_
      refine WQ_then ?_
      refine W_ret rfl ?_
      refine WQ_thenX rfl ?_
      refine WQ_ret (vs := [_]) (by rw [Try.results52]; rfl) fun w' hs' he' => ?_
      rw [e]
      exact ⟨(), rfl, (rf_open.2 ⟨v, hR, hs'⟩ : SatC w' [.hp (RfH c g (rdNum bs c0).2.1 (rdBelowC lim bs c0)), c, .hp (HP.sep l)]).pick [1, 0, 2] (by decide), he'⟩
    · have hc2 : rdBelowC lim bs c0 = 0 := by omega
      have e : rdBelow lim bs c0 = (((rdNum bs c0).1 : Int), (rdNum bs c0).2.1, rdBelowC lim bs c0) := by unfold rdBelow; rw [if_pos hc2]
      have hlt : ((rdNum bs c0).1 : Int) ≤ 9223372036854775807 := by
        unfold rdBelowC at hc2
        split at hc2
        · cases hc2
        · rename_i h; omega
      refine W_skip rfl ?_
      refine WQ_then ?_
      refine W_seq rfl ?_
      refine W_reg (m := 3) rfl rfl ?_
      refine RN_op rfl rfl rfl (st_pure pure_move rfl rfl rfl ?_)
      refine RN_op rfl rfl rfl (st_pure (pure_conv64 Try.underlying116 Try.underlying3 (by omega)) rfl rfl rfl ?_)
      refine RN_op rfl rfl rfl (st_pure pure_assign rfl rfl rfl ?_)
      refine RN_end ?_
      refine WQ_keep [(4, _)] ⟨rfl, trivial⟩ ?_
      refine WQ_then ?_
      refine W_ret rfl ?_
      refine WQ_ret (vs := [_]) (by rw [Try.results52]; rfl) fun w' hs' he' => ?_
      rw [e]
      exact ⟨(), rfl, (rf_open.2 ⟨v, hR, hs'⟩ : SatC w' [.hp (RfH c g (rdNum bs c0).2.1 (rdBelowC lim bs c0)), c, .hp (HP.sep l)]).pick [1, 0, 2] (by decide), he'⟩
theorem ct_EndR (c : Chunk) (g : Nat) (bs : List Nat) (e : Int) : Ct Try.prog 53 [.pointer (some ⟨g, 0, none⟩)] [c] [.hp (RfH c g bs e)] (X := Unit) (fun _ => .int .i64 (rdEndC bs e)) (fun _ => [.hp (RfH c g bs (rdEndC bs e))]) := by
  refine ct_of fun w l hs0 => ?_
  obtain ⟨v, hR, hs⟩ := rf_open.1 (hs0.pick [1, 0, 2] (by decide))
  have hr := hR.row
  haveI := hr.one
  refine enter (c := bodyOf Try.f53) Try.func53 rfl Try.ntmps53 rfl (L := [RfC g v e, c, .hp (HP.sep l)]) hs ?_
  refine W_seq rfl ?_
  refine W_reg (m := 1) rfl rfl ?_
  refine RN_op rfl rfl rfl (st_pure pure_assign rfl rfl rfl ?_)
  refine RN_end ?_
  refine WQ_keep [(0, _)] ⟨rfl, trivial⟩ ?_
  refine WQ_then ?_
  refine W_seq rfl ?_
  apply W_cut [(0, _)] [RfC g v (rdEndC bs e), c, .hp (HP.sep l)]
  · refine W_seq rfl ?_
    refine W_reg (m := 13) rfl rfl ?_
    refine RN_op rfl rfl rfl (st_pure pure_move rfl rfl rfl ?_)
    refine RN_op rfl rfl rfl (st_pure pure_nil rfl rfl rfl ?_)
    refine RN_op rfl rfl rfl (st_pure (pure_field0 1 Try.underlying123 rfl rfl sz3) rfl rfl rfl ?_)
    refine RN_op rfl rfl rfl (st_ld 0 rfl Try.underlying3 rfl rfl rfl cell_blk rfl rfl ?_)
    refine RN_op rfl rfl rfl (st_pure pure_eql rfl rfl rfl ?_)
    refine RN_op rfl rfl rfl (st_pure pure_move rfl rfl rfl ?_)
    refine' RN_and 5 6 [(0, _)] rfl rfl rfl rfl rfl rfl rfl rfl rfl rfl rfl rfl rfl ⟨rfl, trivial⟩ (wanted_none rfl) (fun hg12 => ?_) ?_
    rotate_left 2
    · refine RN_gT rfl rfl rfl rfl rfl rfl (st_pure pure_move rfl rfl rfl ?_)
      refine RN_gT rfl rfl rfl rfl rfl rfl (st_pure pure_nil rfl rfl rfl ?_)
      refine RN_gT rfl rfl rfl rfl rfl rfl (st_pure (pure_field0 0 Try.underlying123 rfl rfl sz23) rfl rfl rfl ?_)
      refine RN_gT rfl rfl rfl rfl rfl rfl (st_ld 0 rfl Try.underlying23 rfl rfl rfl cell_blk rfl rfl ?_)
      refine RN_gT rfl rfl rfl rfl rfl rfl (st_pure (pure_lenR Try.underlying23 (by assumption)) rfl rfl rfl ?_)
      refine RN_gT rfl rfl rfl rfl rfl rfl (st_pure pure_gtr rfl rfl rfl ?_)
      exact RN_end (cut_end (AllIn.sub ⟨rfl, rfl, rfl, trivial⟩) (Ent.refl _))
    refine RN_end ?_
    refine WQ_keep [(15, _), (0, _)] ⟨rfl, rfl, trivial⟩ ?_
    refine WQ_then ?_
    refine W_cond rfl rfl (fun hc1 => ?_) (fun hc1 => ?_)
    · refine W_reg (m := 4) rfl rfl ?_
      refine RN_op rfl rfl rfl (st_pure pure_move rfl rfl rfl ?_)
      refine RN_op rfl rfl rfl (st_pure pure_nil rfl rfl rfl ?_)
      refine RN_op rfl rfl rfl (st_pure (pure_field0 1 Try.underlying123 rfl rfl sz3) rfl rfl rfl ?_)
      refine RN_op rfl rfl rfl (s_st 0 rfl sz3 rfl rfl rfl one_cells (puts_one One.out (put_blk One.out)) rfl ?_)
      refine RN_end ?_
      refine WQ_keep [(0, _)] ⟨rfl, trivial⟩ ?_
      rw [show (5 : Int) = rdEndC bs e from (if_pos (by omega)).symm]
      exact WQ_mid (AllIn.sub ⟨rfl, trivial⟩) (EntP.ent (by repeat' first | exact EntP.nil | refine EntP.same ?_ | refine EntP.drop ?_ | refine EntP.nilRow ?_))
    · refine W_skip rfl ?_
      rw [show RfC g v e = RfC g v (rdEndC bs e) by rw [rdEndC, if_neg (by omega)]]
      exact WQ_mid (AllIn.sub ⟨rfl, trivial⟩) (EntP.ent (by repeat' first | exact EntP.nil | refine EntP.same ?_ | refine EntP.drop ?_ | refine EntP.nilRow ?_))
  · refine W_seq rfl ?_
    refine W_reg (m := 5) rfl rfl ?_
    refine RN_op rfl rfl rfl (st_pure pure_move rfl rfl rfl ?_)
    refine RN_op rfl rfl rfl (st_pure pure_nil rfl rfl rfl ?_)
    refine RN_op rfl rfl rfl (st_pure (pure_field0 1 Try.underlying123 rfl rfl sz3) rfl rfl rfl ?_)
    refine RN_op rfl rfl rfl (st_ld 0 rfl Try.underlying3 rfl rfl rfl cell_blk rfl rfl ?_)
    refine RN_op rfl rfl rfl (st_pure pure_assign rfl rfl rfl ?_)
    refine RN_end ?_
    refine WQ_keep [(2, _)] ⟨rfl, trivial⟩ ?_
    refine WQ_then ?_
    refine W_ret rfl ?_
    refine WQ_ret (vs := [_]) (by rw [Try.results53]; rfl) fun w' hs' he' => ?_
    exact ⟨(), rfl, (rf_open.2 ⟨v, hR, hs'⟩ : SatC w' [.hp (RfH c g bs (rdEndC bs e)), c, .hp (HP.sep l)]).pick [1, 0, 2] (by decide), he'⟩
end Go.Proofs.Ytlgfinchhnbhdaa
