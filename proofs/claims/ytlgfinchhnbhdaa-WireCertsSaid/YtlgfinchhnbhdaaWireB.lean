/- Readers and writers of bytes: the walks. -/
import Derived.Test.YtlgfinchhnbhdaaWireA
set_option linter.unusedVariables false
set_option linter.unusedSimpArgs false
namespace Go.Proofs.Ytlgfinchhnbhdaa
open Go Go.RowKit

theorem ct_Fail (g : Nat) (bs : List Nat) (c e : Int) : Ct Try.prog 77 [.pointer (some ⟨g, 0, none⟩), .int .i64 e] [] [.hp (RdH g bs c)] (X := Unit) (fun _ => .tuple #[]) (fun _ => [.hp (RdH g bs (if c = 0 then e else c))]) := by
  refine ct_of fun w l hs0 => ?_
  obtain ⟨v, hs⟩ := rd_open.1 hs0
  have hr : IsRow v bs.length := row_is 1 hs rfl
  haveI := hr.one
  refine enter (c := bodyOf Try.f77) Try.func77 rfl Try.ntmps77 rfl (L := [RdC g v c, ByR v bs, .hp (HP.sep l)]) hs ?_
  refine W_seq rfl ?_
  refine W_reg (m := 5) rfl rfl ?_
  refine RN_op rfl rfl rfl (st_pure pure_move rfl rfl rfl ?_)
  refine RN_op rfl rfl rfl (st_pure pure_nil rfl rfl rfl ?_)
  refine RN_op rfl rfl rfl (st_pure (pure_field0 1 Try.underlying157 rfl rfl sz27) rfl rfl rfl ?_)
  refine RN_op rfl rfl rfl (st_ld 0 rfl Try.underlying27 rfl rfl rfl cell_blk rfl rfl ?_)
  refine RN_op rfl rfl rfl (st_pure pure_eql rfl rfl rfl ?_)
  refine RN_end ?_
  refine WQ_keep [(8, _), (0, _), (1, _)] ⟨rfl, rfl, rfl, trivial⟩ ?_
  refine WQ_then ?_
  refine W_cond rfl rfl (fun hc1 => ?_) (fun hc1 => ?_)
  · refine W_reg (m := 5) rfl rfl ?_
    refine RN_op rfl rfl rfl (st_pure pure_move rfl rfl rfl ?_)
    refine RN_op rfl rfl rfl (st_pure pure_move rfl rfl rfl ?_)
    refine RN_op rfl rfl rfl (st_pure pure_nil rfl rfl rfl ?_)
    refine RN_op rfl rfl rfl (st_pure (pure_field0 1 Try.underlying157 rfl rfl sz27) rfl rfl rfl ?_)
    refine RN_op rfl rfl rfl (s_st 0 rfl sz27 rfl rfl rfl one_cells (puts_one One.out (put_blk One.out)) rfl ?_)
    refine RN_end ?_
    refine WQ_keep [] trivial ?_
    refine WQ_fall (vs := []) (by rw [Try.results77]; rfl) fun w' hs' he' => ?_
    rw [if_pos hc1]
    exact ⟨(), rfl, rd_open.2 ⟨v, hs'⟩, he'⟩
  · refine W_skip rfl ?_
    refine WQ_fall (vs := []) (by rw [Try.results77]; rfl) fun w' hs' he' => ?_
    rw [if_neg hc1]
    exact ⟨(), rfl, rd_open.2 ⟨v, hs'⟩, he'⟩
theorem ct_Code (g : Nat) (bs : List Nat) (c : Int) : Ct Try.prog 50 [.pointer (some ⟨g, 0, none⟩)] [] [.hp (RdH g bs c)] (X := Unit) (fun _ => .int .i64 c) (fun _ => [.hp (RdH g bs c)]) := by
  refine ct_of fun w l hs0 => ?_
  obtain ⟨v, hs⟩ := rd_open.1 hs0
  refine enter (c := bodyOf Try.f50) Try.func50 rfl Try.ntmps50 rfl (L := [RdC g v c, ByR v bs, .hp (HP.sep l)]) hs ?_
  refine W_seq rfl ?_
  refine W_reg (m := 1) rfl rfl ?_
  refine RN_op rfl rfl rfl (st_pure pure_assign rfl rfl rfl ?_)
  refine RN_end ?_
  refine WQ_keep [(0, _)] ⟨rfl, trivial⟩ ?_
  refine WQ_then ?_
  refine W_seq rfl ?_
  refine W_reg (m := 5) rfl rfl ?_
  refine RN_op rfl rfl rfl (st_pure pure_move rfl rfl rfl ?_)
  refine RN_op rfl rfl rfl (st_pure pure_nil rfl rfl rfl ?_)
  refine RN_op rfl rfl rfl (st_pure (pure_field0 1 Try.underlying157 rfl rfl sz27) rfl rfl rfl ?_)
  refine RN_op rfl rfl rfl (st_ld 0 rfl Try.underlying27 rfl rfl rfl cell_blk rfl rfl ?_)
  refine RN_op rfl rfl rfl (st_pure pure_assign rfl rfl rfl ?_)
  refine RN_end ?_
  refine WQ_keep [(2, _)] ⟨rfl, trivial⟩ ?_
  refine WQ_then ?_
  refine W_ret rfl ?_
  refine WQ_ret (vs := [_]) (by rw [Try.results50]; rfl) fun w' hs' he' => ?_
  exact ⟨(), rfl, rd_open.2 ⟨v, hs'⟩, he'⟩
theorem ct_End (g : Nat) (bs : List Nat) (c : Int) : Ct Try.prog 51 [.pointer (some ⟨g, 0, none⟩)] [] [.hp (RdH g bs c)] (X := Unit) (fun _ => .int .i64 (rdEndC bs c)) (fun _ => [.hp (RdH g bs (rdEndC bs c))]) := by
  refine ct_of fun w l hs0 => ?_
  obtain ⟨v, hs⟩ := rd_open.1 hs0
  have hr : IsRow v bs.length := row_is 1 hs rfl
  haveI := hr.one
  refine enter (c := bodyOf Try.f51) Try.func51 rfl Try.ntmps51 rfl (L := [RdC g v c, ByR v bs, .hp (HP.sep l)]) hs ?_
  refine W_seq rfl ?_
  refine W_reg (m := 1) rfl rfl ?_
  refine RN_op rfl rfl rfl (st_pure pure_assign rfl rfl rfl ?_)
  refine RN_end ?_
  refine WQ_keep [(0, _)] ⟨rfl, trivial⟩ ?_
  refine WQ_then ?_
  refine W_seq rfl ?_
  apply W_cut [(0, _)] [RdC g v (rdEndC bs c), ByR v bs, .hp (HP.sep l)]
  · refine W_seq rfl ?_
    refine W_reg (m := 6) rfl rfl ?_
    refine RN_op rfl rfl rfl (st_pure pure_move rfl rfl rfl ?_)
    refine RN_op rfl rfl rfl (st_pure pure_nil rfl rfl rfl ?_)
    refine RN_op rfl rfl rfl (st_pure (pure_field0 0 Try.underlying157 rfl rfl sz23) rfl rfl rfl ?_)
    refine RN_op rfl rfl rfl (st_ld 0 rfl Try.underlying23 rfl rfl rfl cell_blk rfl rfl ?_)
    refine RN_op rfl rfl rfl (st_pure (pure_lenR Try.underlying23 (by assumption)) rfl rfl rfl ?_)
    refine RN_op rfl rfl rfl (st_pure pure_gtr rfl rfl rfl ?_)
    refine RN_end ?_
    refine WQ_keep [(8, _), (0, _)] ⟨rfl, rfl, trivial⟩ ?_
    refine WQ_then ?_
    refine W_cond rfl rfl (fun hc1 => ?_) (fun hc1 => ?_)
    · refine W_reg (m := 2) rfl rfl ?_
      refine RN_op rfl rfl rfl (st_pure pure_move rfl rfl rfl ?_)
      refine RN_op rfl rfl rfl (s_ct (R := []) (W := [0]) (x0 := ()) (ct_FailC g v c 5) fnF77 rfl rfl rfl rfl (by decide) rfl (fun _ => rfl) rfl rfl fun _ => ?_)
      refine RN_end ?_
      refine WQ_keep [(0, _)] ⟨rfl, trivial⟩ ?_
      rw [show (if c = 0 then (5 : Int) else c) = rdEndC bs c by
        have : 0 < bs.length := by omega
        simp [rdEndC, this]]
      exact WQ_mid (AllIn.sub ⟨rfl, trivial⟩) (EntP.ent (by repeat' first | exact EntP.nil | refine EntP.same ?_ | refine EntP.drop ?_ | refine EntP.nilRow ?_))
    · refine W_skip rfl ?_
      rw [show RdC g v c = RdC g v (rdEndC bs c) by rw [rdEndC, if_neg (by omega)]]
      exact WQ_mid (AllIn.sub ⟨rfl, trivial⟩) (EntP.ent (by repeat' first | exact EntP.nil | refine EntP.same ?_ | refine EntP.drop ?_ | refine EntP.nilRow ?_))
  · refine W_seq rfl ?_
    refine W_reg (m := 5) rfl rfl ?_
    refine RN_op rfl rfl rfl (st_pure pure_move rfl rfl rfl ?_)
    refine RN_op rfl rfl rfl (st_pure pure_nil rfl rfl rfl ?_)
    refine RN_op rfl rfl rfl (st_pure (pure_field0 1 Try.underlying157 rfl rfl sz27) rfl rfl rfl ?_)
    refine RN_op rfl rfl rfl (st_ld 0 rfl Try.underlying27 rfl rfl rfl cell_blk rfl rfl ?_)
    refine RN_op rfl rfl rfl (st_pure pure_assign rfl rfl rfl ?_)
    refine RN_end ?_
    refine WQ_keep [(2, _)] ⟨rfl, trivial⟩ ?_
    refine WQ_then ?_
    refine W_ret rfl ?_
    refine WQ_ret (vs := [_]) (by rw [Try.results51]; rfl) fun w' hs' he' => ?_
    exact ⟨(), rfl, rd_open.2 ⟨v, hs'⟩, he'⟩
set_option maxRecDepth 100000 in
theorem ct_Below (g : Nat) (bs : List Nat) (c0 lim : Int) (hb : BOk bs) (h1 : 0 ≤ lim) (h2 : lim ≤ 9223372036854775807) : Ct Try.prog 49 [.pointer (some ⟨g, 0, none⟩), .int .i64 lim] [] [.hp (RdH g bs c0)] (X := Unit) (fun _ => .int .i64 (rdBelow lim bs c0).1) (fun _ => [.hp (RdH g (rdBelow lim bs c0).2.1 (rdBelow lim bs c0).2.2)]) := by
  refine ct_of fun w l hs => ?_
  obtain ⟨hn1, _, _⟩ := rdNum_ok (c := c0) hb
  have hn2 : ((rdNum bs c0).1 : Int) < 18446744073709551616 := by omega
  clear hn1
  refine enter (c := bodyOf Try.f49) Try.func49 rfl Try.ntmps49 rfl (L := [.hp (RdH g bs c0), .hp (HP.sep l)]) hs ?_
  refine W_seq rfl ?_
  refine W_reg (m := 1) rfl rfl ?_
  refine RN_op rfl rfl rfl (st_pure pure_assign rfl rfl rfl ?_)
  refine RN_end ?_
  refine WQ_keep [(0, _), (1, _)] ⟨rfl, rfl, trivial⟩ ?_
  refine WQ_then ?_
  refine W_seq rfl ?_
  refine W_reg (m := 3) rfl rfl ?_
  refine RN_op rfl rfl rfl (st_pure pure_move rfl rfl rfl ?_)
  refine RN_op rfl rfl rfl (s_ct (R := []) (W := [0]) (x0 := ()) (ct_Num g bs c0 hb) fnF76 rfl rfl rfl rfl (by decide) rfl (fun _ => rfl) rfl rfl fun _ => ?_)
  refine RN_op rfl rfl rfl (st_pure pure_assign rfl rfl rfl ?_)
  refine RN_end ?_
  refine WQ_keep [(5, _), (0, _), (1, _)] ⟨rfl, rfl, rfl, trivial⟩ ?_
  refine WQ_ex (fun w hs _ => rd_open.1 hs) fun v => ?_
  refine WQ_know (fun w hs _ => row_is 1 hs rfl) fun hr => ?_
  haveI := hr.one
  refine WQ_then ?_
  refine W_seq rfl ?_
  apply W_cut [(0, _), (5, _)] [RdC g v (rdBelowC lim bs c0), ByR v (rdNum bs c0).2.1, .hp (HP.sep l)]
  · refine W_seq rfl ?_
    refine W_reg (m := 15) rfl rfl ?_
    refine RN_op rfl rfl rfl (st_pure pure_move rfl rfl rfl ?_)
    refine RN_op rfl rfl rfl (st_pure pure_nil rfl rfl rfl ?_)
    refine RN_op rfl rfl rfl (st_pure (pure_field0 1 Try.underlying157 rfl rfl sz27) rfl rfl rfl ?_)
    refine RN_op rfl rfl rfl (st_ld 0 rfl Try.underlying27 rfl rfl rfl cell_blk rfl rfl ?_)
    refine RN_op rfl rfl rfl (st_pure pure_eql rfl rfl rfl ?_)
    refine RN_op rfl rfl rfl (st_pure pure_move rfl rfl rfl ?_)
    refine' RN_and 5 8 [(5, _), (0, _)] rfl rfl rfl rfl rfl rfl rfl rfl rfl rfl rfl rfl rfl ⟨rfl, rfl, trivial⟩ (wanted_none rfl) (fun hg14 => ?_) ?_
    rotate_left 2
    · refine RN_gT rfl rfl rfl rfl rfl rfl (st_pure pure_move rfl rfl rfl ?_)
      refine RN_gT rfl rfl rfl rfl rfl rfl (st_pure pure_lss rfl rfl rfl ?_)
      refine RN_gT rfl rfl rfl rfl rfl rfl (st_pure pure_move rfl rfl rfl ?_)
      refine' RN_or 8 4 [(13, _), (5, _), (0, _)] rfl rfl rfl rfl rfl rfl rfl rfl rfl rfl rfl rfl rfl ⟨rfl, rfl, rfl, trivial⟩ (wanted_some rfl rfl rfl rfl) (fun hg13 => ?_) ?_
      rotate_left 2
      · refine RN_gT rfl rfl rfl rfl rfl rfl (st_pure pure_move rfl rfl rfl ?_)
        refine RN_gT rfl rfl rfl rfl rfl rfl (st_pure pure_move rfl rfl rfl ?_)
        refine RN_gT rfl rfl rfl rfl rfl rfl (st_pure (pure_convU64 Try.underlying3 Try.underlying116 (by omega)) rfl rfl rfl ?_)
        refine RN_gT rfl rfl rfl rfl rfl rfl (st_pure pure_geq rfl rfl rfl ?_)
        exact RN_end (cut_end (AllIn.sub ⟨rfl, rfl, rfl, rfl, rfl, trivial⟩) (Ent.refl _))
      exact RN_end (cut_end (AllIn.sub ⟨rfl, rfl, rfl, rfl, trivial⟩) (Ent.refl _))
    refine RN_end ?_
    refine WQ_keep [(22, _), (5, _), (0, _)] ⟨rfl, rfl, rfl, trivial⟩ ?_
    refine WQ_then ?_
    refine W_cond rfl rfl (fun hc1 => ?_) (fun hc1 => ?_)
    · refine W_reg (m := 2) rfl rfl ?_
      refine RN_op rfl rfl rfl (st_pure pure_move rfl rfl rfl ?_)
      refine RN_op rfl rfl rfl (s_ct (R := []) (W := [0]) (x0 := ()) (ct_FailC g v (rdNum bs c0).2.2 2) fnF77 rfl rfl rfl rfl (by decide) rfl (fun _ => rfl) rfl rfl fun _ => ?_)
      refine RN_end ?_
      refine WQ_keep [(5, _), (0, _)] ⟨rfl, rfl, trivial⟩ ?_
      rw [if_pos hc1.1, show rdBelowC lim bs c0 = 2 from if_pos hc1]
      exact WQ_mid (AllIn.sub ⟨rfl, rfl, trivial⟩) (EntP.ent (by repeat' first | exact EntP.nil | refine EntP.same ?_ | refine EntP.drop ?_ | refine EntP.nilRow ?_))
    · refine W_skip rfl ?_
      rw [show rdBelowC lim bs c0 = (rdNum bs c0).2.2 from if_neg hc1]
      exact WQ_mid (AllIn.sub ⟨rfl, rfl, trivial⟩) (EntP.ent (by repeat' first | exact EntP.nil | refine EntP.same ?_ | refine EntP.drop ?_ | refine EntP.nilRow ?_))
  · refine W_seq rfl ?_
    refine W_seq rfl ?_
    refine W_reg (m := 5) rfl rfl ?_
    refine RN_op rfl rfl rfl (st_pure pure_move rfl rfl rfl ?_)
    refine RN_op rfl rfl rfl (st_pure pure_nil rfl rfl rfl ?_)
    refine RN_op rfl rfl rfl (st_pure (pure_field0 1 Try.underlying157 rfl rfl sz27) rfl rfl rfl ?_)
    refine RN_op rfl rfl rfl (st_ld 0 rfl Try.underlying27 rfl rfl rfl cell_blk rfl rfl ?_)
    refine RN_op rfl rfl rfl (st_pure pure_neq rfl rfl rfl ?_)
    refine RN_end ?_
    refine WQ_keep [(29, _), (5, _)] ⟨rfl, rfl, trivial⟩ ?_
    refine WQ_then ?_
    refine W_cond rfl rfl (fun hc2 => ?_) (fun hc2 => ?_)
    · have e : rdBelow lim bs c0 = (0, (rdNum bs c0).2.1, rdBelowC lim bs c0) := by unfold rdBelow; rw [if_neg hc2]
      refine W_seq rfl ?_
      refine W_reg (m := 1) rfl rfl ?_
      refine RN_op rfl rfl rfl (st_pure pure_assign rfl rfl rfl ?_)
      refine RN_end ?_
      refine WQ_keep [(4, _)] ⟨rfl, trivial⟩ ?_
      refine WQ_then ?_
      refine W_ret rfl ?_
      refine WQ_thenX rfl ?_
      refine WQ_ret (vs := [_]) (by rw [Try.results49]; rfl) fun w' hs' he' => ?_
      rw [e]
      exact ⟨(), rfl, rd_open.2 ⟨v, hs'⟩, he'⟩
    · have hc2 : rdBelowC lim bs c0 = 0 := by omega
      have e : rdBelow lim bs c0 = (((rdNum bs c0).1 : Int), (rdNum bs c0).2.1, rdBelowC lim bs c0) := by unfold rdBelow; rw [if_pos hc2]
      have hlt : ((rdNum bs c0).1 : Int) ≤ 9223372036854775807 := by
        unfold rdBelowC at hc2
        split at hc2
        · cases hc2
        · rename_i h; omega
      refine W_skip rfl ?_
      refine WQ_then ?_
      refine W_seq rfl ?_
      refine W_reg (m := 3) rfl rfl ?_
      refine RN_op rfl rfl rfl (st_pure pure_move rfl rfl rfl ?_)
      refine RN_op rfl rfl rfl (st_pure (pure_conv64 Try.underlying116 Try.underlying3 (by omega)) rfl rfl rfl ?_)
      refine RN_op rfl rfl rfl (st_pure pure_assign rfl rfl rfl ?_)
      refine RN_end ?_
      refine WQ_keep [(4, _)] ⟨rfl, trivial⟩ ?_
      refine WQ_then ?_
      refine W_ret rfl ?_
      refine WQ_ret (vs := [_]) (by rw [Try.results49]; rfl) fun w' hs' he' => ?_
      rw [e]
      exact ⟨(), rfl, rd_open.2 ⟨v, hs'⟩, he'⟩

set_option maxRecDepth 100000 in
theorem ct_New (c : Chunk) (v : Value) (bs : List Nat) (hR : Rds c v bs.length 1 (byts bs)) (hm : bs.length ≤ 1000000000) : Ct Try.prog 48 [v] [c] [.emp] (X := Nat) (fun g => .pointer (some ⟨g, 0, none⟩)) (fun g => [.hp (RdH g bs 0)]) := by
  refine ct_of fun w l hs => ?_
  refine enter (c := bodyOf Try.f48) Try.func48 rfl Try.ntmps48 rfl (L := [c, .emp, .hp (HP.sep l), .emp, .emp]) (SatC.pad hs 2) ?_
  refine W_seq rfl ?_
  refine W_reg (m := 1) rfl rfl ?_
  refine RN_op rfl rfl rfl (st_pure pure_assign rfl rfl rfl ?_)
  refine RN_end ?_
  refine WQ_keep [(0, _)] ⟨rfl, trivial⟩ ?_
  refine WQ_then ?_
  refine W_seq rfl ?_
  refine W_reg (m := 6) rfl rfl ?_
  refine RN_op rfl rfl rfl (s_al 3 (alloc_buildSlice Try.underlying23 el23.zero rfl (by decide)) rfl rfl rfl fun g3 => ?_)
  refine RN_op rfl rfl rfl (st_pure pure_move rfl rfl rfl ?_)
  refine RN_op rfl rfl rfl (s_appR 0 3 rfl el23 rfl rfl rfl rfl rfl (toRow_blk rfl (by decide)) hR (byts_one bs) (by omega) (by omega) rfl rfl fun v5 hv5 => ?_)
  simp only [Nat.zero_add, List.nil_append] at hv5 ⊢
  haveI := hv5.one
  refine RN_op rfl rfl rfl (st_pure (pure_build Try.underlying157 zr157 (pl157 Try.underlying157)) rfl rfl rfl ?_)
  refine RN_op rfl rfl rfl (s_al 4 alloc_boxA rfl rfl rfl fun g4 => ?_)
  refine RN_op rfl rfl rfl (st_pure pure_assign rfl rfl rfl ?_)
  refine RN_end ?_
  refine WQ_keep [(2, _)] ⟨rfl, trivial⟩ ?_
  refine WQ_then ?_
  refine W_ret rfl ?_
  refine WQ_ret (vs := [_]) (by rw [Try.results48]; rfl) fun w' hs' he' => ?_
  exact ⟨g4, rfl, (rd_open.2 ⟨v5, hs'.pick [4, 3, 0, 2] (by decide)⟩ : SatC w' [.hp (RdH g4 bs 0), c, .hp (HP.sep l)]).pick [1, 0, 2] (by decide), he'⟩

set_option maxRecDepth 100000 in
theorem or128 (n : Nat) : bitsV .or .u8 (IntKind.u8.wrap (n : Int)) 128 = ((n % 128 + 128 : Nat) : Int) := by
  have e0 : IntKind.u8.wrap (n : Int) = ((n % 256 : Nat) : Int) := by simp [IntKind.wrap, IntKind.bits, IntKind.signed]
  rw [e0]
  show IntKind.u8.wrap ((BitVec.ofInt 8 ((n % 256 : Nat) : Int) ||| BitVec.ofInt 8 128).toNat : Int) = _
  rw [BitVec.toNat_or]
  have e1 : (BitVec.ofInt 8 ((n % 256 : Nat) : Int)).toNat = n % 256 := by simp [BitVec.toNat_ofInt]; omega
  have e2 : (BitVec.ofInt 8 128).toNat = 128 := by decide
  rw [e1, e2]
  have e3 : ∀ m, m < 256 → m ||| 128 = m % 128 + 128 := by decide
  rw [e3 _ (by omega)]
  have : n % 256 % 128 = n % 128 := by omega
  rw [this]
  exact wrapU8 (by omega)
theorem shr7 (n : Nat) : ((n : Int)).fdiv (2 ^ (min ((7 : Int)).toNat IntKind.u64.bits)) = ((n / 128 : Nat) : Int) := by
  have : min ((7 : Int)).toNat IntKind.u64.bits = 7 := by decide
  rw [this]
  rw [Int.fdiv_eq_ediv_of_nonneg _ (by decide)]
  simp
theorem byts_snoc (bs : List Nat) (b : Nat) : byts bs ++ [.int .u8 (b : Int)] = byts (bs ++ [b]) := by simp [byts]
theorem snoc_length (bs : List Nat) (b : Nat) : bs.length + 1 = (bs ++ [b]).length := by simp

set_option maxRecDepth 100000 in
theorem ct_Put (c : Chunk) (v : Value) (bs : List Nat) (n0 : Nat) (hR : Rds c v bs.length 1 (byts bs)) (hn0 : n0 < 2 ^ 64) (hm : bs.length ≤ 1000000000) : Ct Try.prog 75 [v, .int .u64 (n0 : Int)] [c] [.emp] (X := Value) (fun x => x) (fun x => [ByR x (bs ++ putL n0)]) := by
  refine ct_of fun w l hs => ?_
  have hl0 := putL_len64 hn0
  refine enter (c := bodyOf Try.f75) Try.func75 rfl Try.ntmps75 rfl (L := [c, .emp, .hp (HP.sep l), .emp, .emp, .emp]) (SatC.pad hs 3) ?_
  refine W_seq rfl ?_
  refine W_reg (m := 1) rfl rfl ?_
  refine RN_op rfl rfl rfl (st_pure pure_assign rfl rfl rfl ?_)
  refine RN_end ?_
  refine WQ_keep [(0, _), (1, _)] ⟨rfl, rfl, trivial⟩ ?_
  refine WQ_then ?_
  refine W_seq rfl ?_
  refine W_reg (m := 4) rfl rfl ?_
  refine RN_op rfl rfl rfl (s_al 3 (alloc_buildSlice Try.underlying23 el23.zero rfl (by decide)) rfl rfl rfl fun g3 => ?_)
  refine RN_op rfl rfl rfl (st_pure pure_move rfl rfl rfl ?_)
  refine RN_op rfl rfl rfl (s_appR 0 3 rfl el23 rfl rfl rfl rfl rfl (toRow_blk rfl (by decide)) hR (byts_one bs) (by omega) (by omega) rfl rfl fun v8 hv8 => ?_)
  simp only [Nat.zero_add, List.nil_append] at hv8 ⊢
  refine RN_op rfl rfl rfl (st_pure pure_assign rfl rfl rfl ?_)
  refine RN_end ?_
  refine WQ_keep [(5, _), (1, _)] ⟨rfl, rfl, trivial⟩ ?_
  refine WQ_then ?_
  refine W_seq rfl ?_
  refine W_block rfl ?_
  refine W_loop (σ := Nat × List Nat × Value) (fun ⟨n, out, vo⟩ => n) (fun ⟨n, out, vo⟩ => [(1, .int .u64 ((n : Nat) : Int)), (5, vo)]) (fun ⟨n, out, vo⟩ => [c, .emp, .hp (HP.sep l), ByR vo out, .emp, .emp]) (fun ⟨n, out, vo⟩ => bs ++ putL n0 = out ++ putL n ∧ n < 2 ^ 64 ∧ IsRow vo out.length) ((n0, bs, v8)) rfl (⟨rfl, hn0, hv8⟩) (AllIn.sub ⟨rfl, rfl, trivial⟩) (EntP.ent (by repeat' first | exact EntP.nil | refine EntP.same ?_ | refine EntP.drop ?_ | refine EntP.nilRow ?_)) ?_
  rintro ⟨n, out, vo⟩ hI
  refine W_as [(1, .int .u64 ((n : Nat) : Int)), (5, vo)] [c, .emp, .hp (HP.sep l), ByR vo out, .emp, .emp] ⟨rfl, rfl, trivial⟩ (EntP.refl _) ?_
  obtain ⟨hI1, hI2, hI3⟩ := hI
  have hlen := congrArg List.length hI1
  simp only [List.length_append] at hlen
  refine W_seq rfl ?_
  refine W_seq rfl ?_
  refine W_reg (m := 2) rfl rfl ?_
  refine RN_op rfl rfl rfl (st_pure pure_move rfl rfl rfl ?_)
  refine RN_op rfl rfl rfl (st_pure pure_geq rfl rfl rfl ?_)
  refine RN_end ?_
  refine WQ_keep [(10, _), (1, _), (5, _)] ⟨rfl, rfl, rfl, trivial⟩ ?_
  refine WQ_then ?_
  refine W_cond rfl rfl (fun hc1 => ?_) (fun hc1 => ?_)
  · refine W_skip rfl ?_
    refine WQ_then ?_
    refine W_block rfl ?_
    refine W_seq rfl ?_
    have hp1 : putL n = (n % 128 + 128) :: putL (n / 128) := putL_more (by omega)
    rw [hp1] at hlen
    simp only [List.length_cons] at hlen
    refine W_reg (m := 7) rfl rfl ?_
    refine RN_op rfl rfl rfl (st_pure pure_move rfl rfl rfl ?_)
    refine RN_op rfl rfl rfl (st_pure pure_move rfl rfl rfl ?_)
    refine RN_op rfl rfl rfl (st_pure (pure_conv Try.underlying116 Try.underlying5) rfl rfl rfl ?_)
    refine RN_op rfl rfl rfl (st_pure (pure_bitsN (r := ((n % 128 + 128 : Nat) : Int)) rfl (or128 n)) rfl rfl rfl ?_)
    refine RN_op rfl rfl rfl (s_al 4 (alloc_buildSlice Try.underlying23 el23.zero rfl (by decide)) rfl rfl rfl fun g4 => ?_)
    refine RN_op rfl rfl rfl (s_appR 4 3 rfl el23 rfl rfl rfl rfl rfl toRow_row (rds_blk rfl (by decide)) AllOne.out (by omega) (by omega) rfl rfl fun v16 hv16 => ?_)
    rw [byts_snoc, snoc_length out (n % 128 + 128)]
    rw [snoc_length out (n % 128 + 128)] at hv16
    refine RN_op rfl rfl rfl (st_pure pure_assign rfl rfl rfl ?_)
    refine RN_end ?_
    refine WQ_keep [(5, _), (1, _)] ⟨rfl, rfl, trivial⟩ ?_
    refine WQ_then ?_
    refine W_reg (m := 3) rfl rfl ?_
    refine RN_op rfl rfl rfl (st_pure pure_move rfl rfl rfl ?_)
    refine RN_op rfl rfl rfl (st_pure (pure_shrN (r := ((n / 128 : Nat) : Int)) (by omega) (shr7 n)) rfl rfl rfl ?_)
    refine RN_op rfl rfl rfl (st_pure pure_assign rfl rfl rfl ?_)
    refine RN_end ?_
    refine WQ_keep [(1, _), (5, _)] ⟨rfl, rfl, trivial⟩ ?_
    refine WQ_inB ?_
    refine WQ_hand ((n / 128, out ++ [n % 128 + 128], v16)) (⟨by rw [hI1, hp1, List.append_assoc]; rfl, by omega, hv16⟩) (by (try dsimp only); omega) (AllIn.sub ⟨rfl, rfl, trivial⟩) (EntP.ent (by repeat' first | exact EntP.nil | refine EntP.same ?_ | refine EntP.drop ?_ | refine EntP.nilRow ?_))
  · refine W_exit rfl ?_
    refine WQ_thenX rfl ?_
    refine WQ_thenX rfl ?_
    refine WQ_hit ?_
    refine WQ_then ?_
    refine W_seq rfl ?_
    have hp1 : putL n = [n] := putL_small (by omega)
    rw [hp1] at hlen
    simp only [List.length_cons, List.length_nil] at hlen
    refine W_reg (m := 6) rfl rfl ?_
    refine RN_op rfl rfl rfl (st_pure pure_move rfl rfl rfl ?_)
    refine RN_op rfl rfl rfl (st_pure pure_move rfl rfl rfl ?_)
    refine RN_op rfl rfl rfl (st_pure (pure_convU8 Try.underlying116 Try.underlying5 (by omega)) rfl rfl rfl ?_)
    refine RN_op rfl rfl rfl (s_al 5 (alloc_buildSlice Try.underlying23 el23.zero rfl (by decide)) rfl rfl rfl fun g5 => ?_)
    refine RN_op rfl rfl rfl (s_appR 5 3 rfl el23 rfl rfl rfl rfl rfl toRow_row (rds_blk rfl (by decide)) AllOne.out (by omega) (by omega) rfl rfl fun v23 hv23 => ?_)
    rw [byts_snoc, snoc_length out n]
    refine RN_op rfl rfl rfl (st_pure pure_assign rfl rfl rfl ?_)
    refine RN_end ?_
    refine WQ_keep [(4, _)] ⟨rfl, trivial⟩ ?_
    refine WQ_then ?_
    refine W_ret rfl ?_
    refine WQ_ret (vs := [_]) (by rw [Try.results75]; rfl) fun w' hs' he' => ?_
    rw [hI1, hp1]
    exact ⟨v23, rfl, hs'.pick [0, 3, 2] (by decide), he'⟩

/-! ### A writer -/
abbrev WrC (g : Nat) (v : Value) : Chunk := .blk g (.cells [v].toArray 111 (0, 0))
def WrH (g : Nat) (bs : List Nat) : HP := HP.ex fun v => HP.sep [(WrC g v).toHP, (ByR v bs).toHP]
theorem wr_open {w : World} {g : Nat} {bs : List Nat} {L : List Chunk} : SatC w (.hp (WrH g bs) :: L) ↔ ∃ v, SatC w (WrC g v :: ByR v bs :: L) := by
  show Sat w (WrH g bs :: hps L) ↔ _
  simp only [WrH, Sat_ex, Sat_sep, List.cons_append, List.nil_append]
  exact Iff.rfl
def ints (ns : List Int) : List Value := ns.map fun x => .int .i64 x
def ni (ns : List Int) (i : Nat) : Int := ns.getD i 0
theorem ints_get (ns : List Int) (i : Nat) (h : i < ns.length) : (ints ns)[i * 1]? = some (.int .i64 (ni ns i)) := by
  rw [Nat.mul_one]; simp [ints, ni, h]
theorem ints_length (ns : List Int) : (ints ns).length = ns.length * 1 := by simp [ints]
theorem byts_len1 (bs : List Nat) : (byts bs).length = bs.length * 1 := by simp [byts]
theorem u64_wrap (x : Int) : IntKind.u64.wrap x = ((u64 x : Nat) : Int) := by
  simp [IntKind.wrap, IntKind.bits, IntKind.signed, u64]; omega
theorem puts_take (ns : List Int) (i : Nat) (h : i < ns.length) : putsL (ns.take (i + 1)) = putsL (ns.take i) ++ putL (u64 (ni ns i)) := by
  have e : ni ns i = ns[i] := by simp [ni, h]
  rw [e, putsL, List.take_succ_eq_append_getElem h, List.flatMap_append]
  simp [putsL]

set_option maxRecDepth 100000 in
theorem ct_nums (g : Nat) (c : Chunk) (lv : Value) (bs : List Nat) (ns : List Int) (hR : Rds c lv ns.length 1 (ints ns)) (hm : bs.length + 10 * ns.length ≤ 1000000000) : Ct Try.prog 46 [.pointer (some ⟨g, 0, none⟩), lv] [c] [.hp (WrH g bs)] (X := Unit) (fun _ => .tuple #[]) (fun _ => [.hp (WrH g (bs ++ putsL ns))]) := by
  refine ct_of fun w l hs0 => ?_
  obtain ⟨v, hs⟩ := wr_open.1 (hs0.pick [1, 0, 2] (by decide))
  have hr : IsRow v bs.length := row_is 1 hs rfl
  have hlr := hR.row
  refine enter (c := bodyOf Try.f46) Try.func46 rfl Try.ntmps46 rfl (L := [WrC g v, ByR v bs, c, .hp (HP.sep l), .emp]) (SatC.pad hs 1) ?_
  refine W_seq rfl ?_
  refine W_reg (m := 3) rfl rfl ?_
  refine RN_op rfl rfl rfl (st_pure pure_move rfl rfl rfl ?_)
  refine RN_op rfl rfl rfl (st_pure (pure_lenR Try.underlying24 (by assumption)) rfl rfl rfl ?_)
  refine RN_op rfl rfl rfl (st_pure pure_move rfl rfl rfl ?_)
  refine RN_end ?_
  refine WQ_keep [(8, _), (7, _), (6, _), (0, _)] ⟨rfl, rfl, rfl, rfl, trivial⟩ ?_
  refine WQ_then ?_
  refine W_block rfl ?_
  rw [show ByR v bs = ByR v (bs ++ putsL (ns.take 0)) by simp [putsL]]
  refine W_loop (σ := Nat × Value) (fun ⟨i, vo⟩ => ns.length - i) (fun ⟨i, vo⟩ => [(0, .pointer (some ⟨g, 0, none⟩)), (6, lv), (7, .int .i64 ((ns.length : Nat) : Int)), (8, .int .i64 ((i : Nat) : Int))]) (fun ⟨i, vo⟩ => [WrC g vo, ByR vo (bs ++ putsL (ns.take i)), c, .hp (HP.sep l), .emp]) (fun ⟨i, vo⟩ => i ≤ ns.length ∧ IsRow vo (bs ++ putsL (ns.take i)).length) ((0, v)) rfl (⟨Nat.zero_le _, by simpa [putsL] using hr⟩) (AllIn.sub ⟨rfl, rfl, rfl, rfl, trivial⟩) (EntP.ent (by repeat' first | exact EntP.nil | refine EntP.same ?_ | refine EntP.drop ?_ | refine EntP.nilRow ?_)) ?_
  rintro ⟨i, vo⟩ hI
  refine W_as [(0, .pointer (some ⟨g, 0, none⟩)), (6, lv), (7, .int .i64 ((ns.length : Nat) : Int)), (8, .int .i64 ((i : Nat) : Int))] [WrC g vo, ByR vo (bs ++ putsL (ns.take i)), c, .hp (HP.sep l), .emp] ⟨rfl, rfl, rfl, rfl, trivial⟩ (EntP.refl _) ?_
  obtain ⟨hi, hv⟩ := hI
  haveI := hv.one
  have hl1 := putsL_len (ns.take i)
  have hl2 : (ns.take i).length ≤ ns.length := by simp; omega
  refine W_seq rfl ?_
  refine W_reg (m := 1) rfl rfl ?_
  refine RN_op rfl rfl rfl (st_pure pure_lss rfl rfl rfl ?_)
  refine RN_end ?_
  refine WQ_keep [(9, _), (0, _), (6, _), (7, _), (8, _)] ⟨rfl, rfl, rfl, rfl, rfl, trivial⟩ ?_
  refine WQ_then ?_
  refine W_seq rfl ?_
  refine W_cond rfl rfl (fun hc1 => ?_) (fun hc1 => ?_)
  · refine W_skip rfl ?_
    refine WQ_then ?_
    refine W_seq rfl ?_
    refine W_block rfl ?_
    refine W_seq rfl ?_
    refine W_reg (m := 3) rfl rfl ?_
    refine RN_op rfl rfl rfl (st_pure (pure_indexR Try.underlying24 sz3 (by assumption) (by omega)) rfl rfl rfl ?_)
    refine RN_op rfl rfl rfl (st_ld 2 rfl Try.underlying3 rfl rfl rfl (hR.cell (ints_get ns i (by omega))) rfl rfl ?_)
    refine RN_op rfl rfl rfl (st_pure pure_assign rfl rfl rfl ?_)
    refine RN_end ?_
    refine WQ_keep [(5, _), (0, _), (6, _), (7, _), (8, _)] ⟨rfl, rfl, rfl, rfl, rfl, trivial⟩ ?_
    refine WQ_then ?_
    refine W_reg (m := 11) rfl rfl ?_
    refine RN_op rfl rfl rfl (st_pure pure_move rfl rfl rfl ?_)
    refine RN_op rfl rfl rfl (st_pure pure_move rfl rfl rfl ?_)
    refine RN_op rfl rfl rfl (st_pure pure_nil rfl rfl rfl ?_)
    refine RN_op rfl rfl rfl (st_pure (pure_field0 0 Try.underlying111 rfl rfl sz23) rfl rfl rfl ?_)
    refine RN_op rfl rfl rfl (st_ld 0 rfl Try.underlying23 rfl rfl rfl cell_blk rfl rfl ?_)
    refine RN_op rfl rfl rfl (st_pure pure_move rfl rfl rfl ?_)
    refine RN_op rfl rfl rfl (st_pure (pure_convN (r := ((u64 (ni ns i) : Nat) : Int)) Try.underlying3 Try.underlying116 (u64_wrap _)) rfl rfl rfl ?_)
    refine RN_op rfl rfl rfl (s_ct (R := [1]) (W := [4]) (x0 := vo) (ct_Put (ByR vo (bs ++ putsL (ns.take i))) vo _ (u64 (ni ns i)) (rds_row hv (byts_len1 _)) (u64_lt _) (by simp; omega)) fnF75 rfl rfl rfl rfl (by decide) rfl (fun _ => rfl) rfl rfl fun v2 => ?_)
    refine RN_know (fun w hs _ => row_is 4 hs rfl) fun hv2 => ?_
    haveI := hv2.one
    refine RN_op rfl rfl rfl (st_pure pure_nil rfl rfl rfl ?_)
    refine RN_op rfl rfl rfl (st_pure (pure_field0 0 Try.underlying111 rfl rfl sz23) rfl rfl rfl ?_)
    refine RN_op rfl rfl rfl (s_st 0 rfl sz23 rfl rfl rfl one_cells (puts_one One.out (put_blk One.out)) rfl ?_)
    refine RN_end ?_
    refine WQ_keep [(0, _), (6, _), (7, _), (8, _)] ⟨rfl, rfl, rfl, rfl, trivial⟩ ?_
    refine WQ_inB ?_
    refine WQ_then ?_
    refine W_reg (m := 2) rfl rfl ?_
    refine RN_op rfl rfl rfl (st_pure (pure_add64 (by omega)) rfl rfl rfl ?_)
    refine RN_op rfl rfl rfl (st_pure pure_move rfl rfl rfl ?_)
    refine RN_end ?_
    refine WQ_keep [(8, _), (0, _), (6, _), (7, _)] ⟨rfl, rfl, rfl, rfl, trivial⟩ ?_
    rw [List.append_assoc, ← puts_take ns i (by omega)] at hv2
    rw [List.append_assoc bs, ← puts_take ns i (by omega)]
    refine WQ_sat (fun w hs _ => (hs.pick [0, 4, 2, 3] (by decide)).pad 1) ?_
    refine WQ_hand ((i + 1, v2)) (⟨by omega, hv2⟩) (by (try dsimp only); omega) (AllIn.sub ⟨rfl, rfl, rfl, rfl, trivial⟩) (EntP.ent (by repeat' first | exact EntP.nil | refine EntP.same ?_ | refine EntP.drop ?_ | refine EntP.nilRow ?_))
  · refine W_exit rfl ?_
    refine WQ_thenX rfl ?_
    refine WQ_thenX rfl ?_
    refine WQ_hit ?_
    refine WQ_fall (vs := []) (by rw [Try.results46]; rfl) fun w' hs' he' => ?_
    have e : i = ns.length := by omega
    subst e
    rw [List.take_length] at hs'
    exact ⟨(), rfl, (wr_open.2 ⟨vo, hs'.pick [0, 1, 2, 3] (by decide)⟩ : SatC w' [.hp (WrH g (bs ++ putsL ns)), c, .hp (HP.sep l)]).pick [1, 0, 2] (by decide), he'⟩
end Go.Proofs.Ytlgfinchhnbhdaa
