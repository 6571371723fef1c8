/- The fixed fact that each law of package wire opens with: true. -/
import Derived.Test.YtlgfinchhnbhdaaWireI
import Derived.Test.YtlgfinchhnbhdaaEngN
set_option linter.unusedVariables false
set_option linter.unusedSimpArgs false
namespace Go.Proofs.Ytlgfinchhnbhdaa
open Go Go.RowKit

theorem wr_new {w : World} {g : Nat} {L : List Chunk} (h : SatC w (WrC g (.slice none 0 0) :: L)) : SatC w (.hp (WrH g []) :: L) :=
  wr_open.2 ⟨.slice none 0 0, Sat.front (l := (ByR (.slice none 0 0) []).toHP :: (WrC g (.slice none 0 0)).toHP :: hps L) 1 (ent_nil.sat h) rfl⟩
theorem f0_bytes : (((([] ++ putsL [0, 1]) ++ putsL [1]) ++ putsL [0]) ++ putsL [3]) ++ putsL [0] = [0, 1, 1, 0, 3, 0] := by
  simp [putsL, putL_small, u64]
/-- Bytes as a string. -/
def strB (bs : List Nat) : ByteArray := strOfNums (bs.map fun b : Nat => (b : Int))
theorem rds_str {c : Chunk} {v : Value} {n : Nat} {bs : List Nat} (h : Rds c v n 1 (byts bs)) : Rds c v n 1 ((bs.map fun b : Nat => (b : Int)).map (Value.int .u8)) := by
  have e : (bs.map fun b : Nat => (b : Int)).map (Value.int .u8) = byts bs := by simp [byts]
  rw [e]; exact h

set_option maxRecDepth 100000 in
set_option maxHeartbeats 1000000 in
theorem ct_Func0 (c : Chunk) (vb : Value) (hR : Rds c vb 1 5 blk0) : Ct Try.prog 39 [.agg [.int .i64 0, .int .i64 1, vb].toArray] [c] [.emp] (X := Value) (fun x => .tuple #[x, .int .i64 0]) (fun x => [ByR x [0, 1, 1, 0, 3, 0]]) := by
  refine ct_of fun w l hs => ?_
  have hr := hR.row
  haveI := hr.one
  refine enter (c := bodyOf Try.f39) Try.func39 rfl Try.ntmps39 rfl (L := [c, .emp, .hp (HP.sep l), .emp, .emp, .emp]) (SatC.pad hs 3) ?_
  refine W_seq rfl ?_
  refine W_reg (m := 3) rfl rfl ?_
  refine RN_op rfl rfl rfl (s_al 3 alloc_boxA rfl rfl rfl fun g3 => ?_)
  refine RN_op rfl rfl rfl (st_pure pure_assign rfl rfl rfl ?_)
  refine RN_op rfl rfl rfl (st_pure pure_assign rfl rfl rfl ?_)
  refine RN_end ?_
  refine WQ_keep [(1, _)] ⟨rfl, trivial⟩ ?_
  refine WQ_then ?_
  refine W_seq rfl ?_
  refine W_seq rfl ?_
  refine W_reg (m := 4) rfl rfl ?_
  refine RN_op rfl rfl rfl (st_ldN 3 rfl Try.underlying80 rfl sz80 rfl rfl cells_blk rfl rfl ?_)
  refine RN_op rfl rfl rfl (s_ct (R := [0]) (W := []) (x0 := ()) (ct_Check0 c vb hR) fnF62 rfl rfl rfl rfl (by decide) rfl (fun _ => rfl) rfl rfl fun _ => ?_)
  refine RN_op rfl rfl rfl (st_pure (pure_field1 0 Try.underlying63 rfl rfl Try.underlying27 rfl) rfl rfl rfl ?_)
  refine RN_op rfl rfl rfl (st_pure pure_neq rfl rfl rfl ?_)
  refine RN_end ?_
  refine WQ_keep [(8, _), (1, _)] ⟨rfl, rfl, trivial⟩ ?_
  refine WQ_then ?_
  refine W_cond rfl rfl (fun hc1 => ?_) (fun hc1 => ?_)
  · omega
  · refine W_skip rfl ?_
    refine WQ_then ?_
    refine W_seq rfl ?_
    refine W_reg (m := 3) rfl rfl ?_
    refine RN_op rfl rfl rfl (st_pure (pure_build Try.underlying111 zr111 (pl111 Try.underlying111)) rfl rfl rfl ?_)
    refine RN_op rfl rfl rfl (s_al 4 alloc_boxA rfl rfl rfl fun g4 => ?_)
    refine RN_op rfl rfl rfl (st_pure pure_assign rfl rfl rfl ?_)
    refine RN_end ?_
    refine WQ_keep [(4, _), (1, _)] ⟨rfl, rfl, trivial⟩ ?_
    refine WQ_fold 4 rfl (fun _ _ => wr_new) ?_
    refine WQ_then ?_
    refine W_seq rfl ?_
    refine W_reg (m := 7) rfl rfl ?_
    refine RN_op rfl rfl rfl (st_pure pure_move rfl rfl rfl ?_)
    refine RN_op rfl rfl rfl (st_pure (pure_field0 0 Try.underlying80 rfl rfl sz3) rfl rfl rfl ?_)
    refine RN_op rfl rfl rfl (st_ld 3 rfl Try.underlying3 rfl rfl rfl cell_blk rfl rfl ?_)
    refine RN_op rfl rfl rfl (st_pure (pure_field0 1 Try.underlying80 rfl rfl sz3) rfl rfl rfl ?_)
    refine RN_op rfl rfl rfl (st_ld 3 rfl Try.underlying3 rfl rfl rfl cell_blk rfl rfl ?_)
    refine RN_op rfl rfl rfl (s_al 5 (alloc_buildSlice Try.underlying24 el24.zero rfl (by decide)) rfl rfl rfl fun g5 => ?_)
    refine RN_op rfl rfl rfl (s_ct (R := [5]) (W := [4]) (x0 := ()) (ct_nums g4 (.blk g5 (.cells [.int .i64 0, .int .i64 1].toArray 3 (0, 0))) _ [] [0, 1] (rds_blk rfl (by decide)) (by simp)) fnF46 rfl rfl rfl rfl (by decide) rfl (fun _ => rfl) rfl rfl fun _ => ?_)
    refine RN_end ?_
    refine WQ_keep [(4, _), (1, _)] ⟨rfl, rfl, trivial⟩ ?_
    refine WQ_then ?_
    refine W_seq rfl ?_
    refine W_reg (m := 4) rfl rfl ?_
    refine RN_op rfl rfl rfl (st_pure pure_move rfl rfl rfl ?_)
    refine RN_op rfl rfl rfl (st_pure (pure_field0 2 Try.underlying80 rfl rfl sz45) rfl rfl rfl ?_)
    refine RN_op rfl rfl rfl (st_ld 3 rfl Try.underlying45 rfl rfl rfl cell_blk rfl rfl ?_)
    refine RN_op rfl rfl rfl (s_ct (R := [0]) (W := [4]) (x0 := ()) (ct_blocks0 g4 ([] ++ putsL [0, 1]) c vb hR (by have := putsL_len [0, 1]; simp at *; omega)) fnF68 rfl rfl rfl rfl (by decide) rfl (fun _ => rfl) rfl rfl fun _ => ?_)
    refine RN_end ?_
    refine WQ_keep [(4, _)] ⟨rfl, trivial⟩ ?_
    refine WQ_then ?_
    refine W_seq rfl ?_
    rw [f0_bytes]
    refine W_ex (L' := fun v => [c, ByR v [0, 1, 1, 0, 3, 0], .hp (HP.sep l), .emp, WrC g4 v, .emp]) (fun w hs _ => ?_) fun v => ?_
    · obtain ⟨v, h⟩ := wr_open.1 (hs.pick [4, 0, 2] (by decide) : SatC w [.hp (WrH g4 [0, 1, 1, 0, 3, 0]), c, .hp (HP.sep l)])
      exact ⟨v, ((h.pick [2, 1, 3, 0] (by decide)).pad 2).pick [0, 1, 2, 4, 3, 5] (by decide)⟩
    refine W_know (fun w hs _ => row_is 1 hs rfl) fun hv => ?_
    haveI := hv.one
    refine W_reg (m := 6) rfl rfl ?_
    refine RN_op rfl rfl rfl (st_pure pure_move rfl rfl rfl ?_)
    refine RN_op rfl rfl rfl (st_pure pure_nil rfl rfl rfl ?_)
    refine RN_op rfl rfl rfl (st_pure (pure_field0 0 Try.underlying111 rfl rfl sz23) rfl rfl rfl ?_)
    refine RN_op rfl rfl rfl (st_ld 4 rfl Try.underlying23 rfl rfl rfl cell_blk rfl rfl ?_)
    refine RN_op rfl rfl rfl (st_pure pure_assign rfl rfl rfl ?_)
    refine RN_op rfl rfl rfl (st_pure pure_assign rfl rfl rfl ?_)
    refine RN_end ?_
    refine WQ_keep [(3, _), (2, _)] ⟨rfl, rfl, trivial⟩ ?_
    refine WQ_then ?_
    refine W_ret rfl ?_
    refine WQ_ret (vs := [_, _]) (by rw [Try.results39]; rfl) fun w' hs' he' => ?_
    exact ⟨v, rfl, hs'.pick [0, 1, 2] (by decide), he'⟩

set_option maxRecDepth 100000 in
set_option maxHeartbeats 1000000 in
theorem ct_Awake : Ct Try.prog 12 [] [] [] (X := Unit) (fun _ => .bool true) (fun _ => []) := by
  refine ct_of fun w l hs => ?_
  refine enter (c := bodyOf Try.f12) Try.func12 rfl Try.ntmps12 rfl (L := [.hp (HP.sep l), .emp, .emp]) (SatC.pad (SatC.pad hs 1) 1) ?_
  refine W_seq rfl ?_
  refine W_reg (m := 1) rfl rfl ?_
  refine RN_op rfl rfl rfl (st_pure pure_assign rfl rfl rfl ?_)
  refine RN_end ?_
  refine WQ_keep [] trivial ?_
  refine WQ_then ?_
  refine W_seq rfl ?_
  refine W_reg (m := 10) rfl rfl ?_
  refine RN_op rfl rfl rfl (st_pure (pure_build Try.underlying71 zr71 (pl71 Try.underlying71)) rfl rfl rfl ?_)
  refine RN_op rfl rfl rfl (st_pure (pure_build Try.underlying73 zr73 (pl73 Try.underlying73)) rfl rfl rfl ?_)
  refine RN_op rfl rfl rfl (s_al 2 (alloc_buildSlice Try.underlying45 el45.zero rfl (by decide)) rfl rfl rfl fun g2 => ?_)
  refine RN_op rfl rfl rfl (st_pure (pure_build Try.underlying80 zr80 (pl80 Try.underlying80)) rfl rfl rfl ?_)
  refine RN_op rfl rfl rfl (s_ct (R := [2]) (W := [1]) (x0 := .slice none 0 0) (ct_Func0 (.blk g2 (.cells blk0.toArray 73 (0, 0))) _ (rds_blk rfl (by decide))) fnF39 rfl rfl rfl rfl (by decide) rfl (fun _ => rfl) rfl rfl fun x => ?_)
  refine RN_know (fun w hs _ => row_is 1 hs rfl) fun hx => ?_
  refine RN_op rfl rfl rfl (st_pure pure_move rfl rfl rfl ?_)
  refine RN_op rfl rfl rfl (st_pure (pure_extract rfl) rfl rfl rfl ?_)
  refine RN_op rfl rfl rfl (st_pure (pure_extract rfl) rfl rfl rfl ?_)
  refine RN_op rfl rfl rfl (st_pure pure_assign rfl rfl rfl ?_)
  refine RN_op rfl rfl rfl (st_pure pure_assign rfl rfl rfl ?_)
  refine RN_end ?_
  refine WQ_keep [(2, _), (1, _)] ⟨rfl, rfl, trivial⟩ ?_
  refine WQ_then ?_
  refine W_seq rfl ?_
  refine W_reg (m := 8) rfl rfl ?_
  refine RN_op rfl rfl rfl (st_pure pure_move rfl rfl rfl ?_)
  refine RN_op rfl rfl rfl (st_pure pure_eql rfl rfl rfl ?_)
  refine RN_op rfl rfl rfl (st_pure pure_move rfl rfl rfl ?_)
  refine' RN_and 2 3 [] rfl rfl rfl rfl rfl rfl rfl rfl rfl rfl rfl rfl rfl trivial (wanted_none rfl) (fun hg6 => ?_) ?_
  rotate_left 2
  · refine RN_gT rfl rfl rfl rfl rfl rfl (st_pure pure_move rfl rfl rfl ?_)
    refine RN_gT rfl rfl rfl rfl rfl rfl (s_str 1 rfl Try.underlying23 Try.underlying5 Try.underlying9 rfl rfl (rds_str (rds_row hx (byts_len1 _))) rfl rfl ?_)
    refine RN_gT rfl rfl rfl rfl rfl rfl (st_pure pure_eqlS rfl rfl rfl ?_)
    exact RN_end (cut_end (AllIn.sub ⟨rfl, rfl, trivial⟩) (Ent.refl _))
  refine RN_op rfl rfl rfl (st_pure pure_assign rfl rfl rfl ?_)
  refine RN_end ?_
  refine WQ_keep [(0, _)] ⟨rfl, trivial⟩ ?_
  refine WQ_then ?_
  refine W_ret rfl ?_
  refine WQ_ret (vs := [_]) (by rw [Try.results12]; rfl) fun w' hs' he' => ?_
  exact ⟨(), congrArg (fun b => Ending.returned (Value.bool b)) (decide_eq_true ⟨rfl, rfl⟩), SatC.fin 2 hs' (by repeat' first | exact EntP.nil | refine EntP.same ?_ | refine EntP.drop ?_ | refine EntP.nilRow ?_), he'⟩
end Go.Proofs.Ytlgfinchhnbhdaa
