/- The law of certificates as bytes. -/
import Derived.Test.YtlgfinchhnbhdaaWireJ
set_option linter.unusedVariables false
set_option linter.unusedSimpArgs false
namespace Go.Proofs.Ytlgfinchhnbhdaa
open Go Go.RowKit

theorem prsL_ok (ps : Prs) : BOk (prsL ps) := fun b hb => by
  obtain ⟨p, _, h⟩ := List.mem_flatMap.1 hb
  exact (putL_ok _).app (putL_ok _) b h
theorem certL_ok (l : List Prs) : BOk (certL l) := fun b hb => by
  obtain ⟨p, _, h⟩ := List.mem_flatMap.1 hb
  exact (putL_ok _).app (prsL_ok _) b h
theorem certOut_ok (l : List Prs) : BOk (certOut l) := by
  unfold certOut
  split
  · intro b hb; cases hb
  · exact (putL_ok _).app (certL_ok _)
theorem certOut_len (l : List Prs) (h1 : l.length ≤ 100) (h2 : ∀ ps ∈ l, ps.length ≤ 500) : (certOut l).length ≤ 1000000000 := by
  unfold certOut
  split
  · simp
  · have h3 := certL_len l 500 h2
    have h4 := putL_len64 (u64_lt (l.length : Int))
    rw [List.length_append]
    omega
/-- One of three. -/
theorem zs3 {c bx bt : Chunk} {v0 v1 v2 : Value} {b0 b1 b2 : List Nat} (h0 : Rds c v0 b0.length 1 (byts b0)) (h1 : Rds bx v1 b1.length 1 (byts b1)) (h2 : Rds bt v2 b2.length 1 (byts b2)) (k0 : BOk b0) (k1 : BOk b1) (k2 : BOk b2) (l0 : b0.length ≤ 1000000000) (l1 : b1.length ≤ 1000000000) (l2 : b2.length ≤ 1000000000) (i : Nat) (hi : i < 3) :
    ∃ Z O1 O2 v bs, [v0, v1, v2][i * 1]? = some v ∧ Rds Z v bs.length 1 (byts bs) ∧ BOk bs ∧ bs.length ≤ 1000000000 ∧ (∀ w L, SatC w (c :: bx :: bt :: L) → SatC w (Z :: O1 :: O2 :: L)) ∧ (∀ w L, SatC w (Z :: O1 :: O2 :: L) → SatC w (c :: bx :: bt :: L)) := by
  match i, hi with
  | 0, _ => exact ⟨c, bx, bt, v0, b0, rfl, h0, k0, l0, fun w L h => h, fun w L h => h⟩
  | 1, _ => exact ⟨bx, c, bt, v1, b1, rfl, h1, k1, l1, fun w L h => Sat.perm h (List.Perm.swap _ _ _), fun w L h => Sat.perm h (List.Perm.swap _ _ _)⟩
  | 2, _ => exact ⟨bt, c, bx, v2, b2, rfl, h2, k2, l2, fun w L h => Sat.perm h ((List.Perm.cons _ (List.Perm.swap _ _ _)).trans (List.Perm.swap _ _ _)), fun w L h => Sat.perm h ((List.Perm.swap _ _ _).trans (List.Perm.cons _ (List.Perm.swap _ _ _)))⟩
theorem ct_AwakeD : Ct Try.prog 12 [] [] [] (X := Unit) (fun _ => .bool (decide True)) (fun _ => []) := ct_Awake

set_option maxRecDepth 100000 in
set_option maxHeartbeats 1000000 in
theorem ct_WireCerts (c : Chunk) (vl vb va vq : Value) (l : List Prs) (bs : List Nat) (ats : List Int) (qs : List Nat) (hL : CertR c vl l) (hR : Rds c vb bs.length 1 (byts bs)) (hb : BOk bs) (hA : Rds c va ats.length 1 (ints ats)) (hQ : Rds c vq qs.length 1 (byts qs)) (hq : BOk qs) :
    Ct Try.prog 3 [vl, vb, va, vq] [c] [] (X := Unit) (fun _ => .bool true) (fun _ => []) := by
  refine ct_of fun w lf hs => ?_
  have hrl := hL.row
  have hrb := hR.row
  haveI := hrb.one
  refine enter (c := bodyOf Try.f3) Try.func3 rfl Try.ntmps3 rfl (L := [c, .emp, .emp, .hp (HP.sep lf), .emp, .emp, .emp, .emp]) (SatC.pad ((hs.pad 5).pick [0, 2, 3, 1, 4, 5, 6] (by decide)) 1) ?_
  refine W_seq rfl ?_
  refine W_reg (m := 1) rfl rfl ?_
  refine RN_op rfl rfl rfl (st_pure pure_assign rfl rfl rfl ?_)
  refine RN_end ?_
  refine WQ_keep [(0, _), (1, _), (2, _), (3, _)] ⟨rfl, rfl, rfl, rfl, trivial⟩ ?_
  refine WQ_then ?_
  refine W_seq rfl ?_
  refine W_seq rfl ?_
  refine W_reg (m := 2) rfl rfl ?_
  refine RN_op rfl rfl rfl (s_ct (R := []) (W := []) (x0 := ()) (ct_AwakeD) fnF12 rfl rfl rfl rfl (by decide) rfl (fun _ => rfl) rfl rfl fun _ => ?_)
  refine RN_op rfl rfl rfl (st_pure pure_notD rfl rfl rfl ?_)
  refine RN_end ?_
  refine WQ_keep [(22, _), (0, _), (1, _), (2, _), (3, _)] ⟨rfl, rfl, rfl, rfl, rfl, trivial⟩ ?_
  refine WQ_then ?_
  refine W_cond rfl rfl (fun hc1 => ?_) (fun hc1 => ?_)
  · exact absurd trivial hc1
  · refine W_skip rfl ?_
    refine WQ_then ?_
    refine W_seq rfl ?_
    refine W_seq rfl ?_
    refine W_reg (m := 8) rfl rfl ?_
    refine RN_op rfl rfl rfl (st_pure pure_move rfl rfl rfl ?_)
    refine RN_op rfl rfl rfl (st_pure (pure_lenR Try.underlying22 (by assumption)) rfl rfl rfl ?_)
    refine RN_op rfl rfl rfl (st_pure pure_gtr rfl rfl rfl ?_)
    refine RN_op rfl rfl rfl (st_pure pure_move rfl rfl rfl ?_)
    refine' RN_or 3 3 [(0, _), (1, _), (2, _), (3, _)] rfl rfl rfl rfl rfl rfl rfl rfl rfl rfl rfl rfl rfl ⟨rfl, rfl, rfl, rfl, trivial⟩ (wanted_none rfl) (fun hg7 => ?_) ?_
    rotate_left 2
    · refine RN_gT rfl rfl rfl rfl rfl rfl (st_pure pure_move rfl rfl rfl ?_)
      refine RN_gT rfl rfl rfl rfl rfl rfl (st_pure (pure_lenR Try.underlying23 (by assumption)) rfl rfl rfl ?_)
      refine RN_gT rfl rfl rfl rfl rfl rfl (st_pure pure_gtr rfl rfl rfl ?_)
      exact RN_end (cut_end (AllIn.sub ⟨rfl, rfl, rfl, rfl, rfl, rfl, trivial⟩) (Ent.refl _))
    refine RN_end ?_
    refine WQ_keep [(30, _), (0, _), (1, _), (2, _), (3, _)] ⟨rfl, rfl, rfl, rfl, rfl, trivial⟩ ?_
    refine WQ_then ?_
    refine W_cond rfl rfl (fun hc2 => ?_) (fun hc2 => ?_)
    · refine W_seq rfl ?_
      refine W_reg (m := 1) rfl rfl ?_
      refine RN_op rfl rfl rfl (st_pure pure_assign rfl rfl rfl ?_)
      refine RN_end ?_
      refine WQ_keep [(8, _)] ⟨rfl, trivial⟩ ?_
      refine WQ_then ?_
      refine W_ret rfl ?_
      refine WQ_thenX rfl ?_
      refine WQ_ret (vs := [_]) (by rw [Try.results3]; rfl) fun w' hs' he' => ?_
      exact ⟨(), rfl, hs'.pick [0, 3] (by decide), he'⟩
    · refine W_skip rfl ?_
      refine WQ_then ?_
      refine W_seq rfl ?_
      refine W_seq rfl ?_
      refine W_reg (m := 3) rfl rfl ?_
      refine RN_op rfl rfl rfl (st_pure pure_move rfl rfl rfl ?_)
      refine RN_op rfl rfl rfl (st_pure (pure_lenR Try.underlying22 (by assumption)) rfl rfl rfl ?_)
      refine RN_op rfl rfl rfl (st_pure pure_move rfl rfl rfl ?_)
      refine RN_end ?_
      refine WQ_keep [(33, _), (32, _), (31, _), (0, _), (1, _), (2, _), (3, _)] ⟨rfl, rfl, rfl, rfl, rfl, rfl, rfl, trivial⟩ ?_
      refine WQ_then ?_
      refine W_block rfl ?_
      refine W_loop (σ := Nat) (fun i => l.length - i) (fun i => [(0, vl), (1, vb), (2, va), (3, vq), (31, vl), (32, .int .i64 ((l.length : Nat) : Int)), (33, .int .i64 ((i : Nat) : Int))]) (fun i => [c, .emp, .emp, .hp (HP.sep lf), .emp, .emp, .emp, .emp]) (fun i => i ≤ l.length ∧ ∀ j, j < i → (ll l j).length ≤ 500) (0) rfl (⟨Nat.zero_le _, fun j hj => by omega⟩) (AllIn.sub ⟨rfl, rfl, rfl, rfl, rfl, rfl, rfl, trivial⟩) (EntP.ent (by repeat' first | exact EntP.nil | refine EntP.same ?_ | refine EntP.drop ?_ | refine EntP.nilRow ?_)) ?_
      rintro i hI
      refine W_as [(0, vl), (1, vb), (2, va), (3, vq), (31, vl), (32, .int .i64 ((l.length : Nat) : Int)), (33, .int .i64 ((i : Nat) : Int))] [c, .emp, .emp, .hp (HP.sep lf), .emp, .emp, .emp, .emp] ⟨rfl, rfl, rfl, rfl, rfl, rfl, rfl, trivial⟩ (EntP.refl _) ?_
      obtain ⟨hi, hlen⟩ := hI
      refine W_seq rfl ?_
      refine W_reg (m := 1) rfl rfl ?_
      refine RN_op rfl rfl rfl (st_pure pure_lss rfl rfl rfl ?_)
      refine RN_end ?_
      refine WQ_keep [(34, _), (0, _), (1, _), (2, _), (3, _), (31, _), (32, _), (33, _)] ⟨rfl, rfl, rfl, rfl, rfl, rfl, rfl, rfl, trivial⟩ ?_
      refine WQ_then ?_
      refine W_seq rfl ?_
      refine W_cond rfl rfl (fun hc3 => ?_) (fun hc3 => ?_)
      · obtain ⟨vi, hci, hRi⟩ := hL.at_ i (by omega)
        have hri := hRi.row
        refine W_skip rfl ?_
        refine WQ_then ?_
        refine W_seq rfl ?_
        refine W_block rfl ?_
        refine W_seq rfl ?_
        refine W_reg (m := 3) rfl rfl ?_
        refine RN_op rfl rfl rfl (st_pure (pure_indexR Try.underlying22 sz26 (by assumption) (by omega)) rfl rfl rfl ?_)
        refine RN_op rfl rfl rfl (st_ld 0 rfl Try.underlying26 rfl rfl rfl hci rfl rfl ?_)
        refine RN_op rfl rfl rfl (st_pure pure_assign rfl rfl rfl ?_)
        refine RN_end ?_
        refine WQ_keep [(10, _), (0, _), (1, _), (2, _), (3, _), (31, _), (32, _), (33, _)] ⟨rfl, rfl, rfl, rfl, rfl, rfl, rfl, rfl, trivial⟩ ?_
        refine WQ_then ?_
        refine W_seq rfl ?_
        refine W_reg (m := 3) rfl rfl ?_
        refine RN_op rfl rfl rfl (st_pure pure_move rfl rfl rfl ?_)
        refine RN_op rfl rfl rfl (st_pure (pure_lenR Try.underlying26 (by assumption)) rfl rfl rfl ?_)
        refine RN_op rfl rfl rfl (st_pure pure_gtr rfl rfl rfl ?_)
        refine RN_end ?_
        refine WQ_keep [(39, _), (0, _), (1, _), (2, _), (3, _), (31, _), (32, _), (33, _)] ⟨rfl, rfl, rfl, rfl, rfl, rfl, rfl, rfl, trivial⟩ ?_
        refine WQ_then ?_
        refine W_cond rfl rfl (fun hc4 => ?_) (fun hc4 => ?_)
        · refine W_seq rfl ?_
          refine W_reg (m := 1) rfl rfl ?_
          refine RN_op rfl rfl rfl (st_pure pure_assign rfl rfl rfl ?_)
          refine RN_end ?_
          refine WQ_keep [(8, _)] ⟨rfl, trivial⟩ ?_
          refine WQ_then ?_
          refine W_ret rfl ?_
          refine WQ_inBR ?_
          refine WQ_thenX rfl ?_
          refine WQ_thenX rfl ?_
          refine WQ_inBR ?_
          refine WQ_thenX rfl ?_
          refine WQ_ret (vs := [_]) (by rw [Try.results3]; rfl) fun w' hs' he' => ?_
          exact ⟨(), rfl, hs'.pick [0, 3] (by decide), he'⟩
        · refine W_skip rfl ?_
          refine WQ_inB ?_
          refine WQ_then ?_
          refine W_reg (m := 2) rfl rfl ?_
          refine RN_op rfl rfl rfl (st_pure (pure_add64 (by omega)) rfl rfl rfl ?_)
          refine RN_op rfl rfl rfl (st_pure pure_move rfl rfl rfl ?_)
          refine RN_end ?_
          refine WQ_keep [(33, _), (0, _), (1, _), (2, _), (3, _), (31, _), (32, _)] ⟨rfl, rfl, rfl, rfl, rfl, rfl, rfl, trivial⟩ ?_
          refine WQ_hand (i + 1) (⟨by omega, fun j hj => by rcases Nat.lt_or_ge j i with h | h; exact hlen j h; have := (show j = i by omega); subst this; omega⟩) (by (try dsimp only); omega) (AllIn.sub ⟨rfl, rfl, rfl, rfl, rfl, rfl, rfl, trivial⟩) (EntP.ent (by repeat' first | exact EntP.nil | refine EntP.same ?_ | refine EntP.drop ?_ | refine EntP.nilRow ?_))
      · refine W_exit rfl ?_
        refine WQ_thenX rfl ?_
        refine WQ_thenX rfl ?_
        refine WQ_hit ?_
        refine WQ_then ?_
        refine W_seq rfl ?_
        have hmem : ∀ ps ∈ l, ps.length ≤ 500 := fun ps hps => by
          obtain ⟨j, hj, rfl⟩ := List.getElem_of_mem hps
          rw [ll_elem l j hj]
          exact hlen j (by omega)
        have hcl := certOut_len l (by omega) hmem
        refine W_reg (m := 7) rfl rfl ?_
        refine RN_op rfl rfl rfl (st_pure pure_move rfl rfl rfl ?_)
        refine RN_op rfl rfl rfl (s_ct (R := [0]) (W := [1]) (x0 := .slice none 0 0) (ct_Cert c vl l hL (by omega) (fun ps hps => Nat.le_trans (hmem ps hps) (by decide))) fnF13 rfl rfl rfl rfl (by decide) rfl (fun _ => rfl) rfl rfl fun x => ?_)
        refine RN_know (fun w hs _ => row_is 1 hs rfl) fun hx => ?_
        refine RN_op rfl rfl rfl (st_pure pure_move rfl rfl rfl ?_)
        refine RN_op rfl rfl rfl (st_pure (pure_extract rfl) rfl rfl rfl ?_)
        refine RN_op rfl rfl rfl (st_pure (pure_extract rfl) rfl rfl rfl ?_)
        refine RN_op rfl rfl rfl (st_pure pure_assign rfl rfl rfl ?_)
        refine RN_op rfl rfl rfl (st_pure pure_assign rfl rfl rfl ?_)
        refine RN_end ?_
        refine WQ_keep [(12, .int .i64 (certCode l)), (11, x), (0, _), (1, _), (2, _), (3, _)] ⟨rfl, rfl, rfl, rfl, rfl, rfl, trivial⟩ ?_
        refine WQ_then ?_
        refine W_seq rfl ?_
        refine W_reg (m := 7) rfl rfl ?_
        refine RN_op rfl rfl rfl (st_pure pure_move rfl rfl rfl ?_)
        refine RN_op rfl rfl rfl (s_ct (R := [0]) (W := [4]) (x0 := .slice none 0 0) (ct_CertBytes c vl l hL (by omega) (fun ps hps => Nat.le_trans (hmem ps hps) (by decide))) fnF14 rfl rfl rfl rfl (by decide) rfl (fun _ => rfl) rfl rfl fun y => ?_)
        refine RN_know (fun w hs _ => row_is 4 hs rfl) fun hy => ?_
        refine RN_op rfl rfl rfl (st_pure pure_move rfl rfl rfl ?_)
        refine RN_op rfl rfl rfl (st_pure (pure_extract rfl) rfl rfl rfl ?_)
        refine RN_op rfl rfl rfl (st_pure (pure_extract rfl) rfl rfl rfl ?_)
        refine RN_op rfl rfl rfl (st_pure pure_assign rfl rfl rfl ?_)
        refine RN_op rfl rfl rfl (st_pure pure_assign rfl rfl rfl ?_)
        refine RN_end ?_
        refine WQ_keep [(14, .int .i64 (certCode l)), (13, y), (12, _), (11, _), (1, _), (2, _), (3, _)] ⟨rfl, rfl, rfl, rfl, rfl, rfl, rfl, trivial⟩ ?_
        refine WQ_then ?_
        refine W_seq rfl ?_
        refine W_seq rfl ?_
        refine W_reg (m := 10) rfl rfl ?_
        refine RN_op rfl rfl rfl (st_pure pure_move rfl rfl rfl ?_)
        refine RN_op rfl rfl rfl (st_pure pure_move rfl rfl rfl ?_)
        refine RN_op rfl rfl rfl (st_pure pure_neq rfl rfl rfl ?_)
        refine RN_op rfl rfl rfl (st_pure pure_move rfl rfl rfl ?_)
        refine' RN_or 3 5 [(11, _), (1, _), (2, _), (3, _)] rfl rfl rfl rfl rfl rfl rfl rfl rfl rfl rfl rfl rfl ⟨rfl, rfl, rfl, rfl, trivial⟩ (wanted_none rfl) (fun hg9 => ?_) ?_
        rotate_left 2
        · refine RN_gT rfl rfl rfl rfl rfl rfl (st_pure pure_move rfl rfl rfl ?_)
          refine RN_gT rfl rfl rfl rfl rfl rfl (s_str 1 rfl Try.underlying23 Try.underlying5 Try.underlying9 rfl rfl (rds_str (rds_row hx (byts_len1 _))) rfl rfl ?_)
          refine RN_gT rfl rfl rfl rfl rfl rfl (st_pure pure_move rfl rfl rfl ?_)
          refine RN_gT rfl rfl rfl rfl rfl rfl (s_str 4 rfl Try.underlying23 Try.underlying5 Try.underlying9 rfl rfl (rds_str (rds_row hy (byts_len1 _))) rfl rfl ?_)
          refine RN_gT rfl rfl rfl rfl rfl rfl (st_pure pure_neqS rfl rfl rfl ?_)
          exact RN_end (cut_end (AllIn.sub ⟨rfl, rfl, rfl, rfl, rfl, rfl, trivial⟩) (Ent.refl _))
        refine RN_end ?_
        refine WQ_keep [(60, _), (11, _), (1, _), (2, _), (3, _)] ⟨rfl, rfl, rfl, rfl, rfl, trivial⟩ ?_
        refine WQ_then ?_
        refine W_cond rfl rfl (fun hc5 => ?_) (fun hc5 => ?_)
        · exact absurd hc5 (by simp)
        · refine W_skip rfl ?_
          refine WQ_then ?_
          refine W_seq rfl ?_
          refine W_seq rfl ?_
          refine W_reg (m := 9) rfl rfl ?_
          refine RN_op rfl rfl rfl (st_pure pure_move rfl rfl rfl ?_)
          refine RN_op rfl rfl rfl (st_pure pure_move rfl rfl rfl ?_)
          refine RN_op rfl rfl rfl (st_pure pure_move rfl rfl rfl ?_)
          refine RN_op rfl rfl rfl (st_pure pure_move rfl rfl rfl ?_)
          refine RN_op rfl rfl rfl (st_pure pure_move rfl rfl rfl ?_)
          refine RN_op rfl rfl rfl (s_ct (R := [1, 0]) (W := [2]) (x0 := (.slice none 0 0, [])) (ct_Turned (ByR x (certOut l)) c x va vq (certOut l) ats qs (rds_row hx (byts_len1 _)) (certOut_ok l) hcl hA hQ hq) fnF15 rfl rfl rfl rfl (by decide) rfl (fun _ => rfl) rfl rfl fun tv => ?_)
          refine RN_open (α := Unit) (C := fun _ => ByR tv.1 tv.2) (p := fun _ => BOk tv.2 ∧ tv.2.length ≤ (certOut l).length) 2 rfl (fun _ _ h => ⟨(), bt_open.1 h⟩) fun _ htv => ?_
          refine RN_know (fun w hs _ => row_is 2 hs rfl) fun ht => ?_
          obtain ⟨htb, htl⟩ := htv
          haveI := hx.one
          haveI := ht.one
          refine RN_op rfl rfl rfl (s_al 7 (alloc_buildSlice Try.underlying33 el33.zero rfl (by decide)) rfl rfl rfl fun g7 => ?_)
          have hg7 : IsRow (.slice (some ⟨g7, 0, none⟩) 3 3) 3 := .inr (.inl ⟨_, _, _, rfl, Nat.le_refl _, by decide⟩)
          refine RN_op rfl rfl rfl (st_pure (pure_lenR Try.underlying33 (by assumption)) rfl rfl rfl ?_)
          refine RN_op rfl rfl rfl (st_pure pure_move rfl rfl rfl ?_)
          refine RN_end ?_
          refine WQ_keep [(69, _), (68, _), (67, _)] ⟨rfl, rfl, rfl, trivial⟩ ?_
          refine WQ_then ?_
          refine W_block rfl ?_
          refine W_loop (σ := Nat) (fun i => 3 - i) (fun i => [(67, .slice (some ⟨g7, 0, none⟩) 3 3), (68, .int .i64 ((3 : Nat) : Int)), (69, .int .i64 ((i : Nat) : Int))]) (fun i => [c, ByR x (certOut l), ByR tv.1 tv.2, .hp (HP.sep lf), ByR y (certOut l), .emp, .emp, .blk g7 (.cells [vb, x, tv.1].toArray 23 (0, 0))]) (fun i => i ≤ 3) (0) rfl ((Nat.zero_le _)) (AllIn.sub ⟨rfl, rfl, rfl, trivial⟩) (EntP.ent (by repeat' first | exact EntP.nil | refine EntP.same ?_ | refine EntP.drop ?_ | refine EntP.nilRow ?_)) ?_
          rintro i hI2
          refine W_as [(67, .slice (some ⟨g7, 0, none⟩) 3 3), (68, .int .i64 ((3 : Nat) : Int)), (69, .int .i64 ((i : Nat) : Int))] [c, ByR x (certOut l), ByR tv.1 tv.2, .hp (HP.sep lf), ByR y (certOut l), .emp, .emp, .blk g7 (.cells [vb, x, tv.1].toArray 23 (0, 0))] ⟨rfl, rfl, rfl, trivial⟩ (EntP.refl _) ?_
          refine W_seq rfl ?_
          refine W_reg (m := 1) rfl rfl ?_
          refine RN_op rfl rfl rfl (st_pure pure_lss rfl rfl rfl ?_)
          refine RN_end ?_
          refine WQ_keep [(70, _), (67, _), (68, _), (69, _)] ⟨rfl, rfl, rfl, rfl, trivial⟩ ?_
          refine WQ_then ?_
          refine W_seq rfl ?_
          refine W_cond rfl rfl (fun hc6 => ?_) (fun hc6 => ?_)
          · obtain ⟨Z, O1, O2, v, bz, hvz, hRz, hbz, hlz, hfw, hbw⟩ := zs3 hR (rds_row hx (byts_len1 (certOut l)) : Rds (ByR x (certOut l)) x _ _ _) (rds_row ht (byts_len1 tv.2) : Rds (ByR tv.1 tv.2) tv.1 _ _ _) hb (certOut_ok l) htb (by omega) hcl (by omega) i (by omega)
            refine W_sat (L' := [Z, O1, O2, .hp (HP.sep lf), ByR y (certOut l), .emp, .emp, .blk g7 (.cells [vb, x, tv.1].toArray 23 (0, 0))]) (fun w hs _ => hfw w _ hs) ?_
            refine W_skip rfl ?_
            refine WQ_then ?_
            refine W_seq rfl ?_
            refine W_block rfl ?_
            refine W_seq rfl ?_
            refine W_reg (m := 3) rfl rfl ?_
            refine RN_op rfl rfl rfl (st_pure (pure_indexR Try.underlying33 sz23 (by assumption) (by omega)) rfl rfl rfl ?_)
            refine RN_op rfl rfl rfl (st_ld 7 rfl Try.underlying23 rfl rfl rfl (Rds.cell (rds_blk (n := 3) (s := 1) rfl (by decide)) hvz) rfl rfl ?_)
            refine RN_op rfl rfl rfl (st_pure pure_assign rfl rfl rfl ?_)
            refine RN_end ?_
            refine WQ_keep [(16, _), (67, _), (68, _), (69, _)] ⟨rfl, rfl, rfl, rfl, trivial⟩ ?_
            refine WQ_then ?_
            refine W_seq rfl ?_
            refine W_reg (m := 7) rfl rfl ?_
            refine RN_op rfl rfl rfl (st_pure pure_move rfl rfl rfl ?_)
            refine RN_op rfl rfl rfl (s_ct (R := [0]) (W := [5]) (x0 := .slice none 0 0) (ct_ReadCert Z v bz hRz hbz hlz) fnF16 rfl rfl rfl rfl (by decide) rfl (fun _ => rfl) rfl rfl fun p => ?_)
            refine RN_op rfl rfl rfl (st_pure pure_move rfl rfl rfl ?_)
            refine RN_op rfl rfl rfl (st_pure (pure_extract rfl) rfl rfl rfl ?_)
            refine RN_op rfl rfl rfl (st_pure (pure_extract rfl) rfl rfl rfl ?_)
            refine RN_op rfl rfl rfl (st_pure pure_assign rfl rfl rfl ?_)
            refine RN_op rfl rfl rfl (st_pure pure_assign rfl rfl rfl ?_)
            refine RN_end ?_
            refine WQ_keep [(18, .int .i64 (certErr bz)), (17, p), (16, _), (67, _), (68, _), (69, _)] ⟨rfl, rfl, rfl, rfl, rfl, rfl, trivial⟩ ?_
            refine WQ_then ?_
            refine W_seq rfl ?_
            refine W_reg (m := 7) rfl rfl ?_
            refine RN_op rfl rfl rfl (st_pure pure_move rfl rfl rfl ?_)
            refine RN_op rfl rfl rfl (s_ct (R := [0]) (W := [6]) (x0 := .slice none 0 0) (ct_ReadCertR Z v bz hRz hbz) fnF17 rfl rfl rfl rfl (by decide) rfl (fun _ => rfl) rfl rfl fun q => ?_)
            refine RN_op rfl rfl rfl (st_pure pure_move rfl rfl rfl ?_)
            refine RN_op rfl rfl rfl (st_pure (pure_extract rfl) rfl rfl rfl ?_)
            refine RN_op rfl rfl rfl (st_pure (pure_extract rfl) rfl rfl rfl ?_)
            refine RN_op rfl rfl rfl (st_pure pure_assign rfl rfl rfl ?_)
            refine RN_op rfl rfl rfl (st_pure pure_assign rfl rfl rfl ?_)
            refine RN_end ?_
            refine WQ_keep [(20, .int .i64 (certErr bz)), (19, q), (18, _), (17, _), (67, _), (68, _), (69, _)] ⟨rfl, rfl, rfl, rfl, rfl, rfl, rfl, trivial⟩ ?_
            refine WQ_then ?_
            refine W_seq rfl ?_
            refine W_exP (L' := fun d => [Z, O1, O2, .hp (HP.sep lf), ByR y (certOut l), d, .emp, .blk g7 (.cells [vb, x, tv.1].toArray 23 (0, 0))]) (p := fun d => CertR d p (certGot bz) ∧ CertR d q (certGot bz)) (fun w hs _ => ?_) fun d hpq => ?_
            · obtain ⟨c5, k5, hs1⟩ := cert_open.1 (hs.pick [5, 6, 0, 1, 2, 3, 4, 7] (by decide) : SatC w [.hp (CertH p (certGot bz)), .hp (CertH q (certGot bz)), Z, O1, O2, .hp (HP.sep lf), ByR y (certOut l), .blk g7 (.cells [vb, x, tv.1].toArray 23 (0, 0))])
              obtain ⟨c6, k6, hs2⟩ := cert_open.1 (hs1.pick [1, 0, 2, 3, 4, 5, 6, 7] (by decide) : SatC w [.hp (CertH q (certGot bz)), c5, Z, O1, O2, .hp (HP.sep lf), ByR y (certOut l), .blk g7 (.cells [vb, x, tv.1].toArray 23 (0, 0))])
              obtain ⟨d, h1, h2, h3⟩ := hs2.freeze2 0 1 (by decide)
              exact ⟨d, h1.pick [2, 3, 4, 5, 6, 0, 8, 7] (by decide), k5.mono h3, k6.mono h2⟩
            refine W_reg (m := 9) rfl rfl ?_
            refine RN_op rfl rfl rfl (st_pure pure_move rfl rfl rfl ?_)
            refine RN_op rfl rfl rfl (st_pure pure_move rfl rfl rfl ?_)
            refine RN_op rfl rfl rfl (st_pure pure_neq rfl rfl rfl ?_)
            refine RN_op rfl rfl rfl (st_pure pure_move rfl rfl rfl ?_)
            refine' RN_or 3 4 [(67, _), (68, _), (69, _)] rfl rfl rfl rfl rfl rfl rfl rfl rfl rfl rfl rfl rfl ⟨rfl, rfl, rfl, trivial⟩ (wanted_none rfl) (fun hg8 => ?_) ?_
            rotate_left 2
            · refine RN_gT rfl rfl rfl rfl rfl rfl (st_pure pure_move rfl rfl rfl ?_)
              refine RN_gT rfl rfl rfl rfl rfl rfl (st_pure pure_move rfl rfl rfl ?_)
              refine RN_gT rfl rfl rfl rfl rfl rfl (s_ct (R := [5]) (W := []) (x0 := ()) (ct_SameCerts d p q _ _ hpq.1 hpq.2) fnF18 rfl rfl rfl rfl (by decide) rfl (fun _ => rfl) rfl rfl fun _ => ?_)
              refine RN_gT rfl rfl rfl rfl rfl rfl (st_pure pure_notD rfl rfl rfl ?_)
              exact RN_end (cut_end (AllIn.sub ⟨rfl, rfl, rfl, rfl, rfl, trivial⟩) (Ent.refl _))
            refine RN_end ?_
            refine WQ_keep [(91, _), (67, _), (68, _), (69, _)] ⟨rfl, rfl, rfl, rfl, trivial⟩ ?_
            refine WQ_then ?_
            refine W_cond rfl rfl (fun hc7 => ?_) (fun hc7 => ?_)
            · exact absurd hc7 (by simp)
            · refine W_skip rfl ?_
              refine WQ_inB ?_
              refine WQ_then ?_
              refine W_reg (m := 2) rfl rfl ?_
              refine RN_op rfl rfl rfl (st_pure (pure_add64 (by omega)) rfl rfl rfl ?_)
              refine RN_op rfl rfl rfl (st_pure pure_move rfl rfl rfl ?_)
              refine RN_end ?_
              refine WQ_keep [(69, _), (67, _), (68, _)] ⟨rfl, rfl, rfl, trivial⟩ ?_
              refine WQ_sat (L' := [c, ByR x (certOut l), ByR tv.1 tv.2, .hp (HP.sep lf), ByR y (certOut l), d, .emp, .blk g7 (.cells [vb, x, tv.1].toArray 23 (0, 0))]) (fun w hs _ => hbw w _ hs) ?_
              refine WQ_hand (i + 1) (by (try dsimp only); omega) (by (try dsimp only); omega) (AllIn.sub ⟨rfl, rfl, rfl, trivial⟩) (EntP.ent (by repeat' first | exact EntP.nil | refine EntP.same ?_ | refine EntP.drop ?_ | refine EntP.nilRow ?_))
          · refine W_exit rfl ?_
            refine WQ_thenX rfl ?_
            refine WQ_thenX rfl ?_
            refine WQ_hit ?_
            refine WQ_then ?_
            refine W_seq rfl ?_
            refine W_reg (m := 1) rfl rfl ?_
            refine RN_op rfl rfl rfl (st_pure pure_assign rfl rfl rfl ?_)
            refine RN_end ?_
            refine WQ_keep [(8, _)] ⟨rfl, trivial⟩ ?_
            refine WQ_then ?_
            refine W_ret rfl ?_
            refine WQ_ret (vs := [_]) (by rw [Try.results3]; rfl) fun w' hs' he' => ?_
            exact ⟨(), rfl, hs'.pick [0, 3] (by decide), he'⟩
end Go.Proofs.Ytlgfinchhnbhdaa
