/- Certificates: the walks of what reads them. -/
import Derived.Test.YtlgfinchhnbhdaaWireD
set_option linter.unusedVariables false
set_option linter.unusedSimpArgs false
namespace Go.Proofs.Ytlgfinchhnbhdaa
open Go Go.RowKit

/-- A certificate that somebody has made. -/
def CertH (v : Value) (l : List Prs) : HP := HP.ex fun c : Chunk => HP.and (CertR c v l) c.toHP
theorem cert_open {w : World} {v : Value} {l : List Prs} {L : List Chunk} : SatC w (.hp (CertH v l) :: L) ↔ ∃ c, CertR c v l ∧ SatC w (c :: L) := by
  show Sat w (CertH v l :: hps L) ↔ _
  simp only [CertH, Sat_ex, Sat_and]
  exact Iff.rfl
theorem cert_nil : CertR .emp (.slice none 0 0) [] := ⟨[], rds_nil, fun i hi => by simp at hi⟩
theorem CertR.mono {c d : Chunk} {v : Value} {l : List Prs} (h : CertR c v l) (hd : ∀ a u, c.cell a = some u → d.cell a = some u) : CertR d v l := by
  obtain ⟨vs, h1, h2⟩ := h
  refine ⟨vs, h1.mono hd, fun i hi => ?_⟩
  obtain ⟨vi, h3, h4⟩ := h2 i hi
  exact ⟨vi, h3, h4.mono hd⟩
/-- The parts of a list of rows, read out of one chunk. -/
def Parts (d : Chunk) (vs : List Value) (l : List Prs) : Prop := vs.length = l.length ∧ ∀ i, i < l.length → ∃ vi, vs[i]? = some vi ∧ Rds d vi (ll l i).length 2 (prs (ll l i))
theorem Parts.nil {d : Chunk} : Parts d [] [] := ⟨rfl, fun i hi => by simp at hi⟩
theorem Parts.snoc {d e : Chunk} {vs : List Value} {l : List Prs} {v : Value} {ps : Prs} (h : Parts d vs l) (hd : ∀ a u, d.cell a = some u → e.cell a = some u) (hv : Rds e v ps.length 2 (prs ps)) : Parts e (vs ++ [v]) (l ++ [ps]) := by
  refine ⟨by simp [h.1], fun i hi => ?_⟩
  rcases Nat.lt_or_ge i l.length with h1 | h1
  · obtain ⟨vi, h2, h3⟩ := h.2 i h1
    have e1 : ll (l ++ [ps]) i = ll l i := by simp [ll, List.getElem?_append_left h1]
    rw [e1]
    exact ⟨vi, by rw [List.getElem?_append_left (by rw [h.1]; exact h1)]; exact h2, h3.mono hd⟩
  · have hi2 : i = l.length := by simp at hi; omega
    subst hi2
    have e1 : ll (l ++ [ps]) l.length = ps := by simp [ll]
    rw [e1]
    exact ⟨v, by rw [← h.1]; simp, hv⟩
theorem Parts.cert {c d e : Chunk} {v : Value} {vs : List Value} {l : List Prs} (h : Parts d vs l) (hv : Rds c v l.length 1 vs) (h1 : ∀ a u, c.cell a = some u → e.cell a = some u) (h2 : ∀ a u, d.cell a = some u → e.cell a = some u) : CertR e v l :=
  ⟨vs, hv.mono h1, fun i hi => let ⟨vi, h3, h4⟩ := h.2 i hi; ⟨vi, h3, h4.mono h2⟩⟩
theorem prs_snoc (ps : Prs) (p : Int × Int) : prs ps ++ [.int .i64 p.1, .int .i64 p.2] = prs (ps ++ [p]) := by simp [prs]
theorem psnoc_length (ps : Prs) (p : Int × Int) : List.length ps + 1 = (ps ++ [p]).length := by simp
theorem lsnoc_length (l : List Prs) (p : Prs) : l.length + 1 = (l ++ [p]).length := by simp

abbrev OutR (v : Value) (n : Nat) (vs : List Value) : Chunk := .row 26 1 v n vs
abbrev PrR (v : Value) (ps : Prs) : Chunk := .row 114 2 v ps.length (prs ps)

set_option maxRecDepth 100000 in
set_option maxHeartbeats 1000000 in
theorem ct_ReadCert (c : Chunk) (v : Value) (bs : List Nat) (hR : Rds c v bs.length 1 (byts bs)) (hb : BOk bs) (hm : bs.length ≤ 1000000000) : Ct Try.prog 16 [v] [c] [.emp] (X := Value) (fun x => .tuple #[x, .int .i64 (certErr bs)]) (fun x => [.hp (CertH x (certGot bs))]) := by
  refine ct_of fun w lf hs => ?_
  obtain ⟨hn0, hn1, hb1, _⟩ := rdBelow_ok (lim := 17) (c := 0) hb (by decide)
  refine enter (c := bodyOf Try.f16) Try.func16 rfl Try.ntmps16 rfl (L := [c, .emp, .hp (HP.sep lf), .emp, .emp, .emp, .emp, .emp, .emp]) (SatC.pad (SatC.pad hs 4) 2) ?_
  refine W_seq rfl ?_
  refine W_reg (m := 2) rfl rfl ?_
  refine RN_op rfl rfl rfl (st_pure pure_assign rfl rfl rfl ?_)
  refine RN_op rfl rfl rfl (st_pure pure_assign rfl rfl rfl ?_)
  refine RN_end ?_
  refine WQ_keep [(0, _)] ⟨rfl, trivial⟩ ?_
  refine WQ_then ?_
  refine W_seq rfl ?_
  refine W_reg (m := 3) rfl rfl ?_
  refine RN_op rfl rfl rfl (st_pure pure_move rfl rfl rfl ?_)
  refine RN_op rfl rfl rfl (s_ct (R := [0]) (W := [3]) (x0 := 0) (ct_New c v bs hR hm) fnF48 rfl rfl rfl rfl (by decide) rfl (fun _ => rfl) rfl rfl fun g => ?_)
  refine RN_op rfl rfl rfl (st_pure pure_assign rfl rfl rfl ?_)
  refine RN_end ?_
  refine WQ_keep [(4, _)] ⟨rfl, trivial⟩ ?_
  refine WQ_then ?_
  refine W_seq rfl ?_
  refine W_reg (m := 1) rfl rfl ?_
  refine RN_op rfl rfl rfl (st_pure pure_assign rfl rfl rfl ?_)
  refine RN_end ?_
  refine WQ_keep [(5, _), (4, _)] ⟨rfl, rfl, trivial⟩ ?_
  refine WQ_then ?_
  refine W_seq rfl ?_
  refine W_seq rfl ?_
  refine W_reg (m := 3) rfl rfl ?_
  refine RN_op rfl rfl rfl (st_pure pure_move rfl rfl rfl ?_)
  refine RN_op rfl rfl rfl (s_ct (R := []) (W := [3]) (x0 := ()) (ct_Below g bs 0 17 hb (by decide) (by decide)) fnF49 rfl rfl rfl rfl (by decide) rfl (fun _ => rfl) rfl rfl fun _ => ?_)
  refine RN_op rfl rfl rfl (st_pure pure_move rfl rfl rfl ?_)
  refine RN_end ?_
  refine WQ_keep [(12, _), (11, _), (5, _), (4, _)] ⟨rfl, rfl, rfl, rfl, trivial⟩ ?_
  refine WQ_then ?_
  refine W_block rfl ?_
  refine W_as [(12, _), (11, _), (5, _), (4, _)] [c, .emp, .hp (HP.sep lf), .hp (RdH g (rdBelow 17 bs 0).2.1 (rdBelow 17 bs 0).2.2), OutR (.slice none 0 0) 0 [], .emp, .emp, .emp, .emp] ⟨rfl, rfl, rfl, rfl, trivial⟩ (by repeat' first | exact EntP.nil | refine EntP.same ?_ | refine EntP.drop ?_ | refine EntP.nilRow ?_) ?_
  refine W_loop (σ := Nat × List Prs × List Nat × Int × Value × List Value × Chunk) (fun ⟨i, out, bs1, c1, vo, vs, ac⟩ => (rdBelow 17 bs 0).1.toNat - i) (fun ⟨i, out, bs1, c1, vo, vs, ac⟩ => [(4, .pointer (some ⟨g, 0, none⟩)), (5, vo), (11, .int .i64 (rdBelow 17 bs 0).1), (12, .int .i64 ((i : Nat) : Int))]) (fun ⟨i, out, bs1, c1, vo, vs, ac⟩ => [c, .emp, .hp (HP.sep lf), .hp (RdH g bs1 c1), OutR vo i vs, ac, .emp, .emp, .emp]) (fun ⟨i, out, bs1, c1, vo, vs, ac⟩ => i = out.length ∧ i ≤ (rdBelow 17 bs 0).1.toNat ∧ BOk bs1 ∧ IsRow vo i ∧ Parts ac vs out ∧ certRead bs = (out ++ (rdLists ((rdBelow 17 bs 0).1.toNat - i) bs1 c1).1, (rdLists ((rdBelow 17 bs 0).1.toNat - i) bs1 c1).2)) ((0, [], (rdBelow 17 bs 0).2.1, (rdBelow 17 bs 0).2.2, .slice none 0 0, [], .emp)) rfl (⟨rfl, Nat.zero_le _, hb1, .inl ⟨rfl, rfl⟩, Parts.nil, rfl⟩) (AllIn.sub ⟨rfl, rfl, rfl, rfl, trivial⟩) (EntP.ent (by repeat' first | exact EntP.nil | refine EntP.same ?_ | refine EntP.drop ?_ | refine EntP.nilRow ?_)) ?_
  rintro ⟨i, out, bs1, c1, vo, vs, ac⟩ hI
  refine W_as [(4, .pointer (some ⟨g, 0, none⟩)), (5, vo), (11, .int .i64 (rdBelow 17 bs 0).1), (12, .int .i64 ((i : Nat) : Int))] [c, .emp, .hp (HP.sep lf), .hp (RdH g bs1 c1), OutR vo i vs, ac, .emp, .emp, .emp] ⟨rfl, rfl, rfl, rfl, trivial⟩ (EntP.refl _) ?_
  obtain ⟨hio, ho, hb2, hvo, hP, hE⟩ := hI
  refine W_seq rfl ?_
  refine W_reg (m := 1) rfl rfl ?_
  refine RN_op rfl rfl rfl (st_pure pure_lss rfl rfl rfl ?_)
  refine RN_end ?_
  refine WQ_keep [(13, _), (4, _), (5, _), (11, _), (12, _)] ⟨rfl, rfl, rfl, rfl, rfl, trivial⟩ ?_
  refine WQ_then ?_
  refine W_seq rfl ?_
  refine W_cond rfl rfl (fun hc1 => ?_) (fun hc1 => ?_)
  · obtain ⟨hm0, hm1, hb3, _⟩ := rdBelow_ok (lim := 65536) (c := c1) hb2 (by decide)
    refine W_skip rfl ?_
    refine WQ_then ?_
    refine W_seq rfl ?_
    refine W_block rfl ?_
    refine W_seq rfl ?_
    refine W_reg (m := 1) rfl rfl ?_
    refine RN_op rfl rfl rfl (st_pure pure_assign rfl rfl rfl ?_)
    refine RN_end ?_
    refine WQ_keep [(6, _), (4, _), (5, _), (11, _), (12, _)] ⟨rfl, rfl, rfl, rfl, rfl, trivial⟩ ?_
    refine WQ_then ?_
    refine W_seq rfl ?_
    refine W_seq rfl ?_
    refine W_reg (m := 3) rfl rfl ?_
    refine RN_op rfl rfl rfl (st_pure pure_move rfl rfl rfl ?_)
    refine RN_op rfl rfl rfl (s_ct (R := []) (W := [3]) (x0 := ()) (ct_Below g bs1 c1 65536 hb2 (by decide) (by decide)) fnF49 rfl rfl rfl rfl (by decide) rfl (fun _ => rfl) rfl rfl fun _ => ?_)
    refine RN_op rfl rfl rfl (st_pure pure_move rfl rfl rfl ?_)
    refine RN_end ?_
    refine WQ_keep [(16, _), (15, _), (6, _), (4, _), (5, _), (11, _), (12, _)] ⟨rfl, rfl, rfl, rfl, rfl, rfl, rfl, trivial⟩ ?_
    refine WQ_then ?_
    refine W_block rfl ?_
    refine W_as [(16, _), (15, _), (6, _), (12, _), (11, _), (5, _), (4, _)] [c, .emp, .hp (HP.sep lf), .hp (RdH g (rdBelow 65536 bs1 c1).2.1 (rdBelow 65536 bs1 c1).2.2), OutR vo i vs, ac, PrR (.slice none 0 0) [], .emp, .emp] ⟨rfl, rfl, rfl, rfl, rfl, rfl, rfl, trivial⟩ (by repeat' first | exact EntP.nil | refine EntP.same ?_ | refine EntP.drop ?_ | refine EntP.nilRow ?_) ?_
    refine W_loop (σ := Nat × Prs × List Nat × Int × Value) (fun ⟨k, ls, bs2, c2, vl⟩ => (rdBelow 65536 bs1 c1).1.toNat - k) (fun ⟨k, ls, bs2, c2, vl⟩ => [(4, .pointer (some ⟨g, 0, none⟩)), (5, vo), (6, vl), (11, .int .i64 (rdBelow 17 bs 0).1), (12, .int .i64 ((i : Nat) : Int)), (15, .int .i64 (rdBelow 65536 bs1 c1).1), (16, .int .i64 ((k : Nat) : Int))]) (fun ⟨k, ls, bs2, c2, vl⟩ => [c, .emp, .hp (HP.sep lf), .hp (RdH g bs2 c2), OutR vo i vs, ac, PrR vl ls, .emp, .emp]) (fun ⟨k, ls, bs2, c2, vl⟩ => k ≤ (rdBelow 65536 bs1 c1).1.toNat ∧ List.length ls ≤ k ∧ BOk bs2 ∧ IsRow vl (List.length ls) ∧ rdPairs (rdBelow 65536 bs1 c1).1.toNat (rdBelow 65536 bs1 c1).2.1 (rdBelow 65536 bs1 c1).2.2 = (ls ++ (rdPairs ((rdBelow 65536 bs1 c1).1.toNat - k) bs2 c2).1, (rdPairs ((rdBelow 65536 bs1 c1).1.toNat - k) bs2 c2).2)) ((0, [], (rdBelow 65536 bs1 c1).2.1, (rdBelow 65536 bs1 c1).2.2, .slice none 0 0)) rfl (⟨Nat.zero_le _, Nat.le_refl _, hb3, .inl ⟨rfl, rfl⟩, rfl⟩) (AllIn.sub ⟨rfl, rfl, rfl, rfl, rfl, rfl, rfl, trivial⟩) (EntP.ent (by repeat' first | exact EntP.nil | refine EntP.same ?_ | refine EntP.drop ?_ | refine EntP.nilRow ?_)) ?_
    rintro ⟨k, ls, bs2, c2, vl⟩ hI2
    refine W_as [(4, .pointer (some ⟨g, 0, none⟩)), (5, vo), (6, vl), (11, .int .i64 (rdBelow 17 bs 0).1), (12, .int .i64 ((i : Nat) : Int)), (15, .int .i64 (rdBelow 65536 bs1 c1).1), (16, .int .i64 ((k : Nat) : Int))] [c, .emp, .hp (HP.sep lf), .hp (RdH g bs2 c2), OutR vo i vs, ac, PrR vl ls, .emp, .emp] ⟨rfl, rfl, rfl, rfl, rfl, rfl, rfl, trivial⟩ (EntP.refl _) ?_
    obtain ⟨hk, hls, hb4, hvl, hE2⟩ := hI2
    refine W_seq rfl ?_
    refine W_reg (m := 1) rfl rfl ?_
    refine RN_op rfl rfl rfl (st_pure pure_lss rfl rfl rfl ?_)
    refine RN_end ?_
    refine WQ_keep [(17, _), (4, _), (5, _), (6, _), (11, _), (12, _), (15, _), (16, _)] ⟨rfl, rfl, rfl, rfl, rfl, rfl, rfl, rfl, trivial⟩ ?_
    refine WQ_then ?_
    refine W_seq rfl ?_
    refine W_cond rfl rfl (fun hc2 => ?_) (fun hc2 => ?_)
    · refine W_skip rfl ?_
      refine WQ_then ?_
      refine W_seq rfl ?_
      refine W_block rfl ?_
      refine W_seq rfl ?_
      refine W_reg (m := 3) rfl rfl ?_
      refine RN_op rfl rfl rfl (st_pure pure_move rfl rfl rfl ?_)
      refine RN_op rfl rfl rfl (s_ct (R := []) (W := [3]) (x0 := ()) (ct_Code g bs2 c2) fnF50 rfl rfl rfl rfl (by decide) rfl (fun _ => rfl) rfl rfl fun _ => ?_)
      refine RN_op rfl rfl rfl (st_pure pure_eql rfl rfl rfl ?_)
      refine RN_end ?_
      refine WQ_keep [(20, _), (4, _), (5, _), (6, _), (11, _), (12, _), (15, _), (16, _)] ⟨rfl, rfl, rfl, rfl, rfl, rfl, rfl, rfl, trivial⟩ ?_
      refine WQ_then ?_
      refine W_cond rfl rfl (fun hc3 => ?_) (fun hc3 => ?_)
      · subst hc3
        obtain ⟨_, _, hb5, _⟩ := rdBelow_ok (lim := 4096) (c := 0) hb4 (by decide)
        obtain ⟨_, _, hb6, _⟩ := rdBelow_ok (lim := 4096) (c := (rdBelow 4096 bs2 0).2.2) hb5 (by decide)
        refine W_reg (m := 9) rfl rfl ?_
        refine RN_op rfl rfl rfl (st_pure pure_move rfl rfl rfl ?_)
        refine RN_op rfl rfl rfl (st_pure pure_move rfl rfl rfl ?_)
        refine RN_op rfl rfl rfl (s_ct (R := []) (W := [3]) (x0 := ()) (ct_Below g bs2 0 4096 hb4 (by decide) (by decide)) fnF49 rfl rfl rfl rfl (by decide) rfl (fun _ => rfl) rfl rfl fun _ => ?_)
        refine RN_op rfl rfl rfl (st_pure pure_move rfl rfl rfl ?_)
        refine RN_op rfl rfl rfl (s_ct (R := []) (W := [3]) (x0 := ()) (ct_Below g (rdBelow 4096 bs2 0).2.1 (rdBelow 4096 bs2 0).2.2 4096 hb5 (by decide) (by decide)) fnF49 rfl rfl rfl rfl (by decide) rfl (fun _ => rfl) rfl rfl fun _ => ?_)
        refine RN_op rfl rfl rfl (st_pure (pure_build Try.underlying114 zr114 (pl114 Try.underlying114)) rfl rfl rfl ?_)
        refine RN_op rfl rfl rfl (s_al 7 (alloc_buildSlice Try.underlying26 el26.zero rfl (by decide)) rfl rfl rfl fun g7 => ?_)
        refine RN_op rfl rfl rfl (s_appR 7 6 rfl el26 rfl rfl rfl rfl rfl toRow_row (rds_blk rfl (by decide)) AllOne.out (by omega) (by omega) rfl rfl fun v28 hv28 => ?_)
        rw [prs_snoc ls ((rdBelow 4096 bs2 0).1, (rdBelow 4096 (rdBelow 4096 bs2 0).2.1 (rdBelow 4096 bs2 0).2.2).1), psnoc_length ls ((rdBelow 4096 bs2 0).1, (rdBelow 4096 (rdBelow 4096 bs2 0).2.1 (rdBelow 4096 bs2 0).2.2).1)]
        rw [psnoc_length ls ((rdBelow 4096 bs2 0).1, (rdBelow 4096 (rdBelow 4096 bs2 0).2.1 (rdBelow 4096 bs2 0).2.2).1)] at hv28
        refine RN_op rfl rfl rfl (st_pure pure_assign rfl rfl rfl ?_)
        refine RN_end ?_
        refine WQ_keep [(6, _), (4, _), (5, _), (11, _), (12, _), (15, _), (16, _)] ⟨rfl, rfl, rfl, rfl, rfl, rfl, rfl, trivial⟩ ?_
        refine WQ_inB ?_
        refine WQ_then ?_
        refine W_reg (m := 2) rfl rfl ?_
        refine RN_op rfl rfl rfl (st_pure (pure_add64 (by omega)) rfl rfl rfl ?_)
        refine RN_op rfl rfl rfl (st_pure pure_move rfl rfl rfl ?_)
        refine RN_end ?_
        refine WQ_keep [(16, _), (6, _), (4, _), (5, _), (11, _), (12, _), (15, _)] ⟨rfl, rfl, rfl, rfl, rfl, rfl, rfl, trivial⟩ ?_
        rw [rdPairs_pos (by omega) bs2, Nat.sub_sub] at hE2
        refine WQ_hand ((k + 1, ls ++ [((rdBelow 4096 bs2 0).1, (rdBelow 4096 (rdBelow 4096 bs2 0).2.1 (rdBelow 4096 bs2 0).2.2).1)], (rdBelow 4096 (rdBelow 4096 bs2 0).2.1 (rdBelow 4096 bs2 0).2.2).2.1, (rdBelow 4096 (rdBelow 4096 bs2 0).2.1 (rdBelow 4096 bs2 0).2.2).2.2, v28)) (⟨by omega, by simp; omega, hb6, hv28, by rw [hE2]; simp⟩) (by (try dsimp only); omega) (AllIn.sub ⟨rfl, rfl, rfl, rfl, rfl, rfl, rfl, trivial⟩) (EntP.ent (by repeat' first | exact EntP.nil | refine EntP.same ?_ | refine EntP.drop ?_ | refine EntP.nilRow ?_))
      · refine W_skip rfl ?_
        refine WQ_inB ?_
        refine WQ_then ?_
        refine W_reg (m := 2) rfl rfl ?_
        refine RN_op rfl rfl rfl (st_pure (pure_add64 (by omega)) rfl rfl rfl ?_)
        refine RN_op rfl rfl rfl (st_pure pure_move rfl rfl rfl ?_)
        refine RN_end ?_
        refine WQ_keep [(16, _), (4, _), (5, _), (6, _), (11, _), (12, _), (15, _)] ⟨rfl, rfl, rfl, rfl, rfl, rfl, rfl, trivial⟩ ?_
        rw [rdPairs_stuck hc3] at hE2
        refine WQ_hand ((k + 1, ls, bs2, c2, vl)) (⟨by omega, by omega, hb4, hvl, by rw [hE2, rdPairs_stuck hc3]⟩) (by (try dsimp only); omega) (AllIn.sub ⟨rfl, rfl, rfl, rfl, rfl, rfl, rfl, trivial⟩) (EntP.ent (by repeat' first | exact EntP.nil | refine EntP.same ?_ | refine EntP.drop ?_ | refine EntP.nilRow ?_))
    · refine W_exit rfl ?_
      refine WQ_thenX rfl ?_
      refine WQ_thenX rfl ?_
      refine WQ_hit ?_
      refine WQ_then ?_
      have hk2 : (rdBelow 65536 bs1 c1).1.toNat - k = 0 := by omega
      rw [hk2] at hE2
      haveI := hvl.one
      refine W_reg (m := 5) rfl rfl ?_
      refine RN_op rfl rfl rfl (st_pure pure_move rfl rfl rfl ?_)
      refine RN_op rfl rfl rfl (st_pure pure_move rfl rfl rfl ?_)
      refine RN_op rfl rfl rfl (s_al 8 (alloc_buildSlice Try.underlying22 el22.zero rfl (by decide)) rfl rfl rfl fun g8 => ?_)
      refine RN_op rfl rfl rfl (s_appR 8 4 rfl el22 rfl rfl rfl rfl rfl toRow_row (rds_blk rfl (by decide)) AllOne.out (by omega) (by omega) rfl rfl fun v33 hv33 => ?_)
      refine RN_op rfl rfl rfl (st_pure pure_assign rfl rfl rfl ?_)
      refine RN_end ?_
      refine WQ_keep [(5, _), (4, _), (11, _), (12, _)] ⟨rfl, rfl, rfl, rfl, trivial⟩ ?_
      refine WQ_exP (L' := fun d => [c, .emp, .hp (HP.sep lf), .hp (RdH g bs2 c2), OutR v33 (i + 1) (vs ++ [vl]), d, .emp, .emp, .emp]) (p := fun d => Parts d (vs ++ [vl]) (out ++ [ls])) (fun w hs _ => ?_) fun d hP2 => ?_
      · obtain ⟨d, h1, h2, h3⟩ := hs.freeze2 5 6 (by decide)
        exact ⟨d, (show EntP _ _ from (by repeat' first | exact EntP.nil | refine EntP.same ?_ | refine EntP.drop ?_ | refine EntP.nilRow ?_)).ent.sat h1, hP.snoc h2 ((rds_row hvl (prs_length ls)).mono h3)⟩
      refine WQ_inB ?_
      refine WQ_then ?_
      refine W_reg (m := 2) rfl rfl ?_
      refine RN_op rfl rfl rfl (st_pure (pure_add64 (by omega)) rfl rfl rfl ?_)
      refine RN_op rfl rfl rfl (st_pure pure_move rfl rfl rfl ?_)
      refine RN_end ?_
      refine WQ_keep [(12, _), (5, _), (4, _), (11, _)] ⟨rfl, rfl, rfl, rfl, trivial⟩ ?_
      rw [rdLists_pos (by omega), hE2, Nat.sub_sub] at hE
      refine WQ_hand ((i + 1, out ++ [ls], bs2, c2, v33, vs ++ [vl], d)) (⟨by simp [hio], by omega, hb4, hv33, hP2, by rw [hE]; simp [rdPairs]⟩) (by (try dsimp only); omega) (AllIn.sub ⟨rfl, rfl, rfl, rfl, trivial⟩) (EntP.ent (by repeat' first | exact EntP.nil | refine EntP.same ?_ | refine EntP.drop ?_ | refine EntP.nilRow ?_))
  · refine W_exit rfl ?_
    refine WQ_thenX rfl ?_
    refine WQ_thenX rfl ?_
    refine WQ_hit ?_
    refine WQ_then ?_
    refine W_seq rfl ?_
    refine W_seq rfl ?_
    have hi2 : (rdBelow 17 bs 0).1.toNat - i = 0 := by omega
    rw [hi2] at hE
    have e1 : (certRead bs).1 = out := by rw [hE]; simp [rdLists]
    have e2 : certErr bs = rdEndC bs1 c1 := by unfold certErr; rw [hE]; rfl
    refine W_reg (m := 3) rfl rfl ?_
    refine RN_op rfl rfl rfl (st_pure pure_move rfl rfl rfl ?_)
    refine RN_op rfl rfl rfl (s_ct (R := []) (W := [3]) (x0 := ()) (ct_End g bs1 c1) fnF51 rfl rfl rfl rfl (by decide) rfl (fun _ => rfl) rfl rfl fun _ => ?_)
    refine RN_op rfl rfl rfl (st_pure pure_assign rfl rfl rfl ?_)
    refine RN_end ?_
    refine WQ_keep [(7, _), (5, _)] ⟨rfl, rfl, trivial⟩ ?_
    refine WQ_then ?_
    refine W_seq rfl ?_
    refine W_reg (m := 2) rfl rfl ?_
    refine RN_op rfl rfl rfl (st_pure pure_move rfl rfl rfl ?_)
    refine RN_op rfl rfl rfl (st_pure pure_neq rfl rfl rfl ?_)
    refine RN_end ?_
    refine WQ_keep [(38, _), (7, _), (5, _)] ⟨rfl, rfl, rfl, trivial⟩ ?_
    refine WQ_then ?_
    refine W_cond rfl rfl (fun hc4 => ?_) (fun hc4 => ?_)
    · refine W_seq rfl ?_
      refine W_reg (m := 3) rfl rfl ?_
      refine RN_op rfl rfl rfl (st_pure pure_move rfl rfl rfl ?_)
      refine RN_op rfl rfl rfl (st_pure pure_assign rfl rfl rfl ?_)
      refine RN_op rfl rfl rfl (st_pure pure_assign rfl rfl rfl ?_)
      refine RN_end ?_
      refine WQ_keep [(3, _), (2, _)] ⟨rfl, rfl, trivial⟩ ?_
      refine WQ_then ?_
      refine W_ret rfl ?_
      refine WQ_thenX rfl ?_
      refine WQ_ret (vs := [_, _]) (by rw [Try.results16]; rfl) fun w' hs' he' => ?_
      have e3 : certGot bs = [] := by unfold certGot; rw [if_neg (by rw [e2]; exact hc4)]
      rw [e3, e2]
      exact ⟨.slice none 0 0, rfl, (cert_open.2 ⟨.emp, cert_nil, hs'.pick [1, 0, 2] (by decide)⟩ : SatC w' [.hp (CertH (.slice none 0 0) []), c, .hp (HP.sep lf)]).pick [1, 0, 2] (by decide), he'⟩
    · refine W_skip rfl ?_
      refine WQ_then ?_
      refine W_seq rfl ?_
      refine W_reg (m := 3) rfl rfl ?_
      refine RN_op rfl rfl rfl (st_pure pure_move rfl rfl rfl ?_)
      refine RN_op rfl rfl rfl (st_pure pure_assign rfl rfl rfl ?_)
      refine RN_op rfl rfl rfl (st_pure pure_assign rfl rfl rfl ?_)
      refine RN_end ?_
      refine WQ_keep [(3, _), (2, _)] ⟨rfl, rfl, trivial⟩ ?_
      refine WQ_then ?_
      refine W_ret rfl ?_
      refine WQ_ret (vs := [_, _]) (by rw [Try.results16]; rfl) fun w' hs' he' => ?_
      have hc5 : rdEndC bs1 c1 = 0 := by omega
      have e3 : certGot bs = out := by unfold certGot; rw [e2, if_pos hc5, e1]
      rw [e3, e2, hc5]
      obtain ⟨d, h1, h2, h3⟩ := hs'.freeze2 4 5 (by decide)
      subst hio
      exact ⟨vo, rfl, (cert_open.2 ⟨d, hP.cert (rds_row hvo (by simp [hP.1])) h2 h3, h1.pick [4, 0, 2] (by decide)⟩ : SatC w' [.hp (CertH vo out), c, .hp (HP.sep lf)]).pick [1, 0, 2] (by decide), he'⟩
end Go.Proofs.Ytlgfinchhnbhdaa
