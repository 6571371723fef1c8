/- Certificates: the walks of what compares and writes them. -/
import Derived.Test.YtlgfinchhnbhdaaWireC
import Derived.Test.YtlgfinchhnbhdaaEngS
set_option linter.unusedVariables false
set_option linter.unusedSimpArgs false
namespace Go.Proofs.Ytlgfinchhnbhdaa
open Go Go.RowKit

theorem is_Pair : IntS Try.prog 114 2 := intS_of Try.underlying114 (by kernel_rfl) (by kernel_rfl) ⟨by decide, rfl, ⟨_, Try.underlying3⟩, by decide, rfl, ⟨_, Try.underlying3⟩, trivial⟩ rfl
def prs (ps : Prs) : List Value := ps.flatMap fun p => [.int .i64 p.1, .int .i64 p.2]
theorem prs_length (ps : Prs) : (prs ps).length = ps.length * 2 := by
  induction ps with
  | nil => rfl
  | cons p ps ih => simp [prs] at ih ⊢; omega
theorem prs_get : ∀ (ps : Prs) (i : Nat), i < ps.length → ∀ k u, [Value.int .i64 (pp ps i).1, .int .i64 (pp ps i).2][k]? = some u → (prs ps)[i * 2 + k]? = some u
  | [], i, h, _, _, _ => by simp at h
  | p :: ps, 0, h, k, u, hu => by
    match k, hu with
    | 0, hu => simpa [prs, pp] using hu
    | 1, hu => simpa [prs, pp] using hu
    | k + 2, hu => simp at hu
  | p :: ps, i + 1, h, k, u, hu => by
    have := prs_get ps i (by simpa using h) k u (by simpa [pp] using hu)
    rw [show (i + 1) * 2 + k = (i * 2 + k) + 2 by omega]
    simpa [prs] using this
theorem prs_one (ps : Prs) : ∀ u ∈ prs ps, u.oneCell' = true := by
  intro u hu
  obtain ⟨p, _, h⟩ := List.mem_flatMap.1 hu
  simp at h
  rcases h with rfl | rfl <;> rfl

set_option maxRecDepth 100000 in
theorem ct_SamePairs (c : Chunk) (va vb : Value) (ps qs : Prs) (ha : Rds c va ps.length 2 (prs ps)) (hb : Rds c vb qs.length 2 (prs qs)) : Ct Try.prog 54 [va, vb] [c] [] (X := Unit) (fun _ => .bool (decide (ps = qs))) (fun _ => []) := by
  refine ct_of fun w l hs => ?_
  have hra := ha.row
  have hrb := hb.row
  have hma := hra.max
  have hmb := hrb.max
  unfold maxLen at hma hmb
  refine enter (c := bodyOf Try.f54) Try.func54 rfl Try.ntmps54 rfl (L := [c, .hp (HP.sep l)]) hs ?_
  refine W_seq rfl ?_
  refine W_reg (m := 1) rfl rfl ?_
  refine RN_op rfl rfl rfl (st_pure pure_assign rfl rfl rfl ?_)
  refine RN_end ?_
  refine WQ_keep [(0, _), (1, _)] ⟨rfl, rfl, trivial⟩ ?_
  refine WQ_then ?_
  refine W_seq rfl ?_
  refine W_seq rfl ?_
  refine W_reg (m := 5) rfl rfl ?_
  refine RN_op rfl rfl rfl (st_pure pure_move rfl rfl rfl ?_)
  refine RN_op rfl rfl rfl (st_pure (pure_lenR Try.underlying26 hra) rfl rfl rfl ?_)
  refine RN_op rfl rfl rfl (st_pure pure_move rfl rfl rfl ?_)
  refine RN_op rfl rfl rfl (st_pure (pure_lenR Try.underlying26 hrb) rfl rfl rfl ?_)
  refine RN_op rfl rfl rfl (st_pure pure_neq rfl rfl rfl ?_)
  refine RN_end ?_
  refine WQ_keep [(10, _), (0, _), (1, _)] ⟨rfl, rfl, rfl, trivial⟩ ?_
  refine WQ_then ?_
  refine W_cond rfl rfl (fun hc1 => ?_) (fun hc1 => ?_)
  · refine W_seq rfl ?_
    refine W_reg (m := 1) rfl rfl ?_
    refine RN_op rfl rfl rfl (st_pure pure_assign rfl rfl rfl ?_)
    refine RN_end ?_
    refine WQ_keep [(4, _)] ⟨rfl, trivial⟩ ?_
    refine WQ_then ?_
    refine W_ret rfl ?_
    refine WQ_thenX rfl ?_
    refine WQ_ret (vs := [_]) (by rw [Try.results54]; rfl) fun w' hs' he' => ?_
    have e : decide (ps = qs) = false := decide_eq_false (fun h => hc1 (by rw [h]))
    rw [e]
    exact ⟨(), rfl, hs', he'⟩
  · have hlen : ps.length = qs.length := by omega
    refine W_skip rfl ?_
    refine WQ_then ?_
    refine W_seq rfl ?_
    refine W_seq rfl ?_
    refine W_reg (m := 1) rfl rfl ?_
    refine RN_op rfl rfl rfl (st_pure pure_assign rfl rfl rfl ?_)
    refine RN_end ?_
    refine WQ_keep [(5, _), (0, _), (1, _)] ⟨rfl, rfl, rfl, trivial⟩ ?_
    refine WQ_then ?_
    refine W_block rfl ?_
    refine W_loop (σ := Nat) (fun i => ps.length - i) (fun i => [(0, va), (1, vb), (5, .int .i64 ((i : Nat) : Int))]) (fun i => [c, .hp (HP.sep l)]) (fun i => i ≤ ps.length ∧ ∀ j, j < i → pp ps j = pp qs j) (0) rfl (⟨Nat.zero_le _, fun j hj => by omega⟩) (AllIn.sub ⟨rfl, rfl, rfl, trivial⟩) (EntP.ent (by repeat' first | exact EntP.nil | refine EntP.same ?_ | refine EntP.drop ?_ | refine EntP.nilRow ?_)) ?_
    rintro i hI
    refine W_as [(0, va), (1, vb), (5, .int .i64 ((i : Nat) : Int))] [c, .hp (HP.sep l)] ⟨rfl, rfl, rfl, trivial⟩ (EntP.refl _) ?_
    obtain ⟨hi, hI⟩ := hI
    refine W_seq rfl ?_
    refine W_seq rfl ?_
    refine W_reg (m := 4) rfl rfl ?_
    refine RN_op rfl rfl rfl (st_pure pure_move rfl rfl rfl ?_)
    refine RN_op rfl rfl rfl (st_pure pure_move rfl rfl rfl ?_)
    refine RN_op rfl rfl rfl (st_pure (pure_lenR Try.underlying26 hra) rfl rfl rfl ?_)
    refine RN_op rfl rfl rfl (st_pure pure_lss rfl rfl rfl ?_)
    refine RN_end ?_
    refine WQ_keep [(14, _), (0, _), (1, _), (5, _)] ⟨rfl, rfl, rfl, rfl, trivial⟩ ?_
    refine WQ_then ?_
    refine W_cond rfl rfl (fun hc2 => ?_) (fun hc2 => ?_)
    · refine W_skip rfl ?_
      refine WQ_then ?_
      refine W_seq rfl ?_
      refine W_block rfl ?_
      refine W_seq rfl ?_
      refine W_draw (m := 9) [(3, Spec.ldN 0 2), (7, Spec.ldN 0 2)] #[0, 0, 3, 7, 0, 0, 48, 112, 255] rfl rfl mixed (by kernel_rfl) (by kernel_rfl) ?_
      refine RG_op rfl rfl rfl rfl (st_pure pure_move rfl rfl rfl ?_)
      refine RG_op rfl rfl rfl rfl (st_pure pure_move rfl rfl rfl ?_)
      refine RG_op rfl rfl rfl rfl (st_pure (pure_indexR Try.underlying26 sz114 hra (by omega)) rfl rfl rfl ?_)
      refine RG_op rfl rfl rfl rfl (st_ldN 0 rfl Try.underlying114 rfl sz114 rfl rfl (ha.cells (by omega) rfl (prs_get ps i (by omega))) rfl rfl ?_)
      refine RG_op rfl rfl rfl rfl (st_pure pure_move rfl rfl rfl ?_)
      refine RG_op rfl rfl rfl rfl (st_pure pure_move rfl rfl rfl ?_)
      refine RG_op rfl rfl rfl rfl (st_pure (pure_indexR Try.underlying26 sz114 hrb (by omega)) rfl rfl rfl ?_)
      refine RG_op rfl rfl rfl rfl (st_ldN 0 rfl Try.underlying114 rfl sz114 rfl rfl (hb.cells (by omega) rfl (prs_get qs i (by omega))) rfl rfl ?_)
      refine RG_op rfl rfl rfl rfl (st_pure (pure_neqS2 [.i64, .i64] [(pp ps i).1, (pp ps i).2] [(pp qs i).1, (pp qs i).2] is_Pair rfl rfl rfl) rfl rfl rfl ?_)
      refine RG_end ?_
      refine WQ_keep [(25, _), (0, _), (1, _), (5, _)] ⟨rfl, rfl, rfl, rfl, trivial⟩ ?_
      refine WQ_then ?_
      refine W_cond rfl rfl (fun hc3 => ?_) (fun hc3 => ?_)
      · refine W_seq rfl ?_
        refine W_reg (m := 1) rfl rfl ?_
        refine RN_op rfl rfl rfl (st_pure pure_assign rfl rfl rfl ?_)
        refine RN_end ?_
        refine WQ_keep [(4, _)] ⟨rfl, trivial⟩ ?_
        refine WQ_then ?_
        refine W_ret rfl ?_
        refine WQ_inBR ?_
        refine WQ_thenX rfl ?_
        refine WQ_thenX rfl ?_
        refine WQ_inBR ?_
        refine WQ_thenX rfl ?_
        refine WQ_ret (vs := [_]) (by rw [Try.results54]; rfl) fun w' hs' he' => ?_
        have e : decide (ps = qs) = false := decide_eq_false (fun h => hc3 (by rw [h]))
        rw [e]
        exact ⟨(), rfl, hs', he'⟩
      · refine W_skip rfl ?_
        refine WQ_inB ?_
        refine WQ_then ?_
        refine W_reg (m := 3) rfl rfl ?_
        refine RN_op rfl rfl rfl (st_pure pure_move rfl rfl rfl ?_)
        refine RN_op rfl rfl rfl (st_pure (pure_add64 (by omega)) rfl rfl rfl ?_)
        refine RN_op rfl rfl rfl (st_pure pure_assign rfl rfl rfl ?_)
        refine RN_end ?_
        refine WQ_keep [(5, _), (0, _), (1, _)] ⟨rfl, rfl, rfl, trivial⟩ ?_
        have hh : pp ps i = pp qs i := by
          simp only [Decidable.not_not, List.cons.injEq, and_true] at hc3
          exact Prod.ext hc3.1 hc3.2
        have hI2 : ∀ j, j < i + 1 → pp ps j = pp qs j := fun j hj => by
          rcases Nat.lt_or_ge j i with h | h
          · exact hI j h
          · have : j = i := by omega
            rw [this, hh]
        refine WQ_hand (i + 1) (⟨by omega, hI2⟩) (by (try dsimp only); omega) (AllIn.sub ⟨rfl, rfl, rfl, trivial⟩) (EntP.ent (by repeat' first | exact EntP.nil | refine EntP.same ?_ | refine EntP.drop ?_ | refine EntP.nilRow ?_))
    · refine W_exit rfl ?_
      refine WQ_thenX rfl ?_
      refine WQ_thenX rfl ?_
      refine WQ_hit ?_
      refine WQ_then ?_
      refine W_seq rfl ?_
      refine W_reg (m := 1) rfl rfl ?_
      refine RN_op rfl rfl rfl (st_pure pure_assign rfl rfl rfl ?_)
      refine RN_end ?_
      refine WQ_keep [(4, _)] ⟨rfl, trivial⟩ ?_
      refine WQ_then ?_
      refine W_ret rfl ?_
      refine WQ_ret (vs := [_]) (by rw [Try.results54]; rfl) fun w' hs' he' => ?_
      have e : decide (ps = qs) = true := decide_eq_true (prs_eq hlen fun j hj => hI j (by omega))
      rw [e]
      exact ⟨(), rfl, hs', he'⟩

/-- A certificate in memory. -/
def CertR (c : Chunk) (v : Value) (l : List Prs) : Prop := ∃ vs : List Value, Rds c v l.length 1 vs ∧ ∀ i, i < l.length → ∃ vi, vs[i]? = some vi ∧ Rds c vi (ll l i).length 2 (prs (ll l i))
theorem CertR.at_ {c : Chunk} {v : Value} {l : List Prs} (h : CertR c v l) (i : Nat) (hi : i < l.length) : ∃ vi, c.cell (eaddr v (i * 1)) = some vi ∧ Rds c vi (ll l i).length 2 (prs (ll l i)) := by
  obtain ⟨vs, h1, h2⟩ := h
  obtain ⟨vi, h3, h4⟩ := h2 i hi
  exact ⟨vi, by rw [Nat.mul_one]; exact h1.cell h3, h4⟩
theorem CertR.row {c : Chunk} {v : Value} {l : List Prs} (h : CertR c v l) : IsRow v l.length := let ⟨_, h1, _⟩ := h; h1.row

set_option maxRecDepth 100000 in
theorem ct_SameCerts (c : Chunk) (va vb : Value) (l m : List Prs) (ha : CertR c va l) (hb : CertR c vb m) : Ct Try.prog 18 [va, vb] [c] [] (X := Unit) (fun _ => .bool (decide (l = m))) (fun _ => []) := by
  refine ct_of fun w lf hs => ?_
  have hra := ha.row
  have hrb := hb.row
  have hma := hra.max
  have hmb := hrb.max
  unfold maxLen at hma hmb
  refine enter (c := bodyOf Try.f18) Try.func18 rfl Try.ntmps18 rfl (L := [c, .hp (HP.sep lf)]) hs ?_
  refine W_seq rfl ?_
  refine W_reg (m := 1) rfl rfl ?_
  refine RN_op rfl rfl rfl (st_pure pure_assign rfl rfl rfl ?_)
  refine RN_end ?_
  refine WQ_keep [(0, _), (1, _)] ⟨rfl, rfl, trivial⟩ ?_
  refine WQ_then ?_
  refine W_seq rfl ?_
  refine W_seq rfl ?_
  refine W_reg (m := 5) rfl rfl ?_
  refine RN_op rfl rfl rfl (st_pure pure_move rfl rfl rfl ?_)
  refine RN_op rfl rfl rfl (st_pure (pure_lenR Try.underlying22 hra) rfl rfl rfl ?_)
  refine RN_op rfl rfl rfl (st_pure pure_move rfl rfl rfl ?_)
  refine RN_op rfl rfl rfl (st_pure (pure_lenR Try.underlying22 hrb) rfl rfl rfl ?_)
  refine RN_op rfl rfl rfl (st_pure pure_neq rfl rfl rfl ?_)
  refine RN_end ?_
  refine WQ_keep [(10, _), (0, _), (1, _)] ⟨rfl, rfl, rfl, trivial⟩ ?_
  refine WQ_then ?_
  refine W_cond rfl rfl (fun hc1 => ?_) (fun hc1 => ?_)
  · refine W_seq rfl ?_
    refine W_reg (m := 1) rfl rfl ?_
    refine RN_op rfl rfl rfl (st_pure pure_assign rfl rfl rfl ?_)
    refine RN_end ?_
    refine WQ_keep [(4, _)] ⟨rfl, trivial⟩ ?_
    refine WQ_then ?_
    refine W_ret rfl ?_
    refine WQ_thenX rfl ?_
    refine WQ_ret (vs := [_]) (by rw [Try.results18]; rfl) fun w' hs' he' => ?_
    have e : decide (l = m) = false := decide_eq_false (fun h => hc1 (by rw [h]))
    rw [e]
    exact ⟨(), rfl, hs', he'⟩
  · have hlen : l.length = m.length := by omega
    refine W_skip rfl ?_
    refine WQ_then ?_
    refine W_seq rfl ?_
    refine W_seq rfl ?_
    refine W_reg (m := 1) rfl rfl ?_
    refine RN_op rfl rfl rfl (st_pure pure_assign rfl rfl rfl ?_)
    refine RN_end ?_
    refine WQ_keep [(5, _), (0, _), (1, _)] ⟨rfl, rfl, rfl, trivial⟩ ?_
    refine WQ_then ?_
    refine W_block rfl ?_
    refine W_loop (σ := Nat) (fun i => l.length - i) (fun i => [(0, va), (1, vb), (5, .int .i64 ((i : Nat) : Int))]) (fun i => [c, .hp (HP.sep lf)]) (fun i => i ≤ l.length ∧ ∀ j, j < i → ll l j = ll m j) (0) rfl (⟨Nat.zero_le _, fun j hj => by omega⟩) (AllIn.sub ⟨rfl, rfl, rfl, trivial⟩) (EntP.ent (by repeat' first | exact EntP.nil | refine EntP.same ?_ | refine EntP.drop ?_ | refine EntP.nilRow ?_)) ?_
    rintro i hI
    refine W_as [(0, va), (1, vb), (5, .int .i64 ((i : Nat) : Int))] [c, .hp (HP.sep lf)] ⟨rfl, rfl, rfl, trivial⟩ (EntP.refl _) ?_
    obtain ⟨hi, hI⟩ := hI
    refine W_seq rfl ?_
    refine W_seq rfl ?_
    refine W_reg (m := 4) rfl rfl ?_
    refine RN_op rfl rfl rfl (st_pure pure_move rfl rfl rfl ?_)
    refine RN_op rfl rfl rfl (st_pure pure_move rfl rfl rfl ?_)
    refine RN_op rfl rfl rfl (st_pure (pure_lenR Try.underlying22 hra) rfl rfl rfl ?_)
    refine RN_op rfl rfl rfl (st_pure pure_lss rfl rfl rfl ?_)
    refine RN_end ?_
    refine WQ_keep [(14, _), (0, _), (1, _), (5, _)] ⟨rfl, rfl, rfl, rfl, trivial⟩ ?_
    refine WQ_then ?_
    refine W_cond rfl rfl (fun hc2 => ?_) (fun hc2 => ?_)
    · refine W_skip rfl ?_
      refine WQ_then ?_
      refine W_seq rfl ?_
      refine W_block rfl ?_
      refine W_seq rfl ?_
      obtain ⟨vi, hvi, hRi⟩ := ha.at_ i (by omega)
      obtain ⟨ui, hui, hSi⟩ := hb.at_ i (by omega)
      refine W_draw (m := 10) [(3, Spec.ld 0), (7, Spec.ld 0), (8, Spec.ct [0] [] (.func (.func 54) #[] #[]) [vi, ui] [c] [] (X := Unit) () (fun _ => .bool (decide (ll l i = ll m i))) (fun _ => []))] #[0, 0, 3, 7, 0, 0, 48, 112, 255, 511] rfl rfl mixed (by kernel_rfl) (by kernel_rfl) ?_
      refine RG_op rfl rfl rfl rfl (st_pure pure_move rfl rfl rfl ?_)
      refine RG_op rfl rfl rfl rfl (st_pure pure_move rfl rfl rfl ?_)
      refine RG_op rfl rfl rfl rfl (st_pure (pure_indexR Try.underlying22 sz26 hra (by omega)) rfl rfl rfl ?_)
      refine RG_op rfl rfl rfl rfl (st_ld 0 rfl Try.underlying26 rfl rfl rfl hvi rfl rfl ?_)
      refine RG_op rfl rfl rfl rfl (st_pure pure_move rfl rfl rfl ?_)
      refine RG_op rfl rfl rfl rfl (st_pure pure_move rfl rfl rfl ?_)
      refine RG_op rfl rfl rfl rfl (st_pure (pure_indexR Try.underlying22 sz26 hrb (by omega)) rfl rfl rfl ?_)
      refine RG_op rfl rfl rfl rfl (st_ld 0 rfl Try.underlying26 rfl rfl rfl hui rfl rfl ?_)
      refine RG_op rfl rfl rfl rfl (s_ct (R := [0]) (W := []) (x0 := ()) (ct_SamePairs c vi ui (ll l i) (ll m i) hRi hSi) fnF54 rfl rfl rfl rfl (by decide) rfl (fun _ => rfl) rfl rfl fun _ => ?_)
      refine RG_op rfl rfl rfl rfl (st_pure pure_notD rfl rfl rfl ?_)
      refine RG_end ?_
      refine WQ_keep [(26, _), (0, _), (1, _), (5, _)] ⟨rfl, rfl, rfl, rfl, trivial⟩ ?_
      refine WQ_then ?_
      refine W_cond rfl rfl (fun hc3 => ?_) (fun hc3 => ?_)
      · refine W_seq rfl ?_
        refine W_reg (m := 1) rfl rfl ?_
        refine RN_op rfl rfl rfl (st_pure pure_assign rfl rfl rfl ?_)
        refine RN_end ?_
        refine WQ_keep [(4, _)] ⟨rfl, trivial⟩ ?_
        refine WQ_then ?_
        refine W_ret rfl ?_
        refine WQ_inBR ?_
        refine WQ_thenX rfl ?_
        refine WQ_thenX rfl ?_
        refine WQ_inBR ?_
        refine WQ_thenX rfl ?_
        refine WQ_ret (vs := [_]) (by rw [Try.results18]; rfl) fun w' hs' he' => ?_
        have e : decide (l = m) = false := decide_eq_false (fun h => hc3 (by rw [h]))
        rw [e]
        exact ⟨(), rfl, hs', he'⟩
      · refine W_skip rfl ?_
        refine WQ_inB ?_
        refine WQ_then ?_
        refine W_reg (m := 3) rfl rfl ?_
        refine RN_op rfl rfl rfl (st_pure pure_move rfl rfl rfl ?_)
        refine RN_op rfl rfl rfl (st_pure (pure_add64 (by omega)) rfl rfl rfl ?_)
        refine RN_op rfl rfl rfl (st_pure pure_assign rfl rfl rfl ?_)
        refine RN_end ?_
        refine WQ_keep [(5, _), (0, _), (1, _)] ⟨rfl, rfl, rfl, trivial⟩ ?_
        have hI2 : ∀ j, j < i + 1 → ll l j = ll m j := fun j hj => by
          rcases Nat.lt_or_ge j i with h | h
          · exact hI j h
          · have : j = i := by omega
            rw [this]
            exact Decidable.of_not_not hc3
        refine WQ_hand (i + 1) (⟨by omega, hI2⟩) (by (try dsimp only); omega) (AllIn.sub ⟨rfl, rfl, rfl, trivial⟩) (EntP.ent (by repeat' first | exact EntP.nil | refine EntP.same ?_ | refine EntP.drop ?_ | refine EntP.nilRow ?_))
    · refine W_exit rfl ?_
      refine WQ_thenX rfl ?_
      refine WQ_thenX rfl ?_
      refine WQ_hit ?_
      refine WQ_then ?_
      refine W_seq rfl ?_
      refine W_reg (m := 1) rfl rfl ?_
      refine RN_op rfl rfl rfl (st_pure pure_assign rfl rfl rfl ?_)
      refine RN_end ?_
      refine WQ_keep [(4, _)] ⟨rfl, trivial⟩ ?_
      refine WQ_then ?_
      refine W_ret rfl ?_
      refine WQ_ret (vs := [_]) (by rw [Try.results18]; rfl) fun w' hs' he' => ?_
      have e : decide (l = m) = true := decide_eq_true (lls_eq hlen fun j hj => hI j (by omega))
      rw [e]
      exact ⟨(), rfl, hs', he'⟩

theorem cert_ok (l : List Prs) (h : ¬ l.length > 16) (hb : certBad l = false) : certOut l = putL (u64 l.length) ++ certL l ∧ certCode l = 0 := by
  unfold certOut certCode
  rw [if_neg (by simp [h, hb]), if_neg h, if_neg (by simp [hb])]
  exact ⟨rfl, rfl⟩
theorem cert_bad (l : List Prs) (h : ¬ l.length > 16) (hb : certBad l = true) : certOut l = [] ∧ certCode l = 2 := by
  unfold certOut certCode
  rw [if_pos (.inr hb), if_neg h, if_pos hb]
  exact ⟨rfl, rfl⟩
theorem cert_many (l : List Prs) (h : l.length > 16) : certOut l = [] ∧ certCode l = 9 := by
  unfold certOut certCode
  rw [if_pos (.inl h), if_pos h]
  exact ⟨rfl, rfl⟩
theorem ints1 (a : Int) : [Value.int .i64 a] = ints [a] := rfl
theorem ints2 (a b : Int) : [Value.int .i64 a, Value.int .i64 b] = ints [a, b] := rfl
theorem puts1 (a : Int) : putsL [a] = putL (u64 a) := by simp [putsL]
theorem puts2 (a b : Int) : putsL [a, b] = putL (u64 a) ++ putL (u64 b) := by simp [putsL]

set_option maxRecDepth 100000 in
set_option maxHeartbeats 1000000 in
theorem ct_Cert (c : Chunk) (v : Value) (l : List Prs) (hR : CertR c v l) (hn : l.length ≤ 1000) (hn2 : ∀ ps ∈ l, ps.length ≤ 10000) : Ct Try.prog 13 [v] [c] [.emp] (X := Value) (fun x => .tuple #[x, .int .i64 (certCode l)]) (fun x => [ByR x (certOut l)]) := by
  refine ct_of fun w lf hs => ?_
  have hr := hR.row
  refine enter (c := bodyOf Try.f13) Try.func13 rfl Try.ntmps13 rfl (L := [c, .emp, .hp (HP.sep lf), .emp, .emp, .emp, .emp, .emp]) (SatC.pad hs 5) ?_
  refine W_seq rfl ?_
  refine W_reg (m := 2) rfl rfl ?_
  refine RN_op rfl rfl rfl (st_pure pure_assign rfl rfl rfl ?_)
  refine RN_op rfl rfl rfl (st_pure pure_assign rfl rfl rfl ?_)
  refine RN_end ?_
  refine WQ_keep [(0, _)] ⟨rfl, trivial⟩ ?_
  refine WQ_then ?_
  refine W_seq rfl ?_
  refine W_reg (m := 3) rfl rfl ?_
  refine RN_op rfl rfl rfl (st_pure (pure_build Try.underlying111 zr111 (pl111 Try.underlying111)) rfl rfl rfl ?_)
  refine RN_op rfl rfl rfl (s_al 3 alloc_boxA rfl rfl rfl fun g3 => ?_)
  refine RN_op rfl rfl rfl (st_pure pure_assign rfl rfl rfl ?_)
  refine RN_end ?_
  refine WQ_keep [(4, _), (0, _)] ⟨rfl, rfl, trivial⟩ ?_
  refine WQ_sat (L' := [c, .emp, .hp (HP.sep lf), .hp (WrH g3 []), .emp, .emp, .emp, .emp]) (fun w hs _ => ?_) ?_
  · have h1 := (EntP.same (EntP.nilRow (e := 5) (s := 1) (EntP.refl _))).ent.sat (hs.pick [3, 1, 0, 2, 4, 5, 6, 7] (by decide))
    exact (wr_open.2 ⟨_, h1⟩ : SatC w [.hp (WrH g3 []), c, .hp (HP.sep lf), .emp, .emp, .emp, .emp]).pick [1, 7, 2, 0, 3, 4, 5, 6] (by decide)
  refine WQ_then ?_
  refine W_seq rfl ?_
  refine W_seq rfl ?_
  refine W_reg (m := 3) rfl rfl ?_
  refine RN_op rfl rfl rfl (st_pure pure_move rfl rfl rfl ?_)
  refine RN_op rfl rfl rfl (st_pure (pure_lenR Try.underlying22 (by assumption)) rfl rfl rfl ?_)
  refine RN_op rfl rfl rfl (st_pure pure_gtr rfl rfl rfl ?_)
  refine RN_end ?_
  refine WQ_keep [(13, _), (4, _), (0, _)] ⟨rfl, rfl, rfl, trivial⟩ ?_
  refine WQ_then ?_
  refine W_cond rfl rfl (fun hc1 => ?_) (fun hc1 => ?_)
  · refine W_seq rfl ?_
    refine W_reg (m := 2) rfl rfl ?_
    refine RN_op rfl rfl rfl (st_pure pure_assign rfl rfl rfl ?_)
    refine RN_op rfl rfl rfl (st_pure pure_assign rfl rfl rfl ?_)
    refine RN_end ?_
    refine WQ_keep [(3, _), (2, _)] ⟨rfl, rfl, trivial⟩ ?_
    refine WQ_then ?_
    refine W_ret rfl ?_
    refine WQ_thenX rfl ?_
    refine WQ_ret (vs := [_, _]) (by rw [Try.results13]; rfl) fun w' hs' he' => ?_
    obtain ⟨e1, e2⟩ := cert_many l (by omega)
    rw [e1, e2]
    exact ⟨.slice none 0 0, rfl, (EntP.same (EntP.nilRow (EntP.same EntP.nil))).ent.sat (hs'.pick [0, 1, 2] (by decide)), he'⟩
  · have hcl := certL_len l 10000 hn2
    refine W_skip rfl ?_
    refine WQ_then ?_
    refine W_seq rfl ?_
    refine W_reg (m := 5) rfl rfl ?_
    refine RN_op rfl rfl rfl (st_pure pure_move rfl rfl rfl ?_)
    refine RN_op rfl rfl rfl (st_pure pure_move rfl rfl rfl ?_)
    refine RN_op rfl rfl rfl (st_pure (pure_lenR Try.underlying22 (by assumption)) rfl rfl rfl ?_)
    refine RN_op rfl rfl rfl (s_al 4 (alloc_buildSlice Try.underlying24 el24.zero rfl (by decide)) rfl rfl rfl fun g4 => ?_)
    refine RN_op rfl rfl rfl (s_ct (R := [4]) (W := [3]) (x0 := ()) (ct_nums g3 (.blk g4 (.cells [.int .i64 (l.length : Int)].toArray 3 (0, 0))) _ [] [(l.length : Int)] (rds_blk rfl (by decide)) (by simp)) fnF46 rfl rfl rfl rfl (by decide) rfl (fun _ => rfl) rfl rfl fun _ => ?_)
    rw [puts1, List.nil_append]
    refine RN_end ?_
    refine WQ_keep [(4, _), (0, _)] ⟨rfl, rfl, trivial⟩ ?_
    refine WQ_then ?_
    refine W_seq rfl ?_
    refine W_seq rfl ?_
    refine W_reg (m := 3) rfl rfl ?_
    refine RN_op rfl rfl rfl (st_pure pure_move rfl rfl rfl ?_)
    refine RN_op rfl rfl rfl (st_pure (pure_lenR Try.underlying22 (by assumption)) rfl rfl rfl ?_)
    refine RN_op rfl rfl rfl (st_pure pure_move rfl rfl rfl ?_)
    refine RN_end ?_
    refine WQ_keep [(21, _), (20, _), (19, _), (4, _)] ⟨rfl, rfl, rfl, rfl, trivial⟩ ?_
    refine WQ_then ?_
    refine W_block rfl ?_
    rw [show putL (u64 (l.length : Int)) = putL (u64 l.length) ++ certL (l.take 0) by simp [certL]]
    refine W_loop (σ := Nat) (fun i => l.length - i) (fun i => [(4, .pointer (some ⟨g3, 0, none⟩)), (19, v), (20, .int .i64 ((l.length : Nat) : Int)), (21, .int .i64 ((i : Nat) : Int))]) (fun i => [c, .emp, .hp (HP.sep lf), .hp (WrH g3 (putL (u64 l.length) ++ certL (l.take i))), .emp, .emp, .emp, .emp]) (fun i => i ≤ l.length ∧ ∀ j, j < i → ∀ k, k < (ll l j).length → prBad (pp (ll l j) k) = false) (0) rfl (⟨Nat.zero_le _, fun j hj => by omega⟩) (AllIn.sub ⟨rfl, rfl, rfl, rfl, trivial⟩) (EntP.ent (by repeat' first | exact EntP.nil | refine EntP.same ?_ | refine EntP.drop ?_ | refine EntP.nilRow ?_)) ?_
    rintro i hI
    refine W_as [(4, .pointer (some ⟨g3, 0, none⟩)), (19, v), (20, .int .i64 ((l.length : Nat) : Int)), (21, .int .i64 ((i : Nat) : Int))] [c, .emp, .hp (HP.sep lf), .hp (WrH g3 (putL (u64 l.length) ++ certL (l.take i))), .emp, .emp, .emp, .emp] ⟨rfl, rfl, rfl, rfl, trivial⟩ (EntP.refl _) ?_
    obtain ⟨hi, hI⟩ := hI
    refine W_seq rfl ?_
    refine W_reg (m := 1) rfl rfl ?_
    refine RN_op rfl rfl rfl (st_pure pure_lss rfl rfl rfl ?_)
    refine RN_end ?_
    refine WQ_keep [(22, _), (4, _), (19, _), (20, _), (21, _)] ⟨rfl, rfl, rfl, rfl, rfl, trivial⟩ ?_
    refine WQ_then ?_
    refine W_seq rfl ?_
    refine W_cond rfl rfl (fun hc2 => ?_) (fun hc2 => ?_)
    · refine W_skip rfl ?_
      refine WQ_then ?_
      refine W_seq rfl ?_
      refine W_block rfl ?_
      refine W_seq rfl ?_
      obtain ⟨vi, hvi, hRi⟩ := hR.at_ i (by omega)
      have hri := hRi.row
      have hlen := ll_len hn2 i (by omega)
      have hp0 := putL_len64 (u64_lt (l.length : Int))
      have hct := certL_len (l.take i) 10000 (fun ps hps => hn2 ps (List.mem_of_mem_take hps))
      have hlt : (l.take i).length ≤ l.length := by simp; omega
      refine W_reg (m := 3) rfl rfl ?_
      refine RN_op rfl rfl rfl (st_pure (pure_indexR Try.underlying22 sz26 (by assumption) (by omega)) rfl rfl rfl ?_)
      refine RN_op rfl rfl rfl (st_ld 0 rfl Try.underlying26 rfl rfl rfl hvi rfl rfl ?_)
      refine RN_op rfl rfl rfl (st_pure pure_assign rfl rfl rfl ?_)
      refine RN_end ?_
      refine WQ_keep [(6, _), (4, _), (19, _), (20, _), (21, _)] ⟨rfl, rfl, rfl, rfl, rfl, trivial⟩ ?_
      refine WQ_then ?_
      refine W_seq rfl ?_
      refine W_reg (m := 5) rfl rfl ?_
      refine RN_op rfl rfl rfl (st_pure pure_move rfl rfl rfl ?_)
      refine RN_op rfl rfl rfl (st_pure pure_move rfl rfl rfl ?_)
      refine RN_op rfl rfl rfl (st_pure (pure_lenR Try.underlying26 (by assumption)) rfl rfl rfl ?_)
      refine RN_op rfl rfl rfl (s_al 5 (alloc_buildSlice Try.underlying24 el24.zero rfl (by decide)) rfl rfl rfl fun g5 => ?_)
      refine RN_op rfl rfl rfl (s_ct (R := [5]) (W := [3]) (x0 := ()) (ct_nums g3 (.blk g5 (.cells [.int .i64 ((ll l i).length : Int)].toArray 3 (0, 0))) _ _ [((ll l i).length : Int)] (rds_blk rfl (by decide)) (by simp; omega)) fnF46 rfl rfl rfl rfl (by decide) rfl (fun _ => rfl) rfl rfl fun _ => ?_)
      rw [puts1]
      refine RN_end ?_
      refine WQ_keep [(6, _), (4, _), (19, _), (20, _), (21, _)] ⟨rfl, rfl, rfl, rfl, rfl, trivial⟩ ?_
      refine WQ_then ?_
      refine W_seq rfl ?_
      refine W_reg (m := 3) rfl rfl ?_
      refine RN_op rfl rfl rfl (st_pure pure_move rfl rfl rfl ?_)
      refine RN_op rfl rfl rfl (st_pure (pure_lenR Try.underlying26 (by assumption)) rfl rfl rfl ?_)
      refine RN_op rfl rfl rfl (st_pure pure_move rfl rfl rfl ?_)
      refine RN_end ?_
      refine WQ_keep [(32, _), (31, _), (30, _), (4, _), (19, _), (20, _), (21, _)] ⟨rfl, rfl, rfl, rfl, rfl, rfl, rfl, trivial⟩ ?_
      refine WQ_then ?_
      refine W_block rfl ?_
      rw [show (putL (u64 l.length) ++ certL (l.take i)) ++ putL (u64 ((ll l i).length : Int)) = (putL (u64 l.length) ++ certL (l.take i)) ++ putL (u64 (ll l i).length) ++ prsL ((ll l i).take 0) by simp [prsL]]
      refine W_loop (σ := Nat) (fun k => (ll l i).length - k) (fun k => [(4, .pointer (some ⟨g3, 0, none⟩)), (19, v), (20, .int .i64 ((l.length : Nat) : Int)), (21, .int .i64 ((i : Nat) : Int)), (30, vi), (31, .int .i64 (((ll l i).length : Nat) : Int)), (32, .int .i64 ((k : Nat) : Int))]) (fun k => [c, .emp, .hp (HP.sep lf), .hp (WrH g3 ((putL (u64 l.length) ++ certL (l.take i)) ++ putL (u64 (ll l i).length) ++ prsL ((ll l i).take k))), .emp, .emp, .emp, .emp]) (fun k => k ≤ (ll l i).length ∧ ∀ j, j < k → prBad (pp (ll l i) j) = false) (0) rfl (⟨Nat.zero_le _, fun j hj => by omega⟩) (AllIn.sub ⟨rfl, rfl, rfl, rfl, rfl, rfl, rfl, trivial⟩) (EntP.ent (by repeat' first | exact EntP.nil | refine EntP.same ?_ | refine EntP.drop ?_ | refine EntP.nilRow ?_)) ?_
      rintro k hI2
      refine W_as [(4, .pointer (some ⟨g3, 0, none⟩)), (19, v), (20, .int .i64 ((l.length : Nat) : Int)), (21, .int .i64 ((i : Nat) : Int)), (30, vi), (31, .int .i64 (((ll l i).length : Nat) : Int)), (32, .int .i64 ((k : Nat) : Int))] [c, .emp, .hp (HP.sep lf), .hp (WrH g3 ((putL (u64 l.length) ++ certL (l.take i)) ++ putL (u64 (ll l i).length) ++ prsL ((ll l i).take k))), .emp, .emp, .emp, .emp] ⟨rfl, rfl, rfl, rfl, rfl, rfl, rfl, trivial⟩ (EntP.refl _) ?_
      obtain ⟨hk, hK⟩ := hI2
      refine W_seq rfl ?_
      refine W_reg (m := 1) rfl rfl ?_
      refine RN_op rfl rfl rfl (st_pure pure_lss rfl rfl rfl ?_)
      refine RN_end ?_
      refine WQ_keep [(33, _), (4, _), (19, _), (20, _), (21, _), (30, _), (31, _), (32, _)] ⟨rfl, rfl, rfl, rfl, rfl, rfl, rfl, rfl, trivial⟩ ?_
      refine WQ_then ?_
      refine W_seq rfl ?_
      refine W_cond rfl rfl (fun hc3 => ?_) (fun hc3 => ?_)
      · refine W_skip rfl ?_
        refine WQ_then ?_
        refine W_seq rfl ?_
        refine W_block rfl ?_
        refine W_seq rfl ?_
        refine W_reg (m := 4) rfl rfl ?_
        refine RN_op rfl rfl rfl (st_pure (pure_indexR Try.underlying26 sz114 hri (by omega)) rfl rfl rfl ?_)
        refine RN_op rfl rfl rfl (st_ldN 0 rfl Try.underlying114 rfl sz114 rfl rfl (hRi.cells (by omega) rfl (prs_get (ll l i) k (by omega))) rfl rfl ?_)
        refine RN_op rfl rfl rfl (s_al 6 (alloc_new zr114) rfl rfl rfl fun g6 => ?_)
        refine RN_op rfl rfl rfl (s_st 6 rfl sz114 rfl rfl rfl rfl puts_agg rfl ?_)
        refine RN_end ?_
        refine WQ_keep [(8, _), (4, _), (19, _), (20, _), (21, _), (30, _), (31, _), (32, _)] ⟨rfl, rfl, rfl, rfl, rfl, rfl, rfl, rfl, trivial⟩ ?_
        refine WQ_then ?_
        refine W_seq rfl ?_
        refine W_seq rfl ?_
        refine W_reg (m := 18) rfl rfl ?_
        refine RN_op rfl rfl rfl (st_pure (pure_field0 0 Try.underlying114 rfl rfl sz3) rfl rfl rfl ?_)
        refine RN_op rfl rfl rfl (st_ld 6 rfl Try.underlying3 rfl rfl rfl cell_blk rfl rfl ?_)
        refine RN_op rfl rfl rfl (st_pure pure_lss rfl rfl rfl ?_)
        refine RN_op rfl rfl rfl (st_pure pure_move rfl rfl rfl ?_)
        refine' RN_or 3 3 [(8, _), (4, _), (19, _), (20, _), (21, _), (30, _), (31, _), (32, _)] rfl rfl rfl rfl rfl rfl rfl rfl rfl rfl rfl rfl rfl ⟨rfl, rfl, rfl, rfl, rfl, rfl, rfl, rfl, trivial⟩ (wanted_none rfl) (fun hg7 => ?_) ?_
        rotate_left 2
        · refine RN_gT rfl rfl rfl rfl rfl rfl (st_pure (pure_field0 0 Try.underlying114 rfl rfl sz3) rfl rfl rfl ?_)
          refine RN_gT rfl rfl rfl rfl rfl rfl (st_ld 6 rfl Try.underlying3 rfl rfl rfl cell_blk rfl rfl ?_)
          refine RN_gT rfl rfl rfl rfl rfl rfl (st_pure pure_geq rfl rfl rfl ?_)
          exact RN_end (cut_end (AllIn.sub ⟨rfl, rfl, rfl, rfl, rfl, rfl, rfl, rfl, rfl, rfl, trivial⟩) (Ent.refl _))
        refine RN_op rfl rfl rfl (st_pure pure_move rfl rfl rfl ?_)
        refine' RN_or 8 3 [(8, _), (4, _), (19, _), (20, _), (21, _), (30, _), (31, _), (32, _)] rfl rfl rfl rfl rfl rfl rfl rfl rfl rfl rfl rfl rfl ⟨rfl, rfl, rfl, rfl, rfl, rfl, rfl, rfl, trivial⟩ (wanted_none rfl) (fun hg12 => ?_) ?_
        rotate_left 2
        · refine RN_gT rfl rfl rfl rfl rfl rfl (st_pure (pure_field0 1 Try.underlying114 rfl rfl sz3) rfl rfl rfl ?_)
          refine RN_gT rfl rfl rfl rfl rfl rfl (st_ld 6 rfl Try.underlying3 rfl rfl rfl cell_blk rfl rfl ?_)
          refine RN_gT rfl rfl rfl rfl rfl rfl (st_pure pure_lss rfl rfl rfl ?_)
          exact RN_end (cut_end (AllIn.sub ⟨rfl, rfl, rfl, rfl, rfl, rfl, rfl, rfl, rfl, rfl, trivial⟩) (Ent.refl _))
        refine RN_op rfl rfl rfl (st_pure pure_move rfl rfl rfl ?_)
        refine' RN_or 13 3 [(8, _), (4, _), (19, _), (20, _), (21, _), (30, _), (31, _), (32, _)] rfl rfl rfl rfl rfl rfl rfl rfl rfl rfl rfl rfl rfl ⟨rfl, rfl, rfl, rfl, rfl, rfl, rfl, rfl, trivial⟩ (wanted_none rfl) (fun hg17 => ?_) ?_
        rotate_left 2
        · refine RN_gT rfl rfl rfl rfl rfl rfl (st_pure (pure_field0 1 Try.underlying114 rfl rfl sz3) rfl rfl rfl ?_)
          refine RN_gT rfl rfl rfl rfl rfl rfl (st_ld 6 rfl Try.underlying3 rfl rfl rfl cell_blk rfl rfl ?_)
          refine RN_gT rfl rfl rfl rfl rfl rfl (st_pure pure_geq rfl rfl rfl ?_)
          exact RN_end (cut_end (AllIn.sub ⟨rfl, rfl, rfl, rfl, rfl, rfl, rfl, rfl, rfl, rfl, trivial⟩) (Ent.refl _))
        refine RN_end ?_
        refine WQ_keep [(53, _), (8, _), (4, _), (19, _), (20, _), (21, _), (30, _), (31, _), (32, _)] ⟨rfl, rfl, rfl, rfl, rfl, rfl, rfl, rfl, rfl, trivial⟩ ?_
        refine WQ_then ?_
        refine W_cond rfl rfl (fun hc4 => ?_) (fun hc4 => ?_)
        · have hb : certBad l = true := bad_at (i := i) (k := k) (by omega) (by omega) (by unfold prBad; exact decide_eq_true (by omega))
          refine W_seq rfl ?_
          refine W_reg (m := 2) rfl rfl ?_
          refine RN_op rfl rfl rfl (st_pure pure_assign rfl rfl rfl ?_)
          refine RN_op rfl rfl rfl (st_pure pure_assign rfl rfl rfl ?_)
          refine RN_end ?_
          refine WQ_keep [(3, _), (2, _)] ⟨rfl, rfl, trivial⟩ ?_
          refine WQ_then ?_
          refine W_ret rfl ?_
          refine WQ_thenX rfl ?_
          refine WQ_inBR ?_
          refine WQ_thenX rfl ?_
          refine WQ_thenX rfl ?_
          refine WQ_inBR ?_
          refine WQ_inBR ?_
          refine WQ_thenX rfl ?_
          refine WQ_thenX rfl ?_
          refine WQ_inBR ?_
          refine WQ_thenX rfl ?_
          refine WQ_ret (vs := [_, _]) (by rw [Try.results13]; rfl) fun w' hs' he' => ?_
          obtain ⟨e1, e2⟩ := cert_bad l (by omega) hb
          rw [e1, e2]
          exact ⟨.slice none 0 0, rfl, (EntP.same (EntP.nilRow (EntP.same EntP.nil))).ent.sat (hs'.pick [0, 1, 2] (by decide)), he'⟩
        · have hb : prBad (pp (ll l i) k) = false := by unfold prBad; exact decide_eq_false (by omega)
          have hpl := prsL_len ((ll l i).take k)
          have hpt : ((ll l i).take k).length ≤ (ll l i).length := by simp; omega
          have hp1 := putL_len64 (u64_lt ((ll l i).length : Int))
          refine W_skip rfl ?_
          refine WQ_then ?_
          refine W_reg (m := 7) rfl rfl ?_
          refine RN_op rfl rfl rfl (st_pure pure_move rfl rfl rfl ?_)
          refine RN_op rfl rfl rfl (st_pure (pure_field0 0 Try.underlying114 rfl rfl sz3) rfl rfl rfl ?_)
          refine RN_op rfl rfl rfl (st_ld 6 rfl Try.underlying3 rfl rfl rfl cell_blk rfl rfl ?_)
          refine RN_op rfl rfl rfl (st_pure (pure_field0 1 Try.underlying114 rfl rfl sz3) rfl rfl rfl ?_)
          refine RN_op rfl rfl rfl (st_ld 6 rfl Try.underlying3 rfl rfl rfl cell_blk rfl rfl ?_)
          refine RN_op rfl rfl rfl (s_al 7 (alloc_buildSlice Try.underlying24 el24.zero rfl (by decide)) rfl rfl rfl fun g7 => ?_)
          refine RN_op rfl rfl rfl (s_ct (R := [7]) (W := [3]) (x0 := ()) (ct_nums g3 (.blk g7 (.cells [.int .i64 (pp (ll l i) k).1, .int .i64 (pp (ll l i) k).2].toArray 3 (0, 0))) _ _ [(pp (ll l i) k).1, (pp (ll l i) k).2] (rds_blk rfl (by decide)) (by simp; omega)) fnF46 rfl rfl rfl rfl (by decide) rfl (fun _ => rfl) rfl rfl fun _ => ?_)
          rw [puts2, List.append_assoc (putL (u64 l.length) ++ certL (l.take i) ++ putL (u64 (ll l i).length)), ← prsL_take (ll l i) k (by omega)]
          refine RN_end ?_
          refine WQ_keep [(4, _), (19, _), (20, _), (21, _), (30, _), (31, _), (32, _)] ⟨rfl, rfl, rfl, rfl, rfl, rfl, rfl, trivial⟩ ?_
          refine WQ_inB ?_
          refine WQ_then ?_
          refine W_reg (m := 2) rfl rfl ?_
          refine RN_op rfl rfl rfl (st_pure (pure_add64 (by omega)) rfl rfl rfl ?_)
          refine RN_op rfl rfl rfl (st_pure pure_move rfl rfl rfl ?_)
          refine RN_end ?_
          refine WQ_keep [(32, _), (4, _), (19, _), (20, _), (21, _), (30, _), (31, _)] ⟨rfl, rfl, rfl, rfl, rfl, rfl, rfl, trivial⟩ ?_
          have hK2 : ∀ j, j < k + 1 → prBad (pp (ll l i) j) = false := fun j hj => by
            rcases Nat.lt_or_ge j k with h | h
            · exact hK j h
            · have : j = k := by omega
              rw [this]; exact hb
          refine WQ_hand (k + 1) (⟨by omega, hK2⟩) (by (try dsimp only); omega) (AllIn.sub ⟨rfl, rfl, rfl, rfl, rfl, rfl, rfl, trivial⟩) (EntP.ent (by repeat' first | exact EntP.nil | refine EntP.same ?_ | refine EntP.drop ?_ | refine EntP.nilRow ?_))
      · refine W_exit rfl ?_
        refine WQ_thenX rfl ?_
        refine WQ_thenX rfl ?_
        refine WQ_hit ?_
        refine WQ_inB ?_
        refine WQ_then ?_
        refine W_reg (m := 2) rfl rfl ?_
        refine RN_op rfl rfl rfl (st_pure (pure_add64 (by omega)) rfl rfl rfl ?_)
        refine RN_op rfl rfl rfl (st_pure pure_move rfl rfl rfl ?_)
        refine RN_end ?_
        refine WQ_keep [(21, _), (4, _), (19, _), (20, _)] ⟨rfl, rfl, rfl, rfl, trivial⟩ ?_
        have hk2 : k = (ll l i).length := by omega
        subst hk2
        have eL : putL (u64 l.length) ++ certL (l.take i) ++ putL (u64 (ll l i).length) ++ prsL (ll l i) = putL (u64 l.length) ++ certL (l.take (i + 1)) := by
          rw [certL_take l i (by omega)]
          simp only [List.append_assoc]
        rw [List.take_length, eL]
        have hJ2 : ∀ j, j < i + 1 → ∀ k, k < (ll l j).length → prBad (pp (ll l j) k) = false := fun j hj => by
          rcases Nat.lt_or_ge j i with h | h
          · exact hI j h
          · have : j = i := by omega
            rw [this]; exact hK
        refine WQ_hand (i + 1) (⟨by omega, hJ2⟩) (by (try dsimp only); omega) (AllIn.sub ⟨rfl, rfl, rfl, rfl, trivial⟩) (EntP.ent (by repeat' first | exact EntP.nil | refine EntP.same ?_ | refine EntP.drop ?_ | refine EntP.nilRow ?_))
    · refine W_exit rfl ?_
      refine WQ_thenX rfl ?_
      refine WQ_thenX rfl ?_
      refine WQ_hit ?_
      refine WQ_then ?_
      refine W_seq rfl ?_
      have hi2 : i = l.length := by omega
      subst hi2
      rw [List.take_length]
      have hb := not_bad hI
      obtain ⟨e1, e2⟩ := cert_ok l (by omega) hb
      rw [← e1]
      refine W_exP (fun w hs _ => let ⟨v, hs⟩ := wr_open.1 (hs.pick [3, 0, 2] (by decide)); ⟨v, hs, trivial⟩) fun v2 (_ : True) => ?_
      refine W_reg (m := 6) rfl rfl ?_
      refine RN_op rfl rfl rfl (st_pure pure_move rfl rfl rfl ?_)
      refine RN_op rfl rfl rfl (st_pure pure_nil rfl rfl rfl ?_)
      refine RN_op rfl rfl rfl (st_pure (pure_field0 0 Try.underlying111 rfl rfl sz23) rfl rfl rfl ?_)
      refine RN_op rfl rfl rfl (st_ld 0 rfl Try.underlying23 rfl rfl rfl cell_blk rfl rfl ?_)
      refine RN_op rfl rfl rfl (st_pure pure_assign rfl rfl rfl ?_)
      refine RN_op rfl rfl rfl (st_pure pure_assign rfl rfl rfl ?_)
      refine RN_end ?_
      refine WQ_keep [(3, _), (2, _)] ⟨rfl, rfl, trivial⟩ ?_
      refine WQ_then ?_
      refine W_ret rfl ?_
      refine WQ_ret (vs := [_, _]) (by rw [Try.results13]; rfl) fun w' hs' he' => ?_
      rw [e2]
      exact ⟨v2, rfl, hs'.pick [2, 1, 3] (by decide), he'⟩

theorem ct_PutRow (v : Value) (bs : List Nat) (n0 : Nat) (hn0 : n0 < 2 ^ 64) (hm : bs.length ≤ 1000000000) : Ct Try.prog 47 [v, .int .u64 (n0 : Int)] [ByR v bs] [.emp] (X := Value) (fun x => x) (fun x => [ByR x (bs ++ putL n0)]) := by
  intro w l hs
  have hr : IsRow v bs.length := (isRow_of_sat (show Sat w (RowO 5 1 v bs.length (byts bs) :: _) from hs)).1
  exact ct_PutR (ByR v bs) v bs n0 (rds_row hr (byts_len1 bs)) hn0 hm w l hs

set_option maxRecDepth 100000 in
set_option maxHeartbeats 1000000 in
theorem ct_CertBytes (c : Chunk) (v : Value) (l : List Prs) (hR : CertR c v l) (hn : l.length ≤ 1000) (hn2 : ∀ ps ∈ l, ps.length ≤ 10000) : Ct Try.prog 14 [v] [c] [.emp] (X := Value) (fun x => .tuple #[x, .int .i64 (certCode l)]) (fun x => [ByR x (certOut l)]) := by
  refine ct_of fun w lf hs => ?_
  have hr := hR.row
  refine enter (c := bodyOf Try.f14) Try.func14 rfl Try.ntmps14 rfl (L := [c, .emp, .emp, .emp, .hp (HP.sep lf), .emp]) (SatC.pad (hs.pick [0, 1, 3, 4, 2] (by decide)) 1) ?_
  refine W_seq rfl ?_
  refine W_reg (m := 2) rfl rfl ?_
  refine RN_op rfl rfl rfl (st_pure pure_assign rfl rfl rfl ?_)
  refine RN_op rfl rfl rfl (st_pure pure_assign rfl rfl rfl ?_)
  refine RN_end ?_
  refine WQ_keep [(0, _)] ⟨rfl, trivial⟩ ?_
  refine WQ_then ?_
  refine W_seq rfl ?_
  refine W_seq rfl ?_
  refine W_reg (m := 3) rfl rfl ?_
  refine RN_op rfl rfl rfl (st_pure pure_move rfl rfl rfl ?_)
  refine RN_op rfl rfl rfl (st_pure (pure_lenR Try.underlying22 (by assumption)) rfl rfl rfl ?_)
  refine RN_op rfl rfl rfl (st_pure pure_gtr rfl rfl rfl ?_)
  refine RN_end ?_
  refine WQ_keep [(10, _), (0, _)] ⟨rfl, rfl, trivial⟩ ?_
  refine WQ_then ?_
  refine W_cond rfl rfl (fun hc1 => ?_) (fun hc1 => ?_)
  · refine W_seq rfl ?_
    refine W_reg (m := 2) rfl rfl ?_
    refine RN_op rfl rfl rfl (st_pure pure_assign rfl rfl rfl ?_)
    refine RN_op rfl rfl rfl (st_pure pure_assign rfl rfl rfl ?_)
    refine RN_end ?_
    refine WQ_keep [(3, _), (2, _)] ⟨rfl, rfl, trivial⟩ ?_
    refine WQ_then ?_
    refine W_ret rfl ?_
    refine WQ_thenX rfl ?_
    refine WQ_ret (vs := [_, _]) (by rw [Try.results14]; rfl) fun w' hs' he' => ?_
    obtain ⟨e1, e2⟩ := cert_many l (by omega)
    rw [e1, e2]
    exact ⟨.slice none 0 0, rfl, (EntP.same (EntP.nilRow (EntP.same EntP.nil))).ent.sat (hs'.pick [0, 1, 4] (by decide)), he'⟩
  · have hcl := certL_len l 10000 hn2
    refine W_skip rfl ?_
    refine WQ_then ?_
    refine W_seq rfl ?_
    refine W_reg (m := 5) rfl rfl ?_
    refine RN_op rfl rfl rfl (st_pure pure_move rfl rfl rfl ?_)
    refine RN_op rfl rfl rfl (st_pure (pure_lenR Try.underlying22 (by assumption)) rfl rfl rfl ?_)
    refine RN_op rfl rfl rfl (st_pure (pure_convN (r := ((u64 (l.length : Int) : Nat) : Int)) Try.underlying3 Try.underlying116 (u64_wrap _)) rfl rfl rfl ?_)
    refine RN_op rfl rfl rfl (s_ct (R := [0]) (W := [1]) (x0 := v) (ct_PutR c (.slice none 0 0) [] (u64 (l.length : Int)) rds_nil (u64_lt _) (by simp)) fnF47 rfl rfl rfl rfl (by decide) rfl (fun _ => rfl) rfl rfl fun v1 => ?_)
    refine RN_know (fun w hs _ => row_is 1 hs rfl) fun hv1 => ?_
    refine RN_op rfl rfl rfl (st_pure pure_assign rfl rfl rfl ?_)
    refine RN_end ?_
    refine WQ_keep [(4, _), (0, _)] ⟨rfl, rfl, trivial⟩ ?_
    refine WQ_then ?_
    refine W_seq rfl ?_
    refine W_seq rfl ?_
    refine W_reg (m := 1) rfl rfl ?_
    refine RN_op rfl rfl rfl (st_pure pure_assign rfl rfl rfl ?_)
    refine RN_end ?_
    refine WQ_keep [(5, _), (4, _), (0, _)] ⟨rfl, rfl, rfl, trivial⟩ ?_
    refine WQ_then ?_
    refine W_block rfl ?_
    rw [show ([] ++ putL (u64 (l.length : Int)) : List Nat) = putL (u64 l.length) ++ certL (l.take 0) by simp [certL]] at hv1 ⊢
    refine W_loop (σ := Nat × Value) (fun ⟨i, vb⟩ => l.length - i) (fun ⟨i, vb⟩ => [(0, v), (4, vb), (5, .int .i64 ((i : Nat) : Int))]) (fun ⟨i, vb⟩ => [c, ByR vb (putL (u64 l.length) ++ certL (l.take i)), .emp, .emp, .hp (HP.sep lf), .emp]) (fun ⟨i, vb⟩ => i ≤ l.length ∧ IsRow vb (putL (u64 l.length) ++ certL (l.take i)).length ∧ ∀ j, j < i → ∀ k, k < (ll l j).length → prBad (pp (ll l j) k) = false) ((0, v1)) rfl (⟨Nat.zero_le _, hv1, fun j hj => by omega⟩) (AllIn.sub ⟨rfl, rfl, rfl, trivial⟩) (EntP.ent (by repeat' first | exact EntP.nil | refine EntP.same ?_ | refine EntP.drop ?_ | refine EntP.nilRow ?_)) ?_
    rintro ⟨i, vb⟩ hI
    refine W_as [(0, v), (4, vb), (5, .int .i64 ((i : Nat) : Int))] [c, ByR vb (putL (u64 l.length) ++ certL (l.take i)), .emp, .emp, .hp (HP.sep lf), .emp] ⟨rfl, rfl, rfl, trivial⟩ (EntP.refl _) ?_
    obtain ⟨hi, hvb, hI⟩ := hI
    have hp0 := putL_len64 (u64_lt (l.length : Int))
    have hct := certL_len (l.take i) 10000 (fun ps hps => hn2 ps (List.mem_of_mem_take hps))
    have hlt : (l.take i).length ≤ l.length := by simp; omega
    refine W_seq rfl ?_
    refine W_seq rfl ?_
    refine W_reg (m := 4) rfl rfl ?_
    refine RN_op rfl rfl rfl (st_pure pure_move rfl rfl rfl ?_)
    refine RN_op rfl rfl rfl (st_pure pure_move rfl rfl rfl ?_)
    refine RN_op rfl rfl rfl (st_pure (pure_lenR Try.underlying22 (by assumption)) rfl rfl rfl ?_)
    refine RN_op rfl rfl rfl (st_pure pure_lss rfl rfl rfl ?_)
    refine RN_end ?_
    refine WQ_keep [(18, _), (0, _), (4, _), (5, _)] ⟨rfl, rfl, rfl, rfl, trivial⟩ ?_
    refine WQ_then ?_
    refine W_cond rfl rfl (fun hc2 => ?_) (fun hc2 => ?_)
    · refine W_skip rfl ?_
      refine WQ_then ?_
      refine W_seq rfl ?_
      refine W_block rfl ?_
      refine W_seq rfl ?_
      obtain ⟨vi, hvi, hRi⟩ := hR.at_ i (by omega)
      have hri := hRi.row
      have hlen := ll_len hn2 i (by omega)
      have hp1 := putL_len64 (u64_lt ((ll l i).length : Int))
      refine W_reg (m := 9) rfl rfl ?_
      refine RN_op rfl rfl rfl (st_pure pure_move rfl rfl rfl ?_)
      refine RN_op rfl rfl rfl (st_pure pure_move rfl rfl rfl ?_)
      refine RN_op rfl rfl rfl (st_pure pure_move rfl rfl rfl ?_)
      refine RN_op rfl rfl rfl (st_pure (pure_indexR Try.underlying22 sz26 hr (by omega)) rfl rfl rfl ?_)
      refine RN_op rfl rfl rfl (st_ld 0 rfl Try.underlying26 rfl rfl rfl hvi rfl rfl ?_)
      refine RN_op rfl rfl rfl (st_pure (pure_lenR Try.underlying26 hri) rfl rfl rfl ?_)
      refine RN_op rfl rfl rfl (st_pure (pure_convN (r := ((u64 ((ll l i).length : Int) : Nat) : Int)) Try.underlying3 Try.underlying116 (u64_wrap _)) rfl rfl rfl ?_)
      refine RN_op rfl rfl rfl (s_ct (R := [1]) (W := [2]) (x0 := v) (ct_PutR (ByR vb _) vb _ (u64 ((ll l i).length : Int)) (rds_row hvb (byts_len1 _)) (u64_lt _) (by simp; omega)) fnF47 rfl rfl rfl rfl (by decide) rfl (fun _ => rfl) rfl rfl fun v2 => ?_)
      refine RN_know (fun w hs _ => row_is 2 hs rfl) fun hv2 => ?_
      refine RN_op rfl rfl rfl (st_pure pure_assign rfl rfl rfl ?_)
      refine RN_end ?_
      refine WQ_keep [(4, _), (0, _), (5, _)] ⟨rfl, rfl, rfl, trivial⟩ ?_
      refine WQ_sat (fun w hs _ => hs.pick [0, 2, 6, 7, 4, 5] (by decide)) ?_
      refine WQ_then ?_
      refine W_seq rfl ?_
      refine W_reg (m := 1) rfl rfl ?_
      refine RN_op rfl rfl rfl (st_pure pure_assign rfl rfl rfl ?_)
      refine RN_end ?_
      refine WQ_keep [(6, _), (4, _), (0, _), (5, _)] ⟨rfl, rfl, rfl, rfl, trivial⟩ ?_
      refine WQ_then ?_
      refine W_block rfl ?_
      rw [show putL (u64 l.length) ++ certL (l.take i) ++ putL (u64 ((ll l i).length : Int)) = putL (u64 l.length) ++ certL (l.take i) ++ putL (u64 (ll l i).length) ++ prsL ((ll l i).take 0) by simp [prsL]] at hv2 ⊢
      refine W_loop (σ := Nat × Value) (fun ⟨k, vc⟩ => (ll l i).length - k) (fun ⟨k, vc⟩ => [(0, v), (4, vc), (5, .int .i64 ((i : Nat) : Int)), (6, .int .i64 ((k : Nat) : Int))]) (fun ⟨k, vc⟩ => [c, ByR vc (putL (u64 l.length) ++ certL (l.take i) ++ putL (u64 (ll l i).length) ++ prsL ((ll l i).take k)), .emp, .emp, .hp (HP.sep lf), .emp]) (fun ⟨k, vc⟩ => k ≤ (ll l i).length ∧ IsRow vc (putL (u64 l.length) ++ certL (l.take i) ++ putL (u64 (ll l i).length) ++ prsL ((ll l i).take k)).length ∧ ∀ j, j < k → prBad (pp (ll l i) j) = false) ((0, v2)) rfl (⟨Nat.zero_le _, hv2, fun j hj => by omega⟩) (AllIn.sub ⟨rfl, rfl, rfl, rfl, trivial⟩) (EntP.ent (by repeat' first | exact EntP.nil | refine EntP.same ?_ | refine EntP.drop ?_ | refine EntP.nilRow ?_)) ?_
      rintro ⟨k, vc⟩ hI2
      refine W_as [(0, v), (4, vc), (5, .int .i64 ((i : Nat) : Int)), (6, .int .i64 ((k : Nat) : Int))] [c, ByR vc (putL (u64 l.length) ++ certL (l.take i) ++ putL (u64 (ll l i).length) ++ prsL ((ll l i).take k)), .emp, .emp, .hp (HP.sep lf), .emp] ⟨rfl, rfl, rfl, rfl, trivial⟩ (EntP.refl _) ?_
      obtain ⟨hk, hvc, hK⟩ := hI2
      have hpl := prsL_len ((ll l i).take k)
      have hpt : ((ll l i).take k).length ≤ (ll l i).length := by simp; omega
      refine W_seq rfl ?_
      refine W_seq rfl ?_
      refine W_reg (m := 7) rfl rfl ?_
      refine RN_op rfl rfl rfl (st_pure pure_move rfl rfl rfl ?_)
      refine RN_op rfl rfl rfl (st_pure pure_move rfl rfl rfl ?_)
      refine RN_op rfl rfl rfl (st_pure pure_move rfl rfl rfl ?_)
      refine RN_op rfl rfl rfl (st_pure (pure_indexR Try.underlying22 sz26 hr (by omega)) rfl rfl rfl ?_)
      refine RN_op rfl rfl rfl (st_ld 0 rfl Try.underlying26 rfl rfl rfl hvi rfl rfl ?_)
      refine RN_op rfl rfl rfl (st_pure (pure_lenR Try.underlying26 hri) rfl rfl rfl ?_)
      refine RN_op rfl rfl rfl (st_pure pure_lss rfl rfl rfl ?_)
      refine RN_end ?_
      refine WQ_keep [(35, _), (0, _), (4, _), (5, _), (6, _)] ⟨rfl, rfl, rfl, rfl, rfl, trivial⟩ ?_
      refine WQ_then ?_
      refine W_cond rfl rfl (fun hc3 => ?_) (fun hc3 => ?_)
      · refine W_skip rfl ?_
        refine WQ_then ?_
        refine W_seq rfl ?_
        refine W_block rfl ?_
        refine W_seq rfl ?_
        refine W_reg (m := 9) rfl rfl ?_
        refine RN_op rfl rfl rfl (st_pure pure_move rfl rfl rfl ?_)
        refine RN_op rfl rfl rfl (st_pure pure_move rfl rfl rfl ?_)
        refine RN_op rfl rfl rfl (st_pure (pure_indexR Try.underlying22 sz26 hr (by omega)) rfl rfl rfl ?_)
        refine RN_op rfl rfl rfl (st_ld 0 rfl Try.underlying26 rfl rfl rfl hvi rfl rfl ?_)
        refine RN_op rfl rfl rfl (st_pure pure_move rfl rfl rfl ?_)
        refine RN_op rfl rfl rfl (st_pure (pure_indexR Try.underlying26 sz114 hri (by omega)) rfl rfl rfl ?_)
        refine RN_op rfl rfl rfl (st_ldN 0 rfl Try.underlying114 rfl sz114 rfl rfl (hRi.cells (by omega) rfl (prs_get (ll l i) k (by omega))) rfl rfl ?_)
        refine RN_op rfl rfl rfl (s_al 5 (alloc_new zr114) rfl rfl rfl fun g5 => ?_)
        refine RN_op rfl rfl rfl (s_st 5 rfl sz114 rfl rfl rfl rfl puts_agg rfl ?_)
        refine RN_end ?_
        refine WQ_keep [(7, _), (0, _), (4, _), (5, _), (6, _)] ⟨rfl, rfl, rfl, rfl, rfl, trivial⟩ ?_
        refine WQ_then ?_
        refine W_seq rfl ?_
        refine W_seq rfl ?_
        refine W_reg (m := 18) rfl rfl ?_
        refine RN_op rfl rfl rfl (st_pure (pure_field0 0 Try.underlying114 rfl rfl sz3) rfl rfl rfl ?_)
        refine RN_op rfl rfl rfl (st_ld 5 rfl Try.underlying3 rfl rfl rfl cell_blk rfl rfl ?_)
        refine RN_op rfl rfl rfl (st_pure pure_lss rfl rfl rfl ?_)
        refine RN_op rfl rfl rfl (st_pure pure_move rfl rfl rfl ?_)
        refine' RN_or 3 3 [(7, _), (0, _), (4, _), (5, _), (6, _)] rfl rfl rfl rfl rfl rfl rfl rfl rfl rfl rfl rfl rfl ⟨rfl, rfl, rfl, rfl, rfl, trivial⟩ (wanted_none rfl) (fun hg7 => ?_) ?_
        rotate_left 2
        · refine RN_gT rfl rfl rfl rfl rfl rfl (st_pure (pure_field0 0 Try.underlying114 rfl rfl sz3) rfl rfl rfl ?_)
          refine RN_gT rfl rfl rfl rfl rfl rfl (st_ld 5 rfl Try.underlying3 rfl rfl rfl cell_blk rfl rfl ?_)
          refine RN_gT rfl rfl rfl rfl rfl rfl (st_pure pure_gtr rfl rfl rfl ?_)
          exact RN_end (cut_end (AllIn.sub ⟨rfl, rfl, rfl, rfl, rfl, rfl, rfl, trivial⟩) (Ent.refl _))
        refine RN_op rfl rfl rfl (st_pure pure_move rfl rfl rfl ?_)
        refine' RN_or 8 3 [(7, _), (0, _), (4, _), (5, _), (6, _)] rfl rfl rfl rfl rfl rfl rfl rfl rfl rfl rfl rfl rfl ⟨rfl, rfl, rfl, rfl, rfl, trivial⟩ (wanted_none rfl) (fun hg12 => ?_) ?_
        rotate_left 2
        · refine RN_gT rfl rfl rfl rfl rfl rfl (st_pure (pure_field0 1 Try.underlying114 rfl rfl sz3) rfl rfl rfl ?_)
          refine RN_gT rfl rfl rfl rfl rfl rfl (st_ld 5 rfl Try.underlying3 rfl rfl rfl cell_blk rfl rfl ?_)
          refine RN_gT rfl rfl rfl rfl rfl rfl (st_pure pure_lss rfl rfl rfl ?_)
          exact RN_end (cut_end (AllIn.sub ⟨rfl, rfl, rfl, rfl, rfl, rfl, rfl, trivial⟩) (Ent.refl _))
        refine RN_op rfl rfl rfl (st_pure pure_move rfl rfl rfl ?_)
        refine' RN_or 13 3 [(7, _), (0, _), (4, _), (5, _), (6, _)] rfl rfl rfl rfl rfl rfl rfl rfl rfl rfl rfl rfl rfl ⟨rfl, rfl, rfl, rfl, rfl, trivial⟩ (wanted_none rfl) (fun hg17 => ?_) ?_
        rotate_left 2
        · refine RN_gT rfl rfl rfl rfl rfl rfl (st_pure (pure_field0 1 Try.underlying114 rfl rfl sz3) rfl rfl rfl ?_)
          refine RN_gT rfl rfl rfl rfl rfl rfl (st_ld 5 rfl Try.underlying3 rfl rfl rfl cell_blk rfl rfl ?_)
          refine RN_gT rfl rfl rfl rfl rfl rfl (st_pure pure_gtr rfl rfl rfl ?_)
          exact RN_end (cut_end (AllIn.sub ⟨rfl, rfl, rfl, rfl, rfl, rfl, rfl, trivial⟩) (Ent.refl _))
        refine RN_end ?_
        refine WQ_keep [(62, _), (7, _), (0, _), (4, _), (5, _), (6, _)] ⟨rfl, rfl, rfl, rfl, rfl, rfl, trivial⟩ ?_
        refine WQ_then ?_
        refine W_cond rfl rfl (fun hc4 => ?_) (fun hc4 => ?_)
        · have hb : certBad l = true := bad_at (i := i) (k := k) (by omega) (by omega) (by unfold prBad; exact decide_eq_true (by omega))
          refine W_seq rfl ?_
          refine W_reg (m := 2) rfl rfl ?_
          refine RN_op rfl rfl rfl (st_pure pure_assign rfl rfl rfl ?_)
          refine RN_op rfl rfl rfl (st_pure pure_assign rfl rfl rfl ?_)
          refine RN_end ?_
          refine WQ_keep [(3, _), (2, _)] ⟨rfl, rfl, trivial⟩ ?_
          refine WQ_then ?_
          refine W_ret rfl ?_
          refine WQ_thenX rfl ?_
          refine WQ_inBR ?_
          refine WQ_thenX rfl ?_
          refine WQ_thenX rfl ?_
          refine WQ_inBR ?_
          refine WQ_inBR ?_
          refine WQ_thenX rfl ?_
          refine WQ_thenX rfl ?_
          refine WQ_inBR ?_
          refine WQ_thenX rfl ?_
          refine WQ_ret (vs := [_, _]) (by rw [Try.results14]; rfl) fun w' hs' he' => ?_
          obtain ⟨e1, e2⟩ := cert_bad l (by omega) hb
          rw [e1, e2]
          exact ⟨.slice none 0 0, rfl, (EntP.same (EntP.nilRow (EntP.same EntP.nil))).ent.sat (hs'.pick [0, 2, 4] (by decide)), he'⟩
        · have hb : prBad (pp (ll l i) k) = false := by unfold prBad; exact decide_eq_false (by omega)
          have hq1 := putL_len64 (u64_lt (pp (ll l i) k).1)
          refine W_skip rfl ?_
          refine WQ_then ?_
          refine W_draw (m := 10) [(2, Spec.ld 5), (4, Spec.ct [1] [2] (.func (.func 47) #[] #[]) [vc, .int .u64 ((u64 (pp (ll l i) k).1 : Nat) : Int)] [ByR vc (putL (u64 l.length) ++ certL (l.take i) ++ putL (u64 (ll l i).length) ++ prsL ((ll l i).take k))] [.emp] (X := Value) v (fun x => x) (fun x => [ByR x (putL (u64 l.length) ++ certL (l.take i) ++ putL (u64 (ll l i).length) ++ prsL ((ll l i).take k) ++ putL (u64 (pp (ll l i) k).1))])), (6, Spec.ld 5), (8, Spec.ctD [2] [3] (.func (.func 47) #[] #[]) (Y := Value) (fun vs => vs.getD 1 undef) (fun y => [y, .int .u64 ((u64 (pp (ll l i) k).2 : Nat) : Int)]) (fun y => [ByR y (putL (u64 l.length) ++ certL (l.take i) ++ putL (u64 (ll l i).length) ++ prsL ((ll l i).take k) ++ putL (u64 (pp (ll l i) k).1))]) (fun _ => [.emp]) (X := Value) v (fun _ x => x) (fun _ x => [ByR x (putL (u64 l.length) ++ certL (l.take i) ++ putL (u64 (ll l i).length) ++ prsL ((ll l i).take k) ++ putL (u64 (pp (ll l i) k).1) ++ putL (u64 (pp (ll l i) k).2))]))] #[0, 0, 2, 6, 15, 0, 32, 96, 255, 511] rfl rfl mixed (by kernel_rfl) (by kernel_rfl) ?_
          refine RG_op rfl rfl rfl rfl (st_pure pure_move rfl rfl rfl ?_)
          refine RG_op rfl rfl rfl rfl (st_pure (pure_field0 0 Try.underlying114 rfl rfl sz3) rfl rfl rfl ?_)
          refine RG_op rfl rfl rfl rfl (st_ld 5 rfl Try.underlying3 rfl rfl rfl cell_blk rfl rfl ?_)
          refine RG_op rfl rfl rfl rfl (st_pure (pure_convN (r := ((u64 (pp (ll l i) k).1 : Nat) : Int)) Try.underlying3 Try.underlying116 (u64_wrap _)) rfl rfl rfl ?_)
          refine RG_op rfl rfl rfl rfl (s_ct (R := [1]) (W := [2]) (x0 := v) (ct_PutRow vc (putL (u64 l.length) ++ certL (l.take i) ++ putL (u64 (ll l i).length) ++ prsL ((ll l i).take k)) (u64 (pp (ll l i) k).1) (u64_lt _) (by simp; omega)) fnF47 rfl rfl rfl rfl (by decide) rfl (fun _ => rfl) rfl rfl fun v3 => ?_)
          refine RG_op rfl rfl rfl rfl (st_pure (pure_field0 1 Try.underlying114 rfl rfl sz3) rfl rfl rfl ?_)
          refine RG_op rfl rfl rfl rfl (st_ld 5 rfl Try.underlying3 rfl rfl rfl cell_blk rfl rfl ?_)
          refine RG_op rfl rfl rfl rfl (st_pure (pure_convN (r := ((u64 (pp (ll l i) k).2 : Nat) : Int)) Try.underlying3 Try.underlying116 (u64_wrap _)) rfl rfl rfl ?_)
          refine RG_op rfl rfl rfl rfl (s_ctD (R := [2]) (W := [3]) (x0 := v) (v3) (fun y => ct_PutRow y (putL (u64 l.length) ++ certL (l.take i) ++ putL (u64 (ll l i).length) ++ prsL ((ll l i).take k) ++ putL (u64 (pp (ll l i) k).1)) (u64 (pp (ll l i) k).2) (u64_lt _) (by simp; omega)) fnF47 rfl rfl rfl rfl rfl rfl (by decide) (fun _ => rfl) (fun _ _ => rfl) rfl rfl fun v4 => ?_)
          refine RG_op rfl rfl rfl rfl (st_pure pure_assign rfl rfl rfl ?_)
          refine RG_end ?_
          refine WQ_keep [(4, _), (0, _), (5, _), (6, _)] ⟨rfl, rfl, rfl, rfl, trivial⟩ ?_
          have eL : putL (u64 l.length) ++ certL (l.take i) ++ putL (u64 (ll l i).length) ++ prsL ((ll l i).take k) ++ putL (u64 (pp (ll l i) k).1) ++ putL (u64 (pp (ll l i) k).2) = putL (u64 l.length) ++ certL (l.take i) ++ putL (u64 (ll l i).length) ++ prsL ((ll l i).take (k + 1)) := by
            rw [prsL_take (ll l i) k (by omega)]
            simp only [List.append_assoc]
          rw [eL]
          refine WQ_know (fun w hs _ => row_is 3 hs rfl) fun hv4 => ?_
          refine WQ_sat (fun w hs _ => hs.pick [0, 3, 6, 7, 4, 5] (by decide)) ?_
          refine WQ_inB ?_
          refine WQ_then ?_
          refine W_reg (m := 3) rfl rfl ?_
          refine RN_op rfl rfl rfl (st_pure pure_move rfl rfl rfl ?_)
          refine RN_op rfl rfl rfl (st_pure (pure_add64 (by omega)) rfl rfl rfl ?_)
          refine RN_op rfl rfl rfl (st_pure pure_assign rfl rfl rfl ?_)
          refine RN_end ?_
          refine WQ_keep [(6, _), (4, _), (0, _), (5, _)] ⟨rfl, rfl, rfl, rfl, trivial⟩ ?_
          have hK2 : ∀ j, j < k + 1 → prBad (pp (ll l i) j) = false := fun j hj => by
            rcases Nat.lt_or_ge j k with h | h
            · exact hK j h
            · have : j = k := by omega
              rw [this]; exact hb
          refine WQ_hand ((k + 1, v4)) (⟨by omega, hv4, hK2⟩) (by (try dsimp only); omega) (AllIn.sub ⟨rfl, rfl, rfl, rfl, trivial⟩) (EntP.ent (by repeat' first | exact EntP.nil | refine EntP.same ?_ | refine EntP.drop ?_ | refine EntP.nilRow ?_))
      · refine W_exit rfl ?_
        refine WQ_thenX rfl ?_
        refine WQ_thenX rfl ?_
        refine WQ_hit ?_
        refine WQ_inB ?_
        refine WQ_then ?_
        refine W_reg (m := 3) rfl rfl ?_
        refine RN_op rfl rfl rfl (st_pure pure_move rfl rfl rfl ?_)
        refine RN_op rfl rfl rfl (st_pure (pure_add64 (by omega)) rfl rfl rfl ?_)
        refine RN_op rfl rfl rfl (st_pure pure_assign rfl rfl rfl ?_)
        refine RN_end ?_
        refine WQ_keep [(5, _), (0, _), (4, _)] ⟨rfl, rfl, rfl, trivial⟩ ?_
        have hk2 : k = (ll l i).length := by omega
        subst hk2
        have eL : putL (u64 l.length) ++ certL (l.take i) ++ putL (u64 (ll l i).length) ++ prsL (ll l i) = putL (u64 l.length) ++ certL (l.take (i + 1)) := by
          rw [certL_take l i (by omega)]
          simp only [List.append_assoc]
        rw [List.take_length, eL] at hvc ⊢
        have hJ2 : ∀ j, j < i + 1 → ∀ k, k < (ll l j).length → prBad (pp (ll l j) k) = false := fun j hj => by
          rcases Nat.lt_or_ge j i with h | h
          · exact hI j h
          · have : j = i := by omega
            rw [this]; exact hK
        refine WQ_hand ((i + 1, vc)) (⟨by omega, hvc, hJ2⟩) (by (try dsimp only); omega) (AllIn.sub ⟨rfl, rfl, rfl, trivial⟩) (EntP.ent (by repeat' first | exact EntP.nil | refine EntP.same ?_ | refine EntP.drop ?_ | refine EntP.nilRow ?_))
    · refine W_exit rfl ?_
      refine WQ_thenX rfl ?_
      refine WQ_thenX rfl ?_
      refine WQ_hit ?_
      refine WQ_then ?_
      refine W_seq rfl ?_
      refine W_reg (m := 3) rfl rfl ?_
      refine RN_op rfl rfl rfl (st_pure pure_move rfl rfl rfl ?_)
      refine RN_op rfl rfl rfl (st_pure pure_assign rfl rfl rfl ?_)
      refine RN_op rfl rfl rfl (st_pure pure_assign rfl rfl rfl ?_)
      refine RN_end ?_
      refine WQ_keep [(3, _), (2, _)] ⟨rfl, rfl, trivial⟩ ?_
      refine WQ_then ?_
      refine W_ret rfl ?_
      refine WQ_ret (vs := [_, _]) (by rw [Try.results14]; rfl) fun w' hs' he' => ?_
      have hi2 : i = l.length := by omega
      subst hi2
      rw [List.take_length] at hs'
      have hb := not_bad hI
      obtain ⟨e1, e2⟩ := cert_ok l (by omega) hb
      rw [e1, e2]
      exact ⟨vb, rfl, hs'.pick [0, 1, 4] (by decide), he'⟩
end Go.Proofs.Ytlgfinchhnbhdaa
