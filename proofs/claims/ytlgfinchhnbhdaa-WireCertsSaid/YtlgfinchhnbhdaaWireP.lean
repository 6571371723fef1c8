/- Numbers as few bytes: what is put, what is read. Plain. -/
set_option linter.unusedVariables false
set_option linter.unusedSimpArgs false
namespace Go.Proofs.Ytlgfinchhnbhdaa

/-- The j-th of some bytes. -/
def nb (bs : List Nat) (j : Nat) : Nat := bs.getD j 0
theorem nb_get (bs : List Nat) (j : Nat) (h : j < bs.length) : bs[j]? = some (nb bs j) := by simp [nb, h]
theorem nb_drop (bs : List Nat) (i : Nat) (h : i < bs.length) : bs.drop i = nb bs i :: bs.drop (i + 1) := by
  rw [List.drop_eq_getElem_cons h]; simp [nb, h]
def BOk (bs : List Nat) : Prop := ∀ b ∈ bs, b < 256
theorem BOk.nb {bs : List Nat} (h : BOk bs) (j : Nat) : nb bs j < 256 := by
  unfold Go.Proofs.Ytlgfinchhnbhdaa.nb
  by_cases hj : j < bs.length
  · simp only [List.getD, List.getElem?_eq_getElem hj, Option.getD_some]; exact h _ (List.getElem_mem hj)
  · simp [List.getD, List.getElem?_eq_none (Nat.le_of_not_lt hj)]
theorem BOk.drop {bs : List Nat} (h : BOk bs) (k : Nat) : BOk (bs.drop k) := fun b hb => h b (List.mem_of_mem_drop hb)

/-- A number from the i-th of its bytes on. -/
def numL : Nat → Nat → List Nat → Except Int (Nat × List Nat)
  | _, _, [] => .error 3
  | i, acc, b :: r => if (i = 9 ∧ 1 < b) ∨ (0 < i ∧ b = 0) then .error 8 else if b < 128 then .ok (acc + b * 2 ^ (7 * i), r) else numL (i + 1) (acc + b % 128 * 2 ^ (7 * i)) r
/-- What a reader gives, what is left, its fault. -/
def rdNum (bs : List Nat) (c : Int) : Nat × List Nat × Int := if c = 0 then (match numL 0 0 bs with | .ok (n, r) => (n, r, 0) | .error e => (0, bs, e)) else (0, bs, c)
def rdBelowC (lim : Int) (bs : List Nat) (c : Int) : Int := if (rdNum bs c).2.2 = 0 ∧ (lim < 1 ∨ ((rdNum bs c).1 : Int) ≥ lim) then 2 else (rdNum bs c).2.2
def rdBelow (lim : Int) (bs : List Nat) (c : Int) : Int × List Nat × Int := (if rdBelowC lim bs c = 0 then ((rdNum bs c).1 : Int) else 0, (rdNum bs c).2.1, rdBelowC lim bs c)

theorem numL_lt {i acc : Nat} {bs : List Nat} {n : Nat} {r : List Nat} : ∀ (h : numL i acc bs = .ok (n, r)), acc < 2 ^ (7 * i) → i ≤ 9 → BOk bs → n < 2 ^ 64 ∧ BOk r ∧ r.length < bs.length := by
  induction bs generalizing i acc with
  | nil => intro h; simp [numL] at h
  | cons b bs ih =>
    intro h ha hi hb
    have hb0 := hb b List.mem_cons_self
    have hbs : BOk bs := fun x hx => hb x (List.mem_cons_of_mem _ hx)
    have hpow : 2 ^ (7 * (i + 1)) = 2 ^ (7 * i) * 128 := by rw [show 7 * (i + 1) = 7 * i + 7 by omega, Nat.pow_add]
    unfold numL at h
    split at h
    · cases h
    · rename_i h1
      split at h
      · rename_i h2
        injection h with h
        injection h with h3 h4
        subst h3 h4
        refine ⟨?_, hbs, by simp⟩
        by_cases h9 : i = 9
        · subst h9
          have : b ≤ 1 := by
            rcases Nat.lt_or_ge 1 b with h | h
            · exact absurd (Or.inl ⟨rfl, h⟩) h1
            · exact h
          have : b * 2 ^ (7 * 9) ≤ 1 * 2 ^ (7 * 9) := Nat.mul_le_mul_right _ this
          have e : (2 : Nat) ^ 64 = 2 ^ (7 * 9) * 2 := by decide
          omega
        · have h8 : 7 * (i + 1) ≤ 63 := by omega
          have : b * 2 ^ (7 * i) ≤ 127 * 2 ^ (7 * i) := Nat.mul_le_mul_right _ (by omega)
          have h9 : 2 ^ (7 * (i + 1)) ≤ 2 ^ 63 := Nat.pow_le_pow_right (by decide) h8
          have e : (2 : Nat) ^ 64 = 2 ^ 63 * 2 := by decide
          omega
      · rename_i h2
        have hi9 : i ≠ 9 := by
          intro h9
          exact h1 (Or.inl ⟨h9, by omega⟩)
        have hm : b % 128 * 2 ^ (7 * i) ≤ 127 * 2 ^ (7 * i) := Nat.mul_le_mul_right _ (by omega)
        obtain ⟨p, q, s⟩ := ih h (by omega) (by omega) hbs
        exact ⟨p, q, by simp; omega⟩
theorem rdNum_ok {bs : List Nat} {c : Int} (hb : BOk bs) : (rdNum bs c).1 < 2 ^ 64 ∧ BOk (rdNum bs c).2.1 ∧ (rdNum bs c).2.1.length ≤ bs.length := by
  unfold rdNum
  split
  · split
    · rename_i n r h
      obtain ⟨h1, h2, h3⟩ := numL_lt h (by decide) (by decide) hb
      exact ⟨h1, h2, Nat.le_of_lt h3⟩
    · exact ⟨Nat.two_pow_pos 64, hb, Nat.le_refl _⟩
  · exact ⟨Nat.two_pow_pos 64, hb, Nat.le_refl _⟩
/-- A number's bytes. -/
def putL (n : Nat) : List Nat := if n < 128 then [n] else (n % 128 + 128) :: putL (n / 128)
termination_by n
decreasing_by omega
theorem putL_small {n : Nat} (h : n < 128) : putL n = [n] := by rw [putL, if_pos h]
theorem putL_more {n : Nat} (h : ¬ n < 128) : putL n = (n % 128 + 128) :: putL (n / 128) := by rw [putL, if_neg h]
theorem putL_len : ∀ (k n : Nat), n < 128 ^ (k + 1) → (putL n).length ≤ k + 1
  | k, n, h => by
    by_cases hn : n < 128
    · rw [putL_small hn]; simp
    · rw [putL_more hn]
      cases k with
      | zero => simp at h; omega
      | succ k =>
        have := putL_len k (n / 128) (by rw [Nat.pow_succ] at h; omega)
        simp; omega
theorem putL_len64 {n : Nat} (h : n < 2 ^ 64) : (putL n).length ≤ 10 := putL_len 9 n (Nat.lt_of_lt_of_le h (by decide))
theorem putL_ok : ∀ (n : Nat), BOk (putL n)
  | n => by
    by_cases hn : n < 128
    · rw [putL_small hn]; intro b hb; simp at hb; omega
    · rw [putL_more hn]
      intro b hb
      rcases List.mem_cons.1 hb with rfl | hb
      · omega
      · exact putL_ok (n / 128) b hb
termination_by n => n
decreasing_by omega
def u64 (x : Int) : Nat := (x % 18446744073709551616).toNat
theorem u64_lt (x : Int) : u64 x < 2 ^ 64 := by unfold u64; omega
theorem u64_of {x : Int} (h : 0 ≤ x) (h2 : x < 18446744073709551616) : u64 x = x.toNat := by unfold u64; omega
def putsL (ns : List Int) : List Nat := ns.flatMap fun x => putL (u64 x)
theorem putsL_len (ns : List Int) : (putsL ns).length ≤ 10 * ns.length := by
  induction ns with
  | nil => simp [putsL]
  | cons x ns ih =>
    have := putL_len64 (u64_lt x)
    simp only [putsL, List.flatMap_cons, List.length_append, List.length_cons] at ih ⊢
    omega
theorem BOk.app {a b : List Nat} (ha : BOk a) (hb : BOk b) : BOk (a ++ b) := fun x hx => by
  rcases List.mem_append.1 hx with h | h
  · exact ha x h
  · exact hb x h
theorem putsL_ok (ns : List Int) : BOk (putsL ns) := fun b hb => by
  obtain ⟨x, _, h⟩ := List.mem_flatMap.1 hb
  exact putL_ok _ b h

/-! ### Certificates -/
abbrev Prs := List (Int × Int)
def pp (ps : Prs) (i : Nat) : Int × Int := ps.getD i (0, 0)
def ll (l : List Prs) (i : Nat) : Prs := l.getD i []
theorem pp_get (ps : Prs) (i : Nat) (h : i < ps.length) : ps[i]? = some (pp ps i) := by simp [pp, h]
theorem ll_get (l : List Prs) (i : Nat) (h : i < l.length) : l[i]? = some (ll l i) := by simp [ll, h]
theorem prs_eq {ps qs : Prs} (hl : ps.length = qs.length) (h : ∀ i, i < ps.length → pp ps i = pp qs i) : ps = qs := by
  apply List.ext_getElem? 
  intro i
  by_cases hi : i < ps.length
  · rw [pp_get ps i hi, pp_get qs i (by omega), h i hi]
  · rw [List.getElem?_eq_none (by omega), List.getElem?_eq_none (by omega)]
theorem lls_eq {l m : List Prs} (hl : l.length = m.length) (h : ∀ i, i < l.length → ll l i = ll m i) : l = m := by
  apply List.ext_getElem? 
  intro i
  by_cases hi : i < l.length
  · rw [ll_get l i hi, ll_get m i (by omega), h i hi]
  · rw [List.getElem?_eq_none (by omega), List.getElem?_eq_none (by omega)]
def prBad (p : Int × Int) : Bool := decide (p.1 < 0 ∨ p.1 ≥ 4096 ∨ p.2 < 0 ∨ p.2 ≥ 4096)
def prsL (ps : Prs) : List Nat := ps.flatMap fun p => putL (u64 p.1) ++ putL (u64 p.2)
def certL (l : List Prs) : List Nat := l.flatMap fun ps => putL (u64 ps.length) ++ prsL ps
def certBad (l : List Prs) : Bool := l.any fun ps => ps.any prBad
/-- A certificate as bytes, and the fault. -/
def certOut (l : List Prs) : List Nat := if l.length > 16 ∨ certBad l = true then [] else putL (u64 l.length) ++ certL l
def certCode (l : List Prs) : Int := if l.length > 16 then 9 else if certBad l = true then 2 else 0
theorem take_snoc {α : Type} (l : List α) (i : Nat) (h : i < l.length) : l.take (i + 1) = l.take i ++ [l[i]] := List.take_succ_eq_append_getElem h
theorem pp_elem (ps : Prs) (i : Nat) (h : i < ps.length) : ps[i] = pp ps i := by simp [pp, h]
theorem ll_elem (l : List Prs) (i : Nat) (h : i < l.length) : l[i] = ll l i := by simp [ll, h]
theorem prsL_take (ps : Prs) (i : Nat) (h : i < ps.length) : prsL (ps.take (i + 1)) = prsL (ps.take i) ++ (putL (u64 (pp ps i).1) ++ putL (u64 (pp ps i).2)) := by
  rw [prsL, take_snoc ps i h, List.flatMap_append, pp_elem]; simp [prsL]
theorem certL_take (l : List Prs) (i : Nat) (h : i < l.length) : certL (l.take (i + 1)) = certL (l.take i) ++ (putL (u64 (ll l i).length) ++ prsL (ll l i)) := by
  rw [certL, take_snoc l i h, List.flatMap_append, ll_elem]; simp [certL]
theorem bad_at {l : List Prs} {i k : Nat} (hi : i < l.length) (hk : k < (ll l i).length) (hb : prBad (pp (ll l i) k) = true) : certBad l = true := by
  unfold certBad
  rw [List.any_eq_true]
  refine ⟨ll l i, by rw [← ll_elem l i hi]; exact List.getElem_mem hi, ?_⟩
  rw [List.any_eq_true]
  exact ⟨_, by rw [← pp_elem _ k hk]; exact List.getElem_mem hk, hb⟩
theorem not_bad {l : List Prs} (h : ∀ i, i < l.length → ∀ k, k < (ll l i).length → prBad (pp (ll l i) k) = false) : certBad l = false := by
  unfold certBad
  rw [List.any_eq_false]
  intro ps hps
  obtain ⟨i, hi, rfl⟩ := List.getElem_of_mem hps
  simp only [Bool.not_eq_true, List.any_eq_false]
  intro p hp
  obtain ⟨k, hk, rfl⟩ := List.getElem_of_mem hp
  have h0 := h i hi k (by rw [← ll_elem l i hi]; exact hk)
  have e : pp (ll l i) k = l[i][k] := by
    have e1 := ll_elem l i hi
    simp only [← e1]
    exact (pp_elem _ k hk).symm
  rw [e] at h0
  simp [h0]
theorem prsL_len (ps : Prs) : (prsL ps).length ≤ 20 * ps.length := by
  induction ps with
  | nil => simp [prsL]
  | cons p ps ih =>
    have h1 := putL_len64 (u64_lt p.1)
    have h2 := putL_len64 (u64_lt p.2)
    simp only [prsL, List.flatMap_cons, List.length_append, List.length_cons] at ih ⊢
    omega
theorem certL_len (l : List Prs) (B : Nat) (h : ∀ ps ∈ l, ps.length ≤ B) : (certL l).length ≤ (10 + 20 * B) * l.length := by
  induction l with
  | nil => simp [certL]
  | cons ps l ih =>
    have h1 := putL_len64 (u64_lt (ps.length : Int))
    have h2 := prsL_len ps
    have h3 := h ps List.mem_cons_self
    have ih := ih (fun q hq => h q (List.mem_cons_of_mem _ hq))
    simp only [certL, List.flatMap_cons, List.length_append, List.length_cons] at ih ⊢
    rw [Nat.mul_add]
    omega
theorem ll_len {l : List Prs} {B : Nat} (h : ∀ ps ∈ l, ps.length ≤ B) (i : Nat) (hi : i < l.length) : (ll l i).length ≤ B := by
  rw [← ll_elem l i hi]; exact h _ (List.getElem_mem hi)

/-! ### Certificates read -/
theorem rdBelow_ok {lim : Int} {bs : List Nat} {c : Int} (hb : BOk bs) (hl : 1 ≤ lim) : 0 ≤ (rdBelow lim bs c).1 ∧ (rdBelow lim bs c).1 < lim ∧ BOk (rdBelow lim bs c).2.1 ∧ (rdBelow lim bs c).2.1.length ≤ bs.length := by
  obtain ⟨h1, h2, h3⟩ := rdNum_ok (c := c) hb
  refine ⟨?_, ?_, h2, h3⟩
  · unfold rdBelow; simp only; split
    · exact Int.natCast_nonneg _
    · exact Int.le_refl _
  · unfold rdBelow; simp only; split
    · rename_i h
      unfold rdBelowC at h
      split at h
      · cases h
      · rename_i h'; omega
    · omega
theorem rdNum_stuck {bs : List Nat} {c : Int} (h : c ≠ 0) : rdNum bs c = (0, bs, c) := by unfold rdNum; rw [if_neg h]
theorem rdBelow_stuck {lim : Int} {bs : List Nat} {c : Int} (h : c ≠ 0) : rdBelow lim bs c = (0, bs, c) := by
  unfold rdBelow rdBelowC
  rw [rdNum_stuck h]
  simp [h]
def rdPairs : Nat → List Nat → Int → Prs × List Nat × Int
  | 0, bs, c => ([], bs, c)
  | m + 1, bs, c => if c = 0 then
      (((rdBelow 4096 bs c).1, (rdBelow 4096 (rdBelow 4096 bs c).2.1 (rdBelow 4096 bs c).2.2).1) :: (rdPairs m (rdBelow 4096 (rdBelow 4096 bs c).2.1 (rdBelow 4096 bs c).2.2).2.1 (rdBelow 4096 (rdBelow 4096 bs c).2.1 (rdBelow 4096 bs c).2.2).2.2).1,
       (rdPairs m (rdBelow 4096 (rdBelow 4096 bs c).2.1 (rdBelow 4096 bs c).2.2).2.1 (rdBelow 4096 (rdBelow 4096 bs c).2.1 (rdBelow 4096 bs c).2.2).2.2).2)
    else ([], bs, c)
theorem rdPairs_stuck {m : Nat} {bs : List Nat} {c : Int} (h : c ≠ 0) : rdPairs m bs c = ([], bs, c) := by
  cases m with
  | zero => rfl
  | succ m => rw [rdPairs, if_neg h]
def rdLists : Nat → List Nat → Int → List Prs × List Nat × Int
  | 0, bs, c => ([], bs, c)
  | n + 1, bs, c =>
    ((rdPairs (rdBelow 65536 bs c).1.toNat (rdBelow 65536 bs c).2.1 (rdBelow 65536 bs c).2.2).1 :: (rdLists n (rdPairs (rdBelow 65536 bs c).1.toNat (rdBelow 65536 bs c).2.1 (rdBelow 65536 bs c).2.2).2.1 (rdPairs (rdBelow 65536 bs c).1.toNat (rdBelow 65536 bs c).2.1 (rdBelow 65536 bs c).2.2).2.2).1,
     (rdLists n (rdPairs (rdBelow 65536 bs c).1.toNat (rdBelow 65536 bs c).2.1 (rdBelow 65536 bs c).2.2).2.1 (rdPairs (rdBelow 65536 bs c).1.toNat (rdBelow 65536 bs c).2.1 (rdBelow 65536 bs c).2.2).2.2).2)
theorem rdLists_stuck {bs : List Nat} {c : Int} (h : c ≠ 0) : ∀ n, (rdLists n bs c).2 = (bs, c)
  | 0 => rfl
  | n + 1 => by
    simp only [rdLists, rdBelow_stuck h, rdPairs_stuck h]
    exact rdLists_stuck h n
theorem rdLists_pos {n : Nat} (h : 0 < n) (bs : List Nat) (c : Int) : rdLists n bs c = ((rdPairs (rdBelow 65536 bs c).1.toNat (rdBelow 65536 bs c).2.1 (rdBelow 65536 bs c).2.2).1 :: (rdLists (n - 1) (rdPairs (rdBelow 65536 bs c).1.toNat (rdBelow 65536 bs c).2.1 (rdBelow 65536 bs c).2.2).2.1 (rdPairs (rdBelow 65536 bs c).1.toNat (rdBelow 65536 bs c).2.1 (rdBelow 65536 bs c).2.2).2.2).1,
     (rdLists (n - 1) (rdPairs (rdBelow 65536 bs c).1.toNat (rdBelow 65536 bs c).2.1 (rdBelow 65536 bs c).2.2).2.1 (rdPairs (rdBelow 65536 bs c).1.toNat (rdBelow 65536 bs c).2.1 (rdBelow 65536 bs c).2.2).2.2).2) := by
  obtain ⟨k, rfl⟩ : ∃ k, n = k + 1 := ⟨n - 1, by omega⟩
  rfl
theorem rdPairs_pos {m : Nat} (h : 0 < m) (bs : List Nat) : rdPairs m bs 0 = (((rdBelow 4096 bs 0).1, (rdBelow 4096 (rdBelow 4096 bs 0).2.1 (rdBelow 4096 bs 0).2.2).1) :: (rdPairs (m - 1) (rdBelow 4096 (rdBelow 4096 bs 0).2.1 (rdBelow 4096 bs 0).2.2).2.1 (rdBelow 4096 (rdBelow 4096 bs 0).2.1 (rdBelow 4096 bs 0).2.2).2.2).1,
       (rdPairs (m - 1) (rdBelow 4096 (rdBelow 4096 bs 0).2.1 (rdBelow 4096 bs 0).2.2).2.1 (rdBelow 4096 (rdBelow 4096 bs 0).2.1 (rdBelow 4096 bs 0).2.2).2.2).2) := by
  obtain ⟨k, rfl⟩ : ∃ k, m = k + 1 := ⟨m - 1, by omega⟩
  rw [rdPairs, if_pos rfl]; rfl
def rdEndC (bs : List Nat) (c : Int) : Int := if 0 < bs.length ∧ c = 0 then 5 else c
/-- A certificate out of bytes, and the fault. -/
def certRead (bs : List Nat) : List Prs × List Nat × Int := rdLists (rdBelow 17 bs 0).1.toNat (rdBelow 17 bs 0).2.1 (rdBelow 17 bs 0).2.2
def certErr (bs : List Nat) : Int := rdEndC (certRead bs).2.1 (certRead bs).2.2
def certGot (bs : List Nat) : List Prs := if certErr bs = 0 then (certRead bs).1 else []
end Go.Proofs.Ytlgfinchhnbhdaa
