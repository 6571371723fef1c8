/- Readers of bytes: the walks. -/
import Derived.Test.YtlgfinchhnbhdaaTy
import Derived.Test.YtlgfinchhnbhdaaWireP
set_option linter.unusedVariables false
set_option linter.unusedSimpArgs false
namespace Go.Proofs.Ytlgfinchhnbhdaa
open Go Go.RowKit

/-! ### Bytes in memory -/
def byts (bs : List Nat) : List Value := bs.map fun (b : Nat) => .int .u8 (b : Int)
theorem byts_length (bs : List Nat) : (byts bs).length = bs.length := by simp [byts]
theorem byts_get (bs : List Nat) (i : Nat) (h : i < bs.length) : (byts bs)[i * 1]? = some (.int .u8 (nb bs i : Nat)) := by
  rw [Nat.mul_one, byts, List.getElem?_map, nb_get bs i h]; rfl
theorem byts_one (bs : List Nat) : ∀ u ∈ byts bs, u.oneCell' = true := by
  intro u hu
  obtain ⟨b, _, rfl⟩ := List.mem_map.1 hu
  rfl
theorem ent_cut {e s n m : Nat} {v : Value} {xs : List Value} {l : List HP} (hm : m ≤ n) : Ent ((Chunk.row e s v n xs).toHP :: l) ((Chunk.row e s (vsl v m n s) (n - m) (xs.drop (m * s))).toHP :: l) := by
  rintro w T ⟨S, ⟨⟨h0, h1⟩, h2⟩, h3, h4⟩
  refine ⟨S, ?_, h3, h4⟩
  have e1 : (n - m) * s = n * s - m * s := Nat.sub_mul _ _ _
  rcases h1 with ⟨rfl, rfl⟩ | ⟨g, off, cap, cur, rfl, hg, hn, hc, hz, hcs⟩
  · have : m = 0 := by omega
    subst this
    exact ⟨⟨by simp [h0], .inl ⟨rfl, rfl⟩⟩, h2⟩
  · have e2 : (cap - m) * s = cap * s - m * s := Nat.sub_mul _ _ _
    have e3 : m * s ≤ cap * s := Nat.mul_le_mul_right _ (by omega)
    by_cases e : cap = m
    · subst e
      have : n = cap := by omega
      subst this
      refine ⟨⟨by simp [h0], .inr ⟨g, off, n - n, cur, by simp [vsl], hg, Nat.le_refl _, by omega, by simp; omega, fun j hj => by simp at hj⟩⟩, ?_⟩
      simpa [vsl, Value.ownBlock] using h2
    · refine ⟨⟨by simp [h0, e1], .inr ⟨g, off + m * s, cap - m, cur, by simp [vsl, e, add_lit'], hg, by omega, by omega, by omega, fun j hj => ?_⟩⟩, ?_⟩
      · rw [Nat.add_assoc, hcs _ (by omega), List.getElem?_drop]
      · simpa [vsl, e, Value.ownBlock, add_lit'] using h2
theorem byts_drop (bs : List Nat) (m : Nat) : (byts bs).drop (m * 1) = byts (bs.drop m) := by simp [byts, List.map_drop]

/-! ### A reader -/
abbrev RdC (g : Nat) (v : Value) (c : Int) : Chunk := .blk g (.cells [v, .int .i64 c].toArray 157 (0, 0))
abbrev ByR (v : Value) (bs : List Nat) : Chunk := .row 5 1 v bs.length (byts bs)
/-- A reader of some bytes, with a fault. -/
def RdH (g : Nat) (bs : List Nat) (c : Int) : HP := HP.ex fun v => HP.sep [(RdC g v c).toHP, (ByR v bs).toHP]
theorem rd_open {w : World} {g : Nat} {bs : List Nat} {c : Int} {L : List Chunk} : SatC w (.hp (RdH g bs c) :: L) ↔ ∃ v, SatC w (RdC g v c :: ByR v bs :: L) := by
  show Sat w (RdH g bs c :: hps L) ↔ _
  simp only [RdH, Sat_ex, Sat_sep, List.cons_append, List.nil_append]
  exact Iff.rfl
theorem row_is {w : World} {L : List Chunk} {e s n : Nat} {v : Value} {xs : List Value} (j : Nat) (h : SatC w L) (hj : L[j]? = some (.row e s v n xs)) : IsRow v n := (isRow_of_sat (SatC.take h j hj)).1

set_option maxHeartbeats 400000 in
theorem ct_FailC (g : Nat) (v : Value) (c e : Int) [One v] : Ct Try.prog 77 [.pointer (some ⟨g, 0, none⟩), .int .i64 e] [] [RdC g v c] (X := Unit) (fun _ => .tuple #[]) (fun _ => [RdC g v (if c = 0 then e else c)]) := by
  refine ct_of fun w l hs => ?_
  refine enter (c := bodyOf Try.f77) Try.func77 rfl Try.ntmps77 rfl (L := [RdC g v c, .hp (HP.sep l)]) hs ?_
  refine W_seq rfl ?_
  refine W_reg (m := 5) rfl rfl ?_
  refine RN_op rfl rfl rfl (st_pure pure_move rfl rfl rfl ?_)
  refine RN_op rfl rfl rfl (st_pure pure_nil rfl rfl rfl ?_)
  refine RN_op rfl rfl rfl (st_pure (pure_field0 1 Try.underlying157 rfl rfl sz27) rfl rfl rfl ?_)
  refine RN_op rfl rfl rfl (st_ld 0 rfl Try.underlying27 rfl rfl rfl cell_blk rfl rfl ?_)
  refine RN_op rfl rfl rfl (st_pure pure_eql rfl rfl rfl ?_)
  refine RN_end ?_
  refine WQ_keep [(8, _), (0, _), (1, _)] ⟨rfl, rfl, rfl, trivial⟩ ?_
  refine WQ_then ?_
  refine W_cond rfl rfl (fun hc1 => ?_) (fun hc1 => ?_)
  · refine W_reg (m := 5) rfl rfl ?_
    refine RN_op rfl rfl rfl (st_pure pure_move rfl rfl rfl ?_)
    refine RN_op rfl rfl rfl (st_pure pure_move rfl rfl rfl ?_)
    refine RN_op rfl rfl rfl (st_pure pure_nil rfl rfl rfl ?_)
    refine RN_op rfl rfl rfl (st_pure (pure_field0 1 Try.underlying157 rfl rfl sz27) rfl rfl rfl ?_)
    refine RN_op rfl rfl rfl (s_st 0 rfl sz27 rfl rfl rfl one_cells (puts_one One.out (put_blk One.out)) rfl ?_)
    refine RN_end ?_
    refine WQ_keep [] trivial ?_
    refine WQ_fall (vs := []) (by rw [Try.results77]; rfl) fun w' hs' he' => ?_
    rw [if_pos hc1]
    exact ⟨(), rfl, hs', he'⟩
  · refine W_skip rfl ?_
    refine WQ_fall (vs := []) (by rw [Try.results77]; rfl) fun w' hs' he' => ?_
    rw [if_neg hc1]
    exact ⟨(), rfl, hs', he'⟩

/-- What holds at the head of a number's loop. -/
def NumI (bs : List Nat) (c0 : Int) (i acc : Nat) (c : Int) : Prop :=
  (c = 0 ∧ c0 = 0 ∧ i ≤ bs.length ∧ i ≤ 9 ∧ acc < 2 ^ (7 * i) ∧ numL 0 0 bs = numL i acc (bs.drop i)) ∨ (c ≠ 0 ∧ c0 ≠ 0 ∧ c = c0) ∨ (c ≠ 0 ∧ c0 = 0 ∧ numL 0 0 bs = .error c)
theorem or_add (a b k : Nat) (ha : a < 2 ^ k) : a ||| b * 2 ^ k = a + b * 2 ^ k := by
  rw [Nat.add_comm, Nat.mul_comm, Nat.or_comm]
  exact (Nat.two_pow_add_eq_or_of_lt ha b).symm
theorem bits_or64 (a b : Nat) (ha : a < 2 ^ 64) (hb : b < 2 ^ 64) : bitsV .or .u64 (a : Int) (b : Int) = ((a ||| b : Nat) : Int) := by
  have h : a ||| b < 2 ^ 64 := Nat.or_lt_two_pow ha hb
  show IntKind.u64.wrap ((BitVec.ofInt 64 (a : Int) ||| BitVec.ofInt 64 (b : Int)).toNat : Int) = _
  rw [BitVec.toNat_or]
  have e1 : (BitVec.ofInt 64 (a : Int)).toNat = a := by simp [BitVec.toNat_ofInt]; omega
  have e2 : (BitVec.ofInt 64 (b : Int)).toNat = b := by simp [BitVec.toNat_ofInt]; omega
  rw [e1, e2]
  exact wrapU64 (by omega)
theorem bits_and8 (a b : Nat) (ha : a < 2 ^ 8) (hb : b < 2 ^ 8) : bitsV .and .u8 (a : Int) (b : Int) = ((a &&& b : Nat) : Int) := by
  have h : a &&& b ≤ a := Nat.and_le_left
  show IntKind.u8.wrap ((BitVec.ofInt 8 (a : Int) &&& BitVec.ofInt 8 (b : Int)).toNat : Int) = _
  rw [BitVec.toNat_and]
  have e1 : (BitVec.ofInt 8 (a : Int)).toNat = a := by simp [BitVec.toNat_ofInt]; omega
  have e2 : (BitVec.ofInt 8 (b : Int)).toNat = b := by simp [BitVec.toNat_ofInt]; omega
  rw [e1, e2]
  exact wrapU8 (by omega)
theorem and127 (b : Nat) : b &&& 127 = b % 128 := Nat.and_two_pow_sub_one_eq_mod b 7
theorem shl_u64 (b k : Nat) (h : b * 2 ^ k < 2 ^ 64) (hk : k ≤ 64) : IntKind.u64.wrap ((b : Int) * 2 ^ (min ((k : Int)).toNat IntKind.u64.bits)) = ((b * 2 ^ k : Nat) : Int) := by
  have : min ((k : Int)).toNat IntKind.u64.bits = k := by simp [IntKind.bits]; omega
  rw [this]
  have e : (b : Int) * 2 ^ k = ((b * 2 ^ k : Nat) : Int) := by simp
  rw [e]
  exact wrapU64 (by omega)


theorem NumI.zero {bs : List Nat} {c0 c : Int} {i acc : Nat} (h : NumI bs c0 i acc c) (hc : c = 0) : c0 = 0 ∧ i ≤ bs.length ∧ i ≤ 9 ∧ acc < 2 ^ (7 * i) ∧ numL 0 0 bs = numL i acc (bs.drop i) := by
  rcases h with ⟨_, h⟩ | ⟨h, _⟩ | ⟨h, _⟩
  · exact h
  · exact absurd hc h
  · exact absurd hc h
theorem NumI.short {bs : List Nat} {i acc : Nat} (h : numL 0 0 bs = numL i acc (bs.drop i)) (hi : bs.length ≤ i) (j a : Nat) : NumI bs 0 j a 3 := by
  refine .inr (.inr ⟨by decide, rfl, ?_⟩)
  rw [h, List.drop_eq_nil_of_le hi]; rfl
theorem NumI.form {bs : List Nat} {i acc : Nat} (h : numL 0 0 bs = numL i acc (bs.drop i)) (hi : i < bs.length) (hf : (i = 9 ∧ 1 < nb bs i) ∨ (0 < i ∧ nb bs i = 0)) (j a : Nat) : NumI bs 0 j a 8 := by
  refine .inr (.inr ⟨by decide, rfl, ?_⟩)
  rw [h, nb_drop bs i hi, numL, if_pos hf]
theorem NumI.next {bs : List Nat} {i acc : Nat} (h : numL 0 0 bs = numL i acc (bs.drop i)) (hi : i < bs.length) (hf : ¬ ((i = 9 ∧ 1 < nb bs i) ∨ (0 < i ∧ nb bs i = 0))) (hb : ¬ nb bs i < 128) (h9 : i ≤ 9) (ha : acc < 2 ^ (7 * i)) : NumI bs 0 (i + 1) (acc + nb bs i % 128 * 2 ^ (7 * i)) 0 := by
  refine .inl ⟨rfl, rfl, hi, ?_, ?_, ?_⟩
  · rcases Nat.lt_or_ge i 9 with h | h
    · omega
    · exact absurd (Or.inl ⟨by omega, by omega⟩) hf
  · rw [show 7 * (i + 1) = 7 * i + 7 by omega, Nat.pow_add]
    have : nb bs i % 128 * 2 ^ (7 * i) ≤ 127 * 2 ^ (7 * i) := Nat.mul_le_mul_right _ (by omega)
    omega
  · rw [h, nb_drop bs i hi, numL, if_neg hf, if_neg hb]
theorem num_done {bs : List Nat} {i acc : Nat} (h : numL 0 0 bs = numL i acc (bs.drop i)) (hi : i < bs.length) (hf : ¬ ((i = 9 ∧ 1 < nb bs i) ∨ (0 < i ∧ nb bs i = 0))) (hb : nb bs i < 128) : rdNum bs 0 = (acc + nb bs i * 2 ^ (7 * i), bs.drop (i + 1), 0) := by
  unfold rdNum
  rw [if_pos rfl, h, nb_drop bs i hi, numL, if_neg hf, if_pos hb]
theorem num_fail {bs : List Nat} {c0 c : Int} {i acc : Nat} (h : NumI bs c0 i acc c) (hc : ¬ c = 0) : rdNum bs c0 = (0, bs, c) := by
  unfold rdNum
  rcases h with ⟨h, _⟩ | ⟨_, h1, rfl⟩ | ⟨_, rfl, h⟩
  · exact absurd h hc
  · rw [if_neg h1]
  · rw [if_pos rfl, h]
theorem or_left {p q : Prop} [Decidable p] [Decidable q] (h : p) : (some (Value.bool (decide p)) : Option Value) = some (.bool (decide (p ∨ q))) := by simp [h]
theorem or_right {p q : Prop} [Decidable p] [Decidable q] (h : ¬ p) : (some (Value.bool (decide q)) : Option Value) = some (.bool (decide (p ∨ q))) := by simp [h]
theorem small_pow {b i : Nat} (h9 : i ≤ 9) (hb : b < 128) (hf : ¬ (i = 9 ∧ 1 < b)) : b * 2 ^ (7 * i) < 2 ^ 64 := by
  by_cases h : i = 9
  · subst h
    have : b ≤ 1 := by omega
    have h2 : b * 2 ^ (7 * 9) ≤ 1 * 2 ^ (7 * 9) := Nat.mul_le_mul_right _ this
    have e : (2 : Nat) ^ 64 = 2 ^ (7 * 9) * 2 := by decide
    omega
  · have h2 : b * 2 ^ (7 * i) ≤ 127 * 2 ^ (7 * i) := Nat.mul_le_mul_right _ (by omega)
    have h3 : 2 ^ (7 * i) ≤ 2 ^ 56 := Nat.pow_le_pow_right (by decide) (by omega)
    have e : (2 : Nat) ^ 64 = 2 ^ 56 * 256 := by decide
    omega
theorem acc_small {acc i : Nat} (h9 : i ≤ 9) (h : acc < 2 ^ (7 * i)) : acc < 2 ^ 64 := Nat.lt_of_lt_of_le h (Nat.pow_le_pow_right (by decide) (by omega))

set_option maxRecDepth 100000 in
set_option maxHeartbeats 1000000 in
theorem ct_Num (g : Nat) (bs : List Nat) (c0 : Int) (hb : BOk bs) : Ct Try.prog 76 [.pointer (some ⟨g, 0, none⟩)] [] [.hp (RdH g bs c0)] (X := Unit) (fun _ => .int .u64 ((rdNum bs c0).1 : Nat)) (fun _ => [.hp (RdH g (rdNum bs c0).2.1 (rdNum bs c0).2.2)]) := by
  refine ct_of fun w l hs0 => ?_
  obtain ⟨v, hs⟩ := rd_open.1 hs0
  have hr : IsRow v bs.length := row_is 1 hs rfl
  have hm := hr.max
  unfold maxLen at hm
  haveI := hr.one
  refine enter (c := bodyOf Try.f76) Try.func76 rfl Try.ntmps76 rfl (L := [RdC g v c0, ByR v bs, .hp (HP.sep l)]) hs ?_
  refine W_seq rfl ?_
  refine W_reg (m := 1) rfl rfl ?_
  refine RN_op rfl rfl rfl (st_pure pure_assign rfl rfl rfl ?_)
  refine RN_end ?_
  refine WQ_keep [(0, _)] ⟨rfl, trivial⟩ ?_
  refine WQ_then ?_
  refine W_seq rfl ?_
  refine W_reg (m := 1) rfl rfl ?_
  refine RN_op rfl rfl rfl (st_pure pure_assign rfl rfl rfl ?_)
  refine RN_end ?_
  refine WQ_keep [(3, _), (0, _)] ⟨rfl, rfl, trivial⟩ ?_
  refine WQ_then ?_
  refine W_seq rfl ?_
  refine W_seq rfl ?_
  refine W_reg (m := 1) rfl rfl ?_
  refine RN_op rfl rfl rfl (st_pure pure_assign rfl rfl rfl ?_)
  refine RN_end ?_
  refine WQ_keep [(4, _), (3, _), (0, _)] ⟨rfl, rfl, rfl, trivial⟩ ?_
  refine WQ_then ?_
  refine W_block rfl ?_
  refine W_loop (σ := Nat × Nat × Int) (fun ⟨i, acc, c⟩ => if c = 0 then bs.length + 1 - i else 0) (fun ⟨i, acc, c⟩ => [(0, .pointer (some ⟨g, 0, none⟩)), (3, .int .u64 ((acc : Nat) : Int)), (4, .int .i64 ((i : Nat) : Int))]) (fun ⟨i, acc, c⟩ => [RdC g v c, ByR v bs, .hp (HP.sep l)]) (fun ⟨i, acc, c⟩ => NumI bs c0 i acc c) ((0, 0, c0)) rfl (by by_cases h : c0 = 0; exact .inl ⟨h, h, Nat.zero_le _, by omega, by simp, rfl⟩; exact .inr (.inl ⟨h, h, rfl⟩)) (AllIn.sub ⟨rfl, rfl, rfl, trivial⟩) (EntP.ent (by repeat' first | exact EntP.nil | refine EntP.same ?_ | refine EntP.drop ?_ | refine EntP.nilRow ?_)) ?_
  rintro ⟨i, acc, c⟩ hI
  refine W_as [(0, .pointer (some ⟨g, 0, none⟩)), (3, .int .u64 ((acc : Nat) : Int)), (4, .int .i64 ((i : Nat) : Int))] [RdC g v c, ByR v bs, .hp (HP.sep l)] ⟨rfl, rfl, rfl, trivial⟩ (EntP.refl _) ?_
  refine W_seq rfl ?_
  refine W_seq rfl ?_
  refine W_reg (m := 5) rfl rfl ?_
  refine RN_op rfl rfl rfl (st_pure pure_move rfl rfl rfl ?_)
  refine RN_op rfl rfl rfl (st_pure pure_nil rfl rfl rfl ?_)
  refine RN_op rfl rfl rfl (st_pure (pure_field0 1 Try.underlying157 rfl rfl sz27) rfl rfl rfl ?_)
  refine RN_op rfl rfl rfl (st_ld 0 rfl Try.underlying27 rfl rfl rfl cell_blk rfl rfl ?_)
  refine RN_op rfl rfl rfl (st_pure pure_eql rfl rfl rfl ?_)
  refine RN_end ?_
  refine WQ_keep [(9, _), (0, _), (3, _), (4, _)] ⟨rfl, rfl, rfl, rfl, trivial⟩ ?_
  refine WQ_then ?_
  refine W_cond rfl rfl (fun hc1 => ?_) (fun hc1 => ?_)
  · obtain ⟨hc0, hi, hi9, hacc, hn⟩ := NumI.zero hI hc1
    subst hc1
    subst hc0
    refine W_skip rfl ?_
    refine WQ_then ?_
    refine W_seq rfl ?_
    refine W_block rfl ?_
    refine W_block rfl ?_
    refine W_seq rfl ?_
    refine W_reg (m := 8) rfl rfl ?_
    refine RN_op rfl rfl rfl (st_pure pure_move rfl rfl rfl ?_)
    refine RN_op rfl rfl rfl (st_pure pure_move rfl rfl rfl ?_)
    refine RN_op rfl rfl rfl (st_pure pure_nil rfl rfl rfl ?_)
    refine RN_op rfl rfl rfl (st_pure (pure_field0 0 Try.underlying157 rfl rfl sz23) rfl rfl rfl ?_)
    refine RN_op rfl rfl rfl (st_ld 0 rfl Try.underlying23 rfl rfl rfl cell_blk rfl rfl ?_)
    refine RN_op rfl rfl rfl (st_pure (pure_lenR Try.underlying23 (by assumption)) rfl rfl rfl ?_)
    refine RN_op rfl rfl rfl (st_pure pure_geq rfl rfl rfl ?_)
    refine RN_op rfl rfl rfl (st_pure pure_assign rfl rfl rfl ?_)
    refine RN_end ?_
    refine WQ_keep [(26, _), (0, _), (3, _), (4, _)] ⟨rfl, rfl, rfl, rfl, trivial⟩ ?_
    refine WQ_then ?_
    refine W_cond rfl rfl (fun hc2 => ?_) (fun hc2 => ?_)
    · refine W_reg (m := 2) rfl rfl ?_
      refine RN_op rfl rfl rfl (st_pure pure_move rfl rfl rfl ?_)
      refine RN_op rfl rfl rfl (s_ct (R := []) (W := [0]) (x0 := ()) (ct_FailC g v 0 3) fnF77 rfl rfl rfl rfl (by decide) rfl (fun _ => rfl) rfl rfl fun _ => ?_)
      refine RN_end ?_
      refine WQ_keep [(0, _), (3, _), (4, _)] ⟨rfl, rfl, rfl, trivial⟩ ?_
      refine WQ_inB ?_
      refine WQ_inB ?_
      refine WQ_then ?_
      refine W_reg (m := 3) rfl rfl ?_
      refine RN_op rfl rfl rfl (st_pure pure_move rfl rfl rfl ?_)
      refine RN_op rfl rfl rfl (st_pure (pure_add64 (by omega)) rfl rfl rfl ?_)
      refine RN_op rfl rfl rfl (st_pure pure_assign rfl rfl rfl ?_)
      refine RN_end ?_
      refine WQ_keep [(4, _), (0, _), (3, _)] ⟨rfl, rfl, rfl, trivial⟩ ?_
      refine WQ_hand ((i + 1, acc, 3)) (NumI.short hn (by omega) _ _) (by simp; omega) (AllIn.sub ⟨rfl, rfl, rfl, trivial⟩) (EntP.ent (by repeat' first | exact EntP.nil | refine EntP.same ?_ | refine EntP.drop ?_ | refine EntP.nilRow ?_))
    · refine W_seq rfl ?_
      apply W_cut [(0, .pointer (some ⟨g, 0, none⟩)), (3, .int .u64 ((acc : Nat) : Int)), (4, .int .i64 ((i : Nat) : Int)), (36, .bool (decide (((i : Int) = 9 ∧ ((nb bs i : Nat) : Int) > 1) ∨ ((i : Int) > 0 ∧ ((nb bs i : Nat) : Int) = 0))))] [RdC g v 0, ByR v bs, .hp (HP.sep l)]
      · refine W_seq rfl ?_
        refine W_reg (m := 13) rfl rfl ?_
        refine RN_op rfl rfl rfl (st_pure pure_move rfl rfl rfl ?_)
        refine RN_op rfl rfl rfl (st_pure pure_eql rfl rfl rfl ?_)
        refine RN_op rfl rfl rfl (st_pure pure_move rfl rfl rfl ?_)
        refine' RN_and 2 8 [(0, _), (3, _), (4, _)] rfl rfl rfl rfl rfl rfl rfl rfl rfl rfl rfl rfl rfl ⟨rfl, rfl, rfl, trivial⟩ (wanted_none rfl) (fun hg11 => ?_) ?_
        rotate_left 2
        · refine RN_gT rfl rfl rfl rfl rfl rfl (st_pure pure_move rfl rfl rfl ?_)
          refine RN_gT rfl rfl rfl rfl rfl rfl (st_pure pure_nil rfl rfl rfl ?_)
          refine RN_gT rfl rfl rfl rfl rfl rfl (st_pure (pure_field0 0 Try.underlying157 rfl rfl sz23) rfl rfl rfl ?_)
          refine RN_gT rfl rfl rfl rfl rfl rfl (st_ld 0 rfl Try.underlying23 rfl rfl rfl cell_blk rfl rfl ?_)
          refine RN_gT rfl rfl rfl rfl rfl rfl (st_pure pure_move rfl rfl rfl ?_)
          refine RN_gT rfl rfl rfl rfl rfl rfl (st_pure (pure_indexR Try.underlying23 sz5 (by assumption) (by omega)) rfl rfl rfl ?_)
          refine RN_gT rfl rfl rfl rfl rfl rfl (st_ld 1 rfl Try.underlying5 rfl rfl rfl (cell_row (by assumption) (by omega) (byts_get bs i (by omega))) rfl rfl ?_)
          refine RN_gT rfl rfl rfl rfl rfl rfl (st_pure pure_gtr rfl rfl rfl ?_)
          exact RN_end (cut_end (AllIn.sub ⟨rfl, rfl, rfl, rfl, rfl, trivial⟩) (Ent.refl _))
        refine RN_op rfl rfl rfl (st_pure pure_assign rfl rfl rfl ?_)
        refine RN_end ?_
        refine WQ_keep [(36, _), (0, _), (3, _), (4, _)] ⟨rfl, rfl, rfl, rfl, trivial⟩ ?_
        refine WQ_then ?_
        refine W_cond rfl rfl (fun hc3 => ?_) (fun hc3 => ?_)
        · refine W_skip rfl ?_
          exact WQ_mid (AllIn.sub ⟨rfl, rfl, rfl, or_left hc3, trivial⟩) (EntP.ent (by repeat' first | exact EntP.nil | refine EntP.same ?_ | refine EntP.drop ?_ | refine EntP.nilRow ?_))
        · refine W_reg (m := 13) rfl rfl ?_
          refine RN_op rfl rfl rfl (st_pure pure_move rfl rfl rfl ?_)
          refine RN_op rfl rfl rfl (st_pure pure_gtr rfl rfl rfl ?_)
          refine RN_op rfl rfl rfl (st_pure pure_move rfl rfl rfl ?_)
          refine' RN_and 2 8 [(0, _), (3, _), (4, _)] rfl rfl rfl rfl rfl rfl rfl rfl rfl rfl rfl rfl rfl ⟨rfl, rfl, rfl, trivial⟩ (wanted_none rfl) (fun hg11 => ?_) ?_
          rotate_left 2
          · refine RN_gT rfl rfl rfl rfl rfl rfl (st_pure pure_move rfl rfl rfl ?_)
            refine RN_gT rfl rfl rfl rfl rfl rfl (st_pure pure_nil rfl rfl rfl ?_)
            refine RN_gT rfl rfl rfl rfl rfl rfl (st_pure (pure_field0 0 Try.underlying157 rfl rfl sz23) rfl rfl rfl ?_)
            refine RN_gT rfl rfl rfl rfl rfl rfl (st_ld 0 rfl Try.underlying23 rfl rfl rfl cell_blk rfl rfl ?_)
            refine RN_gT rfl rfl rfl rfl rfl rfl (st_pure pure_move rfl rfl rfl ?_)
            refine RN_gT rfl rfl rfl rfl rfl rfl (st_pure (pure_indexR Try.underlying23 sz5 (by assumption) (by omega)) rfl rfl rfl ?_)
            refine RN_gT rfl rfl rfl rfl rfl rfl (st_ld 1 rfl Try.underlying5 rfl rfl rfl (cell_row (by assumption) (by omega) (byts_get bs i (by omega))) rfl rfl ?_)
            refine RN_gT rfl rfl rfl rfl rfl rfl (st_pure pure_eql rfl rfl rfl ?_)
            exact RN_end (cut_end (AllIn.sub ⟨rfl, rfl, rfl, rfl, rfl, trivial⟩) (Ent.refl _))
          refine RN_op rfl rfl rfl (st_pure pure_assign rfl rfl rfl ?_)
          refine RN_end ?_
          refine WQ_keep [(36, _), (0, _), (3, _), (4, _)] ⟨rfl, rfl, rfl, rfl, trivial⟩ ?_
          exact WQ_mid (AllIn.sub ⟨rfl, rfl, rfl, or_right hc3, trivial⟩) (EntP.ent (by repeat' first | exact EntP.nil | refine EntP.same ?_ | refine EntP.drop ?_ | refine EntP.nilRow ?_))
      · refine W_cond rfl rfl (fun hc4 => ?_) (fun hc4 => ?_)
        · refine W_reg (m := 2) rfl rfl ?_
          refine RN_op rfl rfl rfl (st_pure pure_move rfl rfl rfl ?_)
          refine RN_op rfl rfl rfl (s_ct (R := []) (W := [0]) (x0 := ()) (ct_FailC g v 0 8) fnF77 rfl rfl rfl rfl (by decide) rfl (fun _ => rfl) rfl rfl fun _ => ?_)
          refine RN_end ?_
          refine WQ_keep [(0, _), (3, _), (4, _)] ⟨rfl, rfl, rfl, trivial⟩ ?_
          refine WQ_inB ?_
          refine WQ_inB ?_
          refine WQ_then ?_
          refine W_reg (m := 3) rfl rfl ?_
          refine RN_op rfl rfl rfl (st_pure pure_move rfl rfl rfl ?_)
          refine RN_op rfl rfl rfl (st_pure (pure_add64 (by omega)) rfl rfl rfl ?_)
          refine RN_op rfl rfl rfl (st_pure pure_assign rfl rfl rfl ?_)
          refine RN_end ?_
          refine WQ_keep [(4, _), (0, _), (3, _)] ⟨rfl, rfl, rfl, trivial⟩ ?_
          refine WQ_hand ((i + 1, acc, 8)) (NumI.form hn (by omega) (by omega) _ _) (by simp; omega) (AllIn.sub ⟨rfl, rfl, rfl, trivial⟩) (EntP.ent (by repeat' first | exact EntP.nil | refine EntP.same ?_ | refine EntP.drop ?_ | refine EntP.nilRow ?_))
        · refine W_seq rfl ?_
          refine W_reg (m := 9) rfl rfl ?_
          refine RN_op rfl rfl rfl (st_pure pure_move rfl rfl rfl ?_)
          refine RN_op rfl rfl rfl (st_pure pure_nil rfl rfl rfl ?_)
          refine RN_op rfl rfl rfl (st_pure (pure_field0 0 Try.underlying157 rfl rfl sz23) rfl rfl rfl ?_)
          refine RN_op rfl rfl rfl (st_ld 0 rfl Try.underlying23 rfl rfl rfl cell_blk rfl rfl ?_)
          refine RN_op rfl rfl rfl (st_pure pure_move rfl rfl rfl ?_)
          refine RN_op rfl rfl rfl (st_pure (pure_indexR Try.underlying23 sz5 (by assumption) (by omega)) rfl rfl rfl ?_)
          refine RN_op rfl rfl rfl (st_ld 1 rfl Try.underlying5 rfl rfl rfl (cell_row (by assumption) (by omega) (byts_get bs i (by omega))) rfl rfl ?_)
          refine RN_op rfl rfl rfl (st_pure pure_lss rfl rfl rfl ?_)
          refine RN_op rfl rfl rfl (st_pure pure_assign rfl rfl rfl ?_)
          refine RN_end ?_
          refine WQ_keep [(63, _), (0, _), (3, _), (4, _)] ⟨rfl, rfl, rfl, rfl, trivial⟩ ?_
          refine WQ_then ?_
          refine W_cond rfl rfl (fun hc5 => ?_) (fun hc5 => ?_)
          · refine W_seq rfl ?_
            have hbi := hb.nb i
            have hsp := small_pow (b := nb bs i) hi9 (by omega) (by omega)
            have has := acc_small hi9 hacc
            haveI : One (vsl v (i + 1) bs.length 1) := (hr.vsl (lo := i + 1) (hi := bs.length) (by omega) (Nat.le_refl _)).one
            refine W_reg (m := 14) rfl rfl ?_
            refine RN_op rfl rfl rfl (st_pure pure_move rfl rfl rfl ?_)
            refine RN_op rfl rfl rfl (st_pure pure_move rfl rfl rfl ?_)
            refine RN_op rfl rfl rfl (st_pure pure_nil rfl rfl rfl ?_)
            refine RN_op rfl rfl rfl (st_pure (pure_field0 0 Try.underlying157 rfl rfl sz23) rfl rfl rfl ?_)
            refine RN_op rfl rfl rfl (st_ld 0 rfl Try.underlying23 rfl rfl rfl cell_blk rfl rfl ?_)
            refine RN_op rfl rfl rfl (st_pure pure_move rfl rfl rfl ?_)
            refine RN_op rfl rfl rfl (st_pure (pure_indexR Try.underlying23 sz5 (by assumption) (by omega)) rfl rfl rfl ?_)
            refine RN_op rfl rfl rfl (st_ld 1 rfl Try.underlying5 rfl rfl rfl (cell_row (by assumption) (by omega) (byts_get bs i (by omega))) rfl rfl ?_)
            refine RN_op rfl rfl rfl (st_pure (pure_convU64 Try.underlying5 Try.underlying116 (by omega)) rfl rfl rfl ?_)
            refine RN_op rfl rfl rfl (st_pure pure_move rfl rfl rfl ?_)
            refine RN_op rfl rfl rfl (st_pure (pure_mul64 (by omega)) rfl rfl rfl ?_)
            refine RN_op rfl rfl rfl (st_pure (pure_shlN (r := ((nb bs i * 2 ^ (7 * i) : Nat) : Int)) (by omega) (shl_u64 _ _ hsp (by omega))) rfl rfl rfl ?_)
            refine RN_op rfl rfl rfl (st_pure (pure_bitsN (r := ((acc + nb bs i * 2 ^ (7 * i) : Nat) : Int)) rfl ((bits_or64 _ _ has hsp).trans (by rw [or_add _ _ _ hacc]))) rfl rfl rfl ?_)
            refine RN_op rfl rfl rfl (st_pure pure_assign rfl rfl rfl ?_)
            refine RN_end ?_
            refine WQ_keep [(3, _), (0, _), (4, _)] ⟨rfl, rfl, rfl, trivial⟩ ?_
            refine WQ_then ?_
            refine W_seq rfl ?_
            refine W_reg (m := 11) rfl rfl ?_
            refine RN_op rfl rfl rfl (st_pure pure_move rfl rfl rfl ?_)
            refine RN_op rfl rfl rfl (st_pure pure_move rfl rfl rfl ?_)
            refine RN_op rfl rfl rfl (st_pure pure_nil rfl rfl rfl ?_)
            refine RN_op rfl rfl rfl (st_pure (pure_field0 0 Try.underlying157 rfl rfl sz23) rfl rfl rfl ?_)
            refine RN_op rfl rfl rfl (st_ld 0 rfl Try.underlying23 rfl rfl rfl cell_blk rfl rfl ?_)
            refine RN_op rfl rfl rfl (st_pure pure_move rfl rfl rfl ?_)
            refine RN_op rfl rfl rfl (st_pure (pure_add64 (by omega)) rfl rfl rfl ?_)
            refine RN_op rfl rfl rfl (st_pure (pure_sliceLo Try.underlying23 sz5 (by assumption) (by omega)) rfl rfl rfl ?_)
            refine RN_op rfl rfl rfl (st_pure pure_nil rfl rfl rfl ?_)
            refine RN_op rfl rfl rfl (st_pure (pure_field0 0 Try.underlying157 rfl rfl sz23) rfl rfl rfl ?_)
            refine RN_op rfl rfl rfl (s_st 0 rfl sz23 rfl rfl rfl one_cells (puts_one One.out (put_blk One.out)) rfl ?_)
            refine RN_end ?_
            refine WQ_keep [(3, _)] ⟨rfl, trivial⟩ ?_
            refine WQ_then ?_
            refine W_seq rfl ?_
            refine W_reg (m := 2) rfl rfl ?_
            refine RN_op rfl rfl rfl (st_pure pure_move rfl rfl rfl ?_)
            refine RN_op rfl rfl rfl (st_pure pure_assign rfl rfl rfl ?_)
            refine RN_end ?_
            refine WQ_keep [(2, _)] ⟨rfl, trivial⟩ ?_
            refine WQ_then ?_
            refine W_ret rfl ?_
            refine WQ_inBR ?_
            refine WQ_inBR ?_
            refine WQ_thenX rfl ?_
            refine WQ_thenX rfl ?_
            refine WQ_inBR ?_
            refine WQ_thenX rfl ?_
            refine WQ_ret (vs := [_]) (by rw [Try.results76]; rfl) fun w' hs' he' => ?_
            have e := num_done hn (by omega) (by omega) (by omega)
            rw [e]
            exact ⟨(), rfl, rd_open.2 ⟨vsl v (i + 1) bs.length 1, by
              have h2 := (EntP.same (EntP.as (fun l => ent_cut (m := i + 1) (by omega)) (EntP.refl _))).ent.sat hs'
              rw [byts_drop] at h2
              have e2 : bs.length - (i + 1) = (bs.drop (i + 1)).length := by simp
              rw [e2] at h2
              exact h2⟩, he'⟩
          · have hbi := hb.nb i
            have h8 : i ≠ 9 := by omega
            have hsp := small_pow (b := nb bs i % 128) hi9 (by omega) (by omega)
            have has := acc_small hi9 hacc
            refine W_reg (m := 15) rfl rfl ?_
            refine RN_op rfl rfl rfl (st_pure pure_move rfl rfl rfl ?_)
            refine RN_op rfl rfl rfl (st_pure pure_move rfl rfl rfl ?_)
            refine RN_op rfl rfl rfl (st_pure pure_nil rfl rfl rfl ?_)
            refine RN_op rfl rfl rfl (st_pure (pure_field0 0 Try.underlying157 rfl rfl sz23) rfl rfl rfl ?_)
            refine RN_op rfl rfl rfl (st_ld 0 rfl Try.underlying23 rfl rfl rfl cell_blk rfl rfl ?_)
            refine RN_op rfl rfl rfl (st_pure pure_move rfl rfl rfl ?_)
            refine RN_op rfl rfl rfl (st_pure (pure_indexR Try.underlying23 sz5 (by assumption) (by omega)) rfl rfl rfl ?_)
            refine RN_op rfl rfl rfl (st_ld 1 rfl Try.underlying5 rfl rfl rfl (cell_row (by assumption) (by omega) (byts_get bs i (by omega))) rfl rfl ?_)
            refine RN_op rfl rfl rfl (st_pure (pure_bitsN (r := ((nb bs i % 128 : Nat) : Int)) rfl ((bits_and8 _ 127 hbi (by decide)).trans (by rw [and127]))) rfl rfl rfl ?_)
            refine RN_op rfl rfl rfl (st_pure (pure_convU64 Try.underlying5 Try.underlying116 (by omega)) rfl rfl rfl ?_)
            refine RN_op rfl rfl rfl (st_pure pure_move rfl rfl rfl ?_)
            refine RN_op rfl rfl rfl (st_pure (pure_mul64 (by omega)) rfl rfl rfl ?_)
            refine RN_op rfl rfl rfl (st_pure (pure_shlN (r := ((nb bs i % 128 * 2 ^ (7 * i) : Nat) : Int)) (by omega) (shl_u64 _ _ hsp (by omega))) rfl rfl rfl ?_)
            refine RN_op rfl rfl rfl (st_pure (pure_bitsN (r := ((acc + nb bs i % 128 * 2 ^ (7 * i) : Nat) : Int)) rfl ((bits_or64 _ _ has hsp).trans (by rw [or_add _ _ _ hacc]))) rfl rfl rfl ?_)
            refine RN_op rfl rfl rfl (st_pure pure_assign rfl rfl rfl ?_)
            refine RN_end ?_
            refine WQ_keep [(3, _), (0, _), (4, _)] ⟨rfl, rfl, rfl, trivial⟩ ?_
            refine WQ_inB ?_
            refine WQ_inB ?_
            refine WQ_then ?_
            refine W_reg (m := 3) rfl rfl ?_
            refine RN_op rfl rfl rfl (st_pure pure_move rfl rfl rfl ?_)
            refine RN_op rfl rfl rfl (st_pure (pure_add64 (by omega)) rfl rfl rfl ?_)
            refine RN_op rfl rfl rfl (st_pure pure_assign rfl rfl rfl ?_)
            refine RN_end ?_
            refine WQ_keep [(4, _), (3, _), (0, _)] ⟨rfl, rfl, rfl, trivial⟩ ?_
            refine WQ_hand ((i + 1, acc + nb bs i % 128 * 2 ^ (7 * i), 0)) (NumI.next hn (by omega) (by omega) (by omega) hi9 hacc) (by simp; omega) (AllIn.sub ⟨rfl, rfl, rfl, trivial⟩) (EntP.ent (by repeat' first | exact EntP.nil | refine EntP.same ?_ | refine EntP.drop ?_ | refine EntP.nilRow ?_))
  · refine W_exit rfl ?_
    refine WQ_thenX rfl ?_
    refine WQ_thenX rfl ?_
    refine WQ_hit ?_
    refine WQ_then ?_
    refine W_seq rfl ?_
    refine W_reg (m := 1) rfl rfl ?_
    refine RN_op rfl rfl rfl (st_pure pure_assign rfl rfl rfl ?_)
    refine RN_end ?_
    refine WQ_keep [(2, _)] ⟨rfl, trivial⟩ ?_
    refine WQ_then ?_
    refine W_ret rfl ?_
    refine WQ_ret (vs := [_]) (by rw [Try.results76]; rfl) fun w' hs' he' => ?_
    have e := num_fail hI hc1
    rw [e]
    exact ⟨(), rfl, rd_open.2 ⟨v, hs'⟩, he'⟩
end Go.Proofs.Ytlgfinchhnbhdaa
