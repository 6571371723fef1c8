/- What a row's arguments read as: rows of numbers, of structs, of rows. -/
import Derived.Test.YtompmejidaddoaaDoorEngI
import Derived.Test.YtompmejidaddoaaDoorRows
import Derived.ProofKit
import Derived.LaidMore
import Derived.OpenShut
import Derived.Stop.Joined
import Derived.Deep.Strs
set_option linter.unusedVariables false
set_option linter.unusedSimpArgs false
namespace Go.Proofs.YtompmejidaddoaaDoor
open Go Go.ChangeShapes Go.WideShapes Go.ChangeAt Go.RowKit


theorem wadd_add (a : Addr) (i j : Nat) : (a.add i).add j = a.add (i + j) := by
  unfold Addr.add
  by_cases h1 : i = 0
  · subst h1; simp
  · by_cases h2 : j = 0
    · subst h2; simp
    · rw [if_neg h1, if_neg h2, if_neg (by omega)]
      simp [Nat.add_assoc]
/-- A slice of things that take s cells each, every one read by its own. -/
theorem open_rows {α : Type} [Inhabited α] {H : Type} {enc : TypeId × Value → H} {W : World} {P : Program} {t e : TypeId} {s fuel : Nat} {v : Value} {x : DataW H × List MemPlace} (cells : α → List Value) (Pq : α → Prop) (ht : P.underlying t = some (.slice e)) (hce : P.cellsOf e = s) (hs : 0 < s)
    (hsz : ∀ q, (cells q).length = s) (he : ∀ n cs y, cs.length = s → DataW.trod enc P W 0 (fun _ => true) true n e cs = some y → ∃ q, cs = cells q ∧ Pq q)
    (h : DataW.trod enc P W 0 (fun _ => true) true fuel t [v] = some x) : ∃ l : List α, Rds (.old W) v l.length s (l.flatMap cells) ∧ ∀ q ∈ l, Pq q := by
  rcases Deep.open_slice ht h with ⟨hcs, _⟩ | ⟨a, len, cap, m, n, D, Pl, hcs, hb, hl, hm, hmm, rfl, hx⟩
  · obtain rfl : v = .slice none 0 0 := by simpa using hcs
    exact ⟨[], rds_nil, fun q hq => by cases hq⟩
  · obtain rfl : v = .slice (some a) len cap := by simpa using hcs
    have hmc : m = cap := by simpa using hmm
    rw [hce] at hx
    have key : ∀ j, j < len → ∃ q : α, Pq q ∧ ∀ i u, (cells q)[i]? = some u → W.cell? (a.add (j * s + i)) = some u := by
      intro j hj
      obtain ⟨cs', h1, h2⟩ := hx j (by omega)
      obtain ⟨_, hlen, hcell⟩ := World.cells?_some h1
      obtain ⟨q, rfl, hq⟩ := he _ _ _ hlen h2
      refine ⟨q, hq, fun i u hu => ?_⟩
      have hi := (List.getElem?_eq_some_iff.1 hu).1
      have h3 := hcell i (by rw [hsz] at hi; exact hi)
      rw [wadd_add] at h3
      rw [h3, hu]
    obtain ⟨f, hf⟩ := Deep.choose_lt key
    have hspot : 0 < cap → a.spot = none := by
      intro hc
      obtain ⟨cs', h1, _⟩ := hx 0 (by omega)
      obtain ⟨_, hlen, hcell⟩ := World.cells?_some h1
      have h3 := hcell 0 hs
      rw [Nat.zero_mul] at h3
      have h4 : (a.add 0).add 0 = a := rfl
      rw [h4] at h3
      cases hsp : a.spot with
      | none => rfl
      | some b =>
        exfalso
        have h5 : W.cell? a = none := by
          unfold World.cell?
          split
          · simp [hsp]
          · rfl
        rw [h5] at h3
        have h6 := h3.symm
        rw [List.getElem?_eq_none_iff] at h6
        omega
    have hrow : IsRow (.slice (some a) len cap) len := by
      rcases Nat.eq_zero_or_pos cap with h0 | h0
      · subst h0
        obtain rfl : len = 0 := by omega
        exact .inr (.inr ⟨a, rfl, rfl⟩)
      · have h1 := hspot h0
        obtain ⟨g, off, sp⟩ := a
        simp only at h1
        subst h1
        exact .inr (.inl ⟨g, off, cap, rfl, hl, hm⟩)
    refine ⟨(List.range len).map f, ?_, fun q hq => ?_⟩
    · have hll : ((List.range len).map f).length = len := by simp
      rw [hll]
      have hfl : ∀ k, k ≤ len → (((List.range k).map f).flatMap cells).length = k * s := by
        intro k _
        induction k with
        | zero => simp
        | succ k ih => rw [List.range_succ, List.map_append, List.flatMap_append, List.length_append, ih (by omega)]; simp [hsz, Nat.add_mul]
      have hget : ∀ k, k ≤ len → ∀ j u, (((List.range k).map f).flatMap cells)[j]? = some u → ∃ i r, i < k ∧ j = i * s + r ∧ (cells (f i))[r]? = some u := by
        intro k
        induction k with
        | zero => intro _ j u h; simp at h
        | succ k ih =>
          intro hk j u h
          rw [List.range_succ, List.map_append, List.flatMap_append] at h
          rcases Nat.lt_or_ge j (k * s) with hj | hj
          · rw [List.getElem?_append_left (by rw [hfl k (by omega)]; exact hj)] at h
            obtain ⟨i, r, h1, h2, h3⟩ := ih (by omega) j u h
            exact ⟨i, r, by omega, h2, h3⟩
          · rw [List.getElem?_append_right (by rw [hfl k (by omega)]; exact hj), hfl k (by omega)] at h
            exact ⟨k, j - k * s, by omega, by omega, by simpa using h⟩
      refine rds_old hrow (hfl len (Nat.le_refl _)) fun j u hj => ?_
      obtain ⟨i, r, h1, rfl, h3⟩ := hget len (Nat.le_refl _) j u hj
      have h4 := (hf i h1).2 r u h3
      have h5 := hspot (by omega)
      have e : eaddr (.slice (some a) len cap) (i * s + r) = a.add (i * s + r) := by
        obtain ⟨g, off, sp⟩ := a
        simp only at h5
        subst h5
        unfold eaddr Addr.add
        simp only
        split
        · rename_i h0; simp [h0]
        · rfl
      rw [e]
      exact ⟨by have := World.block_lt_of_cell? W _ h4; exact this, h4⟩
    · obtain ⟨j, hj, rfl⟩ := List.mem_map.1 hq
      exact (hf j (List.mem_range.1 hj)).1
end Go.Proofs.YtompmejidaddoaaDoor
