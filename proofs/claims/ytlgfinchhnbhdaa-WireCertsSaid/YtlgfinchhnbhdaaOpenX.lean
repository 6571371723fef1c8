/- What the arguments of package wire's laws read as. -/
import Derived.Test.YtlgfinchhnbhdaaOpenW
import Derived.Test.YtlgfinchhnbhdaaWireD
set_option linter.unusedVariables false
set_option linter.unusedSimpArgs false
namespace Go.Proofs.Ytlgfinchhnbhdaa
open Go Go.ChangeShapes Go.WideShapes Go.ChangeAt Go.RowKit

theorem flat1 {α β : Type} (f : α → β) (l : List α) : l.flatMap (fun q => [f q]) = l.map f := by
  induction l with
  | nil => rfl
  | cons a l ih => rw [List.flatMap_cons, ih]; rfl
set_option maxRecDepth 100000
section
variable {H : Type} {enc : TypeId × Value → H} {W : World} {fuel : Nat} {v : Value} {x : DataW H × List MemPlace}
theorem open_ints (h : DataW.trod enc Try.prog W 0 (fun _ => true) true fuel 24 [v] = some x) : ∃ l : List Int, Rds (.old W) v l.length 1 (ints l) ∧ ∀ q ∈ l, (Lit.int .i64 q).wf = true := by
  obtain ⟨l, h1, h2⟩ := open_rows (s := 1) (fun q : Int => [.int .i64 q]) (fun q => (Lit.int .i64 q).wf = true) Try.underlying24 (by kernel_rfl) (by decide) (fun _ => rfl) (fun n cs y _ hy => by
    obtain ⟨q, e, _, hw⟩ := DataW.trod_int Try.underlying3 hy
    exact ⟨q, e, hw⟩) h
  have e : l.flatMap (fun q : Int => [Value.int .i64 q]) = ints l := flat1 _ l
  rw [e] at h1
  exact ⟨l, h1, h2⟩
theorem open_byts (h : DataW.trod enc Try.prog W 0 (fun _ => true) true fuel 23 [v] = some x) : ∃ l : List Nat, Rds (.old W) v l.length 1 (byts l) ∧ BOk l := by
  obtain ⟨l, h1, h2⟩ := open_rows (s := 1) (fun q : Nat => [.int .u8 (q : Int)]) (fun q => q < 256) Try.underlying23 (by kernel_rfl) (by decide) (fun _ => rfl) (fun n cs y _ hy => by
    obtain ⟨q, e, _, hw⟩ := DataW.trod_int Try.underlying5 hy
    simp only [Lit.wf, Bool.and_eq_true, decide_eq_true_eq] at hw
    have h0 : 0 ≤ q := hw.1
    have h9 : q ≤ 255 := hw.2
    exact ⟨q.toNat, by rw [e, Int.toNat_of_nonneg h0], by omega⟩) h
  have e : l.flatMap (fun q : Nat => [Value.int .u8 (q : Int)]) = byts l := flat1 _ l
  rw [e] at h1
  exact ⟨l, h1, h2⟩
theorem open_prs (h : DataW.trod enc Try.prog W 0 (fun _ => true) true fuel 26 [v] = some x) : ∃ l : Prs, Rds (.old W) v l.length 2 (prs l) := by
  obtain ⟨l, h1, _⟩ := open_rows (s := 2) (fun q : Int × Int => [.int .i64 q.1, .int .i64 q.2]) (fun _ => True) Try.underlying26 (by kernel_rfl) (by decide) (fun _ => rfl) (fun n cs y hl hy => by
    obtain ⟨xs, n, _, _, _, hlen, hf⟩ := DataW.trod_struct Try.underlying114 hy
    have c3 : Try.prog.cellsOf 3 = 1 := by kernel_rfl
    match cs, hl, xs, (show xs.length = 2 from hlen) with
    | [u0, u1], _, [x0, x1], _ =>
      have f0 : DataW.trod enc Try.prog W 0 (fun _ => true) true n 3 (([u0, u1].drop 0).take (Try.prog.cellsOf 3)) = some x0 := hf 0 _ rfl
      have f1 : DataW.trod enc Try.prog W 0 (fun _ => true) true n 3 (([u0, u1].drop 1).take (Try.prog.cellsOf 3)) = some x1 := hf 1 _ rfl
      rw [c3] at f0 f1
      simp only [List.drop, List.take] at f0 f1
      obtain ⟨p, e0, _⟩ := DataW.trod_int Try.underlying3 f0
      obtain ⟨q, e1, _⟩ := DataW.trod_int Try.underlying3 f1
      simp only [List.cons.injEq, and_true] at e0 e1
      exact ⟨(p, q), by rw [e0, e1], trivial⟩) h
  exact ⟨l, h1⟩
theorem open_certs (h : DataW.trod enc Try.prog W 0 (fun _ => true) true fuel 22 [v] = some x) : ∃ l : List Prs, CertR (.old W) v l := by
  obtain ⟨l, h1, h2⟩ := open_rows (s := 1) (fun q : Value × Prs => [q.1]) (fun q => Rds (.old W) q.1 q.2.length 2 (prs q.2)) Try.underlying22 (by kernel_rfl) (by decide) (fun _ => rfl) (fun n cs y hl hy => by
    match cs, hl with
    | [u], _ =>
      obtain ⟨p, hp⟩ := open_prs hy
      exact ⟨(u, p), rfl, hp⟩) h
  have e : l.flatMap (fun q : Value × Prs => [q.1]) = l.map (·.1) := flat1 _ l
  rw [e] at h1
  refine ⟨l.map (·.2), l.map (·.1), by simpa using h1, fun i hi => ?_⟩
  have hi' : i < l.length := by simpa using hi
  refine ⟨l[i].1, by simp [hi'], ?_⟩
  have e2 : ll (l.map (·.2)) i = l[i].2 := by simp [ll, hi']
  rw [e2]
  exact h2 _ (List.getElem_mem hi')
end
end Go.Proofs.Ytlgfinchhnbhdaa
