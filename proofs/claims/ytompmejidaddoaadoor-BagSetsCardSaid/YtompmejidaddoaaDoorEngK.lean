/- A thing that is said as a whole, opened and closed where it lies. -/
import Derived.Test.YtompmejidaddoaaDoorEngI
set_option linter.unusedVariables false
namespace Go.Proofs.YtompmejidaddoaaDoor
open Go Go.RowKit

theorem map_erase {α β : Type} (f : α → β) : ∀ (l : List α) (j : Nat), (l.eraseIdx j).map f = (l.map f).eraseIdx j
  | [], _ => rfl
  | _ :: _, 0 => rfl
  | a :: l, j + 1 => by simp [List.eraseIdx, map_erase f l j]
theorem SatC.takeC {w : World} {L : List Chunk} (h : SatC w L) (j : Nat) {c : Chunk} (hk : L[j]? = some c) : SatC w (c :: L.eraseIdx j) := by
  have := h.take j hk
  unfold SatC
  simpa [List.map_cons, map_erase] using this
theorem SatC.putC {w : World} {L : List Chunk} (j : Nat) {c c' : Chunk} (hk : L[j]? = some c) (h : SatC w (c' :: L.eraseIdx j)) : SatC w (L.set j c') := by
  refine SatC.put j hk ?_
  unfold SatC at h
  simpa [List.map_cons, map_erase] using h

section
variable {P : Program} {c : Code} {Q : Exit → Act → World → Prop} {n : Nat} {w0 : World} {env : Env} {L : List Chunk} {ops : Array Oper} {m i : Nat} {x : Exit}
theorem open_ex {w : World} {α : Type} {C : α → Chunk} {p : α → Prop} {d : Chunk} {L' : α → List Chunk} {j : Nat} (hk : L[j]? = some d) (ho : ∀ w L, SatC w (d :: L) → ∃ y, p y ∧ SatC w (C y :: L)) (hL : ∀ y, SetK L j (C y) (L' y)) (hs : SatC w L) : ∃ y, SatC w (L' y) ∧ p y := by
  obtain ⟨y, hy, h⟩ := ho w _ (hs.takeC j hk)
  exact ⟨y, by rw [← (hL y).eq]; exact h.putC j hk, hy⟩
theorem fold_at {w : World} {d d' : Chunk} {L' : List Chunk} {j : Nat} (hk : L[j]? = some d) (ho : ∀ w L, SatC w (d :: L) → SatC w (d' :: L)) (hL : SetK L j d' L') (hs : SatC w L) : SatC w L' := by
  rw [← hL.eq]; exact (ho w _ (hs.takeC j hk)).putC j hk
theorem W_open {α : Type} {C : α → Chunk} {p : α → Prop} {d : Chunk} {L' : α → List Chunk} (j : Nat) (hk : L[j]? = some d) (ho : ∀ w L, SatC w (d :: L) → ∃ y, p y ∧ SatC w (C y :: L)) [hL : ∀ y, SetK L j (C y) (L' y)] (k : ∀ y, p y → W P c Q n w0 env (L' y)) : W P c Q n w0 env L :=
  W_exP (fun w hs _ => open_ex hk ho hL hs) k
theorem WQ_open {α : Type} {C : α → Chunk} {p : α → Prop} {d : Chunk} {L' : α → List Chunk} (j : Nat) (hk : L[j]? = some d) (ho : ∀ w L, SatC w (d :: L) → ∃ y, p y ∧ SatC w (C y :: L)) [hL : ∀ y, SetK L j (C y) (L' y)] (k : ∀ y, p y → WQ Q x n w0 env (L' y)) : WQ Q x n w0 env L :=
  WQ_exP (fun w hs _ => open_ex hk ho hL hs) k
theorem RN_open {α : Type} {C : α → Chunk} {p : α → Prop} {d : Chunk} {L' : α → List Chunk} (j : Nat) (hk : L[j]? = some d) (ho : ∀ w L, SatC w (d :: L) → ∃ y, p y ∧ SatC w (C y :: L)) [hL : ∀ y, SetK L j (C y) (L' y)] (k : ∀ y, p y → RN P ops Q n w0 m i env (L' y)) : RN P ops Q n w0 m i env L :=
  RN_exP (fun w hs _ => open_ex hk ho hL hs) k
theorem W_fold {d d' : Chunk} {L' : List Chunk} (j : Nat) (hk : L[j]? = some d) (ho : ∀ w L, SatC w (d :: L) → SatC w (d' :: L)) [hL : SetK L j d' L'] (k : W P c Q n w0 env L') : W P c Q n w0 env L :=
  W_sat (fun w hs _ => fold_at hk ho hL hs) k
theorem WQ_fold {d d' : Chunk} {L' : List Chunk} (j : Nat) (hk : L[j]? = some d) (ho : ∀ w L, SatC w (d :: L) → SatC w (d' :: L)) [hL : SetK L j d' L'] (k : WQ Q x n w0 env L') : WQ Q x n w0 env L :=
  WQ_sat (fun w hs _ => fold_at hk ho hL hs) k
theorem RN_fold {d d' : Chunk} {L' : List Chunk} (j : Nat) (hk : L[j]? = some d) (ho : ∀ w L, SatC w (d :: L) → SatC w (d' :: L)) [hL : SetK L j d' L'] (k : RN P ops Q n w0 m i env L') : RN P ops Q n w0 m i env L :=
  RN_sat (fun w hs _ => fold_at hk ho hL hs) k
/-- An abstract thing without a fact beside it. -/
theorem opn {α : Type} {C : α → Chunk} {d : Chunk} {w : World} {L : List Chunk} (h : SatC w (d :: L) → ∃ y, SatC w (C y :: L)) : SatC w (d :: L) → ∃ y, True ∧ SatC w (C y :: L) := fun hs => let ⟨y, hy⟩ := h hs; ⟨y, trivial, hy⟩
end
end Go.Proofs.YtompmejidaddoaaDoor
