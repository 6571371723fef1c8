/- A slice of turns in memory, as a row's argument reads it; the table of bits.TrailingZeros64 under a row's condition. -/
import Derived.Test.YtompmejidaddoaaDoorBitsW
import Derived.Test.YtompmejidaddoaaDoorQueueW
import Derived.Test.YtompmejidaddoaaDoorRows
import Derived.ProofKit
import Derived.LaidMore
import Derived.OpenShut
import Derived.Stop.Joined
import Derived.Deep.Strs
import Derived.Lib.LaidTab
set_option linter.unusedVariables false
set_option linter.unusedSimpArgs false
namespace Go.Proofs.YtompmejidaddoaaDoor
open Go.ChangeShapes Go.WideShapes Go.ChangeAt Go.RowKit

theorem add_block (a : Addr) (i : Nat) : (a.add i).block = a.block := by unfold Addr.add; split <;> rfl
/-- A slice of n turns: the j-th is of kind ks j, with the text xs j and the number vs j. -/
structure TurnsAt (w : World) (v : Value) (n : Nat) (ks : Nat → Nat) (xs : Nat → ByteArray) (vs : Nat → Int) : Prop where
  form : ∃ A c, v = .slice A n c ∧ n ≤ maxLen ∧ ∀ j, j < n → ∃ a, A = some a
  at' : ∀ a n' c, v = .slice (some a) n' c → ∀ j, j < n → a.block < w.heap.size ∧ w.cell? (a.add (j * 3)) = some (.int .u8 (ks j)) ∧ w.cell? ⟨(a.add (j * 3)).block, (a.add (j * 3)).off + 1, none⟩ = some (.string (xs j)) ∧ w.cell? ⟨(a.add (j * 3)).block, (a.add (j * 3)).off + 2, none⟩ = some (.int .i64 (vs j))
  small : ∀ j, j < n → ks j < 256 ∧ SV (xs j)


set_option maxRecDepth 100000
instance : Inhabited (Nat × ByteArray × Int) := ⟨(0, ByteArray.empty, 0)⟩
theorem turns_of {H : Type} {enc : TypeId × Value → H} {W : World} {v : Value} {fuel : Nat} {x : DataW H × List MemPlace} (h : DataW.trod enc Tryd.prog W 0 (fun _ => true) true fuel 51 [v] = some x) :
    ∃ n ks xs vs, TurnsAt W v n ks xs vs := by
  rcases Deep.open_slice Tryd.underlying51 h with ⟨hcs, _⟩ | ⟨a, len, cap, m, n, D, Pl, hcs, hb, hl, hm, hmm, rfl, hx⟩
  · obtain rfl : v = .slice none 0 0 := by simpa using hcs
    exact ⟨0, fun _ => 0, fun _ => ByteArray.empty, fun _ => 0, ⟨none, 0, rfl, by decide, fun j hj => by omega⟩, fun a n' c e => by simp at e, fun j hj => by omega⟩
  · obtain rfl : v = .slice (some a) len cap := by simpa using hcs
    have hce : Tryd.prog.cellsOf 55 = 3 := by kernel_rfl
    have key : ∀ j, j < len → ∃ q : Nat × ByteArray × Int, a.block < W.heap.size ∧ W.cell? (a.add (j * 3)) = some (.int .u8 q.1) ∧ W.cell? ⟨(a.add (j * 3)).block, (a.add (j * 3)).off + 1, none⟩ = some (.string q.2.1) ∧ W.cell? ⟨(a.add (j * 3)).block, (a.add (j * 3)).off + 2, none⟩ = some (.int .i64 q.2.2) ∧ q.1 < 256 ∧ SV q.2.1 := by
      intro j hj
      obtain ⟨cs', h1, h2⟩ := hx j (by simp at hmm; omega)
      rw [hce] at h1
      obtain ⟨_, hlen, hcell⟩ := World.cells?_some h1
      obtain ⟨y0, y1, y2, k, _, _, u0, u1, u2⟩ := Deep.trod_struct3 Tryd.underlying55 h2
      match cs', hlen with
      | [v0, v1, v2], _ =>
        have c5 : Tryd.prog.cellsOf 5 = 1 := by kernel_rfl
        have c9 : Tryd.prog.cellsOf 9 = 1 := by kernel_rfl
        have c3 : Tryd.prog.cellsOf 3 = 1 := by kernel_rfl
        simp only [c5, c9, c3, List.drop, List.take] at u0 u1 u2
        obtain ⟨q, e0, d0, wf0⟩ := DataW.trod_int Tryd.underlying5 u0
        obtain ⟨s, e1, d1, sz⟩ := DataW.trod_string Tryd.underlying9 u1
        obtain ⟨p, e2, d2, _⟩ := DataW.trod_int Tryd.underlying3 u2
        simp only [List.cons.injEq, and_true] at e0 e1 e2
        subst e0; subst e1; subst e2
        have c0 := hcell 0 (by omega)
        have c1 := hcell 1 (by omega)
        have c2 := hcell 2 (by omega)
        simp only [Lit.wf, Bool.and_eq_true, decide_eq_true_eq] at wf0
        have hq0 : 0 ≤ q := wf0.1
        have hq2 : q ≤ 255 := wf0.2
        have hq1 : q < 256 := by omega
        have c0' : W.cell? (a.add (j * 3)) = some (.int .u8 q) := by simpa [Addr.add] using c0
        refine ⟨(q.toNat, s, p), ?_, ?_, by simpa [Addr.add] using c1, by simpa [Addr.add] using c2, by show q.toNat < 256; omega, sz⟩
        · have := World.block_lt_of_cell? W _ c0'
          rwa [add_block] at this
        · rw [c0']
          simp only
          rw [Int.toNat_of_nonneg hq0]
    obtain ⟨f, hf⟩ := Deep.choose_lt (p := fun j (q : Nat × ByteArray × Int) => a.block < W.heap.size ∧ W.cell? (a.add (j * 3)) = some (.int .u8 q.1) ∧ W.cell? ⟨(a.add (j * 3)).block, (a.add (j * 3)).off + 1, none⟩ = some (.string q.2.1) ∧ W.cell? ⟨(a.add (j * 3)).block, (a.add (j * 3)).off + 2, none⟩ = some (.int .i64 q.2.2) ∧ q.1 < 256 ∧ SV q.2.1) key
    refine ⟨len, fun j => (f j).1, fun j => (f j).2.1, fun j => (f j).2.2, ⟨some a, cap, rfl, Nat.le_trans hl hm, fun j _ => ⟨a, rfl⟩⟩, fun a' n' c' e j hj => ?_, fun j hj => ⟨(hf j hj).2.2.2.2.1, (hf j hj).2.2.2.2.2⟩⟩
    injection e with e1 _ _
    injection e1 with e1
    subst e1
    exact ⟨(hf j hj).1, (hf j hj).2.1, (hf j hj).2.2.1, (hf j hj).2.2.2.1⟩
end Go.Proofs.YtompmejidaddoaaDoor
