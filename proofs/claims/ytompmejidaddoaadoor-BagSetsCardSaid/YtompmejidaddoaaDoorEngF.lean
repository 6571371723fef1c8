/- The engine's typed operations: fields, elements, slices; what is built and made. No program. -/
import Derived.Test.YtompmejidaddoaaDoorEngE
set_option linter.unusedVariables false
set_option linter.unusedSimpArgs false
namespace Go.Proofs.YtompmejidaddoaaDoor
open Go Go.RowKit

/-! ### Words in normal form -/
class NatIs (i : Int) (j : outParam Nat) : Prop where
  eq : i = (j : Int)
instance natIs_cast (j : Nat) : NatIs (j : Int) j := ⟨rfl⟩
instance natIs_zero : NatIs 0 0 := ⟨rfl⟩
instance natIs_one : NatIs 1 1 := ⟨rfl⟩
instance (priority := low) natIs_lit (n : Nat) : NatIs (OfNat.ofNat (n + 2)) (n + 2) := ⟨rfl⟩
instance natIs_add (a b : Int) (c d : Nat) [h : NatIs a c] [k : NatIs b d] : NatIs (a + b) (c + d) := ⟨by rw [h.eq, k.eq]; simp⟩
instance natIs_mul (a b : Int) (c d : Nat) [h : NatIs a c] [k : NatIs b d] : NatIs (a * b) (c * d) := ⟨by rw [h.eq, k.eq]; simp⟩
/-- The i-th of a list that is written out. -/
class GetL (l : List Value) (i : Nat) (v : outParam Value) : Prop where
  eq : l[i]? = some v
instance getL_zero (v : Value) (l : List Value) : GetL (v :: l) 0 v := ⟨rfl⟩
instance getL_succ (u v : Value) (l : List Value) (i : Nat) [h : GetL l i v] : GetL (u :: l) (i + 1) v := ⟨by simpa using h.eq⟩
class SetL (l : List Value) (i : Nat) (v : Value) (r : outParam (List Value)) : Prop where
  eq : l.set i v = r
  lt : i < l.length
instance setL_zero (u v : Value) (l : List Value) : SetL (u :: l) 0 v (v :: l) := ⟨rfl, by simp⟩
instance setL_succ (u v : Value) (l r : List Value) (i : Nat) [h : SetL l i v r] : SetL (u :: l) (i + 1) v (u :: r) := ⟨by simp [h.eq], by simp [h.lt]⟩
/-- s of a list from o on. -/
class SubL (l : List Value) (o s : Nat) (r : outParam (List Value)) : Prop where
  eq : ∀ j, j < s → l[o + j]? = r[j]?
  len : r.length = s
instance subL_nil (l : List Value) : SubL l 0 0 [] := ⟨fun j h => by omega, rfl⟩
instance subL_cons (v : Value) (l r : List Value) (s : Nat) [h : SubL l 0 s r] : SubL (v :: l) 0 (s + 1) (v :: r) := ⟨fun j hj => by
  cases j with
  | zero => rfl
  | succ j => have := h.eq j (by omega); simp only [Nat.zero_add] at this ⊢; simpa using this, by simp [h.len]⟩
instance subL_skip (v : Value) (l r : List Value) (o s : Nat) [h : SubL l o s r] : SubL (v :: l) (o + 1) s r := ⟨fun j hj => by
  have := h.eq j hj; rw [← this, show o + 1 + j = (o + j) + 1 by omega]; simp, h.len⟩
/-- A list written over from o on. -/
class SetsL (l : List Value) (o : Nat) (vs : List Value) (r : outParam (List Value)) : Prop where
  eq : ∀ i, r[i]? = if o ≤ i ∧ i < o + vs.length then vs[i - o]? else l[i]?
  le : o + vs.length ≤ l.length
instance setsL_nil (l : List Value) : SetsL l 0 [] l := ⟨fun i => by rw [if_neg (by simp)], by simp⟩
instance setsL_cons (u v : Value) (l vs r : List Value) [h : SetsL l 0 vs r] : SetsL (u :: l) 0 (v :: vs) (v :: r) := ⟨fun i => by
  cases i with
  | zero => simp
  | succ i =>
    have := h.eq i
    simp only [Nat.zero_le, true_and, Nat.zero_add, Nat.sub_zero, List.getElem?_cons_succ, List.length_cons] at this ⊢
    rw [this]
    by_cases hi : i < vs.length
    · rw [if_pos hi, if_pos (by omega)]
    · rw [if_neg hi, if_neg (by omega)], by have := h.le; simp at this ⊢; omega⟩
instance setsL_skip (u : Value) (l vs r : List Value) (o : Nat) [h : SetsL l o vs r] : SetsL (u :: l) (o + 1) vs (u :: r) := ⟨fun i => by
  cases i with
  | zero => rw [if_neg (by omega)]; rfl
  | succ i =>
    have := h.eq i
    simp only [List.getElem?_cons_succ]
    rw [this]
    by_cases hi : o ≤ i ∧ i < o + vs.length
    · rw [if_pos hi, if_pos (by omega), show i + 1 - (o + 1) = i - o by omega]
    · rw [if_neg hi, if_neg (by omega)], by have := h.le; simp at this ⊢; omega⟩

/-! ### Cells of chunks -/
theorem cell_blk {g i t : Nat} {l : List Value} {fr : Nat × Nat} {v : Value} [h : GetL l i v] : (Chunk.blk g (.cells l.toArray t fr)).cell ⟨g, i, none⟩ = some v := by
  simp [Chunk.cell, h.eq]
theorem cell_blk' {g i t : Nat} {cs : Array Value} {fr : Nat × Nat} {v : Value} (h : cs[i]? = some v) : (Chunk.blk g (.cells cs t fr)).cell ⟨g, i, none⟩ = some v := by
  simp [Chunk.cell, h]
theorem cell_row {e s n : Nat} {v u : Value} {xs : List Value} {j : Nat} (hr : IsRow v n) (hn : 0 < n) (h : xs[j]? = some u) : (Chunk.row e s v n xs).cell (eaddr v j) = some u := by
  obtain ⟨b, n', c, rfl⟩ := hr.some hn
  simp [Chunk.cell, eaddr, h]
theorem cell_old {w : World} {a : Addr} {v : Value} (h : a.block < w.heap.size) (hc : w.cell? a = some v) : (Chunk.old w).cell a = some v := by simp [Chunk.cell, h, hc]
theorem cells_of {c : Chunk} {a : Addr} : ∀ (vs : List Value) (i : Nat), (∀ j u, vs[j]? = some u → c.cell (a.add (i + j)) = some u) → c.cells a i vs.length = some vs
  | [], i, h => rfl
  | v :: vs, i, h => by
    simp only [List.length_cons, Chunk.cells]
    have h0 := h 0 v rfl
    rw [Nat.add_zero] at h0
    rw [h0, cells_of vs (i + 1) (fun j u hj => by have := h (j + 1) u (by simpa using hj); rwa [show i + 1 + j = i + (j + 1) by omega])]
theorem add_lit' (g o j : Nat) : (⟨g, o, none⟩ : Addr).add j = ⟨g, o + j, none⟩ := by
  unfold Addr.add
  split
  · rename_i h; subst h; rfl
  · rfl
theorem cells_blk {g o t s : Nat} {l r : List Value} {fr : Nat × Nat} [h : SubL l o s r] : (Chunk.blk g (.cells l.toArray t fr)).cells ⟨g, o, none⟩ 0 s = some r := by
  have := cells_of (c := .blk g (.cells l.toArray t fr)) (a := ⟨g, o, none⟩) r 0 (fun j u hj => by
    rw [add_lit', Nat.zero_add]
    have hlt := (List.getElem?_eq_some_iff.1 hj).1
    rw [h.len] at hlt
    exact cell_blk' (by simpa [hj] using h.eq j hlt))
  rwa [h.len] at this
theorem cells_row {e s n k : Nat} {v : Value} {xs r : List Value} {j : Nat} (hr : IsRow v n) (hn : 0 < n) (hl : r.length = k) (h : ∀ i u, r[i]? = some u → xs[j + i]? = some u) : (Chunk.row e s v n xs).cells (eaddr v j) 0 k = some r := by
  have := cells_of (c := .row e s v n xs) (a := eaddr v j) r 0 (fun i u hi => by
    rw [eaddr_add v j _ (hr.some hn), Nat.zero_add]
    exact cell_row hr hn (h i u hi))
  rwa [hl] at this
theorem cells_old {w : World} {n k : Nat} {v : Value} {r : List Value} {j : Nat} (hr : IsRow v n) (hn : 0 < n) (hl : r.length = k) (h : ∀ i u, r[i]? = some u → (eaddr v (j + i)).block < w.heap.size ∧ w.cell? (eaddr v (j + i)) = some u) : (Chunk.old w).cells (eaddr v j) 0 k = some r := by
  have := cells_of (c := .old w) (a := eaddr v j) r 0 (fun i u hi => by
    rw [eaddr_add v j _ (hr.some hn), Nat.zero_add]
    exact cell_old (h i u hi).1 (h i u hi).2)
  rwa [hl] at this
theorem put_blk {g i t : Nat} {l r : List Value} {v : Value} [h : SetL l i v r] (h1 : v.oneCell' = true) : (Chunk.blk g (.cells l.toArray t (0, 0))).put ⟨g, i, none⟩ v = some (.blk g (.cells r.toArray t (0, 0))) := by
  have hlt := h.lt
  have he := h.eq
  subst he
  simp [Chunk.put, hlt, h1]
theorem puts_one {c c' : Chunk} {a : Addr} {v : Value} (h1 : v.oneCell' = true) (h : c.put a v = some c') : Chunk.puts a 0 v.cells.toList c = some c' := by
  have e : v.cells.toList = [v] := by cases v <;> first | rfl | (simp [Value.oneCell'] at h1; done)
  have e2 : a.add 0 = a := rfl
  rw [e]
  simp [Chunk.puts, e2, h]
theorem puts_blk {g o t : Nat} {l r vs : List Value} [h : SetsL l o vs r] (h1 : ∀ u ∈ vs, u.oneCell' = true) : Chunk.puts ⟨g, o, none⟩ 0 vs (.blk g (.cells l.toArray t (0, 0))) = some (.blk g (.cells r.toArray t (0, 0))) := by
  have key : ∀ (vs : List Value) (i : Nat) (l : List Value), o + i + vs.length ≤ l.length → (∀ u ∈ vs, u.oneCell' = true) → ∃ r : List Value, Chunk.puts ⟨g, o, none⟩ i vs (.blk g (.cells l.toArray t (0, 0))) = some (.blk g (.cells r.toArray t (0, 0))) ∧ ∀ j, r[j]? = if o + i ≤ j ∧ j < o + i + vs.length then vs[j - (o + i)]? else l[j]? := by
    intro vs
    induction vs with
    | nil => intro i l _ _; exact ⟨l, rfl, fun j => by rw [if_neg (by simp)]⟩
    | cons v vs ih =>
      intro i l hl hv
      simp only [List.length_cons] at hl
      have hp : (Chunk.blk g (.cells l.toArray t (0, 0))).put ⟨g, o + i, none⟩ v = some (.blk g (.cells (l.set (o + i) v).toArray t (0, 0))) := by
        have hlt : o + i < l.length := by omega
        simp [Chunk.put, hlt, hv v List.mem_cons_self]
      obtain ⟨r, h1, h2⟩ := ih (i + 1) (l.set (o + i) v) (by simp; omega) (fun u hu => hv u (List.mem_cons_of_mem _ hu))
      refine ⟨r, by simp only [Chunk.puts, add_lit', hp]; exact h1, fun j => ?_⟩
      rw [h2]
      by_cases e : j = o + i
      · subst e
        rw [if_neg (by omega), if_pos (by simp), Nat.sub_self, List.getElem?_set_self (by omega)]; rfl
      · by_cases e2 : o + (i + 1) ≤ j ∧ j < o + (i + 1) + vs.length
        · rw [if_pos e2, if_pos (by simp; omega), show j - (o + i) = (j - (o + (i + 1))) + 1 by omega]; simp
        · rw [if_neg e2, if_neg (by simp; omega), List.getElem?_set_ne (by omega)]
  obtain ⟨r', h2, h3⟩ := key vs 0 l (by simpa using h.le) h1
  have : r' = r := List.ext_getElem? fun j => by rw [h3, h.eq]; simp
  rw [h2, this]
theorem put_row {e s n : Nat} {v u : Value} {xs : List Value} {j : Nat} (hr : IsRow v n) (hn : 0 < n) (hj : j < xs.length) (h1 : u.oneCell' = true) : (Chunk.row e s v n xs).put (eaddr v j) u = some (.row e s v n (xs.set j u)) := by
  obtain ⟨b, n', c, rfl⟩ := hr.some hn
  simp [Chunk.put, eaddr, hj, h1]

/-! ### Fields and elements -/
section
variable {P : Program} {dst : Option Tmp} {ty : TypeId} {pos : String} {af : Array Edge} {gd : Option (Nat × Bool)}
theorem pure_fieldAddr {s : TypeId} {x : Operand} {f k : Nat} {fs : Array Field} {fd : Field} {a : Addr} (hu : P.underlying s = some (.struct fs)) (hf : fs[f]? = some fd) (hs : (P.info? fd.type).map (·.size) = some (k + 1)) : PureOp P ⟨dst, .fieldAddr s x f, ty, pos, af, gd⟩ [.pointer (some a)] (.pointer (some (a.add fd.offset))) := by
  intro ρ hv w; simp [Op.operands] at hv
  simp [execOp, hv, Instr.fieldAt, run_underlying hu, hf, Instr.sureAddr, fieldPlace, run_size hs]
theorem pure_fieldB {s : TypeId} {x : Operand} {f k g o : Nat} {fs : Array Field} {fd : Field} (off : Nat) (hu : P.underlying s = some (.struct fs)) (hf : fs[f]? = some fd) (ho : fd.offset = off) (hs : (P.info? fd.type).map (·.size) = some (k + 1)) : PureOp P ⟨dst, .fieldAddr s x f, ty, pos, af, gd⟩ [.pointer (some ⟨g, o, none⟩)] (.pointer (some ⟨g, o + off, none⟩)) := by
  have := pure_fieldAddr (dst := dst) (ty := ty) (pos := pos) (af := af) (gd := gd) (x := x) (a := ⟨g, o, none⟩) hu hf hs
  rwa [add_lit', ho] at this
theorem pure_field0 {s : TypeId} {x : Operand} {f k g : Nat} {fs : Array Field} {fd : Field} (off : Nat) (hu : P.underlying s = some (.struct fs)) (hf : fs[f]? = some fd) (ho : fd.offset = off) (hs : (P.info? fd.type).map (·.size) = some (k + 1)) : PureOp P ⟨dst, .fieldAddr s x f, ty, pos, af, gd⟩ [.pointer (some ⟨g, 0, none⟩)] (.pointer (some ⟨g, off, none⟩)) := by
  have := pure_fieldAddr (dst := dst) (ty := ty) (pos := pos) (af := af) (gd := gd) (x := x) (a := ⟨g, 0, none⟩) hu hf hs
  rwa [add_lit', ho, Nat.zero_add] at this
theorem pure_fieldE {s : TypeId} {x : Operand} {f k n j : Nat} {v : Value} {fs : Array Field} {fd : Field} (off : Nat) (hu : P.underlying s = some (.struct fs)) (hf : fs[f]? = some fd) (ho : fd.offset = off) (hs : (P.info? fd.type).map (·.size) = some (k + 1)) (hr : IsRow v n) (hn : 0 < n) : PureOp P ⟨dst, .fieldAddr s x f, ty, pos, af, gd⟩ [.pointer (some (eaddr v j))] (.pointer (some (eaddr v (j + off)))) := by
  have := pure_fieldAddr (dst := dst) (ty := ty) (pos := pos) (af := af) (gd := gd) (x := x) (a := eaddr v j) hu hf hs
  rwa [eaddr_add v j _ (hr.some hn), ho] at this
theorem pure_indexR {t e : TypeId} {x y : Operand} {n s j : Nat} {v : Value} {k : IntKind} {i : Int} [hi : NatIs i j] (hu : P.underlying t = some (.slice e)) (hs : (P.info? e).map (·.size) = some s) (hr : IsRow v n) (h : j < n) : PureOp P ⟨dst, .indexAddr t x y, ty, pos, af, gd⟩ [v, .int k i] (.pointer (some (eaddr v (j * s)))) := by
  intro ρ hv w; simp [Op.operands] at hv
  obtain ⟨b, n', c, rfl⟩ := hr.some (by omega)
  have hn : n' = n := by
    rcases hr with ⟨h1, _⟩ | ⟨g, off, c, h1, _⟩ | ⟨a, _, h1⟩
    · cases h1
    · injection h1
    · omega
  subst hn
  have hb : b.spot = none := by
    rcases hr with ⟨h1, _⟩ | ⟨g, off, c, h1, _⟩ | ⟨a, _, h1⟩
    · cases h1
    · injection h1 with h1; injection h1 with h1; rw [h1]
    · omega
  have h0 : (0 : Int) ≤ i := by rw [hi.eq]; omega
  have h1 : i < (n' : Int) := by rw [hi.eq]; omega
  have h2 : i.toNat = j := by rw [hi.eq]; rfl
  obtain ⟨bb, bo, bs⟩ := b
  simp only at hb
  subst hb
  simp [execOp, hv, Instr.indexAt, asIntOf, run_underlying hu, run_size hs, h0, h1, h2, add_lit', eaddr]
theorem pure_indexA {t e : TypeId} {x y : Operand} {n s j g o : Nat} {k : IntKind} {i : Int} [hi : NatIs i j] (hu : P.underlying t = some (.array n e)) (hs : (P.info? e).map (·.size) = some s) (h : j < n) : PureOp P ⟨dst, .indexAddr t x y, ty, pos, af, gd⟩ [.pointer (some ⟨g, o, none⟩), .int k i] (.pointer (some ⟨g, o + j * s, none⟩)) := by
  intro ρ hv w; simp [Op.operands] at hv
  have h0 : (0 : Int) ≤ i := by rw [hi.eq]; omega
  have h1 : i < (n : Int) := by rw [hi.eq]; omega
  have h2 : i.toNat = j := by rw [hi.eq]; rfl
  simp [execOp, hv, Instr.indexAt, asIntOf, run_underlying hu, run_size hs, h0, h1, h2, add_lit', Instr.sureAddr]
theorem pure_indexS {t : TypeId} {x y : Operand} {j : Nat} {k : IntKind} {i : Int} {s : ByteArray} {b : UInt8} [hi : NatIs i j] (hu : P.underlying t = some .string) (h : s[j]? = some b) : PureOp P ⟨dst, .index t x y, ty, pos, af, gd⟩ [.string s, .int k i] (.int .u8 b.toNat) := by
  intro ρ hv w; simp [Op.operands] at hv
  have h0 : (0 : Int) ≤ i := by rw [hi.eq]; omega
  have h2 : i.toNat = j := by rw [hi.eq]; rfl
  simp [execOp, hv, Instr.index, asIntOf, run_underlying hu, h0, h2, h]
theorem pure_lenR {x : Operand} {t e : TypeId} {v : Value} {n : Nat} (hu : P.underlying t = some (.slice e)) (hr : IsRow v n) : PureOp P ⟨dst, .call ⟨.builtin .len, #[x], #[t]⟩, ty, pos, af, gd⟩ [v] (.int .i64 n) := by
  obtain ⟨A, c, rfl, _⟩ := hr.slice
  exact pure_len hu
theorem run_part_one {t : TypeId} {d : TypeDesc} {cs : Array Value} {o : Nat} {v : Value} (hu : P.underlying t = some d) (ha : aggT d = false) (h : cs[o]? = some v) (w : World) : (part t cs o).run P w = .ok v w := by
  simp [part, run_isAgg hu, ha, h]
theorem pure_field1 {s : TypeId} {x : Operand} {f : Nat} {fs : Array Field} {fd : Field} {d : TypeDesc} {l : List Value} {v : Value} (off : Nat) (hu : P.underlying s = some (.struct fs)) (hf : fs[f]? = some fd) (ho : fd.offset = off) (hd : P.underlying fd.type = some d) (ha : aggT d = false) [h : GetL l off v] : PureOp P ⟨dst, .field s x f, ty, pos, af, gd⟩ [.agg l.toArray] v := by
  intro ρ hv w; simp [Op.operands] at hv
  subst ho
  have : (l.toArray)[fd.offset]? = some v := by simpa using h.eq
  simp [execOp, hv, Instr.field, run_underlying hu, hf, asAgg, run_part_one hd ha this]

/-! ### Slices of slices -/
/-- v[lo:hi]. -/
def vsl (v : Value) (lo hi s : Nat) : Value := match v with
  | .slice A _ c => .slice (if c = lo then A else A.map (·.add (lo * s))) (hi - lo) (c - lo)
  | v => v
theorem IsRow.vsl {v : Value} {n lo hi s : Nat} (h : IsRow v n) (h1 : lo ≤ hi) (h2 : hi ≤ n) : IsRow (vsl v lo hi s) (hi - lo) := by
  rcases h with ⟨rfl, rfl⟩ | ⟨g, off, c, rfl, hc, hm⟩ | ⟨a, rfl, rfl⟩
  · have : hi = 0 := by omega
    have : lo = 0 := by omega
    subst hi; subst lo
    exact .inl ⟨rfl, rfl⟩
  · unfold Go.Proofs.YtompmejidaddoaaDoor.vsl
    simp only
    by_cases e : c = lo
    · rw [if_pos e]; exact .inr (.inl ⟨g, off, c - lo, rfl, by omega, by omega⟩)
    · rw [if_neg e, Option.map_some, add_lit']; exact .inr (.inl ⟨g, _, c - lo, rfl, by omega, by omega⟩)
  · have : hi = 0 := by omega
    have : lo = 0 := by omega
    subst hi; subst lo
    exact .inr (.inr ⟨a, rfl, rfl⟩)
theorem eaddr_vsl {v : Value} {n lo hi s j : Nat} (h : IsRow v n) (h1 : lo < hi) (h2 : hi ≤ n) : eaddr (vsl v lo hi s) j = eaddr v (lo * s + j) := by
  rcases h with ⟨rfl, rfl⟩ | ⟨g, off, c, rfl, hc, hm⟩ | ⟨a, rfl, rfl⟩
  · omega
  rotate_left
  · omega
  · unfold Go.Proofs.YtompmejidaddoaaDoor.vsl
    simp only
    rw [if_neg (by omega), Option.map_some, add_lit']
    simp [eaddr, Nat.add_assoc]
theorem run_sliceBound {x : Int} {k : IntKind} {j y : Nat} [hi : NatIs x j] {code : BoundsCode} (h : j ≤ y) (w : World) : (Instr.sliceBound (.int k x) y code).run P w = .ok j w := by
  have h0 : (0 : Int) ≤ x := by rw [hi.eq]; omega
  have h1 : x ≤ (y : Int) := by rw [hi.eq]; omega
  have h2 : x.toNat = j := by rw [hi.eq]; rfl
  simp [Instr.sliceBound, asIntOf, h0, h1, h2]
theorem pure_sliceHi {t e : TypeId} {x y : Operand} {v : Value} {n j s : Nat} {k : IntKind} {i : Int} [hi : NatIs i j] (hu : P.underlying t = some (.slice e)) (hs : (P.info? e).map (·.size) = some s) (hr : IsRow v n) (h : j ≤ n) : PureOp P ⟨dst, .slice t x none (some y) none, ty, pos, af, gd⟩ [v, .int k i] (vsl v 0 j s) := by
  intro ρ hv w
  obtain ⟨A, c, rfl, hc⟩ := hr.slice
  simp [Op.operands] at hv
  have hb := fun w => run_sliceBound (P := P) (x := i) (k := k) (j := j) (y := c) (code := .sliceAcap) (by omega) w
  simp [execOp, hv, Instr.sliceAt, run_underlying hu, Instr.slice, Instr.sliceBounds, hb, run_size hs, vsl]
theorem pure_sliceLo {t e : TypeId} {x y : Operand} {v : Value} {n j s : Nat} {k : IntKind} {i : Int} [hi : NatIs i j] (hu : P.underlying t = some (.slice e)) (hs : (P.info? e).map (·.size) = some s) (hr : IsRow v n) (h : j ≤ n) : PureOp P ⟨dst, .slice t x (some y) none none, ty, pos, af, gd⟩ [v, .int k i] (vsl v j n s) := by
  intro ρ hv w
  obtain ⟨A, c, rfl, hc⟩ := hr.slice
  simp [Op.operands] at hv
  have hb := fun w => run_sliceBound (P := P) (x := i) (k := k) (j := j) (y := n) (code := .sliceB) (by omega) w
  simp [execOp, hv, Instr.sliceAt, run_underlying hu, Instr.slice, Instr.sliceBounds, hb, run_size hs, vsl]
theorem pure_sliceLH {t e : TypeId} {x y z : Operand} {v : Value} {n j l s : Nat} {k k' : IntKind} {i i' : Int} [hi : NatIs i l] [hi' : NatIs i' j] (hu : P.underlying t = some (.slice e)) (hs : (P.info? e).map (·.size) = some s) (hr : IsRow v n) (h : j ≤ n) (hl : l ≤ j) : PureOp P ⟨dst, .slice t x (some y) (some z) none, ty, pos, af, gd⟩ [v, .int k i, .int k' i'] (vsl v l j s) := by
  intro ρ hv w
  obtain ⟨A, c, rfl, hc⟩ := hr.slice
  simp [Op.operands] at hv
  have hb := fun w => run_sliceBound (P := P) (x := i') (k := k') (j := j) (y := c) (code := .sliceAcap) (by omega) w
  have hb' := fun w => run_sliceBound (P := P) (x := i) (k := k) (j := l) (y := j) (code := .sliceB) (by omega) w
  simp [execOp, hv, Instr.sliceAt, run_underlying hu, Instr.slice, Instr.sliceBounds, hb, hb', run_size hs, vsl]

/-! ### What is made -/
def zeroIs (P : Program) (t : TypeId) (z : Value) (s : Nat) : Prop := (P.info? t).map (fun i => (i.zero, i.size)) = some (some z, s)
theorem run_zero {t : TypeId} {z : Value} {s : Nat} (h : zeroIs P t z s) (w : World) : (zeroValue t).run P w = .ok z w := by
  obtain ⟨i, hi, hz⟩ := Option.map_eq_some_iff.1 h
  simp only [Prod.mk.injEq] at hz
  simp [zeroValue, typeInfo, program, Sem.run, hi, hz.1]
theorem zero_size {t : TypeId} {z : Value} {s : Nat} (h : zeroIs P t z s) : (P.info? t).map (·.size) = some s := by
  obtain ⟨i, hi, hz⟩ := Option.map_eq_some_iff.1 h
  simp only [Prod.mk.injEq] at hz
  rw [hi]; simp [hz.2]
theorem alloc_new {e : TypeId} {z : Value} {s : Nat} (h : zeroIs P e z s) : AllocOp P ⟨dst, .alloc e, ty, pos, af, gd⟩ [] (.cells z.cells e, fun g => .pointer (some ⟨g, 0, none⟩)) := by
  intro ρ hv w
  simp [execOp, Instr.alloc, run_zero h, newVar, newRow, newObj, Sem.run]
theorem alloc_box {e : TypeId} {x : Operand} {v : Value} : AllocOp P ⟨dst, .box e x, ty, pos, af, gd⟩ [v] (.cells v.cells e, fun g => .pointer (some ⟨g, 0, none⟩)) := by
  intro ρ hv w
  simp [Op.operands] at hv
  simp [execOp, hv, Instr.box, newVar, newRow, newObj, Sem.run]
theorem alloc_boxA {e : TypeId} {x : Operand} {l : List Value} : AllocOp P ⟨dst, .box e x, ty, pos, af, gd⟩ [.agg l.toArray] (.cells l.toArray e, fun g => .pointer (some ⟨g, 0, none⟩)) := alloc_box
theorem alloc_box1 {e : TypeId} {x : Operand} {v : Value} (h1 : v.oneCell' = true) : AllocOp P ⟨dst, .box e x, ty, pos, af, gd⟩ [v] (.cells [v].toArray e, fun g => .pointer (some ⟨g, 0, none⟩)) := by
  have e : v.cells = [v].toArray := by cases v <;> first | rfl | (simp [Value.oneCell'] at h1; done)
  have := alloc_box (P := P) (dst := dst) (ty := ty) (pos := pos) (af := af) (gd := gd) (e := ‹TypeId›) (x := x) (v := v)
  rwa [e] at this
end
end Go.Proofs.YtompmejidaddoaaDoor
