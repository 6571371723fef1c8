/- The engine: structs and slices that are built, slices that are made, append. No program. -/
import Derived.Test.YtompmejidaddoaaDoorEngF
set_option linter.unusedVariables false
set_option linter.unusedSimpArgs false
namespace Go.Proofs.YtompmejidaddoaaDoor
open Go Go.RowKit

class One (v : Value) : Prop where
  out : v.oneCell' = true
instance (k : IntKind) (n : Int) : One (.int k n) := ⟨rfl⟩
instance (b : Bool) : One (.bool b) := ⟨rfl⟩
instance (b : ByteArray) : One (.string b) := ⟨rfl⟩
instance (a : Option Addr) : One (.pointer a) := ⟨rfl⟩
instance (a : Option Addr) (n c : Nat) : One (.slice a n c) := ⟨rfl⟩
instance (a : Option Nat) : One (.map a) := ⟨rfl⟩
instance (f : Fn) (a c : Array Value) : One (.func f a c) := ⟨rfl⟩
instance : One .nilFunc := ⟨rfl⟩
theorem IsRow.one {v : Value} {n : Nat} (h : IsRow v n) : One v := by
  obtain ⟨A, c, rfl, _⟩ := h.slice
  infer_instance
class CellsV (v : Value) (l : outParam (List Value)) : Prop where
  eq : v.cells = l.toArray
instance (priority := low) cellsV_one (v : Value) [h : One v] : CellsV v [v] := ⟨by have := h.out; cases v <;> first | rfl | (simp [Value.oneCell'] at this; done)⟩
instance cellsV_agg (l : List Value) : CellsV (.agg l.toArray) l := ⟨rfl⟩
class AllOne (l : List Value) : Prop where
  out : ∀ u ∈ l, u.oneCell' = true
instance allOne_nil : AllOne [] := ⟨fun u h => by cases h⟩
instance allOne_cons (v : Value) (l : List Value) [h : One v] [k : AllOne l] : AllOne (v :: l) := ⟨fun u hu => by
  rcases List.mem_cons.1 hu with rfl | hu
  · exact h.out
  · exact k.out u hu⟩
class LenL (l : List Value) (n : Nat) : Prop where
  eq : l.length = n
instance lenL_nil : LenL [] 0 := ⟨rfl⟩
instance lenL_cons (v : Value) (l : List Value) (n : Nat) [h : LenL l n] : LenL (v :: l) (n + 1) := ⟨by simp [h.eq]⟩
class GetP (l : List (Nat × Nat)) (i : Nat) (p : outParam (Nat × Nat)) : Prop where
  eq : l[i]? = some p
instance getP_zero (v : Nat × Nat) (l : List (Nat × Nat)) : GetP (v :: l) 0 v := ⟨rfl⟩
instance getP_succ (u v : Nat × Nat) (l : List (Nat × Nat)) (i : Nat) [h : GetP l i v] : GetP (u :: l) (i + 1) v := ⟨by simpa using h.eq⟩

theorem fold_set : ∀ (cs : List Value) (off j : Nat) (A : Array Value), (∀ i, off + j ≤ i → i < off + j + cs.length → i < A.size) →
    ((cs.zipIdx j).foldl (fun (a : Array Value) (p : Value × Nat) => a.setIfInBounds (off + p.2) p.1) A).toList.length = A.size ∧ ∀ i, ((cs.zipIdx j).foldl (fun (a : Array Value) (p : Value × Nat) => a.setIfInBounds (off + p.2) p.1) A)[i]? = if off + j ≤ i ∧ i < off + j + cs.length then cs[i - (off + j)]? else A[i]?
  | [], off, j, A, h => ⟨by simp, fun i => by simp; intro h1 h2; omega⟩
  | c :: cs, off, j, A, h => by
    simp only [List.zipIdx_cons, List.foldl_cons]
    have ih := fold_set cs off (j + 1) (A.setIfInBounds (off + j) c) (fun i h1 h2 => by simp; exact h i (by omega) (by simp; omega))
    refine ⟨by rw [ih.1]; simp, fun i => ?_⟩
    rw [ih.2]
    by_cases e : i = off + j
    · subst e
      have hlt := h (off + j) (by omega) (by simp)
      rw [if_neg (by omega), if_pos (by simp), Nat.sub_self, Array.getElem?_setIfInBounds_self_of_lt hlt]; rfl
    · by_cases e2 : off + (j + 1) ≤ i ∧ i < off + (j + 1) + cs.length
      · rw [if_pos e2, if_pos (by simp; omega), show i - (off + j) = (i - (off + (j + 1))) + 1 by omega]; simp
      · rw [if_neg e2, if_neg (by simp; omega), Array.getElem?_setIfInBounds_ne (by omega)]
theorem fold_sets {l cs r : List Value} {off : Nat} (h : SetsL l off cs r) : (cs.toArray.zipIdx.foldl (fun (a : Array Value) (p : Value × Nat) => a.setIfInBounds (off + p.2) p.1) l.toArray) = r.toArray := by
  have hz : cs.toArray.zipIdx = (cs.zipIdx 0).toArray := by simp
  rw [hz, List.foldl_toArray]
  have := fold_set cs off 0 l.toArray (fun i h1 h2 => by have := h.le; simp; omega)
  apply Array.ext_getElem?
  intro i
  rw [this.2]
  simp only [Nat.add_zero, List.getElem?_toArray]
  exact (h.eq i).symm
/-- What a struct is, its parts put in. -/
class FillP (pl : List (Nat × Nat)) (l : List Value) (ps : List (Nat × Operand)) (vs : List Value) (r : outParam (List Value)) : Prop where
  eq : ∀ ρ : Operand → Value, ps.map (fun p => ρ p.2) = vs → Instr.fill (pl.toArray[·]?) l.toArray (ps.map fun p => (p.1, ρ p.2)) = some r.toArray
instance fillP_nil (pl : List (Nat × Nat)) (l : List Value) : FillP pl l [] [] l := ⟨fun ρ h => rfl⟩
instance fillP_cons (pl : List (Nat × Nat)) (l l' c : List Value) (i : Nat) (x : Operand) (ps : List (Nat × Operand)) (v : Value) (vs r : List Value) (off s : Nat)
    [h1 : GetP pl i (off, s)] [h2 : CellsV v c] [h3 : LenL c s] [h4 : SetsL l off c l'] [h5 : FillP pl l' ps vs r] : FillP pl l ((i, x) :: ps) (v :: vs) r := ⟨fun ρ h => by
  simp only [List.map_cons, List.cons.injEq] at h
  obtain ⟨hx, hr⟩ := h
  have hg : pl.toArray[i]? = some (off, s) := by simpa using h1.eq
  have hle := h4.le
  have hlen := h3.eq
  simp only [List.map_cons, Instr.fill, hg, hx, h2.eq]
  rw [if_neg (by simp [hlen]; omega)]
  have := fold_sets h4
  rw [this]
  exact h5.eq ρ hr⟩

section
variable {P : Program} {dst : Option Tmp} {ty : TypeId} {pos : String} {af : Array Edge} {gd : Option (Nat × Bool)}
def placesOf (P : Program) (fs : Array Field) (pl : List (Nat × Nat)) : Prop := ∀ w, (fs.mapM fun f => do pure (f.offset, ← sizeOf f.type) : Sem (Array (Nat × Nat))).run P w = .ok pl.toArray w
theorem pure_build {t : TypeId} {ps : List (Nat × Operand)} {fs : Array Field} {pl : List (Nat × Nat)} {zl vs r : List Value} {s : Nat} (hu : P.underlying t = some (.struct fs)) (hz : zeroIs P t (.agg zl.toArray) s) (hp : placesOf P fs pl) [h : FillP pl zl ps vs r] : PureOp P ⟨dst, .build t ps.toArray, ty, pos, af, gd⟩ vs (.agg r.toArray) := by
  intro ρ hv w
  simp only [Op.operands, List.map_map, Function.comp_def] at hv
  have hf := h.eq ρ hv
  have hp' := hp w
  simp only [execOp, Instr.build, Sem.run_bind, run_zero hz, Result.andThen_ok, run_underlying hu]
  rw [hp']
  simp only [Result.andThen_ok, List.map_toArray]
  have e : (ps.map fun (x : Nat × Operand) => match x with | (i, x) => (i, ρ x)) = ps.map fun p => (p.1, ρ p.2) := rfl
  simp only [Value.cells, hf, Sem.run_pure, Result.andThen_ok]

/-- The cells of elements, one behind the other. -/
class FlatL (vs : List Value) (s : Nat) (r : outParam (List Value)) : Prop where
  eq : (∀ v ∈ vs, v.cells.size = s) ∧ vs.flatMap (fun v => v.cells.toList) = r
instance flatL_nil (s : Nat) : FlatL [] s [] := ⟨⟨fun v h => (by cases h), rfl⟩⟩
class AppL (a b : List Value) (r : outParam (List Value)) : Prop where
  eq : a ++ b = r
instance appL_nil (b : List Value) : AppL [] b b := ⟨rfl⟩
instance appL_cons (v : Value) (a b r : List Value) [h : AppL a b r] : AppL (v :: a) b (v :: r) := ⟨by simp [h.eq]⟩
instance flatL_cons (v : Value) (vs c r r' : List Value) (s : Nat) [h1 : CellsV v c] [h2 : LenL c s] [h3 : FlatL vs s r] [h4 : AppL c r r'] : FlatL (v :: vs) s r' := ⟨by
  refine ⟨fun u hu => ?_, by simp [h1.eq, h3.eq.2, h4.eq]⟩
  rcases List.mem_cons.1 hu with rfl | hu
  · rw [h1.eq]; simp [h2.eq]
  · exact h3.eq.1 u hu⟩
theorem fill_flat (s : Nat) : ∀ (vs : List Value) (k : Nat) (A : Array Value), (∀ v ∈ vs, v.cells.size = s) → A.size = (k + vs.length) * s →
    ∃ B, Instr.fill (fun i => some (i * s, s)) A ((vs.zipIdx k).map fun p => (p.2, p.1)) = some B ∧ B.size = A.size ∧ ∀ i, B[i]? = if i < k * s then A[i]? else (vs.flatMap fun v => v.cells.toList)[i - k * s]?
  | [], k, A, _, hA => ⟨A, rfl, rfl, fun i => by
    by_cases h : i < k * s
    · rw [if_pos h]
    · rw [if_neg h]
      simp at hA
      rw [Array.getElem?_eq_none (by omega)]; rfl⟩
  | v :: vs, k, A, hv, hA => by
    have hvs := hv v List.mem_cons_self
    have e1 : (k + 1) * s = k * s + s := by rw [Nat.add_mul, Nat.one_mul]
    simp only [List.length_cons] at hA
    have e3 : (k + (vs.length + 1)) * s = (k + 1 + vs.length) * s := by congr 1; omega
    have e4 : (k + 1 + vs.length) * s = (k + 1) * s + vs.length * s := by rw [Nat.add_mul]
    simp only [List.zipIdx_cons, List.map_cons, Instr.fill]
    rw [if_neg (by simp [hvs]; omega)]
    have hfs := fold_set v.cells.toList (k * s) 0 A (fun i h1 h2 => by simp [hvs] at h2; omega)
    have ez : v.cells.zipIdx = (v.cells.toList.zipIdx 0).toArray := by
      apply Array.ext'
      simp
    rw [ez, List.foldl_toArray]
    generalize hA' : (List.foldl (fun (a : Array Value) (p : Value × Nat) => a.setIfInBounds (k * s + p.2) p.1) A (v.cells.toList.zipIdx 0)) = A' at *
    have hsz : A'.size = A.size := by rw [← hfs.1]; simp
    obtain ⟨B, h1, h2, h3⟩ := fill_flat s vs (k + 1) A' (fun u hu => hv u (List.mem_cons_of_mem _ hu)) (by rw [hsz, hA, e3])
    refine ⟨B, h1, by rw [h2, hsz], fun i => ?_⟩
    rw [h3]
    have hvl : v.cells.toList.length = s := by simpa using hvs
    by_cases c1 : i < k * s
    · rw [if_pos (by omega), if_pos c1, hfs.2, if_neg (by omega)]
    · rw [if_neg c1, List.flatMap_cons]
      by_cases c2 : i < (k + 1) * s
      · rw [if_pos c2, hfs.2, if_pos (by omega), List.getElem?_append_left (by omega)]; rfl
      · rw [if_neg c2, List.getElem?_append_right (by omega)]; congr 1; omega
/-- Indices from k on. -/
class Upto (ps : List (Nat × Operand)) (k : Nat) : Prop where
  eq : ps.map (·.1) = List.range' k ps.length
instance upto_nil (k : Nat) : Upto [] k := ⟨rfl⟩
instance upto_cons (k : Nat) (x : Operand) (ps : List (Nat × Operand)) [h : Upto ps (k + 1)] : Upto ((k, x) :: ps) k := ⟨by simp [h.eq, List.range'_succ]⟩
theorem zip_of_upto : ∀ (ps : List (Nat × Operand)) (k : Nat) (ρ : Operand → Value), ps.map (·.1) = List.range' k ps.length → ps.map (fun p => (p.1, ρ p.2)) = ((ps.map fun p => ρ p.2).zipIdx k).map fun p => (p.2, p.1)
  | [], k, ρ, h => rfl
  | (i, x) :: ps, k, ρ, h => by
    simp only [List.map_cons, List.length_cons, List.range'_succ, List.cons.injEq] at h
    obtain ⟨rfl, h⟩ := h
    simp only [List.map_cons, List.zipIdx_cons, zip_of_upto ps (i + 1) ρ h]
theorem alloc_buildSlice {t e : TypeId} {ps : List (Nat × Operand)} {vs r : List Value} {z : Value} {s len : Nat} (hu : P.underlying t = some (.slice e)) (hz : zeroIs P e z s) (hl : ps.length = len) (hb : len * s ≤ 16777216) [h0 : Upto ps 0] [h : FlatL vs s r] : AllocOp P ⟨dst, .buildSlice t len ps.toArray, ty, pos, af, gd⟩ vs (.cells r.toArray e, fun g => .slice (some ⟨g, 0, none⟩) len len) := by
  intro ρ hv w
  simp only [Op.operands, List.map_map, Function.comp_def] at hv
  have hv' : ps.map (fun p => ρ p.2) = vs := by simpa using hv
  have hlen : vs.length = len := by rw [← hv', List.length_map, hl]
  have hzip := zip_of_upto ps 0 ρ h0.eq
  rw [hv'] at hzip
  have key : ∀ Z : Array Value, Z.size = len * s → Instr.fill (fun i => some (i * s, s)) Z (ps.map fun p => (p.1, ρ p.2)) = some r.toArray := by
    intro Z hZ
    obtain ⟨B, h1, h2, h3⟩ := fill_flat s vs 0 Z h.eq.1 (by rw [hZ, hlen]; simp)
    rw [hzip, h1]
    congr 1
    apply Array.ext_getElem?
    intro i
    rw [h3, h.eq.2]
    simp
  have e1 : ¬ (len * s > 2 ^ 24) := by omega
  have e2 : (ps.map fun (x : Nat × Operand) => match x with | (i, x) => (i, ρ x)) = ps.map fun p => (p.1, ρ p.2) := rfl
  simp only [execOp, Instr.buildSlice, Sem.run_bind, run_underlying hu, Result.andThen_ok, run_size (zero_size hz), if_neg e1, List.map_toArray, e2]
  by_cases h0 : len * s = 0
  · have hk := key #[] (by simp [h0])
    have hr0 : Array.map (fun (_ : Nat) => (default : Value)) (Array.range 0) = #[] := by apply Array.ext'; simp
    simp [h0, hr0, hk, newRow, newObj, Sem.run]
  · have hk := fun zz : Array Value => key ((Array.range (len * s)).map fun x => zz[x % zz.size]!) (by simp)
    simp [h0, run_zero hz, hk, newRow, newObj, Sem.run]
end
end Go.Proofs.YtompmejidaddoaaDoor
