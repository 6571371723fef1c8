/- Results of which some lie in memory; arrays. No program. -/
import Derived.Test.YtompmejidaddoaaDoorEngP
set_option linter.unusedVariables false
set_option linter.unusedSimpArgs false
namespace Go.Proofs.YtompmejidaddoaaDoor
open Go Go.RowKit
/-- What results read as. -/
inductive ResV (P : Program) (env : Env) (L : List Chunk) : List ResultVar → List Value → Prop
  | nil : ResV P env L [] []
  | tmp {t : Nat} {v : Value} {rs : List ResultVar} {vs : List Value} (h : lk t env = some v) (k : ResV P env L rs vs) : ResV P env L (.tmp t :: rs) (v :: vs)
  | cell {t ty s : Nat} {ad : Addr} {d : TypeDesc} {c : Chunk} {us : List Value} {rs : List ResultVar} {vs : List Value} (j : Nat) (ht : lk t env = some (.pointer (some ad))) (hu : P.underlying ty = some d) (hg : aggT d = true) (hi : (P.info? ty).map (·.size) = some s) (hc : L[j]? = some c) (hv : c.cells ad 0 s = some us) (k : ResV P env L rs vs) : ResV P env L (.cell t ty :: rs) (.agg us.toArray :: vs)
theorem run_resV {P : Program} {n : Nat} {env : Env} {L : List Chunk} {a : Act} {w : World} (hs : AE n env a) (hsat : SatC w L) {rs : List ResultVar} {vs : List Value} (h : ResV P env L rs vs) : (rs.mapM (resF a.tmps)).run P w = .ok vs w := by
  induction h with
  | nil => rfl
  | tmp h k ih =>
    have e := hs.env _ _ h
    simp only [List.mapM_cons, Sem.run_bind, ih, resF, Sem.run_pure, Result.andThen_ok]
    rw [Array.getD_eq_getD_getElem?, e]; rfl
  | cell j ht hu hg hi hc hv k ih =>
    rename_i t ty s ad d c us rs vs
    have e : a.tmps.getD t undef = .pointer (some ad) := by rw [Array.getD_eq_getD_getElem?, hs.env t _ ht]; rfl
    obtain ⟨hl, hcs⟩ := cells_spec (SatC.take hsat j hc) s 0 us hv
    have hld := run_loadCells_list (P := P) w ad us (fun j v hj => by simpa using hcs j v hj)
    rw [hl] at hld
    simp [List.mapM_cons, ih, resF, e, asAddr, loadVar, run_isAgg hu, hg, run_size hi, hld]
theorem WQ_retV {P : Program} {n : Nat} {w0 : World} {env : Env} {L : List Chunk} {fn : Func} {R : Ending → World → Prop} {vs : List Value} {rs : List ResultVar} (hr : fn.results.toList = rs) (h : ResV P env L rs vs)
    {x : Exit} (hx : (match x with | .ret | .normal => true | _ => false) = true) (k : ∀ w, SatC w L → Ext w0 w → R (.returned (packV vs)) w) : WQ (bodyPost P fn R) x n w0 env L := fun a w hs => by
  have hres : (results fn a.tmps).run P w = .ok (packV vs) w := by
    subst hr
    rw [results_eq, Array.mapM_eq_mapM_toList]
    simp only [Sem.run_bind, Sem.run_map, run_resV hs.ae hs.sat h, Result.andThen_ok, Sem.run_pure]
    congr 1
    cases vs with
    | nil => rfl
    | cons v r => cases r with
      | nil => rfl
      | cons u r => simp [packV]
  cases x <;> first | (cases hx; done) | exact ⟨hs.ae.defers, _, hres, k w hs.sat hs.ext⟩
theorem pure_buildZ {P : Program} {dst : Option Tmp} {ty : TypeId} {pos : String} {af : Array Edge} {gd : Option (Nat × Bool)} {t e : TypeId} {m s es : Nat} {zl : List Value} (hu : P.underlying t = some (.array m e)) (hz : zeroIs P t (.agg zl.toArray) s) (he : (P.info? e).map (·.size) = some es) : PureOp P ⟨dst, .build t #[], ty, pos, af, gd⟩ [] (.agg zl.toArray) := by
  intro ρ hv w
  simp [execOp, Instr.build, run_zero hz, run_underlying hu, run_size he, Value.cells, Instr.fill]
/-- 4096 flags. -/
def arrB (M : Nat → Bool) : List Value := (List.range 4096).map fun i => .bool (M i)
def upM (M : Nat → Bool) (j : Nat) (b : Bool) : Nat → Bool := fun i => if i = j then b else M i
theorem arr_len (M : Nat → Bool) : (arrB M).length = 4096 := by simp [arrB]
theorem arr_get (M : Nat → Bool) (j : Nat) (h : j < 4096) : (arrB M)[j]? = some (.bool (M j)) := by simp [arrB, h]
theorem arr_set (M : Nat → Bool) (j : Nat) (b : Bool) (h : j < 4096) : SetL (arrB M) (0 + j * 1) (.bool b) (arrB (upM M j b)) := by
  refine ⟨?_, by rw [arr_len]; omega⟩
  apply List.ext_getElem?
  intro i
  rw [List.getElem?_set]
  by_cases hi : i < 4096
  · rw [arr_get _ i hi, arr_get _ i hi]
    by_cases e : 0 + j * 1 = i
    · rw [if_pos e, if_pos (by rw [arr_len]; omega)]
      simp [upM, show i = j by omega]
    · rw [if_neg e]
      simp [upM, show i ≠ j by omega]
  · rw [List.getElem?_eq_none (l := arrB (upM M j b)) (by rw [arr_len]; omega), if_neg (by omega), List.getElem?_eq_none (by rw [arr_len]; omega)]
theorem arr_nil : List.replicate 4096 (Value.bool false) = arrB (fun _ => false) := by
  unfold arrB; rw [List.map_const', List.length_range]
theorem put_arr {g t : Nat} {M : Nat → Bool} {j : Nat} {b : Bool} (h : j < 4096) : (Chunk.blk g (.cells (arrB M).toArray t (0, 0))).put ⟨g, 0 + j * 1, none⟩ (.bool b) = some (.blk g (.cells (arrB (upM M j b)).toArray t (0, 0))) :=
  put_blk (h := arr_set M j b h) rfl
end Go.Proofs.YtompmejidaddoaaDoor
