/- Structs of whole numbers compared. No program but its types. -/
import Derived.Test.YtlgfinchhnbhdaaTy
import Derived.Laws.StructEq
set_option linter.unusedVariables false
set_option linter.unusedSimpArgs false
namespace Go.Proofs.Ytlgfinchhnbhdaa
open Go Go.RowKit

theorem run_part_i {P : Program} {t : TypeId} {k : IntKind} {cs : Array Value} {o : Nat} {v : Value} (hu : P.underlying t = some (.int k)) (h : cs[o]? = some v) (w : World) : (part t cs o).run P w = .ok v w := run_part_one hu rfl h w
/-- Fields that are whole numbers, each of one cell. -/
def IntFs (P : Program) : List Field → Nat → Prop
  | [], _ => True
  | f :: fs, o => f.name ≠ "_" ∧ f.offset = o ∧ (∃ k, P.underlying f.type = some (.int k)) ∧ IntFs P fs (o + 1)
theorem run_eqF {P : Program} {ks : List IntKind} {xs ys : Array Value} : ∀ (fs : List Field) (o : Nat) (ps qs : List Int) (ks : List IntKind), IntFs P fs o → ps.length = fs.length → qs.length = fs.length → ks.length = fs.length →
    (∀ j a k, ps[j]? = some a → ks[j]? = some k → xs[o + j]? = some (.int k a)) → (∀ j b k, qs[j]? = some b → ks[j]? = some k → ys[o + j]? = some (.int k b)) → ∀ (d : Nat) (w : World), (Op.eqFields (d + 1) xs ys fs).run P w = .ok (decide (ps = qs)) w
  | [], o, ps, qs, ks, _, ha, hb, _, _, _, d, w => by
    simp at ha hb; subst ha; subst hb; simp [Op.eqFields]
  | f :: fs, o, ps, qs, ks, hf, ha, hb, hk, h1, h2, d, w => by
    obtain ⟨hn, hoff, ⟨k0, hk0⟩, hr⟩ := hf
    match ps, qs, ks, ha, hb, hk with
    | a :: ps, b :: qs, k :: ks, ha, hb, hk =>
      have e1 := h1 0 a k rfl rfl
      have e2 := h2 0 b k rfl rfl
      rw [Nat.add_zero, ← hoff] at e1 e2
      simp only [Op.eqFields, hn, ne_eq, not_false_eq_true, if_true, Sem.run_bind, run_part_i hk0 e1, run_part_i hk0 e2, Result.andThen_ok, run_equalIn_int w d f.type k k0 a b hk0]
      by_cases e : a = b
      · subst e
        simp only [beq_self_eq_true, Bool.not_true, Bool.false_eq_true, if_false]
        rw [run_eqF (ks := ks) fs (o + 1) ps qs ks hr (by simpa using ha) (by simpa using hb) (by simpa using hk) (fun j x q hx hq => by have := h1 (j + 1) x q (by simpa using hx) (by simpa using hq); rwa [show o + (j + 1) = o + 1 + j by omega] at this) (fun j x q hx hq => by have := h2 (j + 1) x q (by simpa using hx) (by simpa using hq); rwa [show o + (j + 1) = o + 1 + j by omega] at this) d w]
        simp
      · have : (a == b) = false := by simpa using e
        simp [this, e]
structure IntS (P : Program) (t : TypeId) (n : Nat) : Prop where
  at_ : P.underlying t = some (.struct (P.fieldsOf t))
  held : P.stoodInHeld t = false
  guard : P.eqGuardType P.depth t = false
  fs : IntFs P (P.fieldsOf t).toList 0
  len : (P.fieldsOf t).toList.length = n
theorem intS_of {P : Program} {t : TypeId} {n : Nat} {fs : Array Field} (hu : P.underlying t = some (.struct fs)) (h1 : P.stoodInHeld t = false) (h2 : P.eqGuardType P.depth t = false) (hf : IntFs P fs.toList 0) (hl : fs.toList.length = n) : IntS P t n := by
  have e : P.fieldsOf t = fs := by simp [Program.fieldsOf, hu]
  exact ⟨by rw [e]; exact hu, h1, h2, by rw [e]; exact hf, by rw [e]; exact hl⟩
def intCells (ks : List IntKind) (ps : List Int) : List Value := (ks.zip ps).map fun p => .int p.1 p.2
theorem intCells_get {ks : List IntKind} {ps : List Int} {j : Nat} {a : Int} {k : IntKind} (h1 : ps[j]? = some a) (h2 : ks[j]? = some k) : (intCells ks ps)[j]? = some (.int k a) := by
  have : (ks.zip ps)[j]? = some (k, a) := List.getElem?_zip_eq_some.2 ⟨h2, h1⟩
  simp [intCells, this]
theorem pure_eqS {P : Program} {dst : Option Tmp} {ty : TypeId} {pos : String} {af : Array Edge} {gd : Option (Nat × Bool)} {t u : TypeId} {x y : Operand} {n : Nat} (ks : List IntKind) (ps qs : List Int) (h : IntS P t n) (hk : ks.length = n) (ha : ps.length = n) (hb : qs.length = n) :
    PureOp P ⟨dst, .binOp .eql t x y u, ty, pos, af, gd⟩ [.agg (intCells ks ps).toArray, .agg (intCells ks qs).toArray] (.bool (decide (ps = qs))) := by
  intro ρ hv w
  simp [Op.operands] at hv
  have hlen := h.len
  have := run_eqF (P := P) (ks := ks) (xs := (intCells ks ps).toArray) (ys := (intCells ks qs).toArray) (P.fieldsOf t).toList 0 ps qs ks h.fs (by omega) (by omega) (by omega) (fun j a k h1 h2 => by simpa using intCells_get h1 h2) (fun j a k h1 h2 => by simpa using intCells_get h1 h2) 9998 w
  simp only [execOp, hv.1, hv.2, Sem.run_bind, run_eqGuard_agg w _ _ _ _ _ _ h.guard, Result.andThen_ok, run_eql_struct, run_equalIn_agg w 9999 t _ _ h.at_ h.held, this, Sem.run_pure]
theorem pure_neqS2 {P : Program} {dst : Option Tmp} {ty : TypeId} {pos : String} {af : Array Edge} {gd : Option (Nat × Bool)} {t u : TypeId} {x y : Operand} {n : Nat} (ks : List IntKind) (ps qs : List Int) (h : IntS P t n) (hk : ks.length = n) (ha : ps.length = n) (hb : qs.length = n) :
    PureOp P ⟨dst, .binOp .neq t x y u, ty, pos, af, gd⟩ [.agg (intCells ks ps).toArray, .agg (intCells ks qs).toArray] (.bool (decide (¬ ps = qs))) := by
  intro ρ hv w
  simp [Op.operands] at hv
  have hlen := h.len
  have := run_eqF (P := P) (ks := ks) (xs := (intCells ks ps).toArray) (ys := (intCells ks qs).toArray) (P.fieldsOf t).toList 0 ps qs ks h.fs (by omega) (by omega) (by omega) (fun j a k h1 h2 => by simpa using intCells_get h1 h2) (fun j a k h1 h2 => by simpa using intCells_get h1 h2) 9998 w
  simp only [execOp, hv.1, hv.2, Sem.run_bind, run_eqGuard_agg w _ _ _ _ _ _ h.guard, Result.andThen_ok, run_neq_struct, run_equalIn_agg w 9999 t _ _ h.at_ h.held, this, Sem.run_pure, decide_not]
end Go.Proofs.Ytlgfinchhnbhdaa
