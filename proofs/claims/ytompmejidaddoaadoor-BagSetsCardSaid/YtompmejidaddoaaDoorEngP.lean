/- A pick whose guard is known. No program. -/
import Derived.Test.YtompmejidaddoaaDoorEngO
set_option linter.unusedVariables false
set_option linter.unusedSimpArgs false
namespace Go.Proofs.YtompmejidaddoaaDoor
open Go Go.RowKit
section
variable {P : Program} {ops : Array Oper} {n m i : Nat} {env : Env} {L : List Chunk} {S : Nat → Spec} {F : Act → List Chunk → Prop} {Q : Exit → Act → World → Prop} {w0 : World}
variable {d dp : Nat} {x y : Operand} {v : Value} {ty : TypeId} {pos : String} {af : Array Edge} {gd : Option (Nat × Bool)} {op : Oper}
theorem RG_pickT (hp : nthO ops.toList i = some op) (ho : op = ⟨some dp, .pick (.tmp d) x y, ty, pos, af, gd⟩) (hS : S i = Spec.pure P op) (hm : Nat.blt i m = true) (hw : ∀ a, AE n env a → Region.wanted op (yielded ops a.tmps) = true) (hb : lk d env = some (.bool true)) (hdn : Nat.blt dp n = true) (hv : evE env x = some v) (h : RG P ops S F n m (i + 1) ((dp, v) :: env) L) : RG P ops S F n m i env L := by
  subst ho
  exact RG_pick hp hS hm hw hb hdn (fun a ha => ha.eval hv) h
theorem RG_pickF (hp : nthO ops.toList i = some op) (ho : op = ⟨some dp, .pick (.tmp d) x y, ty, pos, af, gd⟩) (hS : S i = Spec.pure P op) (hm : Nat.blt i m = true) (hw : ∀ a, AE n env a → Region.wanted op (yielded ops a.tmps) = true) (hb : lk d env = some (.bool false)) (hdn : Nat.blt dp n = true) (hv : evE env y = some v) (h : RG P ops S F n m (i + 1) ((dp, v) :: env) L) : RG P ops S F n m i env L := by
  subst ho
  exact RG_pick hp hS hm hw hb hdn (fun a ha => by simpa using ha.eval hv) h
theorem RN_pickT (hp : nthO ops.toList i = some op) (ho : op = ⟨some dp, .pick (.tmp d) x y, ty, pos, af, gd⟩) (hm : Nat.blt i m = true) (hw : ∀ a, AE n env a → Region.wanted op (yielded ops a.tmps) = true) (hb : lk d env = some (.bool true)) (hdn : Nat.blt dp n = true) (hv : evE env x = some v) (h : RN P ops Q n w0 m (i + 1) ((dp, v) :: env) L) : RN P ops Q n w0 m i env L := by
  subst ho
  exact RN_pick hp hm hw hb hdn (fun a ha => ha.eval hv) h
theorem RN_pickF (hp : nthO ops.toList i = some op) (ho : op = ⟨some dp, .pick (.tmp d) x y, ty, pos, af, gd⟩) (hm : Nat.blt i m = true) (hw : ∀ a, AE n env a → Region.wanted op (yielded ops a.tmps) = true) (hb : lk d env = some (.bool false)) (hdn : Nat.blt dp n = true) (hv : evE env y = some v) (h : RN P ops Q n w0 m (i + 1) ((dp, v) :: env) L) : RN P ops Q n w0 m i env L := by
  subst ho
  exact RN_pick hp hm hw hb hdn (fun a ha => by simpa using ha.eval hv) h
end
end Go.Proofs.YtompmejidaddoaaDoor
