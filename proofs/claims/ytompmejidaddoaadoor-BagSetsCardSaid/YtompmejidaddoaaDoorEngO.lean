/- A call in a region whose order is drawn, whose arguments and chunks come up in the region. No program. -/
import Derived.Test.YtompmejidaddoaaDoorEngN
set_option linter.unusedVariables false
set_option linter.unusedSimpArgs false
namespace Go.Proofs.YtompmejidaddoaaDoor
open Go Go.RowKit
open Classical in
noncomputable def Spec.ctE (R W : List Nat) (cv : Value) {Y : Type} (yof : List Value → List Chunk → Y) (args : Y → List Value) (rc wc : Y → List Chunk) {X : Type} (x0 : X) (val : Y → X → Value) (wn : Y → X → List Chunk) : Spec :=
  ⟨R, W, X, x0, fun x vs cs => if vs = cv :: args (yof vs cs) ∧ cs = rc (yof vs cs) ++ wc (yof vs cs) then some (val (yof vs cs) x, wn (yof vs cs) x) else none⟩
theorem sound_ctE {P : Program} {o : Oper} {R W : List Nat} {F : FuncId} {fn : Func} {f : Operand} {as : Array Operand} {ts : Array TypeId} {Y : Type} {yof : List Value → List Chunk → Y} {args : Y → List Value} {rc wc : Y → List Chunk} {X : Type} {x0 : X} {val : Y → X → Value} {wn : Y → X → List Chunk}
    (ho : o.op = .call ⟨.value f, as, ts⟩) (hf : FnIs P F fn) (hn : (R ++ W).Nodup) (hrl : ∀ y, (rc y).length = R.length) (hwl : ∀ y x, (wn y x).length = W.length) (hct : ∀ y, Ct P F (args y) (rc y) (wc y) (val y) (wn y)) : Sound P o (Spec.ctE R W (.func (.func F) #[] #[]) yof args rc wc x0 val wn) := by
  intro a w L K Q hs hp hk
  have h := sound_ct (P := P) (o := o) (R := R) (W := W) (fi := #[]) (ca := #[]) (x0 := x0) ho hf hn (hrl (yof (Oper.vals o a) (sel L (R ++ W)))) (hwl (yof (Oper.vals o a) (sel L (R ++ W)))) (by simpa using hct (yof (Oper.vals o a) (sel L (R ++ W))))
  exact h a w L K Q hs hp hk
theorem s_ctE {P : Program} {n : Nat} {env : Env} {L : List Chunk} {o : Oper} {K : Env → List Chunk → Prop} {R W : List Nat} {F : FuncId} {fn : Func} {f : Operand} {as : Array Operand} {ts : Array TypeId} {Y : Type} {yof : List Value → List Chunk → Y} {args : Y → List Value} {rc wc : Y → List Chunk} {X : Type} {x0 : X} {val : Y → X → Value} {wn : Y → X → List Chunk} {dd : Nat} {vs : List Value} {L' : X → List Chunk} (y : Y)
    (hct : ∀ y, Ct P F (args y) (rc y) (wc y) (val y) (wn y)) (hf : FnIs P F fn) (ho : o.op = .call ⟨.value f, as, ts⟩) (hfv : evE env f = some (.func (.func F) #[] #[])) (hvs : evL env as.toList = some vs) (hy : yof (.func (.func F) #[] #[] :: vs) (sel L (R ++ W)) = y) (hva : vs = args y) (hcs : sel L (R ++ W) = rc y ++ wc y) (hn : (R ++ W).Nodup) (hrl : ∀ y, (rc y).length = R.length) (hwl : ∀ y x, (wn y x).length = W.length) (hd : o.dst = some dd) (hnn : Nat.blt dd n = true) [hL : ∀ x, UpdK L W (wn y x) (L' x)]
    (k : ∀ x, K ((dd, val y x) :: env) (L' x)) : StepOk P o (Spec.ctE R W (.func (.func F) #[] #[]) yof args rc wc x0 val wn) n env L K := by
  refine ⟨.func (.func F) #[] #[] :: vs, by simp [ho, Op.operands, Call.operands, evL, hfv, hvs], by rw [hd]; exact hnn, sound_ctE ho hf hn hrl hwl hct, fun x => ⟨val y x, wn y x, ?_, ?_⟩⟩
  · simp only [Spec.ctE]
    rw [hy, if_pos ⟨congrArg (List.cons _) hva, hcs⟩]
  · rw [hd]; simp only [Spec.ctE, putE]; rw [(hL x).eq]; exact k x
theorem pure_eqlBD {P : Program} {dst : Option Tmp} {ty : TypeId} {pos : String} {af : Array Edge} {gd : Option (Nat × Bool)} {t u : TypeId} {x y : Operand} {a b : Bool} (hu : P.underlying t = some .bool) : PureOp P ⟨dst, .binOp .eql t x y u, ty, pos, af, gd⟩ [.bool a, .bool b] (.bool (decide (a = b))) :=
  pure_to (pure_eqlB hu) (by cases a <;> cases b <;> rfl)
theorem pure_neqBD {P : Program} {dst : Option Tmp} {ty : TypeId} {pos : String} {af : Array Edge} {gd : Option (Nat × Bool)} {t u : TypeId} {x y : Operand} {a b : Bool} (hu : P.underlying t = some .bool) : PureOp P ⟨dst, .binOp .neq t x y u, ty, pos, af, gd⟩ [.bool a, .bool b] (.bool (decide (a ≠ b))) :=
  pure_to (pure_neqB hu) (by cases a <;> cases b <;> rfl)
end Go.Proofs.YtompmejidaddoaaDoor
