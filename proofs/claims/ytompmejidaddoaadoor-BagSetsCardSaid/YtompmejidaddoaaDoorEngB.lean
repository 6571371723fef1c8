/- The engine's operations that only compute: what each gives, whatever the world. No program. -/
import Derived.Test.YtompmejidaddoaaDoorEngA
import Derived.Laws.Entries
set_option linter.unusedVariables false
set_option linter.unusedSimpArgs false
namespace Go.Proofs.YtompmejidaddoaaDoor
open Go Go.RowKit

abbrev Env := List (Nat × Value)
def lk (t : Nat) : Env → Option Value
  | [] => none
  | (s, v) :: e => bif Nat.beq s t then some v else lk t e
def evE (env : Env) : Operand → Option Value
  | .tmp t => lk t env
  | .const v => some v
  | .global g => some (.pointer (some ⟨g, 0, none⟩))
  | .func f => some (.func (.func f) #[] #[])
def evL (env : Env) : List Operand → Option (List Value)
  | [] => some []
  | x :: l => match evE env x, evL env l with
    | some v, some vs => some (v :: vs)
    | _, _ => none
/-- What is known of the slots. -/
structure AE (n : Nat) (env : Env) (a : Act) : Prop where
  size : a.tmps.size = n
  defers : a.defers = []
  env : ∀ t v, lk t env = some v → a.tmps[t]? = some v
theorem AE.eval {n : Nat} {env : Env} {a : Act} (h : AE n env a) {x : Operand} {v : Value} (hx : evE env x = some v) : a.eval x = v := by
  cases x with
  | tmp t => simp only [Act.eval]; rw [Array.getD_eq_getD_getElem?, h.env t v hx]; rfl
  | const c => exact Option.some.inj hx
  | global g => exact Option.some.inj hx
  | func f => exact Option.some.inj hx
theorem AE.evals {n : Nat} {env : Env} {a : Act} (h : AE n env a) : ∀ {xs : List Operand} {vs : List Value}, evL env xs = some vs → xs.map a.eval = vs
  | [], vs, hx => by simp [evL] at hx; subst hx; rfl
  | x :: l, vs, hx => by
    unfold evL at hx
    cases h1 : evE env x with
    | none => simp [h1] at hx
    | some v =>
      cases h2 : evL env l with
      | none => simp [h1, h2] at hx
      | some us =>
        simp [h1, h2] at hx
        subst hx
        simp [h.eval h1, h.evals h2]
def putE (d : Option Nat) (v : Value) (env : Env) : Env := match d with
  | some d => (d, v) :: env
  | none => env
def dstOk (d : Option Nat) (n : Nat) : Bool := match d with
  | some d => Nat.blt d n
  | none => true
theorem AE.put {n : Nat} {env : Env} {a : Act} (h : AE n env a) (d : Option Nat) (v : Value) (hd : dstOk d n = true) : AE n (putE d v env) (a.put d v) := by
  cases d with
  | none => exact h
  | some d =>
    have hd : d < n := by simpa [dstOk, Nat.blt_eq] using hd
    refine ⟨by simp [Act.put, h.size], h.defers, fun t u hu => ?_⟩
    simp only [putE, lk] at hu
    by_cases e : d = t
    · subst e
      simp at hu
      subst hu
      simp [Act.put, h.size, hd]
    · have : Nat.beq d t = false := by rw [← Bool.not_eq_true, Nat.beq_eq]; exact e
      simp [this] at hu
      simp [Act.put, Array.getElem?_setIfInBounds_ne e]
      exact h.env t u hu
theorem AE.sub {n : Nat} {env env' : Env} {a : Act} (h : AE n env a) (hs : ∀ t v, lk t env' = some v → lk t env = some v) : AE n env' a := ⟨h.size, h.defers, fun t v hv => h.env t v (hs t v hv)⟩

/-- What an operation gives, whatever the world. -/
def PureOp (P : Program) (o : Oper) (vs : List Value) (v : Value) : Prop :=
  ∀ ρ : Operand → Value, o.op.operands.toList.map ρ = vs → ∀ w, (execOp ρ o).run P w = .ok (.value v) w

section
variable {P : Program} {dst : Option Tmp} {ty : TypeId} {pos : String} {af : Array Edge} {gd : Option (Nat × Bool)}

theorem pure_move {x : Operand} {v : Value} : PureOp P ⟨dst, .move x, ty, pos, af, gd⟩ [v] v := by
  intro ρ h w; simp [Op.operands] at h; simp [execOp, h]
theorem pure_assign {x : Operand} {v : Value} : PureOp P ⟨dst, .assign x, ty, pos, af, gd⟩ [v] v := by
  intro ρ h w; simp [Op.operands] at h; simp [execOp, h]
theorem pure_pickT {c x y : Operand} {a b : Value} : PureOp P ⟨dst, .pick c x y, ty, pos, af, gd⟩ [.bool true, a, b] a := by
  intro ρ h w; simp [Op.operands] at h; simp [execOp, h, asBool]
theorem pure_pickF {c x y : Operand} {a b : Value} : PureOp P ⟨dst, .pick c x y, ty, pos, af, gd⟩ [.bool false, a, b] b := by
  intro ρ h w; simp [Op.operands] at h; simp [execOp, h, asBool]
theorem pure_pickB {c x y : Operand} {t a b : Bool} : PureOp P ⟨dst, .pick c x y, ty, pos, af, gd⟩ [.bool t, .bool a, .bool b] (.bool (bif t then a else b)) := by
  intro ρ h w; simp [Op.operands] at h; cases t <;> simp [execOp, h, asBool]
theorem pure_nil {x : Operand} {a : Addr} : PureOp P ⟨dst, .nilCheck x, ty, pos, af, gd⟩ [.pointer (some a)] (.pointer (some a)) := by
  intro ρ h w; simp [Op.operands] at h; simp [execOp, h]

theorem run_binInt {op : BinOp} {t u : TypeId} {x y : Operand} {k : IntKind} {m n : Int} {r : Value} (h : ∀ w, (binOp op t (.int k m) (.int k n)).run P w = .ok r w) : PureOp P ⟨dst, .binOp op t x y u, ty, pos, af, gd⟩ [.int k m, .int k n] r := by
  intro ρ hv w
  simp [Op.operands] at hv
  have e : (eqGuard op t x y (.int k m) (.int k n)).run P w = .ok () w := by unfold eqGuard; cases op <;> rfl
  simp [execOp, hv, e, h]
theorem pure_add {t u : TypeId} {x y : Operand} {k : IntKind} {m n : Int} : PureOp P ⟨dst, .binOp .add t x y u, ty, pos, af, gd⟩ [.int k m, .int k n] (.int k (k.wrap (m + n))) :=
  run_binInt fun w => by simp [binOp, Op.intArith]
theorem pure_sub {t u : TypeId} {x y : Operand} {k : IntKind} {m n : Int} : PureOp P ⟨dst, .binOp .sub t x y u, ty, pos, af, gd⟩ [.int k m, .int k n] (.int k (k.wrap (m - n))) :=
  run_binInt fun w => by simp [binOp, Op.intArith]
theorem pure_mul {t u : TypeId} {x y : Operand} {k : IntKind} {m n : Int} : PureOp P ⟨dst, .binOp .mul t x y u, ty, pos, af, gd⟩ [.int k m, .int k n] (.int k (k.wrap (m * n))) :=
  run_binInt fun w => by simp [binOp, Op.intArith]
/-- The same where nothing wraps. -/
theorem pure_to {o : Oper} {vs : List Value} {v v' : Value} (h : PureOp P o vs v) (e : v = v') : PureOp P o vs v' := e ▸ h
theorem pure_addN {t u : TypeId} {x y : Operand} {k : IntKind} {m n r : Int} (h : k.wrap (m + n) = r) : PureOp P ⟨dst, .binOp .add t x y u, ty, pos, af, gd⟩ [.int k m, .int k n] (.int k r) := pure_to pure_add (by rw [h])
theorem pure_subN {t u : TypeId} {x y : Operand} {k : IntKind} {m n r : Int} (h : k.wrap (m - n) = r) : PureOp P ⟨dst, .binOp .sub t x y u, ty, pos, af, gd⟩ [.int k m, .int k n] (.int k r) := pure_to pure_sub (by rw [h])
theorem pure_mulN {t u : TypeId} {x y : Operand} {k : IntKind} {m n r : Int} (h : k.wrap (m * n) = r) : PureOp P ⟨dst, .binOp .mul t x y u, ty, pos, af, gd⟩ [.int k m, .int k n] (.int k r) := pure_to pure_mul (by rw [h])
theorem pure_quo {t u : TypeId} {x y : Operand} {k : IntKind} {m n : Int} (h : n ≠ 0) : PureOp P ⟨dst, .binOp .quo t x y u, ty, pos, af, gd⟩ [.int k m, .int k n] (.int k (k.wrap (m.tdiv n))) :=
  run_binInt fun w => by simp [binOp, Op.intDiv, h]
theorem pure_rem {t u : TypeId} {x y : Operand} {k : IntKind} {m n : Int} (h : n ≠ 0) : PureOp P ⟨dst, .binOp .rem t x y u, ty, pos, af, gd⟩ [.int k m, .int k n] (.int k (m.tmod n)) :=
  run_binInt fun w => by simp [binOp, Op.intDiv, h]
theorem pure_quoN {t u : TypeId} {x y : Operand} {k : IntKind} {m n r : Int} (h : n ≠ 0) (e : k.wrap (m.tdiv n) = r) : PureOp P ⟨dst, .binOp .quo t x y u, ty, pos, af, gd⟩ [.int k m, .int k n] (.int k r) := pure_to (pure_quo h) (by rw [e])
theorem pure_remN {t u : TypeId} {x y : Operand} {k : IntKind} {m n r : Int} (h : n ≠ 0) (e : m.tmod n = r) : PureOp P ⟨dst, .binOp .rem t x y u, ty, pos, af, gd⟩ [.int k m, .int k n] (.int k r) := pure_to (pure_rem h) (by rw [e])
theorem pure_eql {t u : TypeId} {x y : Operand} {k : IntKind} {m n : Int} : PureOp P ⟨dst, .binOp .eql t x y u, ty, pos, af, gd⟩ [.int k m, .int k n] (.bool (decide (m = n))) :=
  run_binInt fun w => by simp [binOp, Op.intCmp]; rfl
theorem pure_neq {t u : TypeId} {x y : Operand} {k : IntKind} {m n : Int} : PureOp P ⟨dst, .binOp .neq t x y u, ty, pos, af, gd⟩ [.int k m, .int k n] (.bool (decide (m ≠ n))) :=
  run_binInt fun w => by simp [binOp, Op.intCmp, bne]; rfl
theorem pure_lss {t u : TypeId} {x y : Operand} {k : IntKind} {m n : Int} : PureOp P ⟨dst, .binOp .lss t x y u, ty, pos, af, gd⟩ [.int k m, .int k n] (.bool (decide (m < n))) :=
  run_binInt fun w => by simp [binOp, Op.intCmp]
theorem pure_leq {t u : TypeId} {x y : Operand} {k : IntKind} {m n : Int} : PureOp P ⟨dst, .binOp .leq t x y u, ty, pos, af, gd⟩ [.int k m, .int k n] (.bool (decide (m ≤ n))) :=
  run_binInt fun w => by simp [binOp, Op.intCmp]
theorem pure_gtr {t u : TypeId} {x y : Operand} {k : IntKind} {m n : Int} : PureOp P ⟨dst, .binOp .gtr t x y u, ty, pos, af, gd⟩ [.int k m, .int k n] (.bool (decide (m > n))) :=
  run_binInt fun w => by simp [binOp, Op.intCmp]
theorem pure_geq {t u : TypeId} {x y : Operand} {k : IntKind} {m n : Int} : PureOp P ⟨dst, .binOp .geq t x y u, ty, pos, af, gd⟩ [.int k m, .int k n] (.bool (decide (m ≥ n))) :=
  run_binInt fun w => by simp [binOp, Op.intCmp]
def bitsV (op : BinOp) (k : IntKind) (m n : Int) : Int :=
  let a := BitVec.ofInt k.bits m
  let b := BitVec.ofInt k.bits n
  k.wrap ((match op with | .and => a &&& b | .or => a ||| b | .xor => a ^^^ b | _ => a &&& ~~~b).toNat : Int)
theorem pure_bits {op : BinOp} {t u : TypeId} {x y : Operand} {k : IntKind} {m n : Int} (h : (match op with | .and | .or | .xor | .andNot => true | _ => false) = true) : PureOp P ⟨dst, .binOp op t x y u, ty, pos, af, gd⟩ [.int k m, .int k n] (.int k (bitsV op k m n)) :=
  run_binInt fun w => by cases op <;> first | (cases h; done) | (simp [binOp, Op.intBits, bitsV])
theorem pure_bitsN {op : BinOp} {t u : TypeId} {x y : Operand} {k : IntKind} {m n r : Int} (h : (match op with | .and | .or | .xor | .andNot => true | _ => false) = true) (e : bitsV op k m n = r) : PureOp P ⟨dst, .binOp op t x y u, ty, pos, af, gd⟩ [.int k m, .int k n] (.int k r) := pure_to (pure_bits h) (by rw [e])
theorem pure_shl {t u : TypeId} {x y : Operand} {k j : IntKind} {m n : Int} (h : 0 ≤ n) : PureOp P ⟨dst, .binOp .shl t x y u, ty, pos, af, gd⟩ [.int k m, .int j n] (.int k (k.wrap (m * 2 ^ (min n.toNat k.bits)))) := by
  intro ρ hv w
  simp [Op.operands] at hv
  have e : (eqGuard .shl t x y (.int k m) (.int j n)).run P w = .ok () w := rfl
  have hn : ¬ n < 0 := by omega
  simp [execOp, hv, e, binOp, Op.shift, hn]
theorem pure_shr {t u : TypeId} {x y : Operand} {k j : IntKind} {m n : Int} (h : 0 ≤ n) : PureOp P ⟨dst, .binOp .shr t x y u, ty, pos, af, gd⟩ [.int k m, .int j n] (.int k (m.fdiv (2 ^ (min n.toNat k.bits)))) := by
  intro ρ hv w
  simp [Op.operands] at hv
  have e : (eqGuard .shr t x y (.int k m) (.int j n)).run P w = .ok () w := rfl
  have hn : ¬ n < 0 := by omega
  simp [execOp, hv, e, binOp, Op.shift, hn]
theorem pure_shlN {t u : TypeId} {x y : Operand} {k j : IntKind} {m n r : Int} (h : 0 ≤ n) (e : k.wrap (m * 2 ^ (min n.toNat k.bits)) = r) : PureOp P ⟨dst, .binOp .shl t x y u, ty, pos, af, gd⟩ [.int k m, .int j n] (.int k r) := pure_to (pure_shl h) (by rw [e])
theorem pure_shrN {t u : TypeId} {x y : Operand} {k j : IntKind} {m n r : Int} (h : 0 ≤ n) (e : m.fdiv (2 ^ (min n.toNat k.bits)) = r) : PureOp P ⟨dst, .binOp .shr t x y u, ty, pos, af, gd⟩ [.int k m, .int j n] (.int k r) := pure_to (pure_shr h) (by rw [e])
theorem run_binStr {op : BinOp} {t u : TypeId} {x y : Operand} {m n : ByteArray} {r : Value} (h : ∀ w, (Op.stringOp op m n).run P w = .ok r w) : PureOp P ⟨dst, .binOp op t x y u, ty, pos, af, gd⟩ [.string m, .string n] r := by
  intro ρ hv w
  simp [Op.operands] at hv
  have e : (eqGuard op t x y (.string m) (.string n)).run P w = .ok () w := by unfold eqGuard; cases op <;> rfl
  have e2 : binOp op t (.string m) (.string n) = Op.stringOp op m n := by cases op <;> rfl
  simp [execOp, hv, e, e2, h]
theorem str_beq (m n : ByteArray) : (m.toList == n.toList) = decide (m = n) := by
  rw [Bool.eq_iff_iff]
  simp only [beq_iff_eq, decide_eq_true_eq]
  exact ⟨fun h => by
    rw [ByteArray.toList_eq, ByteArray.toList_eq] at h
    cases m; cases n; congr; exact Array.toList_inj.1 h, fun h => h ▸ rfl⟩
theorem pure_eqlS {t u : TypeId} {x y : Operand} {m n : ByteArray} : PureOp P ⟨dst, .binOp .eql t x y u, ty, pos, af, gd⟩ [.string m, .string n] (.bool (decide (m = n))) :=
  run_binStr fun w => by simp only [Op.stringOp, str_beq]; rfl
theorem pure_neqS {t u : TypeId} {x y : Operand} {m n : ByteArray} : PureOp P ⟨dst, .binOp .neq t x y u, ty, pos, af, gd⟩ [.string m, .string n] (.bool (decide (m ≠ n))) :=
  run_binStr fun w => by simp only [Op.stringOp, str_beq, ne_eq, decide_not]; rfl
def sless (m n : ByteArray) : Bool := Op.bytesLess m.toList n.toList
theorem pure_lssS {t u : TypeId} {x y : Operand} {m n : ByteArray} : PureOp P ⟨dst, .binOp .lss t x y u, ty, pos, af, gd⟩ [.string m, .string n] (.bool (sless m n)) :=
  run_binStr fun w => rfl
theorem pure_geqS {t u : TypeId} {x y : Operand} {m n : ByteArray} : PureOp P ⟨dst, .binOp .geq t x y u, ty, pos, af, gd⟩ [.string m, .string n] (.bool (!sless m n)) :=
  run_binStr fun w => rfl
theorem run_equal_bool {t : TypeId} (hu : P.underlying t = some .bool) (a b : Bool) (w : World) : (Op.equal t (.bool a) (.bool b)).run P w = .ok (a == b) w := by
  unfold Op.equal Op.maxDepth
  rw [Op.equalIn]
  simp [run_underlying hu]
theorem pure_eqlB {t u : TypeId} {x y : Operand} {a b : Bool} (hu : P.underlying t = some .bool) : PureOp P ⟨dst, .binOp .eql t x y u, ty, pos, af, gd⟩ [.bool a, .bool b] (.bool (a == b)) := by
  intro ρ hv w
  simp [Op.operands] at hv
  have e : (eqGuard .eql t x y (.bool a) (.bool b)).run P w = .ok () w := rfl
  simp [execOp, hv, e, binOp, run_equal_bool hu]
theorem pure_neqB {t u : TypeId} {x y : Operand} {a b : Bool} (hu : P.underlying t = some .bool) : PureOp P ⟨dst, .binOp .neq t x y u, ty, pos, af, gd⟩ [.bool a, .bool b] (.bool (!(a == b))) := by
  intro ρ hv w
  simp [Op.operands] at hv
  have e : (eqGuard .neq t x y (.bool a) (.bool b)).run P w = .ok () w := rfl
  simp [execOp, hv, e, binOp, run_equal_bool hu]
theorem pure_not {t : TypeId} {x : Operand} {b : Bool} : PureOp P ⟨dst, .unOp .not t x, ty, pos, af, gd⟩ [.bool b] (.bool (!b)) := by
  intro ρ hv w; simp [Op.operands] at hv; simp [execOp, hv, Op.unary]
theorem pure_neg {t : TypeId} {x : Operand} {k : IntKind} {m : Int} : PureOp P ⟨dst, .unOp .neg t x, ty, pos, af, gd⟩ [.int k m] (.int k (k.wrap (-m))) := by
  intro ρ hv w; simp [Op.operands] at hv; simp [execOp, hv, Op.unary, Op.intArith]
theorem pure_conv {s d : TypeId} {x : Operand} {j k : IntKind} {m : Int} (hs : P.underlying s = some (.int j)) (hd : P.underlying d = some (.int k)) : PureOp P ⟨dst, .convert s d x, ty, pos, af, gd⟩ [.int j m] (.int k (k.wrap m)) := by
  intro ρ hv w; simp [Op.operands] at hv; simp [execOp, hv, convert, run_underlying hs, run_underlying hd, Conv.intToInt]
theorem pure_convN {s d : TypeId} {x : Operand} {j k : IntKind} {m r : Int} (hs : P.underlying s = some (.int j)) (hd : P.underlying d = some (.int k)) (e : k.wrap m = r) : PureOp P ⟨dst, .convert s d x, ty, pos, af, gd⟩ [.int j m] (.int k r) := pure_to (pure_conv hs hd) (by rw [e])
theorem pure_len {x : Operand} {t e : TypeId} {A : Option Addr} {n c : Nat} (hu : P.underlying t = some (.slice e)) : PureOp P ⟨dst, .call ⟨.builtin .len, #[x], #[t]⟩, ty, pos, af, gd⟩ [.slice A n c] (.int .i64 n) := by
  intro ρ hv w; simp [Op.operands, Call.operands] at hv; simp [execOp, resolve, invoke, builtin, hv, Builtin.len_, run_underlying hu, goInt]
theorem pure_cap {x : Operand} {t e : TypeId} {A : Option Addr} {n c : Nat} (hu : P.underlying t = some (.slice e)) : PureOp P ⟨dst, .call ⟨.builtin .cap, #[x], #[t]⟩, ty, pos, af, gd⟩ [.slice A n c] (.int .i64 c) := by
  intro ρ hv w; simp [Op.operands, Call.operands] at hv; simp [execOp, resolve, invoke, builtin, hv, Builtin.cap_, run_underlying hu, goInt]
theorem pure_lenS {x : Operand} {t : TypeId} {s : ByteArray} (hu : P.underlying t = some .string) : PureOp P ⟨dst, .call ⟨.builtin .len, #[x], #[t]⟩, ty, pos, af, gd⟩ [.string s] (.int .i64 s.size) := by
  intro ρ hv w; simp [Op.operands, Call.operands] at hv; simp [execOp, resolve, invoke, builtin, hv, Builtin.len_, run_underlying hu, goInt]
theorem pure_min {x y : Operand} {t u : TypeId} {k : IntKind} {m n : Int} : PureOp P ⟨dst, .call ⟨.builtin .min, #[x, y], #[t, u]⟩, ty, pos, af, gd⟩ [.int k m, .int k n] (.int k (min m n)) := by
  intro ρ hv w; simp [Op.operands, Call.operands] at hv; simp [execOp, resolve, invoke, builtin, hv, Builtin.min_, Builtin.min2]; omega
theorem pure_max {x y : Operand} {t u : TypeId} {k : IntKind} {m n : Int} : PureOp P ⟨dst, .call ⟨.builtin .max, #[x, y], #[t, u]⟩, ty, pos, af, gd⟩ [.int k m, .int k n] (.int k (max m n)) := by
  intro ρ hv w; simp [Op.operands, Call.operands] at hv; simp [execOp, resolve, invoke, builtin, hv, Builtin.max_, Builtin.max2]; omega
theorem pure_extract {x : Operand} {i : Nat} {vs : Array Value} {v : Value} (h : vs[i]? = some v) : PureOp P ⟨dst, .extract x i, ty, pos, af, gd⟩ [.tuple vs] v := by
  intro ρ hv w; simp [Op.operands] at hv; simp [execOp, hv, Instr.extract, h]
end
end Go.Proofs.YtompmejidaddoaaDoor
