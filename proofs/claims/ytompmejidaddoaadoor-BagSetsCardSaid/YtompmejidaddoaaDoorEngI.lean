/- The engine as the printed walks use it: lists in normal form, conditions joined, whole numbers that don't wrap. No program. -/
import Derived.Test.YtompmejidaddoaaDoorEngH
set_option linter.unusedVariables false
set_option linter.unusedSimpArgs false
namespace Go.Proofs.YtompmejidaddoaaDoor
open Go Go.RowKit

/-! ### Lists of chunks in normal form -/
class SetK (L : List Chunk) (j : Nat) (c : Chunk) (L' : outParam (List Chunk)) : Prop where
  eq : L.set j c = L'
instance setK_zero (u c : Chunk) (L : List Chunk) : SetK (u :: L) 0 c (c :: L) := ⟨rfl⟩
instance setK_succ (u c : Chunk) (L L' : List Chunk) (j : Nat) [h : SetK L j c L'] : SetK (u :: L) (j + 1) c (u :: L') := ⟨by simp [h.eq]⟩
class UpdK (L : List Chunk) (ks : List Nat) (cs : List Chunk) (L' : outParam (List Chunk)) : Prop where
  eq : upd L ks cs = L'
instance updK_nil (L : List Chunk) : UpdK L [] [] L := ⟨rfl⟩
instance updK_cons (L L' L'' : List Chunk) (k : Nat) (ks : List Nat) (c : Chunk) (cs : List Chunk) [h : SetK L k c L'] [g : UpdK L' ks cs L''] : UpdK L (k :: ks) (c :: cs) L'' := ⟨by simp only [upd]; rw [h.eq, g.eq]⟩
/-- Place by place the same, or nothing. -/
inductive EntP : List Chunk → List Chunk → Prop
  | nil : EntP [] []
  | same {c : Chunk} {L L' : List Chunk} (h : EntP L L') : EntP (c :: L) (c :: L')
  | drop {c : Chunk} {L L' : List Chunk} (h : EntP L L') : EntP (c :: L) (.emp :: L')
  | row {g e s n : Nat} {cs : List Value} {L L' : List Chunk} (hn : cs.length = n * s) (hm : n ≤ maxLen) (h : EntP L L') : EntP (.blk g (.cells cs.toArray e (0, 0)) :: L) (.row e s (.slice (some ⟨g, 0, none⟩) n n) n cs :: L')
  | nilRow {c : Chunk} {e s : Nat} {L L' : List Chunk} (h : EntP L L') : EntP (c :: L) (.row e s (.slice none 0 0) 0 [] :: L')
  | as {c c' : Chunk} {L L' : List Chunk} (hc : ∀ l, Ent (c.toHP :: l) (c'.toHP :: l)) (h : EntP L L') : EntP (c :: L) (c' :: L')
theorem EntP.ent {L L' : List Chunk} (h : EntP L L') : Ent (hps L) (hps L') := by
  induction h with
  | nil => exact Ent.refl _
  | same h ih => exact ih.cons _
  | drop h ih => exact Ent.trans Ent.drop (ih.trans Ent.emp)
  | row hn hm h ih => exact (ent_row hn hm).trans (ih.cons _)
  | nilRow h ih => exact Ent.trans Ent.drop (ih.trans ent_nil)
  | as hc h ih => exact (hc _).trans (ih.cons _)
theorem EntP.refl : ∀ L : List Chunk, EntP L L
  | [] => .nil
  | _ :: L => .same (EntP.refl L)

section
variable {P : Program} {Q : Exit → Act → World → Prop} {n : Nat} {w0 : World} {env : Env} {L : List Chunk} {c : Code} {ops : Array Oper} {m i : Nat} {o : Oper} {S : Nat → Spec} {F : Act → List Chunk → Prop} {K : Env → List Chunk → Prop}
theorem WQ_keep {x : Exit} (env' : Env) (he : AllIn env env') (h : WQ Q x n w0 env' L) : WQ Q x n w0 env L := fun a w hs => h a w ⟨hs.ae.sub he.sub, hs.sat, hs.ext⟩
theorem WQ_as {x : Exit} (env' : Env) (L' : List Chunk) (he : AllIn env env') (hl : EntP L L') (h : WQ Q x n w0 env' L') : WQ Q x n w0 env L := fun a w hs => h a w ⟨hs.ae.sub he.sub, hl.ent.sat hs.sat, hs.ext⟩
theorem W_as (env' : Env) (L' : List Chunk) (he : AllIn env env') (hl : EntP L L') (h : W P c Q n w0 env' L') : W P c Q n w0 env L := fun a w hs => h a w ⟨hs.ae.sub he.sub, hl.ent.sat hs.sat, hs.ext⟩
/-- What holds in each world of these chunks may be used. -/
theorem W_know {p : Prop} (hp : ∀ w, SatC w L → Ext w0 w → p) (h : p → W P c Q n w0 env L) : W P c Q n w0 env L := fun a w hs => h (hp w hs.sat hs.ext) a w hs
theorem WQ_know {x : Exit} {p : Prop} (hp : ∀ w, SatC w L → Ext w0 w → p) (h : p → WQ Q x n w0 env L) : WQ Q x n w0 env L := fun a w hs => h (hp w hs.sat hs.ext) a w hs
theorem RN_know {p : Prop} (hp : ∀ w, SatC w L → Ext w0 w → p) (h : p → RN P ops Q n w0 m i env L) : RN P ops Q n w0 m i env L := fun a w hs => h (hp w hs.sat hs.ext) a w hs
/-- The chunks said anew. -/
theorem W_sat {L' : List Chunk} (hp : ∀ w, SatC w L → Ext w0 w → SatC w L') (h : W P c Q n w0 env L') : W P c Q n w0 env L := fun a w hs => h a w ⟨hs.ae, hp w hs.sat hs.ext, hs.ext⟩
theorem WQ_sat {x : Exit} {L' : List Chunk} (hp : ∀ w, SatC w L → Ext w0 w → SatC w L') (h : WQ Q x n w0 env L') : WQ Q x n w0 env L := fun a w hs => h a w ⟨hs.ae, hp w hs.sat hs.ext, hs.ext⟩
theorem WQ_ex {x : Exit} {α : Type} {L' : α → List Chunk} (hp : ∀ w, SatC w L → Ext w0 w → ∃ y, SatC w (L' y)) (h : ∀ y, WQ Q x n w0 env (L' y)) : WQ Q x n w0 env L := fun a w hs => let ⟨y, hy⟩ := hp w hs.sat hs.ext; h y a w ⟨hs.ae, hy, hs.ext⟩
theorem W_ex {α : Type} {L' : α → List Chunk} (hp : ∀ w, SatC w L → Ext w0 w → ∃ y, SatC w (L' y)) (h : ∀ y, W P c Q n w0 env (L' y)) : W P c Q n w0 env L := fun a w hs => let ⟨y, hy⟩ := hp w hs.sat hs.ext; h y a w ⟨hs.ae, hy, hs.ext⟩

/-! ### Steps, their lists in normal form -/
theorem s_al {vs : List Value} {obj : Obj} {vf : Nat → Value} {d : Nat} {L' : Nat → List Chunk} (j : Nat) (h : AllocOp P o vs (obj, vf)) (hvs : evL env o.op.operands.toList = some vs) (hd : o.dst = some d) (hn : Nat.blt d n = true) [hL : ∀ g, SetK L j (.blk g obj) (L' g)]
    (k : ∀ g, K ((d, vf g) :: env) (L' g)) : StepOk P o (Spec.al P o j) n env L K := st_al j h hvs hd hn fun g => by rw [(hL g).eq]; exact k g
theorem s_st {t : TypeId} {x y : Operand} {a : Addr} {v : Value} {c c' : Chunk} {s : Nat} {L' : List Chunk} (j : Nat) (ho : o.op = .store t x y) (hi : (P.info? t).map (·.size) = some s) (hx : evE env x = some (.pointer (some a))) (hy : evE env y = some v) (hc : L[j]? = some c) (hs : v.cells.size = s) (hv : Chunk.puts a 0 v.cells.toList c = some c') (hd : o.dst = none) [hL : SetK L j c' L']
    (k : K env L') : StepOk P o (Spec.sto j s) n env L K := st_st j ho hi hx hy hc hs hv hd (by rw [hL.eq]; exact k)
theorem s_ct {R W : List Nat} {F : FuncId} {fn : Func} {f : Operand} {as : Array Operand} {ts : Array TypeId} {args : List Value} {rc wc : List Chunk} {X : Type} {x0 : X} {val : X → Value} {wn : X → List Chunk} {dd : Nat} {L' : X → List Chunk}
    (hct : Ct P F args rc wc val wn) (hf : FnIs P F fn) (ho : o.op = .call ⟨.value f, as, ts⟩) (hfv : evE env f = some (.func (.func F) #[] #[])) (hvs : evL env as.toList = some args) (hcs : sel L (R ++ W) = rc ++ wc) (hn : (R ++ W).Nodup) (hrl : rc.length = R.length) (hwl : ∀ x, (wn x).length = W.length) (hd : o.dst = some dd) (hnn : Nat.blt dd n = true) [hL : ∀ x, UpdK L W (wn x) (L' x)]
    (k : ∀ x, K ((dd, val x) :: env) (L' x)) : StepOk P o (Spec.ct R W (.func (.func F) #[] #[]) args rc wc x0 val wn) n env L K :=
  st_ct (fi := #[]) (ca := #[]) (by simpa using hct) hf ho hfv hvs hcs hn hrl hwl hd hnn fun x => by rw [(hL x).eq]; exact k x
/-- A function value that has captured something. -/
theorem s_ctC {R W : List Nat} {F : FuncId} {fn : Func} {f : Operand} {as : Array Operand} {ts : Array TypeId} {fi ca : Array Value} {args : List Value} {rc wc : List Chunk} {X : Type} {x0 : X} {val : X → Value} {wn : X → List Chunk} {dd : Nat} {L' : X → List Chunk}
    (hfv : evE env f = some (.func (.func F) fi ca)) (hvs : evL env as.toList = some args) (hct : Ct P F (fi.toList ++ args ++ ca.toList) rc wc val wn) (hf : FnIs P F fn) (ho : o.op = .call ⟨.value f, as, ts⟩) (hcs : sel L (R ++ W) = rc ++ wc) (hn : (R ++ W).Nodup) (hrl : rc.length = R.length) (hwl : ∀ x, (wn x).length = W.length) (hd : o.dst = some dd) (hnn : Nat.blt dd n = true) [hL : ∀ x, UpdK L W (wn x) (L' x)]
    (k : ∀ x, K ((dd, val x) :: env) (L' x)) : StepOk P o (Spec.ct R W (.func (.func F) fi ca) args rc wc x0 val wn) n env L K :=
  st_ct hct hf ho hfv hvs hcs hn hrl hwl hd hnn fun x => by rw [(hL x).eq]; exact k x
theorem s_app {x y : Operand} {t e : TypeId} {z v : Value} {A : Option Addr} {cj ck : Chunk} {s bytes m' c d n' : Nat} {xs ns : List Value} {L' : Value → List Chunk} (j k : Nat)
    (ho : o.op = .call ⟨.builtin .append, #[x, y], #[t, t]⟩) (he : ElemIs P t e z s bytes) (hjk : Nat.beq j k = false) (hx : evE env x = some v) (hy : evE env y = some (.slice A m' c)) (hj : L[j]? = some cj) (hk : L[k]? = some ck) (hrow : toRow e s ck v = some (n', xs)) (hnews : newsOf cj A (m' * s) = some ns) (hone : ∀ u ∈ ns, u.oneCell' = true) (hby : (n' + m') * bytes ≤ 140737488355328) (h63 : n' + m' ≤ 140737488355328) (hd : o.dst = some d) (hn : Nat.blt d n = true)
    [hL : ∀ v1, SetK L k (.row e s v1 (n' + m') (xs ++ ns)) (L' v1)] (kk : ∀ v1, IsRow v1 (n' + m') → K ((d, v1) :: env) (L' v1)) : StepOk P o (Spec.app j k e s bytes) n env L K :=
  st_app j k ho he hjk hx hy hj hk hrow hnews hone hby h63 hd hn fun v1 h1 => by rw [(hL v1).eq]; exact kk v1 h1

theorem one_cells {v : Value} [h : One v] : v.cells.size = 1 := by
  have e : v.cells = [v].toArray := (cellsV_one v).eq
  rw [e]; rfl

/-! ### Conditions -/
/-- Operations i to m - 1 are all passed over, where the guard j does not want them; what they give is not known before. -/
def skipsB (l : List Oper) (j : Nat) (i : Nat) : Nat → List Nat → Bool
  | 0, _ => true
  | k + 1, seen => match nthO l i with
    | none => false
    | some o => (match o.guard with | some (g, _) => (Nat.beq g j || seen.contains g) | none => false) && skipsB l j (i + 1) k (i :: seen)
def dstsB (l : List Oper) (i : Nat) : Nat → List Nat
  | 0 => []
  | k + 1 => match nthO l i with
    | none => dstsB l (i + 1) k
    | some o => match o.dst with
      | some d => d :: dstsB l (i + 1) k
      | none => dstsB l (i + 1) k
def freshB (ds : List Nat) : Env → Bool
  | [] => true
  | (t, _) :: e => !ds.contains t && freshB ds e
theorem freshB_spec {ds : List Nat} : ∀ {env : Env}, freshB ds env = true → ∀ t v, lk t env = some v → t ∉ ds
  | [], _, t, v, h => by simp [lk] at h
  | (s, u) :: e, h, t, v, hv => by
    simp only [freshB, Bool.and_eq_true] at h
    simp only [lk] at hv
    by_cases hs : s = t
    · subst hs
      have := h.1
      simp at this
      exact this
    · have : Nat.beq s t = false := by rw [← Bool.not_eq_true, Nat.beq_eq]; exact hs
      simp [this] at hv
      exact freshB_spec h.2 t v hv
theorem AE.put_fresh {env : Env} {a : Act} {ds : List Nat} (h : AE n env a) (hf : ∀ t v, lk t env = some v → t ∉ ds) {d : Option Nat} (hd : ∀ x, d = some x → x ∈ ds) (v : Value) : AE n env (a.put d v) := by
  cases d with
  | none => exact h
  | some x =>
    refine ⟨by simp [Act.put, h.size], h.defers, fun t u hu => ?_⟩
    have : x ≠ t := fun e => hf t u hu (e ▸ hd x rfl)
    simp only [Act.put]
    rw [Array.getElem?_setIfInBounds_ne this]
    exact h.env t u hu
/-- What is yielded by operations that were passed over. -/
def Unyielded (ops : Array Oper) (a : Act) (g : Nat) : Prop := yielded ops a.tmps g = none
theorem unyield_put {a : Act} {g : Nat} {o : Oper} (hg : ops[g]? = some o) (ha : o.dst = none ∨ ∃ d, o.dst = some d ∧ (d < a.tmps.size ∨ a.tmps.size ≤ d)) : yielded ops (a.put o.dst undef).tmps g = none := by
  unfold yielded
  rw [hg]
  simp only [Option.bind_some]
  cases hd : o.dst with
  | none => rfl
  | some d =>
    simp only [Option.bind_some, Act.put]
    rcases Nat.lt_or_ge d a.tmps.size with hlt | hlt
    · simp [hlt, undef]
    · rw [Array.getElem?_eq_none (by simpa using hlt)]
theorem put_keeps_unyielded {a : Act} {g : Nat} {d : Option Nat} (h : yielded ops a.tmps g = none) : yielded ops (a.put d undef).tmps g = none := by
  unfold yielded at h ⊢
  cases hg : (ops[g]?).bind (·.dst) with
  | none => rfl
  | some t =>
    rw [hg] at h
    simp only [Option.bind_some] at h ⊢
    cases d with
    | none => exact h
    | some x =>
      by_cases e : x = t
      · subst e
        rcases Nat.lt_or_ge x a.tmps.size with hlt | hlt
        · simp [Act.put, hlt, undef]
        · simp only [Act.put]; rw [Array.getElem?_eq_none (by simpa using hlt)]
      · simp only [Act.put]
        rw [Array.getElem?_setIfInBounds_ne e]
        exact h
theorem RN_skips {j d : Nat} {oj : Oper} {b want : Bool} (hj : nthO ops.toList j = some oj) (hd : oj.dst = some d) (hb : lk d env = some (.bool b)) (hne : b ≠ want) :
    ∀ (k i : Nat) (seen : List Nat), skipsB ops.toList j i k seen = true → (∀ x ∈ dstsB ops.toList i k, ∀ u, lk x env ≠ some u) → (∀ q, q < k → ∀ o, nthO ops.toList (i + q) = some o → ∀ g w, o.guard = some (g, w) → g = j → w = want) → i + k ≤ m → RN P ops Q n w0 m (i + k) env L →
    ∀ a w, St n w0 env L a w → (∀ g ∈ seen, yielded ops a.tmps g = none) → wpOps P ops Q (List.range' i (m - i)) a w
  | 0, i, seen, _, _, _, _, h, a, w, hs, _ => h a w hs
  | k + 1, i, seen, hk, hf, hw, hm, h, a, w, hs, hseen => by
    rw [range'_cons (by omega), wpOps_cons]
    unfold wpOp
    simp only [skipsB] at hk
    cases ho : nthO ops.toList i with
    | none => simp [ho] at hk
    | some o =>
      simp only [ho, Bool.and_eq_true] at hk
      have ho' := ho
      rw [nthO_eq, Array.getElem?_toList] at ho'
      simp only [ho']
      have hnw : Region.wanted o (yielded ops a.tmps) = false := by
        cases hg : o.guard with
        | none => simp [hg] at hk
        | some gw =>
          obtain ⟨g, wv⟩ := gw
          have h1 := hk.1
          simp only [hg, Bool.or_eq_true] at h1
          rcases h1 with h1 | h1
          · have h1 : g = j := by simpa using h1
            have hwv := hw 0 (by omega) o ho g wv hg h1
            subst h1
            simp [Region.wanted, hg, yield_of hs.ae hj hd hb, hwv]
            exact hne
          · have h1 : g ∈ seen := by simpa using h1
            simp [Region.wanted, hg, hseen g h1]
      rw [if_neg (by simp [hnw])]
      have hfr : ∀ t v, lk t env = some v → t ∉ dstsB ops.toList i (k + 1) := fun t v hv hm => hf t hm v hv
      have hdm : ∀ x, o.dst = some x → x ∈ dstsB ops.toList i (k + 1) := fun x hx => by simp only [dstsB, ho, hx]; exact List.mem_cons_self
      refine RN_skips hj hd hb hne k (i + 1) (i :: seen) hk.2 (fun x hx u => hf x ?_ u) (fun q hq o' ho' => hw (q + 1) (by omega) o' (by rwa [show i + (q + 1) = i + 1 + q by omega])) (by omega) (by rwa [show i + 1 + k = i + (k + 1) by omega]) _ w ⟨hs.ae.put_fresh hfr hdm _, hs.sat, hs.ext⟩ ?_
      · simp only [dstsB, ho]
        cases o.dst with
        | none => exact hx
        | some d' => exact List.mem_cons_of_mem _ hx
      · intro g hg
        rcases List.mem_cons.1 hg with rfl | hg
        · exact unyield_put ho' (by cases o.dst with
            | none => exact .inl rfl
            | some d' => exact .inr ⟨d', rfl, Nat.lt_or_ge _ _⟩)
        · exact put_keeps_unyielded (hseen g hg)
def guardsB (l : List Oper) (j : Nat) (want : Bool) (i : Nat) : Nat → Bool
  | 0 => true
  | k + 1 => (match nthO l i with
    | none => true
    | some o => match o.guard with
      | some (g, w) => !Nat.beq g j || (w == want)
      | none => true) && guardsB l j want (i + 1) k
theorem guardsB_spec {l : List Oper} {j : Nat} {want : Bool} : ∀ (k i : Nat), guardsB l j want i k = true → ∀ q, q < k → ∀ o, nthO l (i + q) = some o → ∀ g w, o.guard = some (g, w) → g = j → w = want
  | 0, i, _, q, hq => by omega
  | k + 1, i, h, q, hq => by
    simp only [guardsB, Bool.and_eq_true] at h
    intro o ho g w hg hgj
    cases q with
    | zero =>
      rw [Nat.add_zero] at ho
      have h1 := h.1
      simp only [ho, hg] at h1
      subst hgj
      simpa using h1
    | succ q => exact guardsB_spec k (i + 1) h.2 q (by omega) o (by rwa [show i + 1 + q = i + (q + 1) by omega]) g w hg hgj
theorem RN_as (env' : Env) (he : ∀ t v, lk t env' = some v → lk t env = some v) (h : RN P ops Q n w0 m i env' L) : RN P ops Q n w0 m i env L := fun a w hs => h a w ⟨hs.ae.sub he, hs.sat, hs.ext⟩
theorem RN_pick {d dp : Nat} {x y : Operand} {b : Bool} {v : Value} {ty : TypeId} {pos : String} {af : Array Edge} {gd : Option (Nat × Bool)} (hp : nthO ops.toList i = some ⟨some dp, .pick (.tmp d) x y, ty, pos, af, gd⟩) (hm : Nat.blt i m = true) (hw : ∀ a, AE n env a → Region.wanted ⟨some dp, .pick (.tmp d) x y, ty, pos, af, gd⟩ (yielded ops a.tmps) = true) (hb : lk d env = some (.bool b)) (hdn : Nat.blt dp n = true) (hv : ∀ a, AE n env a → (if b then a.eval x else a.eval y) = v) (h : RN P ops Q n w0 m (i + 1) ((dp, v) :: env) L) : RN P ops Q n w0 m i env L := by
  intro a w hs
  rw [nthO_eq, Array.getElem?_toList] at hp
  rw [range'_cons (by simpa [Nat.blt_eq] using hm), wpOps_cons]
  unfold wpOp
  simp only [hp]
  rw [if_pos (hw a hs.ae)]
  refine .inl ?_
  have e : a.eval (.tmp d) = .bool b := hs.ae.eval hb
  have hr : (execOp a.eval ⟨some dp, .pick (.tmp d) x y, ty, pos, af, gd⟩).run P w = .ok (.value v) w := by
    have hvv := hv a hs.ae
    cases b <;> simp at hvv <;> simp [execOp, e, asBool, hvv]
  unfold Oper.wp
  rw [hr]
  exact h _ w ⟨hs.ae.put (some dp) v hdn, hs.sat, hs.ext⟩
theorem wanted_none {o : Oper} {ops : Array Oper} (h : o.guard = none) : ∀ a : Act, AE n env a → Region.wanted o (yielded ops a.tmps) = true := fun a _ => by simp [Region.wanted, h]
theorem wanted_some {o oj : Oper} {ops : Array Oper} {j d : Nat} {b : Bool} (h : o.guard = some (j, b)) (hj : nthO ops.toList j = some oj) (hd : oj.dst = some d) (hb : lk d env = some (.bool b)) : ∀ a : Act, AE n env a → Region.wanted o (yielded ops a.tmps) = true := fun a ha => by simp [Region.wanted, h, yield_of ha hj hd hb]
theorem lk_cons_ne {s t : Nat} {v : Value} {env : Env} (h : Nat.beq s t = false) : lk t ((s, v) :: env) = lk t env := by simp [lk, h]
/-- 'a || b': what is behind the guard is looked at where a is false; the pick behind gives either. -/
theorem RN_or {p q : Prop} {_ : Decidable p} {_ : Decidable q} {d t dp m' : Nat} {oj op : Oper} {ty : TypeId} {pos : String} {af : Array Edge} {gd : Option (Nat × Bool)} (j k : Nat) (env0 : Env) (hj : nthO ops.toList j = some oj) (hd : oj.dst = some d) (hp : nthO ops.toList (i + k) = some op) (hop : op = ⟨some dp, .pick (.tmp d) (.const (.bool true)) (.tmp t), ty, pos, af, gd⟩) (hb : lk d env = some (.bool (decide p)))
    (h1 : skipsB ops.toList j i k [] = true) (h2 : guardsB ops.toList j false i k = true) (h3 : freshB (dstsB ops.toList i k) env = true) (hm : Nat.blt (i + k) m = true) (hdn : Nat.blt dp n = true) (hm' : i + k + 1 = m') (htd : Nat.beq t d = false) (h4 : freshB [t, d] env0 = true) (he : AllIn env env0) (hw : ∀ a, AE n env0 a → Region.wanted op (yielded ops a.tmps) = true)
    (hq : ¬ p → RN P ops (CutQ n w0 ((t, .bool (decide q)) :: (d, .bool false) :: env0) L) n w0 (i + k) i ((d, .bool false) :: env) L)
    (kk : RN P ops Q n w0 m m' ((dp, .bool (decide (p ∨ q))) :: env0) L) : RN P ops Q n w0 m i env L := by
  subst hm'
  have hlt : i + k < m := by simpa [Nat.blt_eq] using hm
  subst hop
  have hsub : ∀ v, ∀ x u, lk x ((dp, v) :: env0) = some u → lk x ((dp, v) :: env) = some u := by
    intro v x u hx
    simp only [lk] at hx ⊢
    cases hb : Nat.beq dp x with
    | true => simpa [hb] using hx
    | false => simp [hb] at hx ⊢; exact he.sub x u hx
  by_cases hpp : p
  · have hb' : lk d env = some (.bool true) := by rw [hb, decide_eq_true hpp]
    intro a w hs
    refine RN_skips hj hd hb' (want := false) (by decide) k i [] h1 (fun x hx u hu => freshB_spec h3 x u hu hx) (guardsB_spec k i h2) (by omega) ?_ a w hs (fun g hg => by cases hg)
    refine RN_pick hp hm (fun a ha => hw a (ha.sub he.sub)) hb' hdn (v := .bool true) (fun a _ => rfl) ?_
    rw [decide_eq_true (Or.inl hpp : p ∨ q)] at kk
    exact RN_as _ (hsub _) kk
  · have hb' : lk d env = some (.bool false) := by rw [hb, decide_eq_false hpp]
    refine RN_as ((d, .bool false) :: env) (fun x v hv => ?_) ?_
    · simp only [lk] at hv
      by_cases e : d = x
      · subst e; simp at hv; rw [hb', hv]
      · have : Nat.beq d x = false := by rw [← Bool.not_eq_true, Nat.beq_eq]; exact e
        simpa [this] using hv
    · have hsub2 : ∀ x u, lk x env0 = some u → ∀ v1 v2, lk x ((t, v1) :: (d, v2) :: env0) = some u := by
        intro x u hx v1 v2
        have h5 := freshB_spec h4 x u hx
        have e1 : Nat.beq t x = false := by rw [← Bool.not_eq_true, Nat.beq_eq]; exact fun e => h5 (by simp [e])
        have e2 : Nat.beq d x = false := by rw [← Bool.not_eq_true, Nat.beq_eq]; exact fun e => h5 (by simp [e])
        simpa [lk, e1, e2] using hx
      refine RN_cut (i + k) _ L (by simp [Nat.ble_eq]) (by simp [Nat.ble_eq]; omega) (hq hpp) ?_
      refine RN_pick hp hm (fun a ha => hw a (ha.sub (fun x u hx => hsub2 x u hx _ _))) (b := false) (by rw [lk_cons_ne htd]; simp [lk]) hdn (v := .bool (decide q)) (fun a ha => ha.eval (x := .tmp t) (by simp [evE, lk])) ?_
      have e : decide (p ∨ q) = decide q := by simp [hpp]
      rw [e] at kk
      refine RN_as _ (fun x u hx => ?_) kk
      simp only [lk] at hx ⊢
      cases h1 : Nat.beq dp x with
      | true => simpa [h1] using hx
      | false =>
        simp [h1] at hx ⊢
        have h5 := freshB_spec h4 x u hx
        have e1 : Nat.beq t x = false := by rw [← Bool.not_eq_true, Nat.beq_eq]; exact fun e => h5 (by simp [e])
        have e2 : Nat.beq d x = false := by rw [← Bool.not_eq_true, Nat.beq_eq]; exact fun e => h5 (by simp [e])
        simpa [e1, e2] using hx
/-- 'a && b'. -/
theorem RN_and {p q : Prop} {_ : Decidable p} {_ : Decidable q} {d t dp m' : Nat} {oj op : Oper} {ty : TypeId} {pos : String} {af : Array Edge} {gd : Option (Nat × Bool)} (j k : Nat) (env0 : Env) (hj : nthO ops.toList j = some oj) (hd : oj.dst = some d) (hp : nthO ops.toList (i + k) = some op) (hop : op = ⟨some dp, .pick (.tmp d) (.tmp t) (.const (.bool false)), ty, pos, af, gd⟩) (hb : lk d env = some (.bool (decide p)))
    (h1 : skipsB ops.toList j i k [] = true) (h2 : guardsB ops.toList j true i k = true) (h3 : freshB (dstsB ops.toList i k) env = true) (hm : Nat.blt (i + k) m = true) (hdn : Nat.blt dp n = true) (hm' : i + k + 1 = m') (htd : Nat.beq t d = false) (h4 : freshB [t, d] env0 = true) (he : AllIn env env0) (hw : ∀ a, AE n env0 a → Region.wanted op (yielded ops a.tmps) = true)
    (hq : p → RN P ops (CutQ n w0 ((t, .bool (decide q)) :: (d, .bool true) :: env0) L) n w0 (i + k) i ((d, .bool true) :: env) L)
    (kk : RN P ops Q n w0 m m' ((dp, .bool (decide (p ∧ q))) :: env0) L) : RN P ops Q n w0 m i env L := by
  subst hm'
  have hlt : i + k < m := by simpa [Nat.blt_eq] using hm
  subst hop
  have hsub : ∀ v, ∀ x u, lk x ((dp, v) :: env0) = some u → lk x ((dp, v) :: env) = some u := by
    intro v x u hx
    simp only [lk] at hx ⊢
    cases hb : Nat.beq dp x with
    | true => simpa [hb] using hx
    | false => simp [hb] at hx ⊢; exact he.sub x u hx
  by_cases hpp : p
  case neg =>
    have hb' : lk d env = some (.bool false) := by rw [hb, decide_eq_false hpp]
    intro a w hs
    refine RN_skips hj hd hb' (want := true) (by decide) k i [] h1 (fun x hx u hu => freshB_spec h3 x u hu hx) (guardsB_spec k i h2) (by omega) ?_ a w hs (fun g hg => by cases hg)
    refine RN_pick hp hm (fun a ha => hw a (ha.sub he.sub)) hb' hdn (v := .bool false) (fun a _ => rfl) ?_
    rw [decide_eq_false (fun h : p ∧ q => hpp h.1)] at kk
    exact RN_as _ (hsub _) kk
  case pos =>
    have hb' : lk d env = some (.bool true) := by rw [hb, decide_eq_true hpp]
    refine RN_as ((d, .bool true) :: env) (fun x v hv => ?_) ?_
    · simp only [lk] at hv
      by_cases e : d = x
      · subst e; simp at hv; rw [hb', hv]
      · have : Nat.beq d x = false := by rw [← Bool.not_eq_true, Nat.beq_eq]; exact e
        simpa [this] using hv
    · have hsub2 : ∀ x u, lk x env0 = some u → ∀ v1 v2, lk x ((t, v1) :: (d, v2) :: env0) = some u := by
        intro x u hx v1 v2
        have h5 := freshB_spec h4 x u hx
        have e1 : Nat.beq t x = false := by rw [← Bool.not_eq_true, Nat.beq_eq]; exact fun e => h5 (by simp [e])
        have e2 : Nat.beq d x = false := by rw [← Bool.not_eq_true, Nat.beq_eq]; exact fun e => h5 (by simp [e])
        simpa [lk, e1, e2] using hx
      refine RN_cut (i + k) _ L (by simp [Nat.ble_eq]) (by simp [Nat.ble_eq]; omega) (hq hpp) ?_
      refine RN_pick hp hm (fun a ha => hw a (ha.sub (fun x u hx => hsub2 x u hx _ _))) (b := true) (by rw [lk_cons_ne htd]; simp [lk]) hdn (v := .bool (decide q)) (fun a ha => ha.eval (x := .tmp t) (by simp [evE, lk])) ?_
      have e : decide (p ∧ q) = decide q := by simp [hpp]
      rw [e] at kk
      refine RN_as _ (fun x u hx => ?_) kk
      simp only [lk] at hx ⊢
      cases h1 : Nat.beq dp x with
      | true => simpa [h1] using hx
      | false =>
        simp [h1] at hx ⊢
        have h5 := freshB_spec h4 x u hx
        have e1 : Nat.beq t x = false := by rw [← Bool.not_eq_true, Nat.beq_eq]; exact fun e => h5 (by simp [e])
        have e2 : Nat.beq d x = false := by rw [← Bool.not_eq_true, Nat.beq_eq]; exact fun e => h5 (by simp [e])
        simpa [e1, e2] using hx

/-! ### Whole numbers that don't wrap -/
theorem wrap64 {x : Int} (h : -9223372036854775808 ≤ x ∧ x ≤ 9223372036854775807) : IntKind.i64.wrap x = x := by
  simp [IntKind.wrap, IntKind.bits, IntKind.signed]; omega
theorem wrapU64 {x : Int} (h : 0 ≤ x ∧ x ≤ 18446744073709551615) : IntKind.u64.wrap x = x := by
  simp [IntKind.wrap, IntKind.bits, IntKind.signed]; omega
theorem wrapU8 {x : Int} (h : 0 ≤ x ∧ x ≤ 255) : IntKind.u8.wrap x = x := by
  simp [IntKind.wrap, IntKind.bits, IntKind.signed]; omega
theorem wrapU16 {x : Int} (h : 0 ≤ x ∧ x ≤ 65535) : IntKind.u16.wrap x = x := by
  simp [IntKind.wrap, IntKind.bits, IntKind.signed]; omega
section
variable {dst : Option Tmp} {ty : TypeId} {pos : String} {af : Array Edge} {gd : Option (Nat × Bool)}
theorem pure_add64 {t u : TypeId} {x y : Operand} {a b : Int} (h : -9223372036854775808 ≤ a + b ∧ a + b ≤ 9223372036854775807) : PureOp P ⟨dst, .binOp .add t x y u, ty, pos, af, gd⟩ [.int .i64 a, .int .i64 b] (.int .i64 (a + b)) := pure_addN (wrap64 h)
theorem pure_sub64 {t u : TypeId} {x y : Operand} {a b : Int} (h : -9223372036854775808 ≤ a - b ∧ a - b ≤ 9223372036854775807) : PureOp P ⟨dst, .binOp .sub t x y u, ty, pos, af, gd⟩ [.int .i64 a, .int .i64 b] (.int .i64 (a - b)) := pure_subN (wrap64 h)
theorem pure_mul64 {t u : TypeId} {x y : Operand} {a b : Int} (h : -9223372036854775808 ≤ a * b ∧ a * b ≤ 9223372036854775807) : PureOp P ⟨dst, .binOp .mul t x y u, ty, pos, af, gd⟩ [.int .i64 a, .int .i64 b] (.int .i64 (a * b)) := pure_mulN (wrap64 h)
theorem pure_quo64 {t u : TypeId} {x y : Operand} {a b : Int} (h : 0 ≤ a ∧ a ≤ 9223372036854775807) (h0 : 0 < b) : PureOp P ⟨dst, .binOp .quo t x y u, ty, pos, af, gd⟩ [.int .i64 a, .int .i64 b] (.int .i64 (a / b)) := by
  refine pure_quoN (by omega) ?_
  rw [Int.tdiv_eq_ediv_of_nonneg h.1]
  refine wrap64 ⟨?_, ?_⟩
  · have := Int.ediv_nonneg h.1 (Int.le_of_lt h0); omega
  · have := Int.ediv_le_self b h.1; omega
theorem pure_remP {t u : TypeId} {x y : Operand} {k : IntKind} {a b : Int} (h : 0 ≤ a) (h0 : 0 < b) : PureOp P ⟨dst, .binOp .rem t x y u, ty, pos, af, gd⟩ [.int k a, .int k b] (.int k (a % b)) :=
  pure_remN (by omega) (Int.tmod_eq_emod_of_nonneg h)
theorem pure_conv64 {s d : TypeId} {x : Operand} {j : IntKind} {a : Int} (hs : P.underlying s = some (.int j)) (hd : P.underlying d = some (.int .i64)) (h : -9223372036854775808 ≤ a ∧ a ≤ 9223372036854775807) : PureOp P ⟨dst, .convert s d x, ty, pos, af, gd⟩ [.int j a] (.int .i64 a) := pure_convN hs hd (wrap64 h)
theorem pure_convU64 {s d : TypeId} {x : Operand} {j : IntKind} {a : Int} (hs : P.underlying s = some (.int j)) (hd : P.underlying d = some (.int .u64)) (h : 0 ≤ a ∧ a ≤ 18446744073709551615) : PureOp P ⟨dst, .convert s d x, ty, pos, af, gd⟩ [.int j a] (.int .u64 a) := pure_convN hs hd (wrapU64 h)
theorem pure_convU8 {s d : TypeId} {x : Operand} {j : IntKind} {a : Int} (hs : P.underlying s = some (.int j)) (hd : P.underlying d = some (.int .u8)) (h : 0 ≤ a ∧ a ≤ 255) : PureOp P ⟨dst, .convert s d x, ty, pos, af, gd⟩ [.int j a] (.int .u8 a) := pure_convN hs hd (wrapU8 h)
theorem pure_makeFunc {f : Fn} {first captured : List Operand} {vs ws : List Value} : first.length = vs.length → PureOp P ⟨dst, .makeFunc f first.toArray captured.toArray, ty, pos, af, gd⟩ (vs ++ ws) (.func f vs.toArray ws.toArray) := by
  intro hl ρ hv w
  simp [Op.operands] at hv
  have h1 := List.append_inj hv (by simpa using hl)
  simp [execOp, Instr.makeFunc, h1.1, h1.2]
theorem pure_notD {t : TypeId} {x : Operand} {p : Prop} [Decidable p] : PureOp P ⟨dst, .unOp .not t x, ty, pos, af, gd⟩ [.bool (decide p)] (.bool (decide (¬ p))) := by
  have := pure_not (P := P) (dst := dst) (ty := ty) (pos := pos) (af := af) (gd := gd) (t := t) (x := x) (b := decide p)
  rwa [← decide_not] at this
theorem pure_eqNil {t u : TypeId} {x y : Operand} {e : TypeId} {A : Option Addr} {a c : Nat} (hu : P.underlying t = some (.slice e)) : PureOp P ⟨dst, .binOp .eql t x y u, ty, pos, af, gd⟩ [.slice A a c, .slice none 0 0] (.bool (decide (A = none))) := by
  intro ρ hv w
  simp [Op.operands] at hv
  have e1 : (eqGuard .eql t x y (.slice A a c) (.slice none 0 0)).run P w = .ok () w := rfl
  have e2 : (Op.equal t (.slice A a c) (.slice none 0 0)).run P w = .ok (decide (A = none)) w := by
    unfold Op.equal Op.maxDepth
    rw [Op.equalIn]
    cases A <;> simp [run_underlying hu]
  simp [execOp, hv, e1, binOp, e2]
end
end

/-! ### Contracts -/
theorem ent_pad {L : List Chunk} : ∀ k, Ent (hps L) (hps (L ++ List.replicate k .emp))
  | 0 => by simpa using Ent.refl _
  | k + 1 => by
    have h1 : Ent (hps (L ++ List.replicate k .emp)) (HP.sep [] :: hps (L ++ List.replicate k .emp)) := Ent.emp
    refine (ent_pad k).trans (h1.trans (Ent.perm ?_))
    rw [List.replicate_succ']
    simp only [hps, List.map_append, List.map_cons, List.map_nil, ← List.append_assoc]
    exact (List.perm_append_comm (l₁ := [HP.sep []]))
theorem ent_unpad {L : List Chunk} : ∀ k, Ent (hps (L ++ List.replicate k .emp)) (hps L)
  | 0 => by simpa using Ent.refl _
  | k + 1 => by
    refine Ent.trans ?_ (ent_unpad k)
    rw [List.replicate_succ']
    simp only [hps, List.map_append, List.map_cons, List.map_nil, ← List.append_assoc]
    exact (Ent.perm (List.perm_append_comm (l₂ := [HP.sep []]))).trans Ent.drop
theorem SatC.pad {w : World} {L : List Chunk} (h : SatC w L) (k : Nat) : SatC w (L ++ List.replicate k .emp) := (ent_pad k).sat h
theorem SatC.fin {w : World} {L T : List Chunk} (k : Nat) (h : SatC w L) (he : EntP L (T ++ List.replicate k .emp)) : SatC w T := (ent_unpad k).sat (he.ent.sat h)
theorem ct_of {P : Program} {F : FuncId} {args : List Value} {rc wc : List Chunk} {X : Type} {val : X → Value} {wn : X → List Chunk}
    (h : ∀ w (l : List HP), SatC w (rc ++ wc ++ [.hp (HP.sep l)]) → Calls P F args.toArray w fun e w' => ∃ x, e = .returned (val x) ∧ SatC w' (rc ++ wn x ++ [.hp (HP.sep l)]) ∧ Ext w w') : Ct P F args rc wc val wn := by
  intro w l hs
  have key : ∀ (A : List Chunk) w, Sat w (hps A ++ l) ↔ SatC w (A ++ [.hp (HP.sep l)]) := by
    intro A w
    unfold SatC
    rw [List.map_append, List.map_cons, List.map_nil]
    constructor
    · intro h1
      have h2 : Sat w (l ++ A.map Chunk.toHP) := h1.perm List.perm_append_comm
      exact (Sat_sep.2 h2).perm (List.perm_append_comm (l₁ := [HP.sep l]))
    · intro h1
      have h2 : Sat w (HP.sep l :: A.map Chunk.toHP) := h1.perm (List.perm_append_comm (l₂ := [HP.sep l]))
      exact (Sat_sep.1 h2).perm List.perm_append_comm
  refine (h w l ((key _ w).1 hs)).mono fun e w' ⟨x, h1, h2, h3⟩ => ⟨x, h1, (key _ w').2 h2, h3⟩
/-- A call whose result nobody takes. -/
theorem s_ct0 {P : Program} {n : Nat} {env : Env} {L : List Chunk} {o : Oper} {K : Env → List Chunk → Prop} {R W : List Nat} {F : FuncId} {fn : Func} {f : Operand} {as : Array Operand} {ts : Array TypeId} {args : List Value} {rc wc : List Chunk} {X : Type} {x0 : X} {val : X → Value} {wn : X → List Chunk} {L' : X → List Chunk}
    (hct : Ct P F args rc wc val wn) (hf : FnIs P F fn) (ho : o.op = .call ⟨.value f, as, ts⟩) (hfv : evE env f = some (.func (.func F) #[] #[])) (hvs : evL env as.toList = some args) (hcs : sel L (R ++ W) = rc ++ wc) (hn : (R ++ W).Nodup) (hrl : rc.length = R.length) (hwl : ∀ x, (wn x).length = W.length) (hd : o.dst = none) [hL : ∀ x, UpdK L W (wn x) (L' x)]
    (k : ∀ x, K env (L' x)) : StepOk P o (Spec.ct R W (.func (.func F) #[] #[]) args rc wc x0 val wn) n env L K := by
  refine ⟨.func (.func F) #[] #[] :: args, by simp [ho, Op.operands, Call.operands, evL, hfv, hvs], by rw [hd]; rfl, sound_ct (fi := #[]) (ca := #[]) ho hf hn hrl hwl (by simpa using hct), fun x => ⟨val x, wn x, ?_, ?_⟩⟩
  · simp only [Spec.ct]
    rw [if_pos ⟨rfl, hcs⟩]
  · rw [hd]; simp only [Spec.ct, putE]; rw [(hL x).eq]; exact k x

/-! ### What is read as a row -/
def Rds (c : Chunk) (v : Value) (n s : Nat) (xs : List Value) : Prop := IsRow v n ∧ xs.length = n * s ∧ ∀ j u, xs[j]? = some u → c.cell (eaddr v j) = some u
theorem Rds.row {c : Chunk} {v : Value} {n s : Nat} {xs : List Value} (h : Rds c v n s xs) : IsRow v n := h.1
theorem Rds.cell {c : Chunk} {v u : Value} {n s j : Nat} {xs : List Value} (h : Rds c v n s xs) (hj : xs[j]? = some u) : c.cell (eaddr v j) = some u := h.2.2 j u hj
theorem Rds.cells {c : Chunk} {v : Value} {n s j k : Nat} {xs r : List Value} (h : Rds c v n s xs) (hn : 0 < n) (hl : r.length = k) (hr : ∀ i u, r[i]? = some u → xs[j + i]? = some u) : c.cells (eaddr v j) 0 k = some r := by
  have := cells_of (c := c) (a := eaddr v j) r 0 (fun i u hi => by
    rw [eaddr_add v j _ (h.1.some hn), Nat.zero_add]
    exact h.2.2 _ _ (hr i u hi))
  rwa [hl] at this
theorem rds_row {e s n : Nat} {v : Value} {xs : List Value} (h : IsRow v n) (hl : xs.length = n * s) : Rds (.row e s v n xs) v n s xs :=
  ⟨h, hl, fun j u hj => cell_row h (by have := (List.getElem?_eq_some_iff.1 hj).1; rcases Nat.eq_zero_or_pos n with h0 | h0; · subst h0; simp at hl; subst hl; simp at hj
                                       · exact h0) hj⟩
theorem rds_blk {g t n s : Nat} {l : List Value} {fr : Nat × Nat} (hl : l.length = n * s) (hm : n ≤ maxLen) : Rds (.blk g (.cells l.toArray t fr)) (.slice (some ⟨g, 0, none⟩) n n) n s l :=
  ⟨.inr (.inl ⟨g, 0, n, rfl, Nat.le_refl _, hm⟩), hl, fun j u hj => by simp [eaddr, Chunk.cell, hj]⟩
theorem rds_nil {c : Chunk} {s : Nat} : Rds c (.slice none 0 0) 0 s [] := ⟨.inl ⟨rfl, rfl⟩, by simp, fun j u hj => by simp at hj⟩
theorem rds_old {w : World} {v : Value} {n s : Nat} {xs : List Value} (h : IsRow v n) (hl : xs.length = n * s) (hc : ∀ j u, xs[j]? = some u → (eaddr v j).block < w.heap.size ∧ w.cell? (eaddr v j) = some u) : Rds (.old w) v n s xs :=
  ⟨h, hl, fun j u hj => cell_old (hc j u hj).1 (hc j u hj).2⟩
theorem news_rds {c : Chunk} {A : Option Addr} {m cc s : Nat} {xs : List Value} (h : Rds c (.slice A m cc) m s xs) : newsOf c A (m * s) = some xs := by
  obtain ⟨h1, h2, h3⟩ := h
  unfold newsOf
  by_cases h0 : m * s = 0
  · rw [if_pos h0]; rw [h0] at h2; rw [List.eq_nil_of_length_eq_zero h2]
  · rw [if_neg h0]
    have hm : 0 < m := by
      rcases Nat.eq_zero_or_pos m with h | h
      · subst h; simp at h0
      · exact h
    rcases h1 with ⟨h1, _⟩ | ⟨g, off, c', h1, _⟩ | ⟨a, _, h1⟩
    · injection h1 with h4 h5 _; omega
    rotate_left
    · omega
    · injection h1 with h4 h5 h6
      subst h4
      have := cells_of (c := c) (a := ⟨g, off, none⟩) xs 0 (fun i u hi => by
        rw [add_lit', Nat.zero_add]
        exact h3 i u hi)
      rw [h2] at this
      exact this
theorem toRow_row {e s n : Nat} {v : Value} {xs : List Value} : toRow e s (.row e s v n xs) v = some (n, xs) := by simp [toRow]
theorem toRow_nil {e s : Nat} : toRow e s .emp (.slice none 0 0) = some (0, []) := by simp [toRow]
theorem toRow_blk {e s g n : Nat} {l : List Value} (hl : l.length = n * s) (hm : n ≤ maxLen) : toRow e s (.blk g (.cells l.toArray e (0, 0))) (.slice (some ⟨g, 0, none⟩) n n) = some (n, l) := by
  simp [toRow, hl, hm]
/-- 'append', what is appended read as a row. -/
theorem s_appR {P : Program} {n : Nat} {env : Env} {L : List Chunk} {o : Oper} {K : Env → List Chunk → Prop} {x y : Operand} {t e : TypeId} {z v vy : Value} {cj ck : Chunk} {s bytes m' d n' : Nat} {xs ns : List Value} {L' : Value → List Chunk} (j k : Nat)
    (ho : o.op = .call ⟨.builtin .append, #[x, y], #[t, t]⟩) (he : ElemIs P t e z s bytes) (hjk : Nat.beq j k = false) (hx : evE env x = some v) (hy : evE env y = some vy) (hj : L[j]? = some cj) (hk : L[k]? = some ck) (hrow : toRow e s ck v = some (n', xs)) (hnews : Rds cj vy m' s ns) (hone : ∀ u ∈ ns, u.oneCell' = true) (hby : (n' + m') * bytes ≤ 140737488355328) (h63 : n' + m' ≤ 140737488355328) (hd : o.dst = some d) (hn : Nat.blt d n = true)
    [hL : ∀ v1, SetK L k (.row e s v1 (n' + m') (xs ++ ns)) (L' v1)] (kk : ∀ v1, IsRow v1 (n' + m') → K ((d, v1) :: env) (L' v1)) : StepOk P o (Spec.app j k e s bytes) n env L K := by
  obtain ⟨A, cc, rfl, _⟩ := hnews.1.slice
  exact s_app j k ho he hjk hx hy hj hk hrow (news_rds hnews) hone hby h63 hd hn kk
theorem SatC.pick {w : World} {L : List Chunk} (h : SatC w L) (ks : List Nat) (hn : ks.Nodup) : SatC w (sel L ks) := by
  have h1 := (ent_sel hn).sat h
  obtain ⟨S, _, h2, _⟩ := SatF.append.1 h1
  exact SatF.mono h2 (fun _ _ => trivial)

/-! ### What is done with, is frozen: it reads as it did -/
theorem SatC.freeze {w : World} {A L : List Chunk} (h : SatC w (A ++ L)) : ∃ B, SatC w (.fz w B :: L) ∧ ∀ c ∈ A, ∀ a v, c.cell a = some v → (Chunk.fz w B).cell a = some v := by
  unfold SatC at h
  rw [List.map_append] at h
  obtain ⟨S, hS, h1, h2⟩ := SatF.append.1 h
  refine ⟨S, ⟨S, ⟨fun i => ⟨fun hi => ⟨hi, (hS i hi).2⟩, fun hi => hi.1⟩, fun i _ _ => rfl⟩, fun _ _ => trivial, h2⟩, ?_⟩
  intro c hc a v hv
  have key : ∀ (A : List Chunk) (T : Nat → Prop), SatF w (A.map Chunk.toHP) T → c ∈ A → ∃ U, c.toHP.h w U ∧ ∀ i, U i → T i := by
    intro A
    induction A with
    | nil => intro T _ hm; cases hm
    | cons d A ih =>
      rintro T ⟨U, hU, hT, hr⟩ hm
      rcases List.mem_cons.1 hm with rfl | hm
      · exact ⟨U, hU, hT⟩
      · obtain ⟨V, hV, hV2⟩ := ih _ hr hm
        exact ⟨V, hV, fun i hi => (hV2 i hi).1⟩
  obtain ⟨U, hU, hUS⟩ := key A S h1 hc
  have hsat : Sat w [c.toHP] := ⟨U, hU, fun _ _ => trivial, trivial⟩
  have hw := cell_spec hsat hv
  have hin : U a.block := by
    cases c with
    | emp => simp [Chunk.cell] at hv
    | hp H => simp [Chunk.cell] at hv
    | old w0 =>
      simp only [Chunk.cell] at hv
      split at hv
      · rename_i hlt; exact (hU.1 _).2 hlt
      · cases hv
    | fz w0 B =>
      simp only [Chunk.cell] at hv
      split at hv
      · rename_i hlt; exact (hU.1 _).2 hlt
      · cases hv
    | blk g o =>
      cases o with
      | cells cs t fr =>
        simp only [Chunk.cell] at hv
        split at hv
        · rename_i hh; exact (hU.2 _).2 hh.1
        · cases hv
      | _ => simp [Chunk.cell] at hv
    | row e s v0 n xs =>
      cases v0 with
      | slice A m c =>
        cases A with
        | none => simp [Chunk.cell] at hv
        | some b =>
          simp only [Chunk.cell] at hv
          split at hv
          · rename_i hh; exact (hU.2 _).2 (by simp [Value.ownBlock, hh.1])
          · cases hv
      | _ => simp [Chunk.cell] at hv
  have hlt : a.block < w.heap.size := c.toHP.lt hU _ hin
  simp only [Chunk.cell]
  rw [if_pos ⟨hUS _ hin, hlt⟩]
  exact hw
theorem Rds.mono {c d : Chunk} {v : Value} {n s : Nat} {xs : List Value} (h : Rds c v n s xs) (hd : ∀ a u, c.cell a = some u → d.cell a = some u) : Rds d v n s xs := ⟨h.1, h.2.1, fun j u hj => hd _ _ (h.2.2 j u hj)⟩
section
variable {P : Program} {Q : Exit → Act → World → Prop} {n : Nat} {w0 : World} {env : Env} {L : List Chunk} {c : Code} {ops : Array Oper} {m i : Nat}
theorem WQ_exP {x : Exit} {α : Type} {L' : α → List Chunk} {p : α → Prop} (hp : ∀ w, SatC w L → Ext w0 w → ∃ y, SatC w (L' y) ∧ p y) (h : ∀ y, p y → WQ Q x n w0 env (L' y)) : WQ Q x n w0 env L := fun a w hs => let ⟨y, hy, hpy⟩ := hp w hs.sat hs.ext; h y hpy a w ⟨hs.ae, hy, hs.ext⟩
theorem W_exP {α : Type} {L' : α → List Chunk} {p : α → Prop} (hp : ∀ w, SatC w L → Ext w0 w → ∃ y, SatC w (L' y) ∧ p y) (h : ∀ y, p y → W P c Q n w0 env (L' y)) : W P c Q n w0 env L := fun a w hs => let ⟨y, hy, hpy⟩ := hp w hs.sat hs.ext; h y hpy a w ⟨hs.ae, hy, hs.ext⟩
theorem RN_exP {α : Type} {L' : α → List Chunk} {p : α → Prop} (hp : ∀ w, SatC w L → Ext w0 w → ∃ y, SatC w (L' y) ∧ p y) (h : ∀ y, p y → RN P ops Q n w0 m i env (L' y)) : RN P ops Q n w0 m i env L := fun a w hs => let ⟨y, hy, hpy⟩ := hp w hs.sat hs.ext; h y hpy a w ⟨hs.ae, hy, hs.ext⟩
theorem RN_sat {L' : List Chunk} (hp : ∀ w, SatC w L → Ext w0 w → SatC w L') (h : RN P ops Q n w0 m i env L') : RN P ops Q n w0 m i env L := fun a w hs => h a w ⟨hs.ae, hp w hs.sat hs.ext, hs.ext⟩
end
theorem puts_agg {g o t : Nat} {l r vs : List Value} [h : SetsL l o vs r] [h1 : AllOne vs] : Chunk.puts ⟨g, o, none⟩ 0 (Value.agg vs.toArray).cells.toList (.blk g (.cells l.toArray t (0, 0))) = some (.blk g (.cells r.toArray t (0, 0))) := by
  simpa [Value.cells] using puts_blk (g := g) (t := t) (h := h) h1.out

/-! ### A call whose arguments come up in the region -/
open Classical in
noncomputable def Spec.ctD (R W : List Nat) (cv : Value) {Y : Type} (yof : List Value → Y) (args : Y → List Value) (rc wc : Y → List Chunk) {X : Type} (x0 : X) (val : Y → X → Value) (wn : Y → X → List Chunk) : Spec :=
  ⟨R, W, X, x0, fun x vs cs => if vs = cv :: args (yof vs) ∧ cs = rc (yof vs) ++ wc (yof vs) then some (val (yof vs) x, wn (yof vs) x) else none⟩
theorem sound_ctD {P : Program} {o : Oper} {R W : List Nat} {F : FuncId} {fn : Func} {f : Operand} {as : Array Operand} {ts : Array TypeId} {Y : Type} {yof : List Value → Y} {args : Y → List Value} {rc wc : Y → List Chunk} {X : Type} {x0 : X} {val : Y → X → Value} {wn : Y → X → List Chunk}
    (ho : o.op = .call ⟨.value f, as, ts⟩) (hf : FnIs P F fn) (hn : (R ++ W).Nodup) (hrl : ∀ y, (rc y).length = R.length) (hwl : ∀ y x, (wn y x).length = W.length) (hct : ∀ y, Ct P F (args y) (rc y) (wc y) (val y) (wn y)) : Sound P o (Spec.ctD R W (.func (.func F) #[] #[]) yof args rc wc x0 val wn) := by
  intro a w L K Q hs hp hk
  have h := sound_ct (P := P) (o := o) (R := R) (W := W) (fi := #[]) (ca := #[]) (x0 := x0) ho hf hn (hrl (yof (Oper.vals o a))) (hwl (yof (Oper.vals o a))) (by simpa using hct (yof (Oper.vals o a)))
  exact h a w L K Q hs hp hk
theorem s_ctD {P : Program} {n : Nat} {env : Env} {L : List Chunk} {o : Oper} {K : Env → List Chunk → Prop} {R W : List Nat} {F : FuncId} {fn : Func} {f : Operand} {as : Array Operand} {ts : Array TypeId} {Y : Type} {yof : List Value → Y} {args : Y → List Value} {rc wc : Y → List Chunk} {X : Type} {x0 : X} {val : Y → X → Value} {wn : Y → X → List Chunk} {dd : Nat} {vs : List Value} {L' : X → List Chunk} (y : Y)
    (hct : ∀ y, Ct P F (args y) (rc y) (wc y) (val y) (wn y)) (hf : FnIs P F fn) (ho : o.op = .call ⟨.value f, as, ts⟩) (hfv : evE env f = some (.func (.func F) #[] #[])) (hvs : evL env as.toList = some vs) (hy : yof (.func (.func F) #[] #[] :: vs) = y) (hva : vs = args y) (hcs : sel L (R ++ W) = rc y ++ wc y) (hn : (R ++ W).Nodup) (hrl : ∀ y, (rc y).length = R.length) (hwl : ∀ y x, (wn y x).length = W.length) (hd : o.dst = some dd) (hnn : Nat.blt dd n = true) [hL : ∀ x, UpdK L W (wn y x) (L' x)]
    (k : ∀ x, K ((dd, val y x) :: env) (L' x)) : StepOk P o (Spec.ctD R W (.func (.func F) #[] #[]) yof args rc wc x0 val wn) n env L K := by
  refine ⟨.func (.func F) #[] #[] :: vs, by simp [ho, Op.operands, Call.operands, evL, hfv, hvs], by rw [hd]; exact hnn, sound_ctD ho hf hn hrl hwl hct, fun x => ⟨val y x, wn y x, ?_, ?_⟩⟩
  · simp only [Spec.ctD]
    rw [hy, if_pos ⟨congrArg (List.cons _) hva, hcs⟩]
  · rw [hd]; simp only [Spec.ctD, putE]; rw [(hL x).eq]; exact k x
/-- Two chunks frozen into one. -/
theorem SatC.freeze2 {w : World} {L : List Chunk} (h : SatC w L) (i j : Nat) (hij : i ≠ j) : ∃ d, SatC w ((clr L [i, j]).set i d) ∧ (∀ a v, (L.getD i .emp).cell a = some v → d.cell a = some v) ∧ (∀ a v, (L.getD j .emp).cell a = some v → d.cell a = some v) := by
  have h1 := (ent_sel (L := L) (ks := [i, j]) (by simp [hij])).sat h
  have h2 : SatC w (sel L [i, j] ++ clr L [i, j]) := by
    unfold SatC; rw [List.map_append]; exact h1
  obtain ⟨B, hB, hc⟩ := SatC.freeze h2
  refine ⟨.fz w B, (ent_put' i).sat hB, hc _ (by simp [sel]), hc _ (by simp [sel])⟩
end Go.Proofs.YtompmejidaddoaaDoor
