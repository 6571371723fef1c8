/- The engine: what is made, calls by contract, append; regions in the text's order and in any; the rules of code. No program. -/
import Derived.Test.YtompmejidaddoaaDoorEngC
set_option linter.unusedVariables false
set_option linter.unusedSimpArgs false
namespace Go.Proofs.YtompmejidaddoaaDoor
open Go Go.RowKit

/-! ### Entailment -/
def Ent (l l' : List HP) : Prop := ∀ w T, SatF w l T → SatF w l' T
theorem Ent.refl (l : List HP) : Ent l l := fun _ _ h => h
theorem Ent.trans {a b c : List HP} (h : Ent a b) (k : Ent b c) : Ent a c := fun w T x => k w T (h w T x)
theorem Ent.perm {a b : List HP} (h : a.Perm b) : Ent a b := fun w T x => SatF.perm h x
theorem Ent.cons {a b : List HP} (x : HP) (h : Ent a b) : Ent (x :: a) (x :: b) := fun w T ⟨S, h1, h2, h3⟩ => ⟨S, h1, h2, h w _ h3⟩
theorem Ent.left {a b : List HP} (p : List HP) (h : Ent a b) : Ent (p ++ a) (p ++ b) := by
  induction p with
  | nil => exact h
  | cons x p ih => exact ih.cons x
theorem Ent.emp {l : List HP} : Ent l (HP.sep [] :: l) := fun w T h => ⟨fun _ => False, ⟨trivial, fun _ h => h.elim⟩, fun _ h => h.elim, SatF.mono h (fun _ hi => ⟨hi, fun h => h⟩)⟩
theorem Ent.drop {x : HP} {l : List HP} : Ent (x :: l) l := fun w T ⟨S, _, _, h⟩ => SatF.mono h (fun _ hi => hi.1)
theorem Ent.sat {a b : List HP} (h : Ent a b) {w : World} (k : Sat w a) : Sat w b := h w _ k

abbrev hps (L : List Chunk) : List HP := L.map Chunk.toHP
theorem perm_set {L : List Chunk} {k : Nat} {c d : Chunk} (h : L[k]? = some c) : (hps (L.set k d)).Perm (d.toHP :: (hps L).eraseIdx k) := by
  have hk := (List.getElem?_eq_some_iff.1 h).1
  have := perm_take k (hps (L.set k d)) d.toHP (by simp [hk])
  have e : hps (L.set k d) = (hps L).set k d.toHP := List.map_set
  have e2 : (hps (L.set k d)).eraseIdx k = (hps L).eraseIdx k := by rw [e, List.eraseIdx_set_eq]
  rwa [e2] at this
theorem ent_take {L : List Chunk} {k : Nat} {c : Chunk} (h : L[k]? = some c) : Ent (hps L) (c.toHP :: hps (L.set k .emp)) := by
  refine (Ent.perm (perm_take k (hps L) c.toHP (by simp [h]))).trans (.cons _ ?_)
  refine Ent.trans (b := HP.sep [] :: (hps L).eraseIdx k) Ent.emp (Ent.perm ?_)
  exact (perm_set (d := .emp) h).symm
theorem ent_put {L : List Chunk} {k : Nat} {c d : Chunk} (h : L[k]? = some d) : Ent (c.toHP :: hps L) (hps (L.set k c)) := by
  refine Ent.trans (b := c.toHP :: d.toHP :: (hps L).eraseIdx k) (.cons _ (Ent.perm (perm_take k (hps L) d.toHP (by simp [h])))) ?_
  refine Ent.trans (.cons _ Ent.drop) (Ent.perm ?_)
  exact (perm_set h).symm
def clr (L : List Chunk) : List Nat → List Chunk
  | [] => L
  | k :: ks => clr (L.set k .emp) ks
theorem clr_set {L : List Chunk} {ks : List Nat} {k : Nat} {c : Chunk} (h : k ∉ ks) : clr (L.set k c) ks = (clr L ks).set k c := by
  induction ks generalizing L with
  | nil => rfl
  | cons j r ih =>
    have h1 : k ≠ j := fun e => h (e ▸ List.mem_cons_self)
    simp only [clr]
    rw [List.set_comm _ _ h1, ih (fun hm => h (List.mem_cons_of_mem _ hm))]
theorem clr_length {L : List Chunk} {ks : List Nat} : (clr L ks).length = L.length := by
  induction ks generalizing L with
  | nil => rfl
  | cons j r ih => simp [clr, ih]
theorem upd_length {L : List Chunk} {ks : List Nat} {δ : List Chunk} : (upd L ks δ).length = L.length := by
  induction ks generalizing L δ with
  | nil => cases δ <;> rfl
  | cons j r ih => cases δ <;> simp [upd, ih]
theorem upd_clr {L : List Chunk} {ks : List Nat} {cs : List Chunk} (hn : ks.Nodup) (hl : cs.length = ks.length) : upd (clr L ks) ks cs = upd L ks cs := by
  induction ks generalizing L cs with
  | nil => cases cs <;> rfl
  | cons k r ih =>
    cases cs with
    | nil => simp at hl
    | cons c cs =>
      obtain ⟨h1, h2⟩ := List.nodup_cons.1 hn
      simp only [clr, upd]
      rw [← clr_set h1, List.set_set, ih h2 (by simpa using hl)]
theorem sel_set {L : List Chunk} {ks : List Nat} {k : Nat} {c : Chunk} (h : k ∉ ks) : sel (L.set k c) ks = sel L ks :=
  sel_upd (ws := [k]) (δ := [c]) (fun x hx => by simp at hx; subst hx; exact h)
theorem ent_take' {L : List Chunk} (k : Nat) : Ent (hps L) ((L.getD k .emp).toHP :: hps (L.set k .emp)) := by
  rcases Nat.lt_or_ge k L.length with h | h
  · have := ent_take (L := L) (k := k) (c := L.getD k .emp) (by simp [List.getD, List.getElem?_eq_getElem h])
    exact this
  · rw [List.set_eq_of_length_le h]
    simp only [List.getD, List.getElem?_eq_none h]
    exact Ent.emp
theorem ent_put' {L : List Chunk} (k : Nat) {c : Chunk} : Ent (c.toHP :: hps L) (hps (L.set k c)) := by
  rcases Nat.lt_or_ge k L.length with h | h
  · exact ent_put (List.getElem?_eq_getElem h)
  · rw [List.set_eq_of_length_le h]; exact Ent.drop
theorem ent_sel {L : List Chunk} {ks : List Nat} (hn : ks.Nodup) : Ent (hps L) (hps (sel L ks) ++ hps (clr L ks)) := by
  induction ks generalizing L with
  | nil => exact Ent.refl _
  | cons k r ih =>
    obtain ⟨h1, h2⟩ := List.nodup_cons.1 hn
    have hs : sel L (k :: r) = L.getD k .emp :: sel L r := rfl
    rw [hs]
    refine (ent_take' k).trans (.cons _ ?_)
    have := ih (L := L.set k .emp) h2
    rwa [sel_set h1] at this
theorem ent_upd {L : List Chunk} {ks : List Nat} {cs : List Chunk} (hl : cs.length = ks.length) : Ent (hps cs ++ hps L) (hps (upd L ks cs)) := by
  induction ks generalizing L cs with
  | nil => cases cs with
    | nil => exact Ent.refl _
    | cons c cs => simp at hl
  | cons k r ih =>
    cases cs with
    | nil => simp at hl
    | cons c cs =>
      simp only [upd]
      refine Ent.trans (b := hps cs ++ (c.toHP :: hps L)) (Ent.perm ?_) ?_
      · exact List.perm_middle.symm
      · refine Ent.trans (Ent.left _ (ent_put' k)) ?_
        exact ih (by simpa using hl)
theorem upd_self {L : List Chunk} {ks : List Nat} : upd L ks (sel L ks) = L := by
  induction ks with
  | nil => rfl
  | cons k r ih =>
    have : L.set k (L.getD k .emp) = L := by
      by_cases hk : k < L.length
      · simp [List.getD, List.getElem?_eq_getElem hk]
      · exact List.set_eq_of_length_le (by omega)
    show upd (L.set k (L.getD k .emp)) r (sel L r) = L
    rw [this]; exact ih
theorem upd_append {L : List Chunk} {ks js : List Nat} {cs ds : List Chunk} (h : cs.length = ks.length) : upd L (ks ++ js) (cs ++ ds) = upd (upd L ks cs) js ds := by
  induction ks generalizing L cs with
  | nil => cases cs with
    | nil => cases js <;> cases ds <;> rfl
    | cons c cs => simp at h
  | cons k r ih =>
    cases cs with
    | nil => simp at h
    | cons c cs => simp only [List.cons_append, upd]; exact ih (by simpa using h)
theorem sel_append {L : List Chunk} {ks js : List Nat} : sel L (ks ++ js) = sel L ks ++ sel L js := by simp [sel]
theorem sel_length {L : List Chunk} {ks : List Nat} : (sel L ks).length = ks.length := by simp [sel]

/-! ### What is made -/
def AllocOp (P : Program) (o : Oper) (vs : List Value) (p : Obj × (Nat → Value)) : Prop :=
  ∀ ρ : Operand → Value, o.op.operands.toList.map ρ = vs → ∀ w, (execOp ρ o).run P w = .ok (.value (p.2 w.heap.size)) (w.alloc p.1)
noncomputable def Spec.al (P : Program) (o : Oper) (k : Nat) : Spec := ⟨[], [k], Nat, 0, fun g vs _ => open Classical in if h : ∃ p, AllocOp P o vs p then some ((Classical.choose h).2 g, [.blk g (Classical.choose h).1]) else none⟩
theorem alloc_one {P : Program} {o : Oper} {vs : List Value} {p p' : Obj × (Nat → Value)} (h : AllocOp P o vs p) (h' : AllocOp P o vs p') (hvs : ∃ ρ : Operand → Value, o.op.operands.toList.map ρ = vs) : p = p' := by
  obtain ⟨ρ, hρ⟩ := hvs
  have key : ∀ w : World, p.2 w.heap.size = p'.2 w.heap.size ∧ w.alloc p.1 = w.alloc p'.1 := fun w => by
    have e := (h ρ hρ w).symm.trans (h' ρ hρ w)
    injection e with e1 e2
    injection e1 with e1
    exact ⟨e1, e2⟩
  obtain ⟨a, b⟩ := p
  obtain ⟨a', b'⟩ := p'
  have h1 : a = a' := by
    have := (key default).2
    simp only [World.alloc] at this
    injection this with h1
    exact (Array.push_inj_right.1 h1 : _)
  have h2 : b = b' := by
    funext g
    have := (key { (default : World) with heap := Array.replicate g (.stringIter ByteArray.empty 0) }).1
    simpa using this
  rw [h1, h2]
theorem vals_ex {env : Env} : ∀ {xs : List Operand} {vs : List Value}, evL env xs = some vs → ∃ ρ : Operand → Value, xs.map ρ = vs := by
  intro xs vs hvs
  refine ⟨fun x => (evE env x).getD undef, ?_⟩
  induction xs generalizing vs with
  | nil => simp [evL] at hvs; subst hvs; rfl
  | cons x l ih =>
    unfold evL at hvs
    cases h1 : evE env x with
    | none => simp [h1] at hvs
    | some u =>
      cases h2 : evL env l with
      | none => simp [h1, h2] at hvs
      | some us =>
        simp [h1, h2] at hvs
        subst hvs
        simp [h1, ih h2]
theorem SatC.alloc {w : World} {L : List Chunk} (h : SatC w L) (o : Obj) (k : Nat) : SatC (w.alloc o) (L.set k (.blk w.heap.size o)) := by
  have h1 := Sat.alloc h o
  by_cases hk : k < L.length
  · exact (ent_put (c := .blk w.heap.size o) (List.getElem?_eq_getElem hk)).sat h1
  · rw [List.set_eq_of_length_le (by omega)]; exact h1.tail
theorem sound_al {P : Program} {o : Oper} {k : Nat} : Sound P o (Spec.al P o k) := by
  intro a w L K Q hs hp hk
  obtain ⟨v, δ, hf⟩ := hp w.heap.size
  have hf0 := hf
  simp only [Spec.al] at hf
  split at hf
  · rename_i hh
    injection hf with hf
    injection hf with h1 h2
    subst h1; subst h2
    have hv := Classical.choose_spec hh
    unfold Oper.wp
    rw [hv a.eval rfl w]
    exact hk w.heap.size _ _ _ hf0 (SatC.alloc hs _ k) ⟨rfl, rfl, rfl, by simp⟩
  · cases hf
theorem st_al {P : Program} {o : Oper} {n : Nat} {env : Env} {L : List Chunk} {K : Env → List Chunk → Prop} {vs : List Value} {obj : Obj} {vf : Nat → Value} {d : Nat} (j : Nat) (h : AllocOp P o vs (obj, vf)) (hvs : evL env o.op.operands.toList = some vs) (hd : o.dst = some d) (hn : Nat.blt d n = true)
    (k : ∀ g, K ((d, vf g) :: env) (L.set j (.blk g obj))) : StepOk P o (Spec.al P o j) n env L K := by
  refine ⟨vs, hvs, by rw [hd]; exact hn, sound_al, fun g => ⟨vf g, [.blk g obj], ?_, ?_⟩⟩
  · have hex : ∃ p, AllocOp P o vs p := ⟨_, h⟩
    simp only [Spec.al]
    rw [dif_pos hex, alloc_one (Classical.choose_spec hex) h (vals_ex hvs)]
  · rw [hd]; exact k g

section
variable {P : Program} {o : Oper} {n : Nat} {env : Env} {L : List Chunk} {K : Env → List Chunk → Prop}
theorem st_ld {t : TypeId} {x : Operand} {d : TypeDesc} {a : Addr} {v : Value} {c : Chunk} {dd : Nat} (j : Nat) (ho : o.op = .load t x) (hu : P.underlying t = some d) (ha : aggT d = false) (hx : evE env x = some (.pointer (some a))) (hc : L[j]? = some c) (hv : c.cell a = some v) (hd : o.dst = some dd) (hn : Nat.blt dd n = true)
    (k : K ((dd, v) :: env) L) : StepOk P o (Spec.ld j) n env L K := by
  refine ⟨[.pointer (some a)], by simp [ho, Op.operands, evL, hx], by rw [hd]; exact hn, sound_ld ho hu ha, fun g => ⟨v, [], ?_, ?_⟩⟩
  · simp only [Spec.ld, Spec.fn, List.append_nil, sel1 hc, hv, Option.map_some]
  · rw [hd]; exact k
theorem st_ldN {t : TypeId} {x : Operand} {d : TypeDesc} {a : Addr} {vs : List Value} {c : Chunk} {dd s : Nat} (j : Nat) (ho : o.op = .load t x) (hu : P.underlying t = some d) (ha : aggT d = true) (hi : (P.info? t).map (·.size) = some s) (hx : evE env x = some (.pointer (some a))) (hc : L[j]? = some c) (hv : c.cells a 0 s = some vs) (hd : o.dst = some dd) (hn : Nat.blt dd n = true)
    (k : K ((dd, .agg vs.toArray) :: env) L) : StepOk P o (Spec.ldN j s) n env L K := by
  refine ⟨[.pointer (some a)], by simp [ho, Op.operands, evL, hx], by rw [hd]; exact hn, sound_ldN ho hu ha hi, fun g => ⟨.agg vs.toArray, [], ?_, ?_⟩⟩
  · simp only [Spec.ldN, Spec.fn, List.append_nil, sel1 hc, hv, Option.map_some]
  · rw [hd]; exact k

open Classical in
/-- A store of a value of so many cells. -/
noncomputable def Spec.sto (k s : Nat) : Spec := Spec.fn [] [k] fun vs cs => match vs, cs with
  | [.pointer (some a), v], [c] => if v.cells.size = s then (Chunk.puts a 0 v.cells.toList c).map fun c' => (undef, [c']) else none
  | _, _ => none
theorem sound_sto {t : TypeId} {x y : Operand} {k s : Nat} (ho : o.op = .store t x y) (hi : (P.info? t).map (·.size) = some s) : Sound P o (Spec.sto k s) := by
  intro a w L K Q hs hp hk
  obtain ⟨v, δ, hf⟩ := hp ()
  have hf0 := hf
  have hv : Oper.vals o a = [a.eval x, a.eval y] := by simp [Oper.vals, ho, Op.operands]
  simp only [Spec.sto, Spec.fn, hv, List.nil_append] at hf
  have key : ∀ c, sel L [k] = [c] → (L[k]? = some c ∨ (L[k]? = none ∧ c = .emp)) → o.wp P a w K Q := by
    intro c hsel hL
    rw [hsel] at hf
    split at hf
    · rename_i ad v1 c0 h1 h2
      simp only [List.cons.injEq, and_true] at h1 h2
      subst h2
      obtain ⟨h1, rfl⟩ := h1
      split at hf
      · rename_i hsize
        cases hc : Chunk.puts ad 0 (a.eval y).cells.toList c with
        | none => simp [hc] at hf
        | some c' =>
          simp [hc] at hf
          obtain ⟨rfl, rfl⟩ := hf
          rcases hL with hL | ⟨hL, rfl⟩
          · obtain ⟨w', hr0, hs', he⟩ := puts_spec (P := P) _ 0 c c' w _ (SatC.take hs k hL) hc
            have hr : (execOp a.eval o).run P w = .ok .skip w' := by
              simp [execOp, ho, Instr.storeAt, h1, Instr.sureAddr, storeVar, run_size hi, hsize, hr0]
            unfold Oper.wp
            rw [hr]
            exact hk () undef [c'] w' hf0 (SatC.put k hL hs') he
          · cases hl : (a.eval y).cells.toList with
            | nil =>
              have hr : (execOp a.eval o).run P w = .ok .skip w := by
                have h0 : (storeCells ad []).run P w = .ok () w := rfl
                simp [execOp, ho, Instr.storeAt, h1, Instr.sureAddr, storeVar, run_size hi, hsize, hl, h0]
              unfold Oper.wp
              rw [hr]
              refine hk () undef [c'] w hf0 ?_ (Ext.refl w)
              simp only [Spec.sto, Spec.fn, upd]
              rw [List.set_eq_of_length_le (by simpa using hL)]
              exact hs
            | cons u us => simp [hl, Chunk.puts, Chunk.put] at hc
      · cases hf
    · cases hf
  cases hL : L[k]? with
  | none => exact key .emp (by simp [sel, List.getD, hL]) (.inr ⟨hL, rfl⟩)
  | some c => exact key c (sel1 hL) (.inl hL)
theorem st_st {t : TypeId} {x y : Operand} {a : Addr} {v : Value} {c c' : Chunk} {s : Nat} (j : Nat) (ho : o.op = .store t x y) (hi : (P.info? t).map (·.size) = some s) (hx : evE env x = some (.pointer (some a))) (hy : evE env y = some v) (hc : L[j]? = some c) (hs : v.cells.size = s) (hv : Chunk.puts a 0 v.cells.toList c = some c') (hd : o.dst = none)
    (k : K env (L.set j c')) : StepOk P o (Spec.sto j s) n env L K := by
  refine ⟨[.pointer (some a), v], by simp [ho, Op.operands, evL, hx, hy], by rw [hd]; rfl, sound_sto ho hi, fun g => ⟨undef, [c'], ?_, ?_⟩⟩
  · simp only [Spec.sto, Spec.fn, List.nil_append, sel1 hc, hs, if_true, hv, Option.map_some]
  · rw [hd]; exact k

/-! ### Calls -/
/-- What a function does with what it reads (rc) and turns (wc). -/
def Ct (P : Program) (F : FuncId) (args : List Value) (rc wc : List Chunk) {X : Type} (val : X → Value) (wn : X → List Chunk) : Prop :=
  ∀ w (l : List HP), Sat w (hps (rc ++ wc) ++ l) → Calls P F args.toArray w fun e w' => ∃ x, e = .returned (val x) ∧ Sat w' (hps (rc ++ wn x) ++ l) ∧ Ext w w'
open Classical in
noncomputable def Spec.ct (R W : List Nat) (cv : Value) (args : List Value) (rc wc : List Chunk) {X : Type} (x0 : X) (val : X → Value) (wn : X → List Chunk) : Spec :=
  ⟨R, W, X, x0, fun x vs cs => if vs = cv :: args ∧ cs = rc ++ wc then some (val x, wn x) else none⟩
/-- A named function that has a body. -/
structure FnIs (P : Program) (F : FuncId) (fn : Func) : Prop where
  at_ : P.funcs[F]? = some fn
  body : fn.body.isNone = false
  name : (fn.name == "runtime.NumGoroutine") = false
theorem run_callFunc {F : FuncId} {fn : Func} (h : FnIs P F fn) (args : Array Value) (w : World) : (callFunc F args).run P w = .ok (.enter F args) w := by
  have hb := h.body
  have hn := h.name
  simp only [Option.isNone_eq_false_iff, Option.isSome_iff_ne_none, beq_eq_false_iff_ne] at hb hn
  unfold callFunc
  simp [program, Sem.run, h.at_, hb, hn]
theorem sound_ct {R W : List Nat} {F : FuncId} {fn : Func} {f : Operand} {as : Array Operand} {ts : Array TypeId} {fi ca : Array Value} {args : List Value} {rc wc : List Chunk} {X : Type} {x0 : X} {val : X → Value} {wn : X → List Chunk}
    (ho : o.op = .call ⟨.value f, as, ts⟩) (hf : FnIs P F fn) (hn : (R ++ W).Nodup) (hrl : rc.length = R.length) (hwl : ∀ x, (wn x).length = W.length) (hct : Ct P F (fi.toList ++ args ++ ca.toList) rc wc val wn) : Sound P o (Spec.ct R W (.func (.func F) fi ca) args rc wc x0 val wn) := by
  intro a w L K Q hs hp hk
  obtain ⟨v, δ, hf0⟩ := hp x0
  have hf1 := hf0
  simp only [Spec.ct] at hf1
  split at hf1
  · rename_i hh
    obtain ⟨hvs, hcs⟩ := hh
    have hvals : Oper.vals o a = a.eval f :: (as.map a.eval).toList := by simp [Oper.vals, ho, Op.operands, Call.operands]
    rw [hvals] at hvs
    injection hvs with h1 h2
    have hsat := (ent_sel hn).sat hs
    rw [hcs] at hsat
    have hcall := hct w _ hsat
    have hr : (execOp a.eval o).run P w = .ok (.enter F (fi.toList ++ args ++ ca.toList).toArray) w := by
      have e : (fi.toList ++ args ++ ca.toList).toArray = fi ++ as.map a.eval ++ ca := by
        apply Array.ext'
        simp [← h2]
      rw [e]
      simp [execOp, ho, resolve, h1, Deferred.ofValue, invoke, run_callFunc hf]
    unfold Oper.wp
    rw [hr, Oper.upon_enter]
    refine hcall.mono fun e w' ⟨x, he, h3, h4⟩ => ?_
    subst he
    refine hk x (val x) (wn x) w' ?_ ?_ h4
    · simp only [Spec.ct]
      rw [if_pos ⟨by rw [hvals, h1, h2], hcs⟩]
    · have h5 := (ent_upd (L := clr L (R ++ W)) (ks := R ++ W) (cs := rc ++ wn x) (by simp [hrl, hwl])).sat h3
      rw [upd_clr hn (by simp [hrl, hwl]), upd_append hrl] at h5
      have h6 : rc = sel L R := by
        rw [sel_append] at hcs
        exact ((List.append_inj hcs (by simp [sel_length, hrl])).1).symm
      rw [h6, upd_self] at h5
      exact h5
  · cases hf1
theorem st_ct {R W : List Nat} {F : FuncId} {fn : Func} {f : Operand} {as : Array Operand} {ts : Array TypeId} {fi ca : Array Value} {args : List Value} {rc wc : List Chunk} {X : Type} {x0 : X} {val : X → Value} {wn : X → List Chunk} {dd : Nat}
    (hct : Ct P F (fi.toList ++ args ++ ca.toList) rc wc val wn) (hf : FnIs P F fn) (ho : o.op = .call ⟨.value f, as, ts⟩) (hfv : evE env f = some (.func (.func F) fi ca)) (hvs : evL env as.toList = some args) (hcs : sel L (R ++ W) = rc ++ wc) (hn : (R ++ W).Nodup) (hrl : rc.length = R.length) (hwl : ∀ x, (wn x).length = W.length) (hd : o.dst = some dd) (hnn : Nat.blt dd n = true)
    (k : ∀ x, K ((dd, val x) :: env) (upd L W (wn x))) : StepOk P o (Spec.ct R W (.func (.func F) fi ca) args rc wc x0 val wn) n env L K := by
  refine ⟨.func (.func F) fi ca :: args, by simp [ho, Op.operands, Call.operands, evL, hfv, hvs], by rw [hd]; exact hnn, sound_ct ho hf hn hrl hwl hct, fun x => ⟨val x, wn x, ?_, ?_⟩⟩
  · simp only [Spec.ct]
    rw [if_pos ⟨rfl, hcs⟩]
  · rw [hd]; exact k x
end
end Go.Proofs.YtompmejidaddoaaDoor
