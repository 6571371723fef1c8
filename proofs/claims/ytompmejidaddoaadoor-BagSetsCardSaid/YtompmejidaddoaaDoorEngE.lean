/- The engine: regions in the text's order and in any; the rules of code; how a call begins and ends. No program. -/
import Derived.Test.YtompmejidaddoaaDoorEngD
set_option linter.unusedVariables false
set_option linter.unusedSimpArgs false
namespace Go.Proofs.YtompmejidaddoaaDoor
open Go Go.RowKit

structure St (n : Nat) (w0 : World) (env : Env) (L : List Chunk) (a : Act) (w : World) : Prop where
  ae : AE n env a
  sat : SatC w L
  ext : Ext w0 w
def W (P : Program) (c : Code) (Q : Exit → Act → World → Prop) (n : Nat) (w0 : World) (env : Env) (L : List Chunk) : Prop := ∀ a w, St n w0 env L a w → c.wp P Q a w
def WQ (Q : Exit → Act → World → Prop) (x : Exit) (n : Nat) (w0 : World) (env : Env) (L : List Chunk) : Prop := ∀ a w, St n w0 env L a w → Q x a w

def nthO : List Oper → Nat → Option Oper
  | [], _ => none
  | o :: _, 0 => some o
  | _ :: l, n + 1 => nthO l n
theorem nthO_eq {l : List Oper} {i : Nat} : nthO l i = l[i]? := by
  induction l generalizing i with
  | nil => rfl
  | cons o l ih => cases i with
    | zero => rfl
    | succ i => simpa [nthO] using ih
def cA : Code → Code
  | .seq a _ => a
  | .cond _ a _ => a
  | .block _ b => b
  | .loop b => b
  | .scope b => b
  | _ => .skip
def cB : Code → Code
  | .seq _ b => b
  | .cond _ _ b => b
  | _ => .skip
def cOps : Code → Array Oper
  | .region _ ops _ => ops
  | _ => #[]
abbrev cL (c : Code) : List Oper := (cOps c).toList

section
variable {P : Program} {Q : Exit → Act → World → Prop} {n : Nat} {w0 : World} {env : Env} {L : List Chunk} {c : Code}

/-! ### Regions in the text's order -/
def RN (P : Program) (ops : Array Oper) (Q : Exit → Act → World → Prop) (n : Nat) (w0 : World) (m i : Nat) (env : Env) (L : List Chunk) : Prop :=
  ∀ a w, St n w0 env L a w → wpOps P ops Q (List.range' i (m - i)) a w
theorem range'_cons {i m : Nat} (h : i < m) : List.range' i (m - i) = i :: List.range' (i + 1) (m - (i + 1)) := by
  have : m - i = (m - (i + 1)) + 1 := by omega
  rw [this, List.range'_succ]
theorem yield_of {ops : Array Oper} {a : Act} {j : Nat} {oj : Oper} {d : Nat} {b : Bool} (h : AE n env a) (hj : nthO ops.toList j = some oj) (hd : oj.dst = some d) (hb : lk d env = some (.bool b)) : yielded ops a.tmps j = some b := by
  rw [nthO_eq, Array.getElem?_toList] at hj
  unfold yielded
  rw [hj]
  simp only [Option.bind_some, hd, h.env _ _ hb]
variable {ops : Array Oper} {m i : Nat} {o : Oper}
theorem RN_step (ho : nthO ops.toList i = some o) (hm : Nat.blt i m = true) (hw : ∀ a, AE n env a → Region.wanted o (yielded ops a.tmps) = true) {s : Spec} (h : StepOk P o s n env L (fun env L => RN P ops Q n w0 m (i + 1) env L)) : RN P ops Q n w0 m i env L := by
  intro a w hs
  rw [nthO_eq, Array.getElem?_toList] at ho
  rw [range'_cons (by simpa [Nat.blt_eq] using hm), wpOps_cons]
  unfold wpOp
  simp only [ho]
  rw [if_pos (hw a hs.ae)]
  obtain ⟨vs, h1, h2, h3, h4⟩ := h
  have hv : Oper.vals o a = vs := hs.ae.evals h1
  refine .inl (h3 a w L _ _ hs.sat (fun g => by rw [hv]; exact let ⟨v, δ, h5, _⟩ := h4 g; ⟨v, δ, h5⟩) fun g v δ w' h5 h6 h7 => ?_)
  obtain ⟨v', δ', h8, h9⟩ := h4 g
  rw [hv, h8] at h5
  injection h5 with h5
  injection h5 with h5a h5b
  subst h5a; subst h5b
  exact h9 _ w' ⟨hs.ae.put _ _ h2, h6, hs.ext.trans h7⟩
theorem RN_op {s : Spec} (ho : nthO ops.toList i = some o) (hm : Nat.blt i m = true) (hg : o.guard = none) (h : StepOk P o s n env L (fun env L => RN P ops Q n w0 m (i + 1) env L)) : RN P ops Q n w0 m i env L :=
  RN_step ho hm (fun a _ => by simp [Region.wanted, hg]) h
theorem RN_gT {s : Spec} {j d : Nat} {oj : Oper} {b : Bool} (ho : nthO ops.toList i = some o) (hm : Nat.blt i m = true) (hg : o.guard = some (j, b)) (hj : nthO ops.toList j = some oj) (hd : oj.dst = some d) (hb : lk d env = some (.bool b)) (h : StepOk P o s n env L (fun env L => RN P ops Q n w0 m (i + 1) env L)) : RN P ops Q n w0 m i env L :=
  RN_step ho hm (fun a ha => by simp [Region.wanted, hg, yield_of ha hj hd hb]) h
theorem RN_gF {j d dd : Nat} {oj : Oper} {b b' : Bool} (ho : nthO ops.toList i = some o) (hm : Nat.blt i m = true) (hg : o.guard = some (j, b)) (hj : nthO ops.toList j = some oj) (hd : oj.dst = some d) (hb : lk d env = some (.bool b')) (hne : (b' == b) = false) (hdd : o.dst = some dd) (hn : Nat.blt dd n = true) (h : RN P ops Q n w0 m (i + 1) ((dd, undef) :: env) L) : RN P ops Q n w0 m i env L := by
  intro a w hs
  rw [nthO_eq, Array.getElem?_toList] at ho
  rw [range'_cons (by simpa [Nat.blt_eq] using hm), wpOps_cons]
  unfold wpOp
  simp only [ho]
  rw [if_neg (by simp only [Region.wanted, hg, yield_of hs.ae hj hd hb]; simpa using hne)]
  rw [hdd]
  exact h _ w ⟨hs.ae.put (some dd) undef hn, hs.sat, hs.ext⟩
/-- A skip where the guard itself was passed over. -/
theorem RN_gU {j d dd : Nat} {oj : Oper} {b : Bool} (ho : nthO ops.toList i = some o) (hm : Nat.blt i m = true) (hg : o.guard = some (j, b)) (hj : nthO ops.toList j = some oj) (hd : oj.dst = some d) (hb : lk d env = some undef) (hdd : o.dst = some dd) (hn : Nat.blt dd n = true) (h : RN P ops Q n w0 m (i + 1) ((dd, undef) :: env) L) : RN P ops Q n w0 m i env L := by
  intro a w hs
  rw [nthO_eq, Array.getElem?_toList] at ho
  rw [range'_cons (by simpa [Nat.blt_eq] using hm), wpOps_cons]
  unfold wpOp
  simp only [ho]
  have hy : yielded ops a.tmps j = none := by
    rw [nthO_eq, Array.getElem?_toList] at hj
    unfold yielded
    rw [hj]
    simp only [Option.bind_some, hd, hs.ae.env _ _ hb]; rfl
  rw [if_neg (by simp [Region.wanted, hg, hy])]
  rw [hdd]
  exact h _ w ⟨hs.ae.put (some dd) undef hn, hs.sat, hs.ext⟩
theorem RN_end (h : WQ Q .normal n w0 env L) : RN P ops Q n w0 m m env L := by
  intro a w hs
  rw [Nat.sub_self]
  exact h a w hs
/-- What is known is turned to other words. -/
theorem RN_conv {env' : Env} {L' : List Chunk} (he : ∀ t v, lk t env' = some v → lk t env = some v) (hl : Ent (hps L) (hps L')) (h : RN P ops Q n w0 m i env' L') : RN P ops Q n w0 m i env L :=
  fun a w hs => h a w ⟨hs.ae.sub he, hl.sat hs.sat, hs.ext⟩
def CutQ (n : Nat) (w0 : World) (env : Env) (L : List Chunk) : Exit → Act → World → Prop := fun x a w => x = .normal ∧ St n w0 env L a w
theorem wpOps_append {l2 : List Nat} : ∀ {l1 : List Nat} {a : Act} {w : World}, wpOps P ops (fun x a w => x = .normal ∧ wpOps P ops Q l2 a w) l1 a w → wpOps P ops Q (l1 ++ l2) a w
  | [], a, w, h => h.2
  | i :: l1, a, w, h => by
    rw [List.cons_append, wpOps_cons]
    rw [wpOps_cons] at h
    unfold wpOp at h ⊢
    cases ho : ops[i]? with
    | none => simp only [ho] at h ⊢; exact wpOps_append h
    | some o =>
      simp only [ho] at h ⊢
      split at h
      · rename_i hw
        rw [if_pos hw]
        rcases h with h | ⟨_, a', w', h, _⟩
        · refine .inl ?_
          unfold Oper.wp at h ⊢
          generalize (execOp a.eval o).run P w = r at h ⊢
          cases r with
          | ok x w' =>
            cases x <;> simp only [Oper.upon] at h ⊢
            case enter f args =>
              refine h.mono fun e w'' he => ?_
              cases e with
              | returned v => exact wpOps_append he
              | panicked ch => exact absurd he.1 (by simp)
              | outgrown => obtain ⟨_, _, hh, _⟩ := he; cases hh
            case row r args => exact h.mono fun v w'' he => wpOps_append he
            all_goals exact wpOps_append h
          | halt x w' => cases x <;> simp only [Oper.upon] at h ⊢; exact absurd h.1 (by simp)
        · cases h
      · rename_i hw
        rw [if_neg hw]
        exact wpOps_append h
theorem wpOps_mono {Q' : Exit → Act → World → Prop} (hq : ∀ x a w, Q x a w → Q' x a w) : ∀ {l : List Nat} {a : Act} {w : World}, wpOps P ops Q l a w → wpOps P ops Q' l a w
  | [], a, w, h => hq _ _ _ h
  | i :: l1, a, w, h => by
    rw [wpOps_cons] at h ⊢
    unfold wpOp at h ⊢
    cases ho : ops[i]? with
    | none => simp only [ho] at h ⊢; exact wpOps_mono hq h
    | some o =>
      simp only [ho] at h ⊢
      split at h
      · rename_i hw
        rw [if_pos hw]
        rcases h with h | ⟨h1, a', w', h⟩
        · refine .inl ?_
          unfold Oper.wp at h ⊢
          generalize (execOp a.eval o).run P w = r at h ⊢
          cases r with
          | ok x w' =>
            cases x <;> simp only [Oper.upon] at h ⊢
            case enter f args =>
              refine h.mono fun e w'' he => ?_
              cases e with
              | returned v => exact wpOps_mono hq he
              | panicked ch => exact hq _ _ _ he
              | outgrown => obtain ⟨_, _, hh⟩ := he; exact ⟨_, _, hq _ _ _ hh⟩
            case row r args => exact h.mono fun v w'' he => wpOps_mono hq he
            all_goals exact wpOps_mono hq h
          | halt x w' => cases x <;> simp only [Oper.upon] at h ⊢; exact hq _ _ _ h
        · exact .inr ⟨h1, a', w', hq _ _ _ h⟩
      · rename_i hw
        rw [if_neg hw]
        exact wpOps_mono hq h
/-- A cut within a region. -/
theorem RN_cut (j : Nat) (env' : Env) (L' : List Chunk) (hj : Nat.ble i j = true) (hm : Nat.ble j m = true) (h1 : RN P ops (CutQ n w0 env' L') n w0 j i env L) (h2 : RN P ops Q n w0 m j env' L') : RN P ops Q n w0 m i env L := by
  intro a w hs
  have h3 := h1 a w hs
  have hi : i ≤ j := by simpa [Nat.ble_eq] using hj
  have hm' : j ≤ m := by simpa [Nat.ble_eq] using hm
  have e : List.range' i (m - i) = List.range' i (j - i) ++ List.range' j (m - j) := by
    have e1 : m - i = (j - i) + (m - j) := by omega
    rw [e1, ← List.range'_append_1]
    congr 2
    omega
  rw [e]
  exact wpOps_append (wpOps_mono (fun x a w ⟨hx, hst⟩ => ⟨hx, h2 a w hst⟩) h3)
theorem cut_end {env' : Env} {L' : List Chunk} (he : ∀ t v, lk t env' = some v → lk t env = some v) (hl : Ent (hps L) (hps L')) : WQ (CutQ n w0 env' L') .normal n w0 env L :=
  fun a w hs => ⟨rfl, hs.ae.sub he, hl.sat hs.sat, hs.ext⟩
/-- Each of these is known. -/
def AllIn (env : Env) : Env → Prop
  | [] => True
  | (t, v) :: r => lk t env = some v ∧ AllIn env r
theorem AllIn.sub {env : Env} : ∀ {env' : Env}, AllIn env env' → ∀ t v, lk t env' = some v → lk t env = some v
  | [], _, t, v, h => by simp [lk] at h
  | (s, u) :: r, h, t, v, hv => by
    simp only [lk] at hv
    by_cases e : s = t
    · subst e
      simp at hv
      subst hv
      exact h.1
    · have : Nat.beq s t = false := by rw [← Bool.not_eq_true, Nat.beq_eq]; exact e
      simp [this] at hv
      exact AllIn.sub h.2 t v hv

/-! ### Regions in any order -/
def RG (P : Program) (ops : Array Oper) (S : Nat → Spec) (F : Act → List Chunk → Prop) (n m i : Nat) (env : Env) (L : List Chunk) : Prop :=
  ∀ a, AE n env a → SQ P ops S F (List.range' i (m - i)) a L
variable {S : Nat → Spec} {F : Act → List Chunk → Prop}
theorem RG_step (ho : nthO ops.toList i = some o) (hm : Nat.blt i m = true) (hw : ∀ a, AE n env a → Region.wanted o (yielded ops a.tmps) = true) {s : Spec} (hS : S i = s) (h : StepOk P o s n env L (fun env L => RG P ops S F n m (i + 1) env L)) : RG P ops S F n m i env L := by
  intro a hs
  rw [nthO_eq, Array.getElem?_toList] at ho
  rw [range'_cons (by simpa [Nat.blt_eq] using hm)]
  unfold SQ
  simp only [ho]
  rw [if_pos (hw a hs)]
  obtain ⟨vs, h1, h2, h3, h4⟩ := h
  have hv : Oper.vals o a = vs := hs.evals h1
  subst hS
  refine ⟨h3, fun g => ?_⟩
  obtain ⟨v, δ, h8, h9⟩ := h4 g
  rw [hv]
  exact ⟨v, δ, h8, h9 _ (hs.put _ _ h2)⟩
theorem RG_op {s : Spec} (ho : nthO ops.toList i = some o) (hm : Nat.blt i m = true) (hg : o.guard = none) (hS : S i = s) (h : StepOk P o s n env L (fun env L => RG P ops S F n m (i + 1) env L)) : RG P ops S F n m i env L :=
  RG_step ho hm (fun a _ => by simp [Region.wanted, hg]) hS h
theorem RG_gT {s : Spec} {j d : Nat} {oj : Oper} {b : Bool} (ho : nthO ops.toList i = some o) (hm : Nat.blt i m = true) (hg : o.guard = some (j, b)) (hj : nthO ops.toList j = some oj) (hd : oj.dst = some d) (hb : lk d env = some (.bool b)) (hS : S i = s) (h : StepOk P o s n env L (fun env L => RG P ops S F n m (i + 1) env L)) : RG P ops S F n m i env L :=
  RG_step ho hm (fun a ha => by simp [Region.wanted, hg, yield_of ha hj hd hb]) hS h
theorem RG_skip {dd : Nat} (ho : nthO ops.toList i = some o) (hm : Nat.blt i m = true) (hw : ∀ a, AE n env a → ¬ Region.wanted o (yielded ops a.tmps) = true) (hdd : o.dst = some dd) (hn : Nat.blt dd n = true) (h : RG P ops S F n m (i + 1) ((dd, undef) :: env) L) : RG P ops S F n m i env L := by
  intro a hs
  rw [nthO_eq, Array.getElem?_toList] at ho
  rw [range'_cons (by simpa [Nat.blt_eq] using hm)]
  unfold SQ
  simp only [ho]
  rw [if_neg (hw a hs), hdd]
  exact h _ (hs.put (some dd) undef hn)
theorem RG_gF {j d dd : Nat} {oj : Oper} {b b' : Bool} (ho : nthO ops.toList i = some o) (hm : Nat.blt i m = true) (hg : o.guard = some (j, b)) (hj : nthO ops.toList j = some oj) (hd : oj.dst = some d) (hb : lk d env = some (.bool b')) (hne : (b' == b) = false) (hdd : o.dst = some dd) (hn : Nat.blt dd n = true) (h : RG P ops S F n m (i + 1) ((dd, undef) :: env) L) : RG P ops S F n m i env L :=
  RG_skip ho hm (fun a ha => by simp only [Region.wanted, hg, yield_of ha hj hd hb]; simpa using hne) hdd hn h
theorem RG_gU {j d dd : Nat} {oj : Oper} {b : Bool} (ho : nthO ops.toList i = some o) (hm : Nat.blt i m = true) (hg : o.guard = some (j, b)) (hj : nthO ops.toList j = some oj) (hd : oj.dst = some d) (hb : lk d env = some undef) (hdd : o.dst = some dd) (hn : Nat.blt dd n = true) (h : RG P ops S F n m (i + 1) ((dd, undef) :: env) L) : RG P ops S F n m i env L := by
  refine RG_skip ho hm (fun a ha => ?_) hdd hn h
  have hy : yielded ops a.tmps j = none := by
    rw [nthO_eq, Array.getElem?_toList] at hj
    unfold yielded
    rw [hj]
    simp only [Option.bind_some, hd, ha.env _ _ hb]; rfl
  simp [Region.wanted, hg, hy]
def FQ (Q : Exit → Act → World → Prop) (w0 : World) : Act → List Chunk → Prop := fun a L => ∀ w, SatC w L → Ext w0 w → Q .normal a w
theorem RG_end (h : WQ Q .normal n w0 env L) : RG P ops S (FQ Q w0) n m m env L := by
  intro a hs
  rw [Nat.sub_self]
  exact fun w h1 h2 => h a w ⟨hs, h1, h2⟩
def CutF (n : Nat) (env : Env) (L : List Chunk) : Act → List Chunk → Prop := fun a L' => AE n env a ∧ L' = L
theorem SQ_append {l2 : List Nat} : ∀ {l1 : List Nat} {a : Act} {L : List Chunk}, SQ P ops S (fun a L => SQ P ops S F l2 a L) l1 a L → SQ P ops S F (l1 ++ l2) a L
  | [], a, L, h => h
  | i :: l1, a, L, h => by
    rw [List.cons_append]
    unfold SQ at h ⊢
    cases ho : ops[i]? with
    | none => simp only [ho] at h ⊢; exact SQ_append h
    | some o =>
      simp only [ho] at h ⊢
      split at h
      · rename_i hw
        rw [if_pos hw]
        refine ⟨h.1, fun g => ?_⟩
        obtain ⟨v, δ, h1, h2⟩ := h.2 g
        exact ⟨v, δ, h1, SQ_append h2⟩
      · rename_i hw
        rw [if_neg hw]
        exact SQ_append h
theorem SQ_mono {F' : Act → List Chunk → Prop} (hF : ∀ a L, F a L → F' a L) : ∀ {l1 : List Nat} {a : Act} {L : List Chunk}, SQ P ops S F l1 a L → SQ P ops S F' l1 a L
  | [], a, L, h => hF _ _ h
  | i :: l1, a, L, h => by
    unfold SQ at h ⊢
    cases ho : ops[i]? with
    | none => simp only [ho] at h ⊢; exact SQ_mono hF h
    | some o =>
      simp only [ho] at h ⊢
      split at h
      · rename_i hw
        rw [if_pos hw]
        refine ⟨h.1, fun g => ?_⟩
        obtain ⟨v, δ, h1, h2⟩ := h.2 g
        exact ⟨v, δ, h1, SQ_mono hF h2⟩
      · rename_i hw
        rw [if_neg hw]
        exact SQ_mono hF h
theorem RG_cut (j : Nat) (env' : Env) (L' : List Chunk) (hj : Nat.ble i j = true) (hm : Nat.ble j m = true) (h1 : RG P ops S (CutF n env' L') n j i env L) (h2 : RG P ops S F n m j env' L') : RG P ops S F n m i env L := by
  intro a hs
  have h3 := h1 a hs
  have hi : i ≤ j := by simpa [Nat.ble_eq] using hj
  have hm' : j ≤ m := by simpa [Nat.ble_eq] using hm
  have e : List.range' i (m - i) = List.range' i (j - i) ++ List.range' j (m - j) := by
    have e1 : m - i = (j - i) + (m - j) := by omega
    rw [e1, ← List.range'_append_1]
    congr 2
    omega
  rw [e]
  exact SQ_append (SQ_mono (fun a L ⟨ha, hL⟩ => hL ▸ h2 a ha) h3)
theorem cutF_end {env' : Env} (he : ∀ t v, lk t env' = some v → lk t env = some v) : RG P ops S (CutF n env' L) n m m env L := by
  intro a hs
  rw [Nat.sub_self]
  exact ⟨hs.sub he, rfl⟩
theorem RG_conv {env' : Env} (he : ∀ t v, lk t env' = some v → lk t env = some v) (h : RG P ops S F n m i env' L) : RG P ops S F n m i env L :=
  fun a hs => h a (hs.sub he)
/-- Which spec an operation has: those named, else what only computes. -/
noncomputable def specs (P : Program) (ops : List Oper) (l : List (Nat × Spec)) (i : Nat) : Spec := match l with
  | [] => Spec.pure P ((nthO ops i).getD default)
  | (j, s) :: r => bif Nat.beq j i then s else specs P ops r i

/-! ### Code -/
theorem W_seq (h : c = .seq (cA c) (cB c)) (k : W P (cA c) (Exit.then ((cB c).wp P Q) Q) n w0 env L) : W P c Q n w0 env L := fun a w hs => by rw [h]; exact wp_seq (k a w hs)
theorem W_block {id : Nat} (h : c = .block id (cA c)) (k : W P (cA c) (Exit.inBlock id Q) n w0 env L) : W P c Q n w0 env L := fun a w hs => by rw [h]; exact wp_block (k a w hs)
theorem W_skip (h : c = .skip) (k : WQ Q .normal n w0 env L) : W P c Q n w0 env L := fun a w hs => by rw [h]; exact wp_skip (k a w hs)
theorem W_label {l : Nat} (h : c = .label l) (k : WQ Q .normal n w0 env L) : W P c Q n w0 env L := fun a w hs => by rw [h]; exact wp_label (k a w hs)
theorem W_exit {id : Nat} (h : c = .exit id) (k : WQ Q (.exit id) n w0 env L) : W P c Q n w0 env L := fun a w hs => by rw [h]; exact wp_exit (k a w hs)
theorem W_ret (h : c = .ret) (k : WQ Q .ret n w0 env L) : W P c Q n w0 env L := fun a w hs => by rw [h]; exact wp_ret (k a w hs)
theorem W_scope (h : c = .scope (cA c)) (k : W P (cA c) (Exit.noGoto Q) n w0 env L) : W P c Q n w0 env L := fun a w hs => by rw [h]; exact wp_scope_straight (k a w hs)
theorem W_cond {x : Operand} {p : Prop} [Decidable p] (h : c = .cond x (cA c) (cB c)) (hx : evE env x = some (.bool (decide p))) (kt : p → W P (cA c) Q n w0 env L) (kf : ¬ p → W P (cB c) Q n w0 env L) : W P c Q n w0 env L := fun a w hs => by
  rw [h]
  refine wp_cond_split (hs.ae.eval hx) (fun e => kt (of_decide_eq_true e) a w hs) (fun e => kf (of_decide_eq_false e) a w hs)
theorem W_condB {x : Operand} {b : Bool} (h : c = .cond x (cA c) (cB c)) (hx : evE env x = some (.bool b)) (kt : b = true → W P (cA c) Q n w0 env L) (kf : b = false → W P (cB c) Q n w0 env L) : W P c Q n w0 env L := fun a w hs => by
  rw [h]
  exact wp_cond_split (hs.ae.eval hx) (fun e => kt e a w hs) (fun e => kf e a w hs)
theorem W_condT {x : Operand} (h : c = .cond x (cA c) (cB c)) (hx : evE env x = some (.bool true)) (k : W P (cA c) Q n w0 env L) : W P c Q n w0 env L := W_condB h hx (fun _ => k) (fun e => by cases e)
theorem W_condF {x : Operand} (h : c = .cond x (cA c) (cB c)) (hx : evE env x = some (.bool false)) (k : W P (cB c) Q n w0 env L) : W P c Q n w0 env L := W_condB h hx (fun e => by cases e) (fun _ => k)
theorem W_reg {id : Nat} (h : c = .region id (cOps c) false) (hm : (cOps c).size = m) (k : RN P (cOps c) Q n w0 m 0 env L) : W P c Q n w0 env L := fun a w hs => by
  rw [h]
  refine wp_region ?_
  have := k a w hs
  rw [hm, List.range_eq_range']
  exact this
theorem W_draw {id : Nat} (l : List (Nat × Spec)) (A : Array Nat) (h : c = .region id (cOps c) true) (hm : (cOps c).size = m) (hP : P.follows .mixedOrders = true) (ht : tabOk (cOps c) A = true) (ho : ordOk (cOps c) (specs P (cL c) l) A = true)
    (k : RG P (cOps c) (specs P (cL c) l) (FQ Q w0) n m 0 env L) : W P c Q n w0 env L := fun a w hs => by
  rw [h]
  refine wp_region_any hP ?_
  have hd : Ext w0 { w with drawn := w.drawn + 1 } := hs.ext.drew
  have hl : left (cOps c) (Array.replicate (cOps c).size false) = List.range' 0 m := by
    unfold left
    rw [hm, List.range_eq_range', List.filter_eq_self.2]
    intro j hj
    have hj : j < m := by simpa using hj
    simp [Array.getD, hj]
  refine any_of_SQ (F := FQ Q w0) ht ho (fun a L w hF h1 h2 => hF w h1 h2) _ _ a _ L (by simp) (by rw [hl]; simp [hm]) ?_ (by rw [hl]; exact k a hs.ae) (Sat.drew hs.sat) hd
  intro j hj hlj
  simp [Array.getD, hj] at hlj
theorem W_conv {env' : Env} {L' : List Chunk} (he : ∀ t v, lk t env' = some v → lk t env = some v) (hl : Ent (hps L) (hps L')) (h : W P c Q n w0 env' L') : W P c Q n w0 env L :=
  fun a w hs => h a w ⟨hs.ae.sub he, hl.sat hs.sat, hs.ext⟩
theorem W_mono {Q' : Exit → Act → World → Prop} (h : W P c Q' n w0 env L) (hq : ∀ x a w, Q' x a w → Q x a w) : W P c Q n w0 env L := fun a w hs => wp_mono (h a w hs) hq
/-- What is known at the end of a piece: where it goes on normally, these; else as behind it. -/
def Mid (n : Nat) (w0 : World) (env : Env) (L : List Chunk) (Q : Exit → Act → World → Prop) : Exit → Act → World → Prop := Exit.then (fun a w => St n w0 env L a w) Q
theorem W_cut {y : Code} (env' : Env) (L' : List Chunk) (h1 : W P c (Mid n w0 env' L' Q) n w0 env L) (h2 : W P y Q n w0 env' L') : W P c (Exit.then (y.wp P Q) Q) n w0 env L :=
  fun a w hs => wp_mono (h1 a w hs) fun x a w hq => by
    cases x with
    | normal => exact h2 a w hq
    | _ => exact hq
theorem WQ_mid {env' : Env} {L' : List Chunk} (he : ∀ t v, lk t env' = some v → lk t env = some v) (hl : Ent (hps L) (hps L')) : WQ (Mid n w0 env' L' Q) .normal n w0 env L :=
  fun a w hs => ⟨hs.ae.sub he, hl.sat hs.sat, hs.ext⟩
/-- What a round must hand on. -/
def Hand {σ : Type} (μ : σ → Nat) (E : σ → Env) (C : σ → List Chunk) (I : σ → Prop) (n : Nat) (w0 : World) (s : σ) (a : Act) (w : World) : Prop := ∃ s', I s' ∧ μ s' < μ s ∧ St n w0 (E s') (C s') a w
/-- A loop, by what holds at each round's head. -/
theorem W_loop {σ : Type} (μ : σ → Nat) (E : σ → Env) (C : σ → List Chunk) (I : σ → Prop) (s0 : σ) (h : c = .loop (cA c)) (h0 : I s0) (he : ∀ t v, lk t (E s0) = some v → lk t env = some v) (hl : Ent (hps L) (hps (C s0)))
    (round : ∀ s, I s → W P (cA c) (Exit.then (Hand μ E C I n w0 s) Q) n w0 (E s) (C s)) : W P c Q n w0 env L := fun a w hs => by
  rw [h]
  refine wp_loop_ghost (fun k a w => ∃ s, I s ∧ μ s = k ∧ St n w0 (E s) (C s) a w) (μ s0) ⟨s0, h0, rfl, hs.ae.sub he, hl.sat hs.sat, hs.ext⟩ ?_
  rintro k a w ⟨s, hI, rfl, hst⟩
  refine wp_mono (round s hI a w hst) fun x a w hq => ?_
  cases x with
  | normal =>
    obtain ⟨s', h1, h2, h3⟩ := hq
    exact ⟨μ s', h2, s', h1, rfl, h3⟩
  | _ => exact hq
theorem WQ_hand {σ : Type} {μ : σ → Nat} {E : σ → Env} {C : σ → List Chunk} {I : σ → Prop} {s : σ} (s' : σ) (hI : I s') (hμ : μ s' < μ s) (he : ∀ t v, lk t (E s') = some v → lk t env = some v) (hl : Ent (hps L) (hps (C s'))) : WQ (Exit.then (Hand μ E C I n w0 s) Q) .normal n w0 env L :=
  fun a w hs => ⟨s', hI, hμ, hs.ae.sub he, hl.sat hs.sat, hs.ext⟩

/-! ### Where a piece of code ends -/
theorem WQ_then {y : Code} (k : W P y Q n w0 env L) : WQ (Exit.then (y.wp P Q) Q) .normal n w0 env L := k
theorem WQ_thenX {x : Exit} {k' : Act → World → Prop} (hx : (match x with | .normal => false | _ => true) = true) (k : WQ Q x n w0 env L) : WQ (Exit.then k' Q) x n w0 env L := fun a w hs => by
  cases x <;> first | (cases hx; done) | exact k a w hs
theorem WQ_inB {id : Nat} (k : WQ Q .normal n w0 env L) : WQ (Exit.inBlock id Q) .normal n w0 env L := k
theorem WQ_hit {id : Nat} (k : WQ Q .normal n w0 env L) : WQ (Exit.inBlock id Q) (.exit id) n w0 env L := fun a w hs => by
  show (if id = id then Q .normal a w else Q (.exit id) a w)
  rw [if_pos rfl]; exact k a w hs
theorem WQ_pass {id id' : Nat} (h : Nat.beq id' id = false) (k : WQ Q (.exit id') n w0 env L) : WQ (Exit.inBlock id Q) (.exit id') n w0 env L := fun a w hs => by
  show (if id' = id then Q .normal a w else Q (.exit id') a w)
  rw [if_neg (fun e => by subst e; simp at h)]; exact k a w hs
theorem WQ_inBR {id : Nat} (k : WQ Q .ret n w0 env L) : WQ (Exit.inBlock id Q) .ret n w0 env L := k
theorem WQ_midX {x : Exit} {env' : Env} {L' : List Chunk} (hx : (match x with | .normal => false | _ => true) = true) (k : WQ Q x n w0 env L) : WQ (Mid n w0 env' L' Q) x n w0 env L := WQ_thenX hx k
theorem WQ_noGoto {x : Exit} (hx : (match x with | .goto _ => false | _ => true) = true) (k : WQ Q x n w0 env L) : WQ (Exit.noGoto Q) x n w0 env L := fun a w hs => by
  cases x <;> first | (cases hx; done) | exact k a w hs

/-! ### How a call begins and ends -/
def argE : Nat → List Value → Env
  | _, [] => []
  | i, v :: vs => (i, v) :: argE (i + 1) vs
theorem argE_spec : ∀ (vs : List Value) (i t : Nat) (v : Value), lk t (argE i vs) = some v → i ≤ t ∧ vs[t - i]? = some v
  | [], i, t, v, h => by simp [argE, lk] at h
  | u :: vs, i, t, v, h => by
    simp only [argE, lk] at h
    by_cases e : i = t
    · subst e
      simp at h
      subst h
      simp
    · have : Nat.beq i t = false := by rw [← Bool.not_eq_true, Nat.beq_eq]; exact e
      simp [this] at h
      obtain ⟨h1, h2⟩ := argE_spec vs (i + 1) t v h
      refine ⟨by omega, ?_⟩
      rw [show t - i = (t - (i + 1)) + 1 by omega]
      simpa using h2
theorem enter {f : FuncId} {fn : Func} {args : List Value} {w : World} {R : Ending → World → Prop} (hf : P.funcs[f]? = some fn) (hb : fn.body = some c) (hn : fn.ntmps = n) (ha : Nat.ble args.length n = true) (hs : SatC w L)
    (k : W P c (bodyPost P fn R) n w (argE 0 args) L) : Calls P f args.toArray w R := by
  refine calls_of_wp hf hb (k _ w ⟨⟨?_, rfl, fun t v h => ?_⟩, hs, Ext.refl w⟩)
  · have : args.length ≤ n := by simpa [Nat.ble_eq] using ha
    simp [hn]; omega
  · obtain ⟨_, h2⟩ := argE_spec args 0 t v h
    have hlt := (List.getElem?_eq_some_iff.1 h2).1
    rw [Nat.sub_zero] at h2 hlt
    rw [Array.getElem?_append_left (by simpa using hlt)]
    simpa using h2
def evR (env : Env) : List ResultVar → Option (List Value)
  | [] => some []
  | .tmp t :: l => match lk t env, evR env l with
    | some v, some vs => some (v :: vs)
    | _, _ => none
  | _ => none
def packV : List Value → Value
  | [v] => v
  | vs => .tuple vs.toArray
def resF (tmps : Array Value) : ResultVar → Sem Value
  | .tmp t => pure (tmps.getD t undef)
  | .cell ad t => do loadVar t (← asAddr (tmps.getD ad undef))
theorem results_eq (fn : Func) (tmps : Array Value) : results fn tmps = (do
    let vs ← fn.results.mapM (resF tmps)
    pure (if h : vs.size = 1 then vs[0] else .tuple vs)) := by
  unfold results
  congr 2
theorem run_resF {a : Act} (hs : AE n env a) (w : World) : ∀ (rs : List ResultVar) (vs : List Value), evR env rs = some vs → (rs.mapM (resF a.tmps)).run P w = .ok vs w
  | [], vs, h => by simp [evR] at h; subst h; rfl
  | r :: rs, vs, h => by
    cases r with
    | cell => simp [evR] at h
    | tmp t =>
      unfold evR at h
      cases h1 : lk t env with
      | none => simp [h1] at h
      | some v =>
        cases h2 : evR env rs with
        | none => simp [h1, h2] at h
        | some us =>
          simp [h1, h2] at h
          subst h
          have e : a.tmps.getD t undef = v := by rw [Array.getD_eq_getD_getElem?, hs.env t v h1]; rfl
          simp only [List.mapM_cons, Sem.run_bind, Sem.run_pure, resF, e, Result.andThen_ok, run_resF hs w rs us h2]
theorem run_results {fn : Func} {a : Act} (hs : AE n env a) {vs : List Value} (h : evR env fn.results.toList = some vs) (w : World) : (results fn a.tmps).run P w = .ok (packV vs) w := by
  rw [results_eq, Array.mapM_eq_mapM_toList]
  simp only [Sem.run_bind, Sem.run_map, run_resF hs w _ vs h, Result.andThen_ok, Sem.run_pure]
  congr 1
  cases vs with
  | nil => rfl
  | cons v r => cases r with
    | nil => rfl
    | cons u r => simp [packV]
theorem WQ_ret {fn : Func} {R : Ending → World → Prop} {vs : List Value} (h : evR env fn.results.toList = some vs) (k : ∀ w, SatC w L → Ext w0 w → R (.returned (packV vs)) w) : WQ (bodyPost P fn R) .ret n w0 env L :=
  fun a w hs => ⟨hs.ae.defers, packV vs, run_results hs.ae h w, k w hs.sat hs.ext⟩
theorem WQ_fall {fn : Func} {R : Ending → World → Prop} {vs : List Value} (h : evR env fn.results.toList = some vs) (k : ∀ w, SatC w L → Ext w0 w → R (.returned (packV vs)) w) : WQ (bodyPost P fn R) .normal n w0 env L :=
  fun a w hs => ⟨hs.ae.defers, packV vs, run_results hs.ae h w, k w hs.sat hs.ext⟩
/-- One result that lies in memory. -/
theorem WQ_retC {fn : Func} {R : Ending → World → Prop} {t ty s j : Nat} {ad : Addr} {d : TypeDesc} {c : Chunk} {vs : List Value} (hr : fn.results = #[.cell t ty]) (ht : lk t env = some (.pointer (some ad))) (hu : P.underlying ty = some d) (hg : aggT d = true) (hi : (P.info? ty).map (·.size) = some s) (hc : L[j]? = some c) (hv : c.cells ad 0 s = some vs)
    {x : Exit} (hx : (match x with | .ret | .normal => true | _ => false) = true) (k : ∀ w, SatC w L → Ext w0 w → R (.returned (.agg vs.toArray)) w) : WQ (bodyPost P fn R) x n w0 env L := fun a w hs => by
  have hres : (results fn a.tmps).run P w = .ok (.agg vs.toArray) w := by
    have e : a.tmps.getD t undef = .pointer (some ad) := by rw [Array.getD_eq_getD_getElem?, hs.ae.env t _ ht]; rfl
    obtain ⟨hl, hcs⟩ := cells_spec (SatC.take hs.sat j hc) s 0 vs hv
    have hld := run_loadCells_list (P := P) w ad vs (fun j v hj => by simpa using hcs j v hj)
    rw [hl] at hld
    rw [results_eq]
    simp [hr, resF, e, asAddr, loadVar, run_isAgg hu, hg, run_size hi, hld]
  cases x <;> first | (cases hx; done) | exact ⟨hs.ae.defers, _, hres, k w hs.sat hs.ext⟩
end
end Go.Proofs.YtompmejidaddoaaDoor
