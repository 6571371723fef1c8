/- An engine for walks over owned things: chunks of memory, what an operation reads and turns, and that the order of a region's operations is of no account where they turn things apart. No program. -/
import Derived.Test.YtompmejidaddoaaDoorRowO
set_option linter.unusedVariables false
set_option linter.unusedSimpArgs false
namespace Go.Proofs.YtompmejidaddoaaDoor
open Go Go.RowKit

/-- Some blocks, as they were in a world. -/
def Fz (w0 : World) (B : Nat → Prop) : HP where
  h w S := (∀ i, S i ↔ B i ∧ i < w0.heap.size) ∧ ∀ i, B i → i < w0.heap.size → w.heap[i]? = w0.heap[i]?
  loc := fun ⟨h1, h2⟩ hk => ⟨h1, fun i hb hi => (hk i ((h1 i).2 ⟨hb, hi⟩)).trans (h2 i hb hi)⟩
  lt := fun ⟨h1, h2⟩ i hi => by
    obtain ⟨hb, hl⟩ := (h1 i).1 hi
    have e := h2 i hb hl
    rw [Array.getElem?_eq_getElem hl] at e
    exact (Array.getElem?_eq_some_iff.1 e).1

/-- What is owned. -/
inductive Chunk where
  | emp
  | blk (g : Nat) (o : Obj)
  | row (e size : Nat) (v : Value) (n : Nat) (xs : List Value)
  | old (w : World)
  | fz (w : World) (B : Nat → Prop)
  | hp (H : HP)

def Chunk.toHP : Chunk → HP
  | .emp => HP.sep []
  | .blk g o => Blk g o
  | .row e s v n xs => RowO e s v n xs
  | .old w => Old w
  | .fz w B => Fz w B
  | .hp H => H

abbrev SatC (w : World) (L : List Chunk) : Prop := Sat w (L.map Chunk.toHP)

def sel (L : List Chunk) (ks : List Nat) : List Chunk := ks.map fun k => L.getD k .emp
def upd : List Chunk → List Nat → List Chunk → List Chunk
  | L, k :: ks, c :: cs => upd (L.set k c) ks cs
  | L, _, _ => L

def Oper.vals (o : Oper) (a : Act) : List Value := o.op.operands.toList.map a.eval

/-- What an operation does, by what it takes: of which places it reads, which it turns; which values may come (N: what is open). -/
structure Spec where
  R : List Nat
  W : List Nat
  N : Type
  inh : N
  f : N → List Value → List Chunk → Option (Value × List Chunk)

def Sound (P : Program) (o : Oper) (s : Spec) : Prop :=
  ∀ (a : Act) (w : World) (L : List Chunk) (K : Act → World → Prop) (Q : Exit → Act → World → Prop), SatC w L → (∀ g, ∃ v δ, s.f g (Oper.vals o a) (sel L (s.R ++ s.W)) = some (v, δ)) →
    (∀ g v δ w', s.f g (Oper.vals o a) (sel L (s.R ++ s.W)) = some (v, δ) → SatC w' (upd L s.W δ) → Ext w w' → K (a.put o.dst v) w') → o.wp P a w K Q

section
variable {P : Program} {ops : Array Oper} {S : Nat → Spec} {F : Act → List Chunk → Prop}

def SQ (P : Program) (ops : Array Oper) (S : Nat → Spec) (F : Act → List Chunk → Prop) : List Nat → Act → List Chunk → Prop
  | [], a, L => F a L
  | i :: l, a, L => match ops[i]? with
    | none => SQ P ops S F l a L
    | some o => if Region.wanted o (yielded ops a.tmps) = true then Sound P o (S i) ∧ ∀ g, ∃ v δ, (S i).f g (Oper.vals o a) (sel L ((S i).R ++ (S i).W)) = some (v, δ) ∧ SQ P ops S F l (a.put o.dst v) (upd L (S i).W δ)
      else SQ P ops S F l (a.put o.dst undef) L

def disj (a b : List Nat) : Bool := a.all fun x => !b.contains x
theorem disj_spec {a b : List Nat} (h : disj a b = true) : ∀ x ∈ a, x ∉ b := by
  intro x hx hb
  have := List.all_eq_true.1 h x hx
  simp at this
  exact this hb

def noSel (o : Oper) : Bool := match o.op with | .select .. => false | _ => true
theorem noSel_spec {o : Oper} (h : noSel o = true) : ∀ cs b, o.op ≠ .select cs b := by
  intro cs b e
  simp [noSel, e] at h

/-- Two operations that turn things apart. -/
def indep (ops : Array Oper) (S : Nat → Spec) (i j : Nat) : Bool := match ops[i]?, ops[j]? with
  | some x, some y => x.apart ops y && noSel x && noSel y && disj (S i).W ((S j).R ++ (S j).W) && disj (S j).W ((S i).R ++ (S i).W)
  | _, _ => true

theorem sel_upd {L : List Chunk} {ks ws : List Nat} {δ : List Chunk} (h : ∀ x ∈ ws, x ∉ ks) : sel (upd L ws δ) ks = sel L ks := by
  induction ws generalizing L δ with
  | nil => cases δ <;> rfl
  | cons k r ih =>
    cases δ with
    | nil => rfl
    | cons c cs =>
      rw [upd, ih (fun x hx => h x (List.mem_cons_of_mem _ hx))]
      unfold sel
      refine List.map_congr_left fun j hj => ?_
      have : k ≠ j := fun e => h k List.mem_cons_self (e ▸ hj)
      simp [List.getD, List.getElem?_set, this]

theorem upd_set_comm {L : List Chunk} {ws : List Nat} {δ : List Chunk} {k : Nat} {c : Chunk} (h : k ∉ ws) : upd (L.set k c) ws δ = (upd L ws δ).set k c := by
  induction ws generalizing L δ with
  | nil => cases δ <;> rfl
  | cons j r ih =>
    cases δ with
    | nil => rfl
    | cons c' cs =>
      have h1 : k ≠ j := fun e => h (e ▸ List.mem_cons_self)
      rw [upd, upd, List.set_comm _ _ h1, ih (fun hm => h (List.mem_cons_of_mem _ hm))]
theorem upd_comm {L : List Chunk} {ws us : List Nat} {δ ε : List Chunk} (h : ∀ x ∈ ws, x ∉ us) : upd (upd L ws δ) us ε = upd (upd L us ε) ws δ := by
  induction ws generalizing L δ with
  | nil => cases δ <;> rfl
  | cons k r ih =>
    cases δ with
    | nil => rfl
    | cons c cs =>
      rw [upd, upd, ih (fun x hx => h x (List.mem_cons_of_mem _ hx)), upd_set_comm (h k List.mem_cons_self)]

theorem vals_put {x y : Oper} (h : x.apart ops y = true) (a : Act) (v : Value) : Oper.vals y (a.put x.dst v) = Oper.vals y a := by
  obtain ⟨h1, _, _⟩ := Oper.apart_spec h
  unfold Oper.vals
  refine List.map_congr_left fun z hz => Act.eval_put fun d hd e => h1 d hd ?_
  subst e
  exact List.mem_append_left _ (List.mem_filterMap.2 ⟨.tmp d, by simpa using hz, rfl⟩)
theorem vals_put' {x y : Oper} (h : x.apart ops y = true) (a : Act) (v : Value) : Oper.vals x (a.put y.dst v) = Oper.vals x a := by
  obtain ⟨_, _, h1⟩ := Oper.apart_spec h
  unfold Oper.vals
  refine List.map_congr_left fun z hz => Act.eval_put fun d hd e => h1 d hd ?_
  subst e
  exact List.mem_append_left _ (List.mem_filterMap.2 ⟨.tmp d, by simpa using hz, rfl⟩)

theorem SQ_swap {i j : Nat} {l : List Nat} {a : Act} {L : List Chunk} (hi : indep ops S j i = true) (h : SQ P ops S F (j :: i :: l) a L) : SQ P ops S F (i :: j :: l) a L := by
  unfold SQ at h ⊢
  cases hoj : ops[j]? with
  | none =>
    simp only [hoj] at h
    cases hoi : ops[i]? with
    | none => simp only; unfold SQ at h ⊢; simp only [hoi] at h; simp only [hoj]; exact h
    | some oi =>
      simp only
      unfold SQ at h
      simp only [hoi] at h
      split at h
      · rename_i hw
        rw [if_pos hw]
        refine ⟨h.1, fun g => ?_⟩
        obtain ⟨v, δ, h1, h2⟩ := h.2 g
        refine ⟨v, δ, h1, ?_⟩
        unfold SQ; simp only [hoj]; exact h2
      · rename_i hw
        rw [if_neg hw]
        unfold SQ; simp only [hoj]; exact h
  | some oj =>
    simp only [hoj] at h
    cases hoi : ops[i]? with
    | none =>
      simp only
      unfold SQ
      simp only [hoj]
      split at h
      · rename_i hw
        rw [if_pos hw]
        refine ⟨h.1, fun g => ?_⟩
        obtain ⟨v, δ, h1, h2⟩ := h.2 g
        refine ⟨v, δ, h1, ?_⟩
        unfold SQ at h2; simp only [hoi] at h2; exact h2
      · rename_i hw
        rw [if_neg hw]
        unfold SQ at h; simp only [hoi] at h; exact h
    | some oi =>
      simp only
      unfold indep at hi
      simp only [hoj, hoi, Bool.and_eq_true] at hi
      obtain ⟨⟨⟨⟨hap, _⟩, _⟩, hd1⟩, hd2⟩ := hi
      have hd1 := disj_spec hd1
      have hd2 := disj_spec hd2
      obtain ⟨a1, a2, a3⟩ := Oper.apart_spec hap
      have hww : ∀ x ∈ (S j).W, x ∉ (S i).W := fun x hx hm => hd1 x hx (List.mem_append_right _ hm)
      have ei : ∀ v, Region.wanted oi (yielded ops (a.put oj.dst v).tmps) = Region.wanted oi (yielded ops a.tmps) := fun v => wanted_put oi a oj.dst v a1
      have ej : ∀ v, Region.wanted oj (yielded ops (a.put oi.dst v).tmps) = Region.wanted oj (yielded ops a.tmps) := fun v => wanted_put oj a oi.dst v a3
      have hc : ∀ v u, (a.put oi.dst u).put oj.dst v = (a.put oj.dst v).put oi.dst u := fun v u => (Act.put_comm a v u a2).symm
      by_cases hwi : Region.wanted oi (yielded ops a.tmps) = true
      · rw [if_pos hwi]
        by_cases hwj : Region.wanted oj (yielded ops a.tmps) = true
        · rw [if_pos hwj] at h
          obtain ⟨hsj, h⟩ := h
          obtain ⟨vj, δj, _, hjj⟩ := h (S j).inh
          unfold SQ at hjj
          simp only [hoi] at hjj
          rw [ei, if_pos hwi] at hjj
          refine ⟨hjj.1, fun g => ?_⟩
          obtain ⟨v, δ, h1, _⟩ := hjj.2 g
          rw [vals_put hap, sel_upd hd1] at h1
          refine ⟨v, δ, h1, ?_⟩
          unfold SQ
          simp only [hoj]
          rw [ej, if_pos hwj]
          refine ⟨hsj, fun g' => ?_⟩
          obtain ⟨vj', δj', h2, h3⟩ := h g'
          rw [vals_put' hap, sel_upd hd2]
          refine ⟨vj', δj', h2, ?_⟩
          unfold SQ at h3
          simp only [hoi] at h3
          rw [ei, if_pos hwi] at h3
          obtain ⟨v2, δ2, h4, h5⟩ := h3.2 g
          rw [vals_put hap, sel_upd hd1, h1] at h4
          injection h4 with h4
          injection h4 with h4a h4b
          subst h4a; subst h4b
          rw [hc, upd_comm (fun x hx hm => hww x hm hx)]
          exact h5
        · rw [if_neg hwj] at h
          unfold SQ at h
          simp only [hoi] at h
          rw [ei, if_pos hwi] at h
          refine ⟨h.1, fun g => ?_⟩
          obtain ⟨v, δ, h1, h2⟩ := h.2 g
          rw [vals_put hap] at h1
          refine ⟨v, δ, h1, ?_⟩
          unfold SQ
          simp only [hoj]
          rw [ej, if_neg hwj, hc]
          exact h2
      · rw [if_neg hwi]
        unfold SQ
        simp only [hoj]
        rw [ej]
        by_cases hwj : Region.wanted oj (yielded ops a.tmps) = true
        · rw [if_pos hwj] at h ⊢
          refine ⟨h.1, fun g => ?_⟩
          obtain ⟨v, δ, h1, h2⟩ := h.2 g
          rw [vals_put' hap]
          refine ⟨v, δ, h1, ?_⟩
          unfold SQ at h2
          simp only [hoi] at h2
          rw [ei, if_neg hwi] at h2
          rw [hc]
          exact h2
        · rw [if_neg hwj] at h ⊢
          unfold SQ at h
          simp only [hoi] at h
          rw [ei, if_neg hwi] at h
          rw [hc]
          exact h

theorem SQ_tail {i : Nat} {l l' : List Nat} (hl : ∀ a L, SQ P ops S F l a L → SQ P ops S F l' a L) : ∀ a L, SQ P ops S F (i :: l) a L → SQ P ops S F (i :: l') a L := by
  intro a L h
  unfold SQ at h ⊢
  cases ho : ops[i]? with
  | none => simp only [ho] at h ⊢; exact hl _ _ h
  | some o =>
    simp only [ho] at h ⊢
    split at h
    · rename_i hw
      rw [if_pos hw]
      refine ⟨h.1, fun g => ?_⟩
      obtain ⟨v, δ, h1, h2⟩ := h.2 g
      exact ⟨v, δ, h1, hl _ _ h2⟩
    · rename_i hw
      rw [if_neg hw]
      exact hl _ _ h

theorem SQ_front {i : Nat} {l2 : List Nat} : ∀ (l1 : List Nat), (∀ j ∈ l1, indep ops S j i = true) → ∀ a L, SQ P ops S F (l1 ++ i :: l2) a L → SQ P ops S F (i :: (l1 ++ l2)) a L
  | [], _, _, _, h => h
  | j :: l1, hj, a, L, h => SQ_swap (hj j List.mem_cons_self) (SQ_tail (SQ_front l1 (fun x hx => hj x (List.mem_cons_of_mem _ hx))) a L h)

/-- A table of what stands ahead of each operation. -/
def tabOk (ops : Array Oper) (A : Array Nat) : Bool := (List.range ops.size).all fun i => match ops[i]? with
  | none => true
  | some o => let U := o.after.foldl (fun s e => if Region.binds .any e = true then s ||| (2 ^ e.on ||| A.getD e.on 0) else s) 0
    (A.getD i 0 ||| U == U) && o.after.all (fun e => !Region.binds .any e || decide (e.on < i))
def ordOk (ops : Array Oper) (S : Nat → Spec) (A : Array Nat) : Bool := (List.range ops.size).all fun i => (List.range i).all fun j => (A.getD i 0).testBit j || indep ops S j i

theorem fold_bit (A : Array Nat) (j : Nat) : ∀ (l : List Edge) (s : Nat), (l.foldl (fun s e => if Region.binds .any e = true then s ||| (2 ^ e.on ||| A.getD e.on 0) else s) s).testBit j = true →
    s.testBit j = true ∨ ∃ e ∈ l, Region.binds .any e = true ∧ (e.on = j ∨ (A.getD e.on 0).testBit j = true)
  | [], s, h => .inl h
  | e :: l, s, h => by
    simp only [List.foldl_cons] at h
    rcases fold_bit A j l _ h with h1 | ⟨e', he', h2⟩
    · split at h1
      · rename_i hb
        simp only [Nat.testBit_or, Bool.or_eq_true] at h1
        rcases h1 with h1 | h1 | h1
        · exact .inl h1
        · refine .inr ⟨e, List.mem_cons_self, hb, .inl ?_⟩
          rw [Nat.testBit_two_pow] at h1
          simpa using h1
        · exact .inr ⟨e, List.mem_cons_self, hb, .inr h1⟩
      · exact .inl h1
    · exact .inr ⟨e', List.mem_cons_of_mem _ he', h2⟩

theorem tab_step {A : Array Nat} (h : tabOk ops A = true) {i : Nat} {o : Oper} (ho : ops[i]? = some o) {j : Nat} (hj : (A.getD i 0).testBit j = true) :
    ∃ e ∈ o.after, Region.binds .any e = true ∧ (e.on = j ∨ (A.getD e.on 0).testBit j = true) := by
  have hi : i < ops.size := (Array.getElem?_eq_some_iff.1 ho).1
  have h1 := List.all_eq_true.1 h i (List.mem_range.2 hi)
  simp only [ho, Bool.and_eq_true] at h1
  obtain ⟨h1, _⟩ := h1
  have h2 := eq_of_beq h1
  have h3 : (A.getD i 0 ||| (o.after.foldl (fun s e => if Region.binds .any e = true then s ||| (2 ^ e.on ||| A.getD e.on 0) else s) 0)).testBit j = true := by
    rw [Nat.testBit_or, hj, Bool.true_or]
  rw [h2, ← Array.foldl_toList] at h3
  rcases fold_bit A j o.after.toList 0 h3 with h4 | ⟨e, he, h5⟩
  · simp at h4
  · exact ⟨e, by simpa using he, h5⟩
theorem tab_back {A : Array Nat} (h : tabOk ops A = true) {i : Nat} {o : Oper} (ho : ops[i]? = some o) {e : Edge} (he : e ∈ o.after) (hb : Region.binds .any e = true) : e.on < i := by
  have hi : i < ops.size := (Array.getElem?_eq_some_iff.1 ho).1
  have h1 := List.all_eq_true.1 h i (List.mem_range.2 hi)
  simp only [ho, Bool.and_eq_true] at h1
  obtain ⟨_, h1⟩ := h1
  have h2 := Array.all_eq_true'.1 h1 e he
  rw [hb] at h2
  simpa using h2

def left (ops : Array Oper) (listed : Array Bool) : List Nat := (List.range ops.size).filter fun i => !listed.getD i true

theorem range_split {n i : Nat} (h : i < n) : List.range n = List.range i ++ i :: (List.range (n - i - 1)).map (fun x => i + 1 + x) := by
  have e1 : n = i + (1 + (n - i - 1)) := by omega
  conv => lhs; rw [e1, List.range_add]
  rw [Nat.add_comm 1, List.range_succ_eq_map]
  simp [Nat.add_comm, Nat.add_left_comm, Function.comp_def]

theorem any_of_SQ {Q : Exit → Act → World → Prop} {A : Array Nat} {w0 : World} (ht : tabOk ops A = true) (ho : ordOk ops S A = true)
    (hF : ∀ a L w, F a L → SatC w L → Ext w0 w → Q .normal a w) : ∀ (fuel : Nat) (listed : Array Bool) (a : Act) (w : World) (L : List Chunk), listed.size = ops.size → (left ops listed).length ≤ fuel →
      (∀ m, m < ops.size → listed.getD m true = true → ∀ j, (A.getD m 0).testBit j = true → listed.getD j false = true) → SQ P ops S F (left ops listed) a L → SatC w L → Ext w0 w → wpAny P .any ops Q fuel listed a w := by
  have headReady : ∀ (listed : Array Bool) i l, listed.size = ops.size → left ops listed = i :: l → i ∈ Region.ready .any ops listed := by
    intro listed i l hsz hl
    have hi : i ∈ left ops listed := by rw [hl]; exact List.mem_cons_self
    obtain ⟨h1, h2⟩ := List.mem_filter.1 hi
    have hin := List.mem_range.1 h1
    refine List.mem_filter.2 ⟨h1, ?_⟩
    rw [Array.getElem?_eq_getElem hin]
    simp only [Option.map_some, Option.getD_some, Bool.and_eq_true]
    refine ⟨h2, Array.all_eq_true'.2 fun e he => ?_⟩
    cases hb : Region.binds .any e with
    | false => rfl
    | true =>
      simp only [Bool.not_true, Bool.false_or]
      have hlt := tab_back ht (Array.getElem?_eq_getElem hin) he hb
      cases hg : listed.getD e.on true with
      | true =>
        have : e.on < listed.size := by omega
        simp [Array.getD, this] at hg ⊢
        exact hg
      | false =>
        have hm : e.on ∈ left ops listed := List.mem_filter.2 ⟨List.mem_range.2 (by omega), by simp [hg]⟩
        rw [hl] at hm
        have hs : List.Pairwise (· < ·) (left ops listed) := List.pairwise_lt_range.filter _
        rw [hl] at hs
        rcases List.mem_cons.1 hm with h3 | h3
        · omega
        · have := (List.pairwise_cons.1 hs).1 _ h3
          omega
  intro fuel
  induction fuel with
  | zero =>
    intro listed a w L hsz hlen _ hq hs he
    have hnil : left ops listed = [] := List.eq_nil_of_length_eq_zero (by omega)
    rw [hnil] at hq
    refine ⟨?_, hF a L w hq hs he⟩
    refine List.filter_eq_nil_iff.2 fun i hi hr => ?_
    have := List.filter_eq_nil_iff.1 hnil i hi
    simp only [Bool.and_eq_true] at hr
    exact this hr.1
  | succ fuel ih =>
    intro listed a w L hsz hlen hcl hq hs he
    refine ⟨fun hr => ?_, fun i hi => ?_⟩
    · cases hl : left ops listed with
      | nil => rw [hl] at hq; exact hF a L w hq hs he
      | cons i l =>
        have := headReady listed i l hsz hl
        rw [hr] at this
        cases this
    · obtain ⟨h1, h2⟩ := List.mem_filter.1 hi
      have hin := List.mem_range.1 h1
      rw [Array.getElem?_eq_getElem hin] at h2
      simp only [Option.map_some, Option.getD_some, Bool.and_eq_true] at h2
      obtain ⟨hun, hall⟩ := h2
      have hoi : ops[i]? = some ops[i] := Array.getElem?_eq_getElem hin
      -- the list, parted at i
      have hsplit : left ops listed = (List.range i).filter (fun i => !listed.getD i true) ++ i :: ((List.range (ops.size - i - 1)).map (fun x => i + 1 + x)).filter (fun i => !listed.getD i true) := by
        unfold left
        conv => lhs; rw [range_split hin]
        rw [List.filter_append, List.filter_cons, if_pos hun]
      have hsplit' : left ops (listed.setIfInBounds i true) = (List.range i).filter (fun i => !listed.getD i true) ++ ((List.range (ops.size - i - 1)).map (fun x => i + 1 + x)).filter (fun i => !listed.getD i true) := by
        unfold left
        conv => lhs; rw [range_split hin]
        rw [List.filter_append, List.filter_cons]
        have e0 : (!(listed.setIfInBounds i true).getD i true) = false := by
          simp [Array.getD, hsz, hin]
        rw [e0]
        simp only [Bool.false_eq_true, if_false]
        congr 1
        · refine List.filter_congr fun j hj => ?_
          rw [getD_set_ne true (by have := List.mem_range.1 hj; omega)]
        · refine List.filter_congr fun j hj => ?_
          obtain ⟨x, _, rfl⟩ := List.mem_map.1 hj
          rw [getD_set_ne true (by omega)]
      have hprev : ∀ e ∈ (ops[i]).after, Region.binds .any e = true → listed.getD e.on false = true := fun e he' hb => by
        have := Array.all_eq_true'.1 hall e he'
        rw [hb] at this
        simpa using this
      have hanc : ∀ j, (A.getD i 0).testBit j = true → listed.getD j false = true := by
        intro j hj
        obtain ⟨e, he', hb, h3⟩ := tab_step ht hoi hj
        have hl := hprev e he' hb
        rcases h3 with rfl | h3
        · exact hl
        · have hlt := tab_back ht hoi he' hb
          refine hcl e.on (by omega) ?_ j h3
          have : e.on < listed.size := by omega
          simp [Array.getD, this] at hl ⊢
          exact hl
      rw [hsplit] at hq
      have hq2 := SQ_front _ (fun j hj => by
        obtain ⟨hj1, hj2⟩ := List.mem_filter.1 hj
        have h3 := List.all_eq_true.1 (List.all_eq_true.1 ho i h1) j hj1
        rw [Bool.or_eq_true] at h3
        refine h3.resolve_left fun h4 => ?_
        have h5 := hanc j h4
        have hjl := List.mem_range.1 hj1
        have : j < listed.size := by omega
        simp [Array.getD, this] at hj2 h5
        rw [h5] at hj2
        cases hj2) a L hq
      rw [← hsplit'] at hq2
      have hcl' : ∀ m, m < ops.size → (listed.setIfInBounds i true).getD m true = true → ∀ j, (A.getD m 0).testBit j = true → (listed.setIfInBounds i true).getD j false = true := by
        intro m hm hlm j hj
        by_cases hmi : m = i
        · subst hmi
          exact getD_set_true (hanc j hj)
        · rw [getD_set_ne true (Ne.symm hmi)] at hlm
          exact getD_set_true (hcl m hm hlm j hj)
      have hlen' : (left ops (listed.setIfInBounds i true)).length ≤ fuel := by
        rw [hsplit] at hlen
        rw [hsplit']
        simp only [List.length_append, List.length_cons] at hlen ⊢
        omega
      unfold wpOp
      simp only [hoi]
      unfold SQ at hq2
      simp only [hoi] at hq2
      split
      · rename_i hw
        rw [if_pos hw] at hq2
        refine .inl (hq2.1 a w L _ _ hs (fun g => let ⟨v, δ, h3, _⟩ := hq2.2 g; ⟨v, δ, h3⟩) fun g v δ w' h3 h4 h5 => ?_)
        obtain ⟨v', δ', h6, h7⟩ := hq2.2 g
        rw [h3] at h6
        injection h6 with h6
        injection h6 with h6a h6b
        subst h6a; subst h6b
        exact ih _ _ _ _ (by simp [hsz]) hlen' hcl' h7 h4 (he.trans h5)
      · rename_i hw
        rw [if_neg hw] at hq2
        exact ih _ _ _ _ (by simp [hsz]) hlen' hcl' hq2 hs he

/-- In the order of the text. -/
theorem ops_of_SQ {Q : Exit → Act → World → Prop} {w0 : World} (hF : ∀ a L w, F a L → SatC w L → Ext w0 w → Q .normal a w) :
    ∀ (l : List Nat) (a : Act) (w : World) (L : List Chunk), SQ P ops S F l a L → SatC w L → Ext w0 w → wpOps P ops Q l a w
  | [], a, w, L, hq, hs, he => hF a L w hq hs he
  | i :: l, a, w, L, hq, hs, he => by
    rw [wpOps_cons]
    unfold wpOp
    unfold SQ at hq
    cases ho : ops[i]? with
    | none => simp only [ho] at hq ⊢; exact ops_of_SQ hF l a w L hq hs he
    | some o =>
      simp only [ho] at hq ⊢
      split
      · rename_i hw
        rw [if_pos hw] at hq
        refine .inl (hq.1 a w L _ _ hs (fun g => let ⟨v, δ, h3, _⟩ := hq.2 g; ⟨v, δ, h3⟩) fun g v δ w' h3 h4 h5 => ?_)
        obtain ⟨v', δ', h6, h7⟩ := hq.2 g
        rw [h3] at h6
        injection h6 with h6
        injection h6 with h6a h6b
        subst h6a; subst h6b
        exact ops_of_SQ hF l _ w' _ h7 h4 (he.trans h5)
      · rename_i hw
        rw [if_neg hw] at hq
        exact ops_of_SQ hF l _ w _ hq hs he
end
end Go.Proofs.YtompmejidaddoaaDoor
