/- Guarded operations in regions whose order is drawn. No program. -/
import Derived.Test.YtompmejidaddoaaDoorEngL
set_option linter.unusedVariables false
set_option linter.unusedSimpArgs false
namespace Go.Proofs.YtompmejidaddoaaDoor
open Go Go.RowKit
section
variable {P : Program} {ops : Array Oper} {n m i : Nat} {env : Env} {L : List Chunk} {S : Nat → Spec} {F : Act → List Chunk → Prop}
theorem RG_skips {j d : Nat} {oj : Oper} {b want : Bool} (hj : nthO ops.toList j = some oj) (hd : oj.dst = some d) (hb : lk d env = some (.bool b)) (hne : b ≠ want) :
    ∀ (k i : Nat) (seen : List Nat), skipsB ops.toList j i k seen = true → (∀ x ∈ dstsB ops.toList i k, ∀ u, lk x env ≠ some u) → (∀ q, q < k → ∀ o, nthO ops.toList (i + q) = some o → ∀ g w, o.guard = some (g, w) → g = j → w = want) → i + k ≤ m → RG P ops S F n m (i + k) env L →
    ∀ a, AE n env a → (∀ g ∈ seen, yielded ops a.tmps g = none) → SQ P ops S F (List.range' i (m - i)) a L
  | 0, i, seen, _, _, _, _, h, a, hs, _ => h a hs
  | k + 1, i, seen, hk, hf, hw, hm, h, a, hs, hseen => by
    rw [range'_cons (by omega)]
    unfold SQ
    simp only [skipsB] at hk
    cases ho : nthO ops.toList i with
    | none => simp [ho] at hk
    | some o =>
      simp only [ho, Bool.and_eq_true] at hk
      have ho' := ho
      rw [nthO_eq, Array.getElem?_toList] at ho'
      simp only [ho']
      have hnw : Region.wanted o (yielded ops a.tmps) = false := by
        cases hg : o.guard with
        | none => simp [hg] at hk
        | some gw =>
          obtain ⟨g, wv⟩ := gw
          have h1 := hk.1
          simp only [hg, Bool.or_eq_true] at h1
          rcases h1 with h1 | h1
          · have h1 : g = j := by simpa using h1
            have hwv := hw 0 (by omega) o ho g wv hg h1
            subst h1
            simp [Region.wanted, hg, yield_of hs hj hd hb, hwv]
            exact hne
          · have h1 : g ∈ seen := by simpa using h1
            simp [Region.wanted, hg, hseen g h1]
      rw [if_neg (by simp [hnw])]
      have hfr : ∀ t v, lk t env = some v → t ∉ dstsB ops.toList i (k + 1) := fun t v hv hm => hf t hm v hv
      have hdm : ∀ x, o.dst = some x → x ∈ dstsB ops.toList i (k + 1) := fun x hx => by simp only [dstsB, ho, hx]; exact List.mem_cons_self
      refine RG_skips hj hd hb hne k (i + 1) (i :: seen) hk.2 (fun x hx u => hf x ?_ u) (fun q hq o' ho' => hw (q + 1) (by omega) o' (by rwa [show i + (q + 1) = i + 1 + q by omega])) (by omega) (by rwa [show i + 1 + k = i + (k + 1) by omega]) _ (hs.put_fresh hfr hdm _) ?_
      · simp only [dstsB, ho]
        cases o.dst with
        | none => exact hx
        | some d' => exact List.mem_cons_of_mem _ hx
      · intro g hg
        rcases List.mem_cons.1 hg with rfl | hg
        · exact unyield_put ho' (by cases o.dst with
            | none => exact .inl rfl
            | some d' => exact .inr ⟨d', rfl, Nat.lt_or_ge _ _⟩)
        · exact put_keeps_unyielded (hseen g hg)
theorem RG_pick {d dp : Nat} {x y : Operand} {b : Bool} {v : Value} {ty : TypeId} {pos : String} {af : Array Edge} {gd : Option (Nat × Bool)} (hp : nthO ops.toList i = some ⟨some dp, .pick (.tmp d) x y, ty, pos, af, gd⟩) (hS : S i = Spec.pure P ⟨some dp, .pick (.tmp d) x y, ty, pos, af, gd⟩) (hm : Nat.blt i m = true) (hw : ∀ a, AE n env a → Region.wanted ⟨some dp, .pick (.tmp d) x y, ty, pos, af, gd⟩ (yielded ops a.tmps) = true) (hb : lk d env = some (.bool b)) (hdn : Nat.blt dp n = true) (hv : ∀ a, AE n env a → (if b then a.eval x else a.eval y) = v) (h : RG P ops S F n m (i + 1) ((dp, v) :: env) L) : RG P ops S F n m i env L := by
  intro a hs
  rw [nthO_eq, Array.getElem?_toList] at hp
  rw [range'_cons (by simpa [Nat.blt_eq] using hm)]
  unfold SQ
  simp only [hp]
  rw [if_pos (hw a hs), hS]
  have e : a.eval (.tmp d) = .bool b := hs.eval hb
  have hpo : PureOp P ⟨some dp, .pick (.tmp d) x y, ty, pos, af, gd⟩ (Oper.vals ⟨some dp, .pick (.tmp d) x y, ty, pos, af, gd⟩ a) v := by
    intro ρ hρ w
    simp [Oper.vals, Op.operands] at hρ
    obtain ⟨h1, h2, h3⟩ := hρ
    have hvv := hv a hs
    rw [e] at h1
    cases b <;> simp at hvv <;> simp [execOp, h1, h2, h3, asBool, hvv]
  refine ⟨sound_pure, fun g => ⟨v, [], ?_, h _ (hs.put (some dp) v hdn)⟩⟩
  have hex : ∃ v, PureOp P ⟨some dp, .pick (.tmp d) x y, ty, pos, af, gd⟩ (Oper.vals ⟨some dp, .pick (.tmp d) x y, ty, pos, af, gd⟩ a) v := ⟨v, hpo⟩
  simp only [Spec.pure]
  rw [dif_pos hex, pure_one (Classical.choose_spec hex) hpo ⟨a.eval, rfl⟩]
theorem RG_or {p q : Prop} {_ : Decidable p} {_ : Decidable q} {d t dp m' : Nat} {oj op : Oper} {ty : TypeId} {pos : String} {af : Array Edge} {gd : Option (Nat × Bool)} (j k : Nat) (env0 : Env) (hj : nthO ops.toList j = some oj) (hd : oj.dst = some d) (hp : nthO ops.toList (i + k) = some op) (hop : op = ⟨some dp, .pick (.tmp d) (.const (.bool true)) (.tmp t), ty, pos, af, gd⟩) (hb : lk d env = some (.bool (decide p)))
    (h1 : skipsB ops.toList j i k [] = true) (h2 : guardsB ops.toList j false i k = true) (h3 : freshB (dstsB ops.toList i k) env = true) (hm : Nat.blt (i + k) m = true) (hdn : Nat.blt dp n = true) (hm' : i + k + 1 = m') (htd : Nat.beq t d = false) (h4 : freshB [t, d] env0 = true) (he : AllIn env env0) (hw : ∀ a, AE n env0 a → Region.wanted op (yielded ops a.tmps) = true)
    (hq : ¬ p → RG P ops S (CutF n ((t, .bool (decide q)) :: (d, .bool false) :: env0) L) n (i + k) i ((d, .bool false) :: env) L)
    (kk : RG P ops S F n m m' ((dp, .bool (decide (p ∨ q))) :: env0) L) (hS : S (i + k) = Spec.pure P op) : RG P ops S F n m i env L := by
  subst hm'
  have hlt : i + k < m := by simpa [Nat.blt_eq] using hm
  subst hop
  have hsub : ∀ v, ∀ x u, lk x ((dp, v) :: env0) = some u → lk x ((dp, v) :: env) = some u := by
    intro v x u hx
    simp only [lk] at hx ⊢
    cases hb : Nat.beq dp x with
    | true => simpa [hb] using hx
    | false => simp [hb] at hx ⊢; exact he.sub x u hx
  by_cases hpp : p
  · have hb' : lk d env = some (.bool true) := by rw [hb, decide_eq_true hpp]
    intro a hs
    refine RG_skips hj hd hb' (want := false) (by decide) k i [] h1 (fun x hx u hu => freshB_spec h3 x u hu hx) (guardsB_spec k i h2) (by omega) ?_ a hs (fun g hg => by cases hg)
    refine RG_pick hp hS hm (fun a ha => hw a (ha.sub he.sub)) hb' hdn (v := .bool true) (fun a _ => rfl) ?_
    rw [decide_eq_true (Or.inl hpp : p ∨ q)] at kk
    exact RG_conv (hsub _) kk
  · have hb' : lk d env = some (.bool false) := by rw [hb, decide_eq_false hpp]
    refine RG_conv (env' := (d, .bool false) :: env) (fun x v hv => ?_) ?_
    · simp only [lk] at hv
      by_cases e : d = x
      · subst e; simp at hv; rw [hb', hv]
      · have : Nat.beq d x = false := by rw [← Bool.not_eq_true, Nat.beq_eq]; exact e
        simpa [this] using hv
    · have hsub2 : ∀ x u, lk x env0 = some u → ∀ v1 v2, lk x ((t, v1) :: (d, v2) :: env0) = some u := by
        intro x u hx v1 v2
        have h5 := freshB_spec h4 x u hx
        have e1 : Nat.beq t x = false := by rw [← Bool.not_eq_true, Nat.beq_eq]; exact fun e => h5 (by simp [e])
        have e2 : Nat.beq d x = false := by rw [← Bool.not_eq_true, Nat.beq_eq]; exact fun e => h5 (by simp [e])
        simpa [lk, e1, e2] using hx
      refine RG_cut (i + k) _ L (by simp [Nat.ble_eq]) (by simp [Nat.ble_eq]; omega) (hq hpp) ?_
      refine RG_pick hp hS hm (fun a ha => hw a (ha.sub (fun x u hx => hsub2 x u hx _ _))) (b := false) (by rw [lk_cons_ne htd]; simp [lk]) hdn (v := .bool (decide q)) (fun a ha => ha.eval (x := .tmp t) (by simp [evE, lk])) ?_
      have e : decide (p ∨ q) = decide q := by simp [hpp]
      rw [e] at kk
      refine RG_conv (fun x u hx => ?_) kk
      simp only [lk] at hx ⊢
      cases h1 : Nat.beq dp x with
      | true => simpa [h1] using hx
      | false =>
        simp [h1] at hx ⊢
        have h5 := freshB_spec h4 x u hx
        have e1 : Nat.beq t x = false := by rw [← Bool.not_eq_true, Nat.beq_eq]; exact fun e => h5 (by simp [e])
        have e2 : Nat.beq d x = false := by rw [← Bool.not_eq_true, Nat.beq_eq]; exact fun e => h5 (by simp [e])
        simpa [e1, e2] using hx
theorem RG_and {p q : Prop} {_ : Decidable p} {_ : Decidable q} {d t dp m' : Nat} {oj op : Oper} {ty : TypeId} {pos : String} {af : Array Edge} {gd : Option (Nat × Bool)} (j k : Nat) (env0 : Env) (hj : nthO ops.toList j = some oj) (hd : oj.dst = some d) (hp : nthO ops.toList (i + k) = some op) (hop : op = ⟨some dp, .pick (.tmp d) (.tmp t) (.const (.bool false)), ty, pos, af, gd⟩) (hb : lk d env = some (.bool (decide p)))
    (h1 : skipsB ops.toList j i k [] = true) (h2 : guardsB ops.toList j true i k = true) (h3 : freshB (dstsB ops.toList i k) env = true) (hm : Nat.blt (i + k) m = true) (hdn : Nat.blt dp n = true) (hm' : i + k + 1 = m') (htd : Nat.beq t d = false) (h4 : freshB [t, d] env0 = true) (he : AllIn env env0) (hw : ∀ a, AE n env0 a → Region.wanted op (yielded ops a.tmps) = true)
    (hq : p → RG P ops S (CutF n ((t, .bool (decide q)) :: (d, .bool true) :: env0) L) n (i + k) i ((d, .bool true) :: env) L)
    (kk : RG P ops S F n m m' ((dp, .bool (decide (p ∧ q))) :: env0) L) (hS : S (i + k) = Spec.pure P op) : RG P ops S F n m i env L := by
  subst hm'
  have hlt : i + k < m := by simpa [Nat.blt_eq] using hm
  subst hop
  have hsub : ∀ v, ∀ x u, lk x ((dp, v) :: env0) = some u → lk x ((dp, v) :: env) = some u := by
    intro v x u hx
    simp only [lk] at hx ⊢
    cases hb : Nat.beq dp x with
    | true => simpa [hb] using hx
    | false => simp [hb] at hx ⊢; exact he.sub x u hx
  by_cases hpp : p
  case neg =>
    have hb' : lk d env = some (.bool false) := by rw [hb, decide_eq_false hpp]
    intro a hs
    refine RG_skips hj hd hb' (want := true) (by decide) k i [] h1 (fun x hx u hu => freshB_spec h3 x u hu hx) (guardsB_spec k i h2) (by omega) ?_ a hs (fun g hg => by cases hg)
    refine RG_pick hp hS hm (fun a ha => hw a (ha.sub he.sub)) hb' hdn (v := .bool false) (fun a _ => rfl) ?_
    rw [decide_eq_false (fun h : p ∧ q => hpp h.1)] at kk
    exact RG_conv (hsub _) kk
  case pos =>
    have hb' : lk d env = some (.bool true) := by rw [hb, decide_eq_true hpp]
    refine RG_conv (env' := (d, .bool true) :: env) (fun x v hv => ?_) ?_
    · simp only [lk] at hv
      by_cases e : d = x
      · subst e; simp at hv; rw [hb', hv]
      · have : Nat.beq d x = false := by rw [← Bool.not_eq_true, Nat.beq_eq]; exact e
        simpa [this] using hv
    · have hsub2 : ∀ x u, lk x env0 = some u → ∀ v1 v2, lk x ((t, v1) :: (d, v2) :: env0) = some u := by
        intro x u hx v1 v2
        have h5 := freshB_spec h4 x u hx
        have e1 : Nat.beq t x = false := by rw [← Bool.not_eq_true, Nat.beq_eq]; exact fun e => h5 (by simp [e])
        have e2 : Nat.beq d x = false := by rw [← Bool.not_eq_true, Nat.beq_eq]; exact fun e => h5 (by simp [e])
        simpa [lk, e1, e2] using hx
      refine RG_cut (i + k) _ L (by simp [Nat.ble_eq]) (by simp [Nat.ble_eq]; omega) (hq hpp) ?_
      refine RG_pick hp hS hm (fun a ha => hw a (ha.sub (fun x u hx => hsub2 x u hx _ _))) (b := true) (by rw [lk_cons_ne htd]; simp [lk]) hdn (v := .bool (decide q)) (fun a ha => ha.eval (x := .tmp t) (by simp [evE, lk])) ?_
      have e : decide (p ∧ q) = decide q := by simp [hpp]
      rw [e] at kk
      refine RG_conv (fun x u hx => ?_) kk
      simp only [lk] at hx ⊢
      cases h1 : Nat.beq dp x with
      | true => simpa [h1] using hx
      | false =>
        simp [h1] at hx ⊢
        have h5 := freshB_spec h4 x u hx
        have e1 : Nat.beq t x = false := by rw [← Bool.not_eq_true, Nat.beq_eq]; exact fun e => h5 (by simp [e])
        have e2 : Nat.beq d x = false := by rw [← Bool.not_eq_true, Nat.beq_eq]; exact fun e => h5 (by simp [e])
        simpa [e1, e2] using hx

end
end Go.Proofs.YtompmejidaddoaaDoor
