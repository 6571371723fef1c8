/- The walk of the law BagSets: whatever the calls, it is true. -/
import Derived.Test.YtompmejidaddoaaDoorBagG
set_option linter.unusedVariables false
set_option linter.unusedSimpArgs false
namespace Go.Proofs.YtompmejidaddoaaDoor
open Go Go.RowKit

structure ActD where
  k : Int
  x : Int
  vl : Value
  raw : Bool
  l : List Int
instance : Inhabited ActD := ⟨⟨0, 0, .slice none 0 0, false, []⟩⟩
def acells (a : ActD) : List Value := [.int .u8 a.k, .int .i64 a.x, a.vl, .bool a.raw]
def ac (as' : List ActD) (i : Nat) : ActD := as'.getD i default
structure ActOk (c : Chunk) (a : ActD) : Prop where
  k0 : 0 ≤ a.k
  k1 : a.k ≤ 255
  x1 : a.x ≤ 9223372036854775807
  row : Rds c a.vl a.l.length 1 (i64s a.l)
  le : ∀ j, nth a.l j ≤ 9223372036854775807
theorem acts_get : ∀ (as' : List ActD) (i : Nat), i < as'.length → ∀ q u, (acells (ac as' i))[q]? = some u → (as'.flatMap acells)[i * 4 + q]? = some u
  | [], i, hi, _, _, _ => by simp at hi
  | a :: r, 0, _, q, u, h => by
    have hq : q < 4 := by
      have := (List.getElem?_eq_some_iff.1 h).1
      simpa [acells] using this
    rw [List.flatMap_cons, List.getElem?_append_left (by simp [acells]; omega)]
    simpa [ac] using h
  | a :: r, i + 1, hi, q, u, h => by
    have := acts_get r i (by simpa using hi) q u (by simpa [ac] using h)
    rw [List.flatMap_cons, List.getElem?_append_right (by simp [acells]; omega)]
    have e : (i + 1) * 4 + q - (acells a).length = i * 4 + q := by simp [acells]; omega
    rw [e]; exact this
theorem ac_mem (as' : List ActD) (i : Nat) (h : i < as'.length) : ac as' i ∈ as' := by
  have : ac as' i = as'[i] := by simp [ac, h]
  rw [this]; exact List.getElem_mem h
def BothH (g g' : Nat) : HP := HP.ex fun y : Value × (Nat → Bool) => HP.sep [(SB g y.1).toHP, SetV y.1 y.2, (ArC g' y.2).toHP]
theorem both_open {w : World} {g g' : Nat} {L : List Chunk} : SatC w (.hp (BothH g g') :: L) ↔ ∃ y : Value × (Nat → Bool), SatC w (SB g y.1 :: .hp (SetV y.1 y.2) :: ArC g' y.2 :: L) := by
  show Sat w (BothH g g' :: hps L) ↔ _
  simp only [BothH, Sat_ex, Sat_sep, List.cons_append, List.nil_append]
  exact Iff.rfl

theorem more_iff (M W : Nat → Bool) (k : Nat) : (moreB M W k = true ∨ (W k = true ∧ ¬ M k = true)) ↔ moreB M W (k + 1) = true := by
  rw [moreB_succ]; cases moreB M W k <;> cases W k <;> cases M k <;> simp
theorem toF_or (M W : Nat → Bool) : arrB (toF (fun a b => a || b) M W 4096) = arrB (orM M W) := toF_arr _ M W
theorem toF_sub (M W : Nat → Bool) : arrB (toF (fun a b => a && !b) M W 4096) = arrB (subM M W) := toF_arr _ M W
theorem toF_and (M W : Nat → Bool) : arrB (toF (fun a b => a && b) M W 4096) = arrB (andM M W) := toF_arr _ M W
theorem arC_or (g : Nat) (M W : Nat → Bool) : ArC g (toF (fun a b => a || b) M W 4096) = ArC g (orM M W) := by
  show Chunk.blk g (.cells (arrB (toF (fun a b => a || b) M W 4096)).toArray _ _) = _
  rw [toF_or]
theorem arC_sub (g : Nat) (M W : Nat → Bool) : ArC g (toF (fun a b => a && !b) M W 4096) = ArC g (subM M W) := by
  show Chunk.blk g (.cells (arrB (toF (fun a b => a && !b) M W 4096)).toArray _ _) = _
  rw [toF_sub]
theorem arC_and (g : Nat) (M W : Nat → Bool) : ArC g (toF (fun a b => a && b) M W 4096) = ArC g (andM M W) := by
  show Chunk.blk g (.cells (arrB (toF (fun a b => a && b) M W 4096)).toArray _ _) = _
  rw [toF_and]
theorem elems_mx (M : Nat → Bool) : (elems M).length ≤ maxLen := by
  have : (elems M).length ≤ 4096 := by rw [elems]; exact Nat.le_trans (List.length_filter_le _ _) (by simp)
  simp only [maxLen]; omega
theorem ct_SIrow (va vb : Value) (n : Nat) (xs : List Int) (hn : xs.length = n) : Ct Tryd.prog 36 [va, vb] [.row 3 1 va n (i64s xs), .row 3 1 vb n (i64s xs)] [] (X := Unit) (fun _ => .bool true) (fun _ => []) := by
  subst hn
  intro w l hs
  have hs0 : Sat w (RowO 3 1 va xs.length (i64s xs) :: RowO 3 1 vb xs.length (i64s xs) :: l) := hs
  have h1 := (isRow_of_sat hs0).1
  have h2 := (isRow_of_sat (hs0.front 1 rfl)).1
  refine (ct_SameInts _ _ va vb xs xs (rds_row h1 (by rw [i64s_length, Nat.mul_one])) (rds_row h2 (by rw [i64s_length, Nat.mul_one])) w l hs).mono fun e w' ⟨x, he, h3, h4⟩ => ⟨x, by rw [he]; simp, h3, h4⟩
theorem ct_sameG (W0 : World) (hT : Tab W0) (v1 v2 : Value) (M1 M2 : Nat → Bool) : Ct Tryd.prog 33 [.agg [v1].toArray, .agg [v2].toArray] [.old W0, .hp (SetV v1 M1), .hp (SetV v2 M2)] [] (X := Unit) (fun _ => .bool (sameM M1 M2)) (fun _ => []) := by
  intro w l hs
  have hs0 : Sat w (Old W0 :: SetV v1 M1 :: SetV v2 M2 :: l) := hs
  obtain ⟨ws1, ⟨hw1, hm1⟩, h1⟩ := SetV_iff.1 (hs0.front 1 rfl)
  obtain ⟨ws2, ⟨hw2, hm2⟩, h2⟩ := SetV_iff.1 (hs0.front 2 rfl)
  subst hm1 hm2
  exact (same_any v1 v2 ws1 ws2 w hw1 hw2 (hT.old hs0.old) h1.row h2.row).mono fun e w' ⟨he, hb⟩ => ⟨(), he, hs.below hb, Ext.of_below hb⟩
def yv1 : List Value → List Chunk → Value
  | _ :: v :: _, _ => v
  | _, _ => default
def yv2 : List Value → List Chunk → Value × Value
  | _ :: v :: u :: _, _ => (v, u)
  | _, _ => default
theorem cells_arr {g t : Nat} {M : Nat → Bool} : (Chunk.blk g (.cells (arrB M).toArray t (0, 0))).cells ⟨g, 0, none⟩ 0 4096 = some (arrB M) := by
  have := cells_of (c := .blk g (.cells (arrB M).toArray t (0, 0))) (a := ⟨g, 0, none⟩) (arrB M) 0 (fun i u hi => by
    rw [add_lit']
    simp only [Chunk.cell, and_self, if_true]
    simpa using hi)
  rwa [arr_len] at this
theorem both_fold {w : World} {g g' : Nat} {v : Value} {M : Nat → Bool} {L : List Chunk} (h : SatC w (SB g v :: .hp (SetV v M) :: ArC g' M :: L)) : SatC w (.hp (BothH g g') :: L) := both_open.2 ⟨(v, M), h⟩
theorem up_cut (M : Nat → Bool) (z : Int) (h : 0 ≤ z) : upM M z.toNat false = cutM M z := by
  funext i
  simp only [upM, cutM]
  by_cases e : i = z.toNat
  · rw [if_pos e, decide_eq_true (show (i : Int) = z by omega)]; simp
  · rw [if_neg e, decide_eq_false (show ¬ (i : Int) = z by omega)]; simp
theorem cut_id {M : Nat → Bool} (hM : InSet M) (z : Int) (h : ¬ ((z ≥ 0 ∧ z < 4096) ∧ M z.toNat = true)) : cutM M z = M := by
  funext i
  simp only [cutM]
  cases hm : M i with
  | false => rfl
  | true =>
    have hi := hM i hm
    rw [decide_eq_false]
    · rfl
    · intro e
      apply h
      have : z.toNat = i := by omega
      rw [this]
      exact ⟨by omega, hm⟩
theorem has_is {M : Nat → Bool} (hM : InSet M) (z : Int) : decide (hasM M z = true) = decide ((z ≥ 0 ∧ z < 4096) ∧ M z.toNat = true) := by
  apply decide_eq_decide.2
  simp only [hasM, Bool.and_eq_true, decide_eq_true_eq]
  constructor
  · rintro ⟨h1, h2⟩
    have := hM _ h2
    exact ⟨by omega, h2⟩
  · rintro ⟨h1, h2⟩
    exact ⟨h1.1, h2⟩
theorem can_is (M : Nat → Bool) (z : Int) : decide (canPut M z = true) = decide ((z ≥ 0 ∧ z < 4096) ∧ ¬ ((z ≥ 0 ∧ z < 4096) ∧ M z.toNat = true)) := by
  apply decide_eq_decide.2
  simp only [canPut, Bool.and_eq_true, decide_eq_true_eq, Bool.not_eq_true', ge_iff_le]
  constructor
  · rintro ⟨h1, h2⟩
    exact ⟨h1, fun h => by rw [h2] at h; exact absurd h.2 (by decide)⟩
  · rintro ⟨h1, h2⟩
    refine ⟨h1, ?_⟩
    cases hm : M z.toNat with
    | false => rfl
    | true => exact absurd ⟨h1, hm⟩ h2

set_option maxRecDepth 100000 in
set_option maxHeartbeats 4000000 in
theorem ct_Sets (W0 : World) (hT : Tab W0) (va : Value) (as' : List ActD) (hR : Rds (.old W0) va as'.length 4 (as'.flatMap acells)) (hOk : ∀ a ∈ as', ActOk (.old W0) a) :
    Ct Tryd.prog 8 [va] [.old W0] [] (X := Unit) (fun _ => .bool true) (fun _ => []) := by
  refine ct_of fun w lf hs => ?_
  have hr := hR.row
  refine enter (c := bodyOf Tryd.f8) Tryd.func8 rfl Tryd.ntmps8 rfl (L := [.old W0, .hp (HP.sep lf), .emp, .emp, .emp, .emp, .emp, .emp, .emp, .emp, .emp, .emp, .emp, .emp]) (SatC.pad (SatC.pad hs 7) 5) ?_
  refine W_seq rfl ?_
  refine W_reg (m := 1) rfl rfl ?_
  refine RN_op rfl rfl rfl (st_pure pure_assign rfl rfl rfl ?_)
  refine RN_end ?_
  refine WQ_keep [(0, _)] ⟨rfl, trivial⟩ ?_
  refine WQ_then ?_
  refine W_seq rfl ?_
  refine W_seq rfl ?_
  refine W_reg (m := 2) rfl rfl ?_
  refine RN_op rfl rfl rfl (s_ct (R := [0]) (W := []) (x0 := ()) (ct_awake9 W0 hT) fnF9 rfl rfl rfl rfl (by decide) rfl (fun _ => rfl) rfl rfl fun _ => ?_)
  refine RN_op rfl rfl rfl (st_pure pure_notD rfl rfl rfl ?_)
  refine RN_end ?_
  refine WQ_keep [(20, _), (0, _)] ⟨rfl, rfl, trivial⟩ ?_
  refine WQ_then ?_
  refine W_cond rfl rfl (fun hc1 => ?_) (fun hc1 => ?_)
  · exact absurd trivial hc1
  · refine W_skip rfl ?_
    refine WQ_then ?_
    refine W_seq rfl ?_
    refine W_reg (m := 1) rfl rfl ?_
    refine RN_op rfl rfl rfl (s_al 9 (alloc_new zr28) rfl rfl rfl fun g9 => ?_)
    refine RN_end ?_
    refine WQ_keep [(3, _), (0, _)] ⟨rfl, rfl, trivial⟩ ?_
    refine WQ_then ?_
    refine W_seq rfl ?_
    refine W_reg (m := 3) rfl rfl ?_
    refine RN_op rfl rfl rfl (st_pure (pure_buildZ Tryd.underlying78 zr_model sz4) rfl rfl rfl ?_)
    refine RN_op rfl rfl rfl (s_al 10 alloc_boxA rfl rfl rfl fun g10 => ?_)
    refine RN_op rfl rfl rfl (st_pure pure_assign rfl rfl rfl ?_)
    refine RN_end ?_
    refine WQ_keep [(4, _), (3, _), (0, _)] ⟨rfl, rfl, rfl, trivial⟩ ?_
    refine WQ_then ?_
    refine W_seq rfl ?_
    refine W_seq rfl ?_
    refine W_reg (m := 3) rfl rfl ?_
    refine RN_op rfl rfl rfl (st_pure pure_move rfl rfl rfl ?_)
    refine RN_op rfl rfl rfl (st_pure (pure_lenR Tryd.underlying76 (by assumption)) rfl rfl rfl ?_)
    refine RN_op rfl rfl rfl (st_pure pure_move rfl rfl rfl ?_)
    refine RN_end ?_
    refine WQ_keep [(25, _), (24, _), (23, _), (4, _), (3, _)] ⟨rfl, rfl, rfl, rfl, rfl, trivial⟩ ?_
    refine WQ_then ?_
    refine W_block rfl ?_
    rw [arr_nil]
    refine W_sat (L' := [.old W0, .hp (HP.sep lf), .hp (SetV (.slice none 0 0) noneM), .emp, .emp, .emp, .emp, .emp, .emp, SB g9 (.slice none 0 0), ArC g10 noneM, .emp, .emp, .emp]) (fun w hs _ => ?_) ?_
    · exact (setV_nil (hs.pick [0, 1, 9, 10] (by decide)) : SatC w [.hp (SetV (.slice none 0 0) noneM), .old W0, .hp (HP.sep lf), SB g9 (.slice none 0 0), ArC g10 noneM]).pick [1, 2, 0, 5, 6, 7, 8, 9, 10, 3, 4, 11, 12, 13] (by decide)
    refine W_loop (σ := Nat × Value × (Nat → Bool)) (fun ⟨i, v, M⟩ => as'.length - i) (fun ⟨i, v, M⟩ => [(3, .pointer (some ⟨g9, 0, none⟩)), (4, .pointer (some ⟨g10, 0, none⟩)), (23, va), (24, .int .i64 ((as'.length : Nat) : Int)), (25, .int .i64 ((i : Nat) : Int))]) (fun ⟨i, v, M⟩ => [.old W0, .hp (HP.sep lf), .hp (SetV v M), .emp, .emp, .emp, .emp, .emp, .emp, SB g9 v, ArC g10 M, .emp, .emp, .emp]) (fun ⟨i, v, M⟩ => i ≤ as'.length) ((0, .slice none 0 0, noneM)) rfl ((Nat.zero_le _)) (AllIn.sub ⟨rfl, rfl, rfl, rfl, rfl, trivial⟩) (EntP.ent (by repeat' first | exact EntP.nil | refine EntP.same ?_ | refine EntP.drop ?_ | refine EntP.nilRow ?_)) ?_
    rintro ⟨i, v, M⟩ hI
    refine W_as [(3, .pointer (some ⟨g9, 0, none⟩)), (4, .pointer (some ⟨g10, 0, none⟩)), (23, va), (24, .int .i64 ((as'.length : Nat) : Int)), (25, .int .i64 ((i : Nat) : Int))] [.old W0, .hp (HP.sep lf), .hp (SetV v M), .emp, .emp, .emp, .emp, .emp, .emp, SB g9 v, ArC g10 M, .emp, .emp, .emp] ⟨rfl, rfl, rfl, rfl, rfl, trivial⟩ (EntP.refl _) ?_
    refine W_know (fun w hs _ => setV_in 2 hs rfl) fun hIn => ?_
    refine W_seq rfl ?_
    refine W_reg (m := 1) rfl rfl ?_
    refine RN_op rfl rfl rfl (st_pure pure_lss rfl rfl rfl ?_)
    refine RN_end ?_
    refine WQ_keep [(26, _), (3, _), (4, _), (23, _), (24, _), (25, _)] ⟨rfl, rfl, rfl, rfl, rfl, rfl, trivial⟩ ?_
    refine WQ_then ?_
    refine W_seq rfl ?_
    refine W_cond rfl rfl (fun hc2 => ?_) (fun hc2 => ?_)
    · have hil : i < as'.length := by omega
      have hok := hOk _ (ac_mem as' i hil)
      have hrl := hok.row.row
      haveI := hrl.one
      have hk0 := hok.k0
      have hk1 := hok.k1
      have hz1 := near_le (ac as' i).raw (ac as' i).x hok.x1
      refine W_skip rfl ?_
      refine WQ_then ?_
      refine W_seq rfl ?_
      refine W_block rfl ?_
      refine W_seq rfl ?_
      refine W_reg (m := 6) rfl rfl ?_
      refine RN_op rfl rfl rfl (st_pure pure_move rfl rfl rfl ?_)
      refine RN_op rfl rfl rfl (st_pure (pure_indexR Tryd.underlying76 sz68 (by assumption) (by omega)) rfl rfl rfl ?_)
      refine RN_op rfl rfl rfl (st_ldN 0 rfl Tryd.underlying68 rfl sz68 rfl rfl (hR.cells (j := i * 4) (r := [.int .u8 (ac as' i).k, .int .i64 (ac as' i).x, (ac as' i).vl, .bool (ac as' i).raw]) (by omega) rfl (fun q u h => acts_get as' i hil q u h)) rfl rfl ?_)
      refine RN_op rfl rfl rfl (s_al 11 (alloc_new zr68) rfl rfl rfl fun g11 => ?_)
      refine RN_op rfl rfl rfl (st_pure pure_assign rfl rfl rfl ?_)
      refine RN_op rfl rfl rfl (s_st 11 rfl sz68 rfl rfl rfl rfl puts_agg rfl ?_)
      refine RN_end ?_
      refine WQ_keep [(5, _), (6, _), (3, _), (4, _), (23, _), (24, _), (25, _)] ⟨rfl, rfl, rfl, rfl, rfl, rfl, rfl, trivial⟩ ?_
      refine WQ_then ?_
      refine W_seq rfl ?_
      refine W_seq rfl ?_
      refine W_reg (m := 2) rfl rfl ?_
      refine RN_op rfl rfl rfl (st_pure pure_move rfl rfl rfl ?_)
      refine RN_op rfl rfl rfl (st_pure pure_gtr rfl rfl rfl ?_)
      refine RN_end ?_
      refine WQ_keep [(31, _), (6, _), (3, _), (4, _), (23, _), (24, _), (25, _)] ⟨rfl, rfl, rfl, rfl, rfl, rfl, rfl, trivial⟩ ?_
      refine WQ_then ?_
      refine W_cond rfl rfl (fun hc3 => ?_) (fun hc3 => ?_)
      · refine W_exit rfl ?_
        refine WQ_thenX rfl ?_
        refine WQ_pass rfl ?_
        refine WQ_thenX rfl ?_
        refine WQ_thenX rfl ?_
        refine WQ_hit ?_
        refine WQ_then ?_
        refine W_seq rfl ?_
        refine W_reg (m := 1) rfl rfl ?_
        refine RN_op rfl rfl rfl (st_pure pure_assign rfl rfl rfl ?_)
        refine RN_end ?_
        refine WQ_keep [(2, _)] ⟨rfl, trivial⟩ ?_
        refine WQ_then ?_
        refine W_ret rfl ?_
        refine WQ_ret (vs := [_]) (by rw [Tryd.results8]; rfl) fun w' hs' he' => ?_
        exact ⟨(), rfl, hs'.pick [0, 1] (by decide), he'⟩
      · refine W_skip rfl ?_
        refine WQ_then ?_
        refine W_seq rfl ?_
        refine W_reg (m := 6) rfl rfl ?_
        refine RN_op rfl rfl rfl (st_pure (pure_field0 1 Tryd.underlying68 rfl rfl sz3) rfl rfl rfl ?_)
        refine RN_op rfl rfl rfl (st_ld 11 rfl Tryd.underlying3 rfl rfl rfl cell_blk rfl rfl ?_)
        refine RN_op rfl rfl rfl (st_pure (pure_field0 3 Tryd.underlying68 rfl rfl sz4) rfl rfl rfl ?_)
        refine RN_op rfl rfl rfl (st_ld 11 rfl Tryd.underlying4 rfl rfl rfl cell_blk rfl rfl ?_)
        refine RN_op rfl rfl rfl (s_ct (R := []) (W := []) (x0 := ()) (ct_near (ac as' i).x (ac as' i).raw) fnF34 rfl rfl rfl rfl (by decide) rfl (fun _ => rfl) rfl rfl fun _ => ?_)
        refine RN_op rfl rfl rfl (st_pure pure_assign rfl rfl rfl ?_)
        refine RN_end ?_
        refine WQ_keep [(7, _), (6, _), (3, _), (4, _), (23, _), (24, _), (25, _)] ⟨rfl, rfl, rfl, rfl, rfl, rfl, rfl, trivial⟩ ?_
        generalize nearI (ac as' i).raw (ac as' i).x = z at hz1 ⊢
        refine WQ_then ?_
        refine W_seq rfl ?_
        refine W_reg (m := 7) rfl rfl ?_
        refine RN_op rfl rfl rfl (st_pure pure_move rfl rfl rfl ?_)
        refine RN_op rfl rfl rfl (st_pure pure_geq rfl rfl rfl ?_)
        refine RN_op rfl rfl rfl (st_pure pure_move rfl rfl rfl ?_)
        refine' RN_and 2 2 [(7, _), (6, _), (3, _), (4, _), (23, _), (24, _), (25, _)] rfl rfl rfl rfl rfl rfl rfl rfl rfl rfl rfl rfl rfl ⟨rfl, rfl, rfl, rfl, rfl, rfl, rfl, trivial⟩ (wanted_none rfl) (fun hg5 => ?_) ?_
        rotate_left 2
        · refine RN_gT rfl rfl rfl rfl rfl rfl (st_pure pure_move rfl rfl rfl ?_)
          refine RN_gT rfl rfl rfl rfl rfl rfl (st_pure pure_lss rfl rfl rfl ?_)
          exact RN_end (cut_end (AllIn.sub ⟨rfl, rfl, rfl, rfl, rfl, rfl, rfl, rfl, rfl, trivial⟩) (Ent.refl _))
        refine RN_op rfl rfl rfl (st_pure pure_assign rfl rfl rfl ?_)
        refine RN_end ?_
        refine WQ_keep [(8, _), (7, _), (6, _), (3, _), (4, _), (23, _), (24, _), (25, _)] ⟨rfl, rfl, rfl, rfl, rfl, rfl, rfl, rfl, trivial⟩ ?_
        refine WQ_then ?_
        refine W_seq rfl ?_
        refine W_reg (m := 11) rfl rfl ?_
        refine RN_op rfl rfl rfl (st_pure pure_move rfl rfl rfl ?_)
        refine RN_op rfl rfl rfl (st_pure pure_move rfl rfl rfl ?_)
        refine' RN_and 1 7 [(8, _), (7, _), (6, _), (3, _), (4, _), (23, _), (24, _), (25, _)] rfl rfl rfl rfl rfl rfl rfl rfl rfl rfl rfl rfl rfl ⟨rfl, rfl, rfl, rfl, rfl, rfl, rfl, rfl, trivial⟩ (wanted_none rfl) (fun hg9 => ?_) ?_
        rotate_left 2
        · refine RN_gT rfl rfl rfl rfl rfl rfl (st_pure pure_move rfl rfl rfl ?_)
          refine RN_gT rfl rfl rfl rfl rfl rfl (st_pure pure_move rfl rfl rfl ?_)
          refine RN_gT rfl rfl rfl rfl rfl rfl (st_pure pure_min rfl rfl rfl ?_)
          refine RN_gT rfl rfl rfl rfl rfl rfl (st_pure pure_max rfl rfl rfl ?_)
          refine RN_gT rfl rfl rfl rfl rfl rfl (st_pure pure_nil rfl rfl rfl ?_)
          refine RN_gT rfl rfl rfl rfl rfl rfl (st_pure (pure_indexA (j := z.toNat) (hi := ⟨by omega⟩) Tryd.underlying78 sz4 (by omega)) rfl rfl rfl ?_)
          refine RN_gT rfl rfl rfl rfl rfl rfl (st_ld 10 rfl Tryd.underlying4 rfl rfl rfl (cell_arrD (by omega)) rfl rfl ?_)
          exact RN_end (cut_end (AllIn.sub ⟨rfl, rfl, rfl, rfl, rfl, rfl, rfl, rfl, rfl, rfl, trivial⟩) (Ent.refl _))
        refine RN_op rfl rfl rfl (st_pure pure_assign rfl rfl rfl ?_)
        refine RN_end ?_
        refine WQ_keep [(9, _), (8, _), (7, _), (6, _), (3, _), (4, _), (23, _), (24, _), (25, _)] ⟨rfl, rfl, rfl, rfl, rfl, rfl, rfl, rfl, rfl, trivial⟩ ?_
        refine WQ_then ?_
        refine W_seq rfl ?_
        refine W_reg (m := 8) rfl rfl ?_
        refine RN_op rfl rfl rfl (st_ldN 11 rfl Tryd.underlying68 rfl sz68 rfl rfl cells_blk rfl rfl ?_)
        refine RN_op rfl rfl rfl (s_ct (R := [0]) (W := [3, 4]) (x0 := (.slice none 0 0, 0)) (ct_other (.old W0) (ac as' i).k (ac as' i).x (ac as' i).vl (ac as' i).raw (ac as' i).l hok.row hok.le) fnF28 rfl rfl rfl rfl (by decide) rfl (fun _ => rfl) rfl rfl fun yo => ?_)
        refine RN_know (fun w hs _ => setV_one 3 hs rfl) fun hyo => ?_
        generalize ofM (othL (ac as' i).raw (ac as' i).l) = Wm
        refine RN_op rfl rfl rfl (st_pure pure_move rfl rfl rfl ?_)
        refine RN_op rfl rfl rfl (st_pure (pure_extract rfl) rfl rfl rfl ?_)
        refine RN_op rfl rfl rfl (st_pure (pure_extract rfl) rfl rfl rfl ?_)
        refine RN_op rfl rfl rfl (s_al 12 (alloc_new zr28) rfl rfl rfl fun g12 => ?_)
        refine RN_op rfl rfl rfl (s_st 12 rfl sz28 rfl rfl rfl rfl puts_agg rfl ?_)
        refine RN_op rfl rfl rfl (st_pure pure_assign rfl rfl rfl ?_)
        refine RN_end ?_
        refine WQ_keep [(11, _), (10, _), (9, _), (8, _), (7, _), (6, _), (3, _), (4, _), (23, _), (24, _), (25, _)] ⟨rfl, rfl, rfl, rfl, rfl, rfl, rfl, rfl, rfl, rfl, rfl, trivial⟩ ?_
        refine WQ_then ?_
        refine W_seq rfl ?_
        refine W_reg (m := 2) rfl rfl ?_
        refine RN_op rfl rfl rfl (st_pure pure_assign rfl rfl rfl ?_)
        refine RN_op rfl rfl rfl (st_pure pure_assign rfl rfl rfl ?_)
        refine RN_end ?_
        refine WQ_keep [(13, _), (12, _), (11, _), (10, _), (9, _), (8, _), (7, _), (6, _), (3, _), (4, _), (23, _), (24, _), (25, _)] ⟨rfl, rfl, rfl, rfl, rfl, rfl, rfl, rfl, rfl, rfl, rfl, rfl, rfl, trivial⟩ ?_
        refine WQ_then ?_
        refine W_seq rfl ?_
        apply W_cut [(3, .pointer (some ⟨g9, 0, none⟩)), (4, .pointer (some ⟨g10, 0, none⟩)), (7, .int .i64 z), (8, .bool (decide (z ≥ 0 ∧ z < 4096))), (10, .pointer (some ⟨g12, 0, none⟩)), (11, .pointer (some ⟨yo.2, 0, none⟩)), (12, .bool true), (23, va), (24, .int .i64 ((as'.length : Nat) : Int)), (25, .int .i64 ((i : Nat) : Int))] [.old W0, .hp (HP.sep lf), .hp (BothH g9 g10), .hp (SetV yo.1 Wm), ArC yo.2 Wm, .emp, .emp, .emp, .emp, .emp, .emp, .emp, SB g12 yo.1, .emp]
        · refine W_seq rfl ?_
          refine W_reg (m := 3) rfl rfl ?_
          refine RN_op rfl rfl rfl (st_pure (pure_field0 0 Tryd.underlying68 rfl rfl sz5) rfl rfl rfl ?_)
          refine RN_op rfl rfl rfl (st_ld 11 rfl Tryd.underlying5 rfl rfl rfl cell_blk rfl rfl ?_)
          refine RN_op rfl rfl rfl (st_pure (pure_remP (by omega) (by omega)) rfl rfl rfl ?_)
          refine RN_end ?_
          refine WQ_keep [(60, _), (13, _), (12, _), (11, _), (10, _), (9, _), (8, _), (7, _), (3, _), (4, _), (23, _), (24, _), (25, _)] ⟨rfl, rfl, rfl, rfl, rfl, rfl, rfl, rfl, rfl, rfl, rfl, rfl, rfl, trivial⟩ ?_
          refine WQ_then ?_
          refine W_block rfl ?_
          refine W_seq rfl ?_
          apply W_cut [(3, .pointer (some ⟨g9, 0, none⟩)), (4, .pointer (some ⟨g10, 0, none⟩)), (7, .int .i64 z), (8, .bool (decide (z ≥ 0 ∧ z < 4096))), (9, .bool (decide ((z ≥ 0 ∧ z < 4096) ∧ M z.toNat = true))), (10, .pointer (some ⟨g12, 0, none⟩)), (11, .pointer (some ⟨yo.2, 0, none⟩)), (12, .bool true), (13, .bool false), (23, va), (24, .int .i64 ((as'.length : Nat) : Int)), (25, .int .i64 ((i : Nat) : Int)), (60, .int .u8 ((ac as' i).k % 10)), (74, .bool (decide ((ac as' i).k % 10 = 4 ∨ (ac as' i).k % 10 = 5)))] [.old W0, .hp (HP.sep lf), .hp (SetV v M), .hp (SetV yo.1 Wm), ArC yo.2 Wm, .emp, .emp, .emp, .emp, SB g9 v, ArC g10 M, .emp, SB g12 yo.1, .emp]
          · refine W_seq rfl ?_
            refine W_reg (m := 2) rfl rfl ?_
            refine RN_op rfl rfl rfl (st_pure pure_eql rfl rfl rfl ?_)
            refine RN_op rfl rfl rfl (st_pure pure_assign rfl rfl rfl ?_)
            refine RN_end ?_
            refine WQ_keep [(74, _), (60, _), (13, _), (12, _), (11, _), (10, _), (9, _), (8, _), (7, _), (3, _), (4, _), (23, _), (24, _), (25, _)] ⟨rfl, rfl, rfl, rfl, rfl, rfl, rfl, rfl, rfl, rfl, rfl, rfl, rfl, rfl, trivial⟩ ?_
            refine WQ_then ?_
            refine W_cond rfl rfl (fun hc4 => ?_) (fun hc4 => ?_)
            · refine W_skip rfl ?_
              exact WQ_mid (AllIn.sub ⟨rfl, rfl, rfl, rfl, rfl, rfl, rfl, rfl, rfl, rfl, rfl, rfl, rfl, congrArg (fun b => some (Value.bool b)) (decide_eq_decide.2 (by omega)), trivial⟩) (EntP.ent (by repeat' first | exact EntP.nil | refine EntP.same ?_ | refine EntP.drop ?_ | refine EntP.nilRow ?_))
            · refine W_reg (m := 2) rfl rfl ?_
              refine RN_op rfl rfl rfl (st_pure pure_eql rfl rfl rfl ?_)
              refine RN_op rfl rfl rfl (st_pure pure_assign rfl rfl rfl ?_)
              refine RN_end ?_
              refine WQ_keep [(74, _), (60, _), (13, _), (12, _), (11, _), (10, _), (9, _), (8, _), (7, _), (3, _), (4, _), (23, _), (24, _), (25, _)] ⟨rfl, rfl, rfl, rfl, rfl, rfl, rfl, rfl, rfl, rfl, rfl, rfl, rfl, rfl, trivial⟩ ?_
              exact WQ_mid (AllIn.sub ⟨rfl, rfl, rfl, rfl, rfl, rfl, rfl, rfl, rfl, rfl, rfl, rfl, rfl, congrArg (fun b => some (Value.bool b)) (decide_eq_decide.2 (by omega)), trivial⟩) (EntP.ent (by repeat' first | exact EntP.nil | refine EntP.same ?_ | refine EntP.drop ?_ | refine EntP.nilRow ?_))
          · refine W_cond rfl rfl (fun hc5 => ?_) (fun hc5 => ?_)
            · refine W_seq rfl ?_
              refine W_reg (m := 5) rfl rfl ?_
              refine RN_op rfl rfl rfl (st_pure pure_move rfl rfl rfl ?_)
              refine RN_op rfl rfl rfl (s_ct (R := []) (W := [9, 2]) (x0 := .slice none 0 0) (ct_cutV g9 M z hz1 v) fnF27 rfl rfl rfl rfl (by decide) rfl (fun _ => rfl) rfl rfl fun v2 => ?_)
              refine RN_op rfl rfl rfl (st_pure pure_move rfl rfl rfl ?_)
              refine RN_op rfl rfl rfl (st_pure (pure_to (pure_eqlBD Tryd.underlying4) (congrArg Value.bool (decide_eq_true (has_is hIn z)))) rfl rfl rfl ?_)
              refine RN_op rfl rfl rfl (st_pure pure_assign rfl rfl rfl ?_)
              refine RN_end ?_
              refine WQ_keep [(12, _), (3, _), (4, _), (7, _), (8, _), (9, _), (10, _), (11, _), (23, _), (24, _), (25, _)] ⟨rfl, rfl, rfl, rfl, rfl, rfl, rfl, rfl, rfl, rfl, rfl, trivial⟩ ?_
              refine WQ_then ?_
              refine W_seq rfl ?_
              refine W_reg (m := 1) rfl rfl ?_
              refine RN_op rfl rfl rfl (st_pure pure_move rfl rfl rfl ?_)
              refine RN_end ?_
              refine WQ_keep [(81, _), (12, _), (3, _), (4, _), (7, _), (8, _), (10, _), (11, _), (23, _), (24, _), (25, _)] ⟨rfl, rfl, rfl, rfl, rfl, rfl, rfl, rfl, rfl, rfl, rfl, trivial⟩ ?_
              refine WQ_then ?_
              refine W_cond rfl rfl (fun hc6 => ?_) (fun hc6 => ?_)
              · refine W_reg (m := 5) rfl rfl ?_
                refine RN_op rfl rfl rfl (st_pure pure_move rfl rfl rfl ?_)
                refine RN_op rfl rfl rfl (st_pure pure_move rfl rfl rfl ?_)
                refine RN_op rfl rfl rfl (st_pure pure_nil rfl rfl rfl ?_)
                refine RN_op rfl rfl rfl (st_pure (pure_indexA (j := z.toNat) (hi := ⟨by omega⟩) Tryd.underlying78 sz4 (by omega)) rfl rfl rfl ?_)
                refine RN_op rfl rfl rfl (s_st 10 rfl sz4 rfl rfl rfl one_cells (puts_one One.out (put_arr (by omega))) rfl ?_)
                refine RN_end ?_
                refine WQ_keep [(12, _), (3, _), (4, _), (7, _), (8, _), (10, _), (11, _), (23, _), (24, _), (25, _)] ⟨rfl, rfl, rfl, rfl, rfl, rfl, rfl, rfl, rfl, rfl, trivial⟩ ?_
                refine WQ_inB ?_
                rw [up_cut M z (by omega)]
                refine WQ_sat (L' := [.old W0, .hp (HP.sep lf), .hp (BothH g9 g10), .hp (SetV yo.1 Wm), ArC yo.2 Wm, .emp, .emp, .emp, .emp, .emp, .emp, .emp, SB g12 yo.1, .emp]) (fun w hs _ => (both_fold (hs.pick [9, 2, 10, 0, 1, 3, 4, 12] (by decide))).pick [1, 2, 0, 3, 4, 6, 7, 8, 9, 10, 11, 12, 5, 13] (by decide)) ?_
                exact WQ_mid (AllIn.sub ⟨rfl, rfl, rfl, rfl, rfl, rfl, rfl, rfl, rfl, rfl, trivial⟩) (EntP.ent (by repeat' first | exact EntP.nil | refine EntP.same ?_ | refine EntP.drop ?_ | refine EntP.nilRow ?_))
              · refine W_skip rfl ?_
                refine WQ_inB ?_
                rw [cut_id hIn z hc6]
                refine WQ_sat (L' := [.old W0, .hp (HP.sep lf), .hp (BothH g9 g10), .hp (SetV yo.1 Wm), ArC yo.2 Wm, .emp, .emp, .emp, .emp, .emp, .emp, .emp, SB g12 yo.1, .emp]) (fun w hs _ => (both_fold (hs.pick [9, 2, 10, 0, 1, 3, 4, 12] (by decide))).pick [1, 2, 0, 3, 4, 6, 7, 8, 9, 10, 11, 12, 5, 13] (by decide)) ?_
                exact WQ_mid (AllIn.sub ⟨rfl, rfl, rfl, rfl, rfl, rfl, rfl, rfl, rfl, rfl, trivial⟩) (EntP.ent (by repeat' first | exact EntP.nil | refine EntP.same ?_ | refine EntP.drop ?_ | refine EntP.nilRow ?_))
            · refine W_seq rfl ?_
              refine W_reg (m := 2) rfl rfl ?_
              refine RN_op rfl rfl rfl (st_pure pure_eql rfl rfl rfl ?_)
              refine RN_op rfl rfl rfl (st_pure pure_assign rfl rfl rfl ?_)
              refine RN_end ?_
              refine WQ_keep [(86, _), (3, _), (4, _), (7, _), (8, _), (9, _), (10, _), (11, _), (12, _), (13, _), (23, _), (24, _), (25, _), (60, _)] ⟨rfl, rfl, rfl, rfl, rfl, rfl, rfl, rfl, rfl, rfl, rfl, rfl, rfl, rfl, trivial⟩ ?_
              refine WQ_then ?_
              refine W_cond rfl rfl (fun hc7 => ?_) (fun hc7 => ?_)
              · refine W_seq rfl ?_
                refine W_seq rfl ?_
                refine W_reg (m := 1) rfl rfl ?_
                refine RN_op rfl rfl rfl (st_pure pure_move rfl rfl rfl ?_)
                refine RN_end ?_
                refine WQ_keep [(88, _), (3, _), (4, _), (7, _), (8, _), (10, _), (11, _), (13, _), (23, _), (24, _), (25, _)] ⟨rfl, rfl, rfl, rfl, rfl, rfl, rfl, rfl, rfl, rfl, rfl, trivial⟩ ?_
                refine WQ_then ?_
                refine W_block rfl ?_
                rw [show ArC g10 M = ArC g10 (toF (fun a b => a || b) M Wm 0) by rw [toF_zero]]
                refine W_loop (σ := Nat) (fun k => 4096 - k) (fun k => [(3, .pointer (some ⟨g9, 0, none⟩)), (4, .pointer (some ⟨g10, 0, none⟩)), (7, .int .i64 z), (8, .bool (decide (z ≥ 0 ∧ z < 4096))), (10, .pointer (some ⟨g12, 0, none⟩)), (11, .pointer (some ⟨yo.2, 0, none⟩)), (13, .bool (decide (moreB M Wm k = true))), (23, va), (24, .int .i64 ((as'.length : Nat) : Int)), (25, .int .i64 ((i : Nat) : Int)), (88, .int .i64 ((k : Nat) : Int))]) (fun k => [.old W0, .hp (HP.sep lf), .hp (SetV v M), .hp (SetV yo.1 Wm), ArC yo.2 Wm, .emp, .emp, .emp, .emp, SB g9 v, ArC g10 (toF (fun a b => a || b) M Wm k), .emp, SB g12 yo.1, .emp]) (fun k => k ≤ 4096) (0) rfl ((Nat.zero_le _)) (AllIn.sub ⟨rfl, rfl, rfl, rfl, rfl, rfl, rfl, rfl, rfl, rfl, rfl, trivial⟩) (EntP.ent (by repeat' first | exact EntP.nil | refine EntP.same ?_ | refine EntP.drop ?_ | refine EntP.nilRow ?_)) ?_
                rintro k hI2
                refine W_as [(3, .pointer (some ⟨g9, 0, none⟩)), (4, .pointer (some ⟨g10, 0, none⟩)), (7, .int .i64 z), (8, .bool (decide (z ≥ 0 ∧ z < 4096))), (10, .pointer (some ⟨g12, 0, none⟩)), (11, .pointer (some ⟨yo.2, 0, none⟩)), (13, .bool (decide (moreB M Wm k = true))), (23, va), (24, .int .i64 ((as'.length : Nat) : Int)), (25, .int .i64 ((i : Nat) : Int)), (88, .int .i64 ((k : Nat) : Int))] [.old W0, .hp (HP.sep lf), .hp (SetV v M), .hp (SetV yo.1 Wm), ArC yo.2 Wm, .emp, .emp, .emp, .emp, SB g9 v, ArC g10 (toF (fun a b => a || b) M Wm k), .emp, SB g12 yo.1, .emp] ⟨rfl, rfl, rfl, rfl, rfl, rfl, rfl, rfl, rfl, rfl, rfl, trivial⟩ (EntP.refl _) ?_
                refine W_seq rfl ?_
                refine W_reg (m := 1) rfl rfl ?_
                refine RN_op rfl rfl rfl (st_pure pure_lss rfl rfl rfl ?_)
                refine RN_end ?_
                refine WQ_keep [(89, _), (3, _), (4, _), (7, _), (8, _), (10, _), (11, _), (13, _), (23, _), (24, _), (25, _), (88, _)] ⟨rfl, rfl, rfl, rfl, rfl, rfl, rfl, rfl, rfl, rfl, rfl, rfl, trivial⟩ ?_
                refine WQ_then ?_
                refine W_seq rfl ?_
                refine W_cond rfl rfl (fun hc8 => ?_) (fun hc8 => ?_)
                · refine W_skip rfl ?_
                  refine WQ_then ?_
                  refine W_seq rfl ?_
                  refine W_block rfl ?_
                  refine W_seq rfl ?_
                  refine W_reg (m := 2) rfl rfl ?_
                  refine RN_op rfl rfl rfl (st_pure pure_move rfl rfl rfl ?_)
                  refine RN_op rfl rfl rfl (st_pure pure_assign rfl rfl rfl ?_)
                  refine RN_end ?_
                  refine WQ_keep [(14, _), (3, _), (4, _), (7, _), (8, _), (10, _), (11, _), (13, _), (23, _), (24, _), (25, _), (88, _)] ⟨rfl, rfl, rfl, rfl, rfl, rfl, rfl, rfl, rfl, rfl, rfl, rfl, trivial⟩ ?_
                  refine WQ_then ?_
                  refine W_seq rfl ?_
                  refine W_reg (m := 17) rfl rfl ?_
                  refine RN_op rfl rfl rfl (st_pure pure_move rfl rfl rfl ?_)
                  refine RN_op rfl rfl rfl (st_pure pure_move rfl rfl rfl ?_)
                  refine' RN_or 1 13 [(14, _), (3, _), (4, _), (7, _), (8, _), (10, _), (11, _), (23, _), (24, _), (25, _), (88, _)] rfl rfl rfl rfl rfl rfl rfl rfl rfl rfl rfl rfl rfl ⟨rfl, rfl, rfl, rfl, rfl, rfl, rfl, rfl, rfl, rfl, rfl, trivial⟩ (wanted_none rfl) (fun hg15 => ?_) ?_
                  rotate_left 2
                  · refine RN_gT rfl rfl rfl rfl rfl rfl (st_pure pure_move rfl rfl rfl ?_)
                    refine RN_gT rfl rfl rfl rfl rfl rfl (st_pure pure_move rfl rfl rfl ?_)
                    refine RN_gT rfl rfl rfl rfl rfl rfl (st_pure pure_nil rfl rfl rfl ?_)
                    refine RN_gT rfl rfl rfl rfl rfl rfl (st_pure (pure_indexA Tryd.underlying78 sz4 (by omega)) rfl rfl rfl ?_)
                    refine RN_gT rfl rfl rfl rfl rfl rfl (st_ld 4 rfl Tryd.underlying4 rfl rfl rfl (cell_arrD (by omega)) rfl rfl ?_)
                    refine RN_gT rfl rfl rfl rfl rfl rfl (st_pure pure_move rfl rfl rfl ?_)
                    refine' RN_and 7 6 [(92, _), (14, _), (3, _), (4, _), (7, _), (8, _), (10, _), (11, _), (23, _), (24, _), (25, _), (88, _)] rfl rfl rfl rfl rfl rfl rfl rfl rfl rfl rfl rfl rfl ⟨rfl, rfl, rfl, rfl, rfl, rfl, rfl, rfl, rfl, rfl, rfl, rfl, trivial⟩ (wanted_some rfl rfl rfl rfl) (fun hg14 => ?_) ?_
                    rotate_left 2
                    · refine RN_gT rfl rfl rfl rfl rfl rfl (st_pure pure_move rfl rfl rfl ?_)
                      refine RN_gT rfl rfl rfl rfl rfl rfl (st_pure pure_move rfl rfl rfl ?_)
                      refine RN_gT rfl rfl rfl rfl rfl rfl (st_pure pure_nil rfl rfl rfl ?_)
                      refine RN_gT rfl rfl rfl rfl rfl rfl (st_pure (pure_indexA Tryd.underlying78 sz4 (by omega)) rfl rfl rfl ?_)
                      refine RN_gT rfl rfl rfl rfl rfl rfl (st_ld 10 rfl Tryd.underlying4 rfl rfl rfl (cell_arrD (by omega)) rfl rfl ?_)
                      refine RN_gT rfl rfl rfl rfl rfl rfl (st_pure pure_notD rfl rfl rfl ?_)
                      exact RN_end (cut_end (AllIn.sub ⟨rfl, rfl, rfl, rfl, rfl, rfl, rfl, rfl, rfl, rfl, rfl, rfl, rfl, rfl, trivial⟩) (Ent.refl _))
                    exact RN_end (cut_end (AllIn.sub ⟨rfl, rfl, rfl, rfl, rfl, rfl, rfl, rfl, rfl, rfl, rfl, rfl, rfl, trivial⟩) (Ent.refl _))
                  refine RN_op rfl rfl rfl (st_pure pure_assign rfl rfl rfl ?_)
                  refine RN_end ?_
                  refine WQ_keep [(13, _), (14, _), (3, _), (4, _), (7, _), (8, _), (10, _), (11, _), (23, _), (24, _), (25, _), (88, _)] ⟨rfl, rfl, rfl, rfl, rfl, rfl, rfl, rfl, rfl, rfl, rfl, rfl, trivial⟩ ?_
                  refine WQ_then ?_
                  refine W_draw (m := 17) [(6, Spec.ld 10), (12, Spec.ld 4), (16, Spec.sto 10 1)] #[0, 0, 0, 0, 4, 28, 60, 124, 252, 252, 508, 2044, 4092, 8188, 1, 32767, 65535] rfl rfl mixed (by kernel_rfl) (by kernel_rfl) ?_
                  refine RG_op rfl rfl rfl rfl (st_pure pure_move rfl rfl rfl ?_)
                  refine RG_op rfl rfl rfl rfl (st_pure pure_move rfl rfl rfl ?_)
                  refine RG_op rfl rfl rfl rfl (st_pure pure_move rfl rfl rfl ?_)
                  refine RG_op rfl rfl rfl rfl (st_pure pure_move rfl rfl rfl ?_)
                  refine RG_op rfl rfl rfl rfl (st_pure pure_nil rfl rfl rfl ?_)
                  refine RG_op rfl rfl rfl rfl (st_pure (pure_indexA Tryd.underlying78 sz4 (by omega)) rfl rfl rfl ?_)
                  refine RG_op rfl rfl rfl rfl (st_ld 10 rfl Tryd.underlying4 rfl rfl rfl (cell_arrD (by omega)) rfl rfl ?_)
                  refine RG_op rfl rfl rfl rfl (st_pure pure_move rfl rfl rfl ?_)
                  refine' RG_or 7 5 [(108, _), (107, _), (13, _), (3, _), (4, _), (7, _), (8, _), (10, _), (11, _), (23, _), (24, _), (25, _), (88, _)] rfl rfl rfl rfl rfl rfl rfl rfl rfl rfl rfl rfl rfl ⟨rfl, rfl, rfl, rfl, rfl, rfl, rfl, rfl, rfl, rfl, rfl, rfl, rfl, trivial⟩ (wanted_none rfl) (fun hg13 => ?_) ?_ rfl
                  rotate_left 2
                  · refine RG_gT rfl rfl rfl rfl rfl rfl rfl (st_pure pure_move rfl rfl rfl ?_)
                    refine RG_gT rfl rfl rfl rfl rfl rfl rfl (st_pure pure_move rfl rfl rfl ?_)
                    refine RG_gT rfl rfl rfl rfl rfl rfl rfl (st_pure pure_nil rfl rfl rfl ?_)
                    refine RG_gT rfl rfl rfl rfl rfl rfl rfl (st_pure (pure_indexA Tryd.underlying78 sz4 (by omega)) rfl rfl rfl ?_)
                    refine RG_gT rfl rfl rfl rfl rfl rfl rfl (st_ld 4 rfl Tryd.underlying4 rfl rfl rfl (cell_arrD (by omega)) rfl rfl ?_)
                    exact cutF_end (AllIn.sub ⟨rfl, rfl, rfl, rfl, rfl, rfl, rfl, rfl, rfl, rfl, rfl, rfl, rfl, rfl, rfl, trivial⟩)
                  refine RG_op rfl rfl rfl rfl (st_pure pure_nil rfl rfl rfl ?_)
                  refine RG_op rfl rfl rfl rfl (st_pure (pure_indexA Tryd.underlying78 sz4 (by omega)) rfl rfl rfl ?_)
                  refine RG_op rfl rfl rfl rfl (s_st 10 rfl sz4 rfl rfl rfl one_cells (puts_one One.out (put_arr (by omega))) rfl ?_)
                  refine RG_end ?_
                  refine WQ_keep [(13, _), (3, _), (4, _), (7, _), (8, _), (10, _), (11, _), (23, _), (24, _), (25, _), (88, _)] ⟨rfl, rfl, rfl, rfl, rfl, rfl, rfl, rfl, rfl, rfl, rfl, trivial⟩ ?_
                  refine WQ_inB ?_
                  refine WQ_then ?_
                  refine W_reg (m := 2) rfl rfl ?_
                  refine RN_op rfl rfl rfl (st_pure (pure_add64 (by omega)) rfl rfl rfl ?_)
                  refine RN_op rfl rfl rfl (st_pure pure_move rfl rfl rfl ?_)
                  refine RN_end ?_
                  refine WQ_keep [(88, _), (13, _), (3, _), (4, _), (7, _), (8, _), (10, _), (11, _), (23, _), (24, _), (25, _)] ⟨rfl, rfl, rfl, rfl, rfl, rfl, rfl, rfl, rfl, rfl, rfl, trivial⟩ ?_
                  rw [toF_succ _ M Wm k (by rw [toF_at]; cases M k <;> cases Wm k <;> rfl), toF_at]
                  refine WQ_hand (k + 1) (by (try dsimp only); omega) (by (try dsimp only); omega) (AllIn.sub ⟨rfl, rfl, rfl, rfl, rfl, rfl, congrArg (fun b => some (Value.bool b)) (decide_eq_decide.2 (more_iff M Wm k)), rfl, rfl, rfl, rfl, trivial⟩) (EntP.ent (by repeat' first | exact EntP.nil | refine EntP.same ?_ | refine EntP.drop ?_ | refine EntP.nilRow ?_))
                · refine W_exit rfl ?_
                  refine WQ_thenX rfl ?_
                  refine WQ_thenX rfl ?_
                  refine WQ_hit ?_
                  refine WQ_then ?_
                  have hk4 : k = 4096 := by omega
                  subst hk4
                  refine W_reg (m := 5) rfl rfl ?_
                  refine RN_op rfl rfl rfl (st_ldN 12 rfl Tryd.underlying28 rfl sz28 rfl rfl cells_blk rfl rfl ?_)
                  refine RN_op rfl rfl rfl (s_ct (R := [0, 3]) (W := [9, 2]) (x0 := .slice none 0 0) (ct_joinV W0 hT g9 v yo.1 M Wm) fnF32 rfl rfl rfl rfl (by decide) rfl (fun _ => rfl) rfl rfl fun v2 => ?_)
                  refine RN_op rfl rfl rfl (st_pure pure_move rfl rfl rfl ?_)
                  refine RN_op rfl rfl rfl (st_pure (pure_to (pure_eqlBD Tryd.underlying4) (congrArg Value.bool (decide_eq_true (more_len M Wm)))) rfl rfl rfl ?_)
                  refine RN_op rfl rfl rfl (st_pure pure_assign rfl rfl rfl ?_)
                  refine RN_end ?_
                  refine WQ_keep [(12, _), (3, _), (4, _), (7, _), (8, _), (10, _), (11, _), (23, _), (24, _), (25, _)] ⟨rfl, rfl, rfl, rfl, rfl, rfl, rfl, rfl, rfl, rfl, trivial⟩ ?_
                  refine WQ_inB ?_
                  rw [arC_or]
                  refine WQ_sat (L' := [.old W0, .hp (HP.sep lf), .hp (BothH g9 g10), .hp (SetV yo.1 Wm), ArC yo.2 Wm, .emp, .emp, .emp, .emp, .emp, .emp, .emp, SB g12 yo.1, .emp]) (fun w hs _ => (both_fold (hs.pick [9, 2, 10, 0, 1, 3, 4, 12] (by decide))).pick [1, 2, 0, 3, 4, 6, 7, 8, 9, 10, 11, 12, 5, 13] (by decide)) ?_
                  exact WQ_mid (AllIn.sub ⟨rfl, rfl, rfl, rfl, rfl, rfl, rfl, rfl, rfl, rfl, trivial⟩) (EntP.ent (by repeat' first | exact EntP.nil | refine EntP.same ?_ | refine EntP.drop ?_ | refine EntP.nilRow ?_))
              · refine W_seq rfl ?_
                refine W_reg (m := 2) rfl rfl ?_
                refine RN_op rfl rfl rfl (st_pure pure_eql rfl rfl rfl ?_)
                refine RN_op rfl rfl rfl (st_pure pure_assign rfl rfl rfl ?_)
                refine RN_end ?_
                refine WQ_keep [(128, _), (3, _), (4, _), (7, _), (8, _), (9, _), (10, _), (11, _), (12, _), (23, _), (24, _), (25, _), (60, _)] ⟨rfl, rfl, rfl, rfl, rfl, rfl, rfl, rfl, rfl, rfl, rfl, rfl, rfl, trivial⟩ ?_
                refine WQ_then ?_
                refine W_cond rfl rfl (fun hc9 => ?_) (fun hc9 => ?_)
                · refine W_seq rfl ?_
                  refine W_reg (m := 2) rfl rfl ?_
                  refine RN_op rfl rfl rfl (st_ldN 12 rfl Tryd.underlying28 rfl sz28 rfl rfl cells_blk rfl rfl ?_)
                  refine RN_op rfl rfl rfl (s_ct (R := [3]) (W := [9, 2]) (x0 := .slice none 0 0) (ct_lessV g9 v yo.1 M Wm) fnF31 rfl rfl rfl rfl (by decide) rfl (fun _ => rfl) rfl rfl fun v2 => ?_)
                  refine RN_end ?_
                  refine WQ_keep [(3, _), (4, _), (7, _), (8, _), (10, _), (11, _), (12, _), (23, _), (24, _), (25, _)] ⟨rfl, rfl, rfl, rfl, rfl, rfl, rfl, rfl, rfl, rfl, trivial⟩ ?_
                  refine WQ_then ?_
                  refine W_seq rfl ?_
                  refine W_reg (m := 1) rfl rfl ?_
                  refine RN_op rfl rfl rfl (st_pure pure_move rfl rfl rfl ?_)
                  refine RN_end ?_
                  refine WQ_keep [(132, _), (3, _), (4, _), (7, _), (8, _), (10, _), (11, _), (12, _), (23, _), (24, _), (25, _)] ⟨rfl, rfl, rfl, rfl, rfl, rfl, rfl, rfl, rfl, rfl, rfl, trivial⟩ ?_
                  refine WQ_then ?_
                  refine W_block rfl ?_
                  rw [show ArC g10 M = ArC g10 (toF (fun a b => a && !b) M Wm 0) by rw [toF_zero]]
                  refine W_loop (σ := Nat) (fun k => 4096 - k) (fun k => [(3, .pointer (some ⟨g9, 0, none⟩)), (4, .pointer (some ⟨g10, 0, none⟩)), (7, .int .i64 z), (8, .bool (decide (z ≥ 0 ∧ z < 4096))), (10, .pointer (some ⟨g12, 0, none⟩)), (11, .pointer (some ⟨yo.2, 0, none⟩)), (12, .bool true), (23, va), (24, .int .i64 ((as'.length : Nat) : Int)), (25, .int .i64 ((i : Nat) : Int)), (132, .int .i64 ((k : Nat) : Int))]) (fun k => [.old W0, .hp (HP.sep lf), .hp (SetV v2 (subM M Wm)), .hp (SetV yo.1 Wm), ArC yo.2 Wm, .emp, .emp, .emp, .emp, SB g9 v2, ArC g10 (toF (fun a b => a && !b) M Wm k), .emp, SB g12 yo.1, .emp]) (fun k => k ≤ 4096) (0) rfl ((Nat.zero_le _)) (AllIn.sub ⟨rfl, rfl, rfl, rfl, rfl, rfl, rfl, rfl, rfl, rfl, rfl, trivial⟩) (EntP.ent (by repeat' first | exact EntP.nil | refine EntP.same ?_ | refine EntP.drop ?_ | refine EntP.nilRow ?_)) ?_
                  rintro k hI3
                  refine W_as [(3, .pointer (some ⟨g9, 0, none⟩)), (4, .pointer (some ⟨g10, 0, none⟩)), (7, .int .i64 z), (8, .bool (decide (z ≥ 0 ∧ z < 4096))), (10, .pointer (some ⟨g12, 0, none⟩)), (11, .pointer (some ⟨yo.2, 0, none⟩)), (12, .bool true), (23, va), (24, .int .i64 ((as'.length : Nat) : Int)), (25, .int .i64 ((i : Nat) : Int)), (132, .int .i64 ((k : Nat) : Int))] [.old W0, .hp (HP.sep lf), .hp (SetV v2 (subM M Wm)), .hp (SetV yo.1 Wm), ArC yo.2 Wm, .emp, .emp, .emp, .emp, SB g9 v2, ArC g10 (toF (fun a b => a && !b) M Wm k), .emp, SB g12 yo.1, .emp] ⟨rfl, rfl, rfl, rfl, rfl, rfl, rfl, rfl, rfl, rfl, rfl, trivial⟩ (EntP.refl _) ?_
                  refine W_seq rfl ?_
                  refine W_reg (m := 1) rfl rfl ?_
                  refine RN_op rfl rfl rfl (st_pure pure_lss rfl rfl rfl ?_)
                  refine RN_end ?_
                  refine WQ_keep [(133, _), (3, _), (4, _), (7, _), (8, _), (10, _), (11, _), (12, _), (23, _), (24, _), (25, _), (132, _)] ⟨rfl, rfl, rfl, rfl, rfl, rfl, rfl, rfl, rfl, rfl, rfl, rfl, trivial⟩ ?_
                  refine WQ_then ?_
                  refine W_seq rfl ?_
                  refine W_cond rfl rfl (fun hc10 => ?_) (fun hc10 => ?_)
                  · refine W_skip rfl ?_
                    refine WQ_then ?_
                    refine W_seq rfl ?_
                    refine W_block rfl ?_
                    refine W_seq rfl ?_
                    refine W_reg (m := 2) rfl rfl ?_
                    refine RN_op rfl rfl rfl (st_pure pure_move rfl rfl rfl ?_)
                    refine RN_op rfl rfl rfl (st_pure pure_assign rfl rfl rfl ?_)
                    refine RN_end ?_
                    refine WQ_keep [(15, _), (3, _), (4, _), (7, _), (8, _), (10, _), (11, _), (12, _), (23, _), (24, _), (25, _), (132, _)] ⟨rfl, rfl, rfl, rfl, rfl, rfl, rfl, rfl, rfl, rfl, rfl, rfl, trivial⟩ ?_
                    refine WQ_then ?_
                    refine W_draw (m := 18) [(6, Spec.ld 10), (12, Spec.ld 4), (17, Spec.sto 10 1)] #[0, 0, 0, 0, 4, 28, 60, 124, 252, 252, 508, 2044, 4092, 8188, 16380, 1, 65535, 131071] rfl rfl mixed (by kernel_rfl) (by kernel_rfl) ?_
                    refine RG_op rfl rfl rfl rfl (st_pure pure_move rfl rfl rfl ?_)
                    refine RG_op rfl rfl rfl rfl (st_pure pure_move rfl rfl rfl ?_)
                    refine RG_op rfl rfl rfl rfl (st_pure pure_move rfl rfl rfl ?_)
                    refine RG_op rfl rfl rfl rfl (st_pure pure_move rfl rfl rfl ?_)
                    refine RG_op rfl rfl rfl rfl (st_pure pure_nil rfl rfl rfl ?_)
                    refine RG_op rfl rfl rfl rfl (st_pure (pure_indexA Tryd.underlying78 sz4 (by omega)) rfl rfl rfl ?_)
                    refine RG_op rfl rfl rfl rfl (st_ld 10 rfl Tryd.underlying4 rfl rfl rfl (cell_arrD (by omega)) rfl rfl ?_)
                    refine RG_op rfl rfl rfl rfl (st_pure pure_move rfl rfl rfl ?_)
                    refine' RG_and 7 6 [(136, _), (135, _), (3, _), (4, _), (7, _), (8, _), (10, _), (11, _), (12, _), (23, _), (24, _), (25, _), (132, _)] rfl rfl rfl rfl rfl rfl rfl rfl rfl rfl rfl rfl rfl ⟨rfl, rfl, rfl, rfl, rfl, rfl, rfl, rfl, rfl, rfl, rfl, rfl, rfl, trivial⟩ (wanted_none rfl) (fun hg14 => ?_) ?_ rfl
                    rotate_left 2
                    · refine RG_gT rfl rfl rfl rfl rfl rfl rfl (st_pure pure_move rfl rfl rfl ?_)
                      refine RG_gT rfl rfl rfl rfl rfl rfl rfl (st_pure pure_move rfl rfl rfl ?_)
                      refine RG_gT rfl rfl rfl rfl rfl rfl rfl (st_pure pure_nil rfl rfl rfl ?_)
                      refine RG_gT rfl rfl rfl rfl rfl rfl rfl (st_pure (pure_indexA Tryd.underlying78 sz4 (by omega)) rfl rfl rfl ?_)
                      refine RG_gT rfl rfl rfl rfl rfl rfl rfl (st_ld 4 rfl Tryd.underlying4 rfl rfl rfl (cell_arrD (by omega)) rfl rfl ?_)
                      refine RG_gT rfl rfl rfl rfl rfl rfl rfl (st_pure pure_notD rfl rfl rfl ?_)
                      exact cutF_end (AllIn.sub ⟨rfl, rfl, rfl, rfl, rfl, rfl, rfl, rfl, rfl, rfl, rfl, rfl, rfl, rfl, rfl, trivial⟩)
                    refine RG_op rfl rfl rfl rfl (st_pure pure_nil rfl rfl rfl ?_)
                    refine RG_op rfl rfl rfl rfl (st_pure (pure_indexA Tryd.underlying78 sz4 (by omega)) rfl rfl rfl ?_)
                    refine RG_op rfl rfl rfl rfl (s_st 10 rfl sz4 rfl rfl rfl one_cells (puts_one One.out (put_arr (by omega))) rfl ?_)
                    refine RG_end ?_
                    refine WQ_keep [(3, _), (4, _), (7, _), (8, _), (10, _), (11, _), (12, _), (23, _), (24, _), (25, _), (132, _)] ⟨rfl, rfl, rfl, rfl, rfl, rfl, rfl, rfl, rfl, rfl, rfl, trivial⟩ ?_
                    refine WQ_inB ?_
                    refine WQ_then ?_
                    refine W_reg (m := 2) rfl rfl ?_
                    refine RN_op rfl rfl rfl (st_pure (pure_add64 (by omega)) rfl rfl rfl ?_)
                    refine RN_op rfl rfl rfl (st_pure pure_move rfl rfl rfl ?_)
                    refine RN_end ?_
                    refine WQ_keep [(132, _), (3, _), (4, _), (7, _), (8, _), (10, _), (11, _), (12, _), (23, _), (24, _), (25, _)] ⟨rfl, rfl, rfl, rfl, rfl, rfl, rfl, rfl, rfl, rfl, rfl, trivial⟩ ?_
                    rw [toF_succ _ M Wm k (by rw [toF_at]; cases M k <;> cases Wm k <;> rfl)]
                    refine WQ_hand (k + 1) (by (try dsimp only); omega) (by (try dsimp only); omega) (AllIn.sub ⟨rfl, rfl, rfl, rfl, rfl, rfl, rfl, rfl, rfl, rfl, rfl, trivial⟩) (EntP.ent (by repeat' first | exact EntP.nil | refine EntP.same ?_ | refine EntP.drop ?_ | refine EntP.nilRow ?_))
                  · refine W_exit rfl ?_
                    refine WQ_thenX rfl ?_
                    refine WQ_thenX rfl ?_
                    refine WQ_hit ?_
                    refine WQ_inB ?_
                    have hk4 : k = 4096 := by omega
                    subst hk4
                    rw [arC_sub]
                    refine WQ_sat (L' := [.old W0, .hp (HP.sep lf), .hp (BothH g9 g10), .hp (SetV yo.1 Wm), ArC yo.2 Wm, .emp, .emp, .emp, .emp, .emp, .emp, .emp, SB g12 yo.1, .emp]) (fun w hs _ => (both_fold (hs.pick [9, 2, 10, 0, 1, 3, 4, 12] (by decide))).pick [1, 2, 0, 3, 4, 6, 7, 8, 9, 10, 11, 12, 5, 13] (by decide)) ?_
                    exact WQ_mid (AllIn.sub ⟨rfl, rfl, rfl, rfl, rfl, rfl, rfl, rfl, rfl, rfl, trivial⟩) (EntP.ent (by repeat' first | exact EntP.nil | refine EntP.same ?_ | refine EntP.drop ?_ | refine EntP.nilRow ?_))
                · refine W_seq rfl ?_
                  refine W_reg (m := 2) rfl rfl ?_
                  refine RN_op rfl rfl rfl (st_pure pure_eql rfl rfl rfl ?_)
                  refine RN_op rfl rfl rfl (st_pure pure_assign rfl rfl rfl ?_)
                  refine RN_end ?_
                  refine WQ_keep [(153, _), (3, _), (4, _), (7, _), (8, _), (9, _), (10, _), (11, _), (12, _), (23, _), (24, _), (25, _), (60, _)] ⟨rfl, rfl, rfl, rfl, rfl, rfl, rfl, rfl, rfl, rfl, rfl, rfl, rfl, trivial⟩ ?_
                  refine WQ_then ?_
                  refine W_cond rfl rfl (fun hc11 => ?_) (fun hc11 => ?_)
                  · refine W_seq rfl ?_
                    refine W_reg (m := 2) rfl rfl ?_
                    refine RN_op rfl rfl rfl (st_ldN 12 rfl Tryd.underlying28 rfl sz28 rfl rfl cells_blk rfl rfl ?_)
                    refine RN_op rfl rfl rfl (s_ct (R := [3]) (W := [9, 2]) (x0 := .slice none 0 0) (ct_meetV g9 v yo.1 M Wm) fnF30 rfl rfl rfl rfl (by decide) rfl (fun _ => rfl) rfl rfl fun v2 => ?_)
                    refine RN_end ?_
                    refine WQ_keep [(3, _), (4, _), (7, _), (8, _), (10, _), (11, _), (12, _), (23, _), (24, _), (25, _)] ⟨rfl, rfl, rfl, rfl, rfl, rfl, rfl, rfl, rfl, rfl, trivial⟩ ?_
                    refine WQ_then ?_
                    refine W_seq rfl ?_
                    refine W_reg (m := 1) rfl rfl ?_
                    refine RN_op rfl rfl rfl (st_pure pure_move rfl rfl rfl ?_)
                    refine RN_end ?_
                    refine WQ_keep [(157, _), (3, _), (4, _), (7, _), (8, _), (10, _), (11, _), (12, _), (23, _), (24, _), (25, _)] ⟨rfl, rfl, rfl, rfl, rfl, rfl, rfl, rfl, rfl, rfl, rfl, trivial⟩ ?_
                    refine WQ_then ?_
                    refine W_block rfl ?_
                    rw [show ArC g10 M = ArC g10 (toF (fun a b => a && b) M Wm 0) by rw [toF_zero]]
                    refine W_loop (σ := Nat) (fun k => 4096 - k) (fun k => [(3, .pointer (some ⟨g9, 0, none⟩)), (4, .pointer (some ⟨g10, 0, none⟩)), (7, .int .i64 z), (8, .bool (decide (z ≥ 0 ∧ z < 4096))), (10, .pointer (some ⟨g12, 0, none⟩)), (11, .pointer (some ⟨yo.2, 0, none⟩)), (12, .bool true), (23, va), (24, .int .i64 ((as'.length : Nat) : Int)), (25, .int .i64 ((i : Nat) : Int)), (157, .int .i64 ((k : Nat) : Int))]) (fun k => [.old W0, .hp (HP.sep lf), .hp (SetV v2 (andM M Wm)), .hp (SetV yo.1 Wm), ArC yo.2 Wm, .emp, .emp, .emp, .emp, SB g9 v2, ArC g10 (toF (fun a b => a && b) M Wm k), .emp, SB g12 yo.1, .emp]) (fun k => k ≤ 4096) (0) rfl ((Nat.zero_le _)) (AllIn.sub ⟨rfl, rfl, rfl, rfl, rfl, rfl, rfl, rfl, rfl, rfl, rfl, trivial⟩) (EntP.ent (by repeat' first | exact EntP.nil | refine EntP.same ?_ | refine EntP.drop ?_ | refine EntP.nilRow ?_)) ?_
                    rintro k hI4
                    refine W_as [(3, .pointer (some ⟨g9, 0, none⟩)), (4, .pointer (some ⟨g10, 0, none⟩)), (7, .int .i64 z), (8, .bool (decide (z ≥ 0 ∧ z < 4096))), (10, .pointer (some ⟨g12, 0, none⟩)), (11, .pointer (some ⟨yo.2, 0, none⟩)), (12, .bool true), (23, va), (24, .int .i64 ((as'.length : Nat) : Int)), (25, .int .i64 ((i : Nat) : Int)), (157, .int .i64 ((k : Nat) : Int))] [.old W0, .hp (HP.sep lf), .hp (SetV v2 (andM M Wm)), .hp (SetV yo.1 Wm), ArC yo.2 Wm, .emp, .emp, .emp, .emp, SB g9 v2, ArC g10 (toF (fun a b => a && b) M Wm k), .emp, SB g12 yo.1, .emp] ⟨rfl, rfl, rfl, rfl, rfl, rfl, rfl, rfl, rfl, rfl, rfl, trivial⟩ (EntP.refl _) ?_
                    refine W_seq rfl ?_
                    refine W_reg (m := 1) rfl rfl ?_
                    refine RN_op rfl rfl rfl (st_pure pure_lss rfl rfl rfl ?_)
                    refine RN_end ?_
                    refine WQ_keep [(158, _), (3, _), (4, _), (7, _), (8, _), (10, _), (11, _), (12, _), (23, _), (24, _), (25, _), (157, _)] ⟨rfl, rfl, rfl, rfl, rfl, rfl, rfl, rfl, rfl, rfl, rfl, rfl, trivial⟩ ?_
                    refine WQ_then ?_
                    refine W_seq rfl ?_
                    refine W_cond rfl rfl (fun hc12 => ?_) (fun hc12 => ?_)
                    · refine W_skip rfl ?_
                      refine WQ_then ?_
                      refine W_seq rfl ?_
                      refine W_block rfl ?_
                      refine W_seq rfl ?_
                      refine W_reg (m := 2) rfl rfl ?_
                      refine RN_op rfl rfl rfl (st_pure pure_move rfl rfl rfl ?_)
                      refine RN_op rfl rfl rfl (st_pure pure_assign rfl rfl rfl ?_)
                      refine RN_end ?_
                      refine WQ_keep [(16, _), (3, _), (4, _), (7, _), (8, _), (10, _), (11, _), (12, _), (23, _), (24, _), (25, _), (157, _)] ⟨rfl, rfl, rfl, rfl, rfl, rfl, rfl, rfl, rfl, rfl, rfl, rfl, trivial⟩ ?_
                      refine WQ_then ?_
                      refine W_draw (m := 17) [(6, Spec.ld 10), (12, Spec.ld 4), (16, Spec.sto 10 1)] #[0, 0, 0, 0, 4, 28, 60, 124, 252, 252, 508, 2044, 4092, 8188, 1, 32767, 65535] rfl rfl mixed (by kernel_rfl) (by kernel_rfl) ?_
                      refine RG_op rfl rfl rfl rfl (st_pure pure_move rfl rfl rfl ?_)
                      refine RG_op rfl rfl rfl rfl (st_pure pure_move rfl rfl rfl ?_)
                      refine RG_op rfl rfl rfl rfl (st_pure pure_move rfl rfl rfl ?_)
                      refine RG_op rfl rfl rfl rfl (st_pure pure_move rfl rfl rfl ?_)
                      refine RG_op rfl rfl rfl rfl (st_pure pure_nil rfl rfl rfl ?_)
                      refine RG_op rfl rfl rfl rfl (st_pure (pure_indexA Tryd.underlying78 sz4 (by omega)) rfl rfl rfl ?_)
                      refine RG_op rfl rfl rfl rfl (st_ld 10 rfl Tryd.underlying4 rfl rfl rfl (cell_arrD (by omega)) rfl rfl ?_)
                      refine RG_op rfl rfl rfl rfl (st_pure pure_move rfl rfl rfl ?_)
                      refine' RG_and 7 5 [(161, _), (160, _), (3, _), (4, _), (7, _), (8, _), (10, _), (11, _), (12, _), (23, _), (24, _), (25, _), (157, _)] rfl rfl rfl rfl rfl rfl rfl rfl rfl rfl rfl rfl rfl ⟨rfl, rfl, rfl, rfl, rfl, rfl, rfl, rfl, rfl, rfl, rfl, rfl, rfl, trivial⟩ (wanted_none rfl) (fun hg13 => ?_) ?_ rfl
                      rotate_left 2
                      · refine RG_gT rfl rfl rfl rfl rfl rfl rfl (st_pure pure_move rfl rfl rfl ?_)
                        refine RG_gT rfl rfl rfl rfl rfl rfl rfl (st_pure pure_move rfl rfl rfl ?_)
                        refine RG_gT rfl rfl rfl rfl rfl rfl rfl (st_pure pure_nil rfl rfl rfl ?_)
                        refine RG_gT rfl rfl rfl rfl rfl rfl rfl (st_pure (pure_indexA Tryd.underlying78 sz4 (by omega)) rfl rfl rfl ?_)
                        refine RG_gT rfl rfl rfl rfl rfl rfl rfl (st_ld 4 rfl Tryd.underlying4 rfl rfl rfl (cell_arrD (by omega)) rfl rfl ?_)
                        exact cutF_end (AllIn.sub ⟨rfl, rfl, rfl, rfl, rfl, rfl, rfl, rfl, rfl, rfl, rfl, rfl, rfl, rfl, rfl, trivial⟩)
                      refine RG_op rfl rfl rfl rfl (st_pure pure_nil rfl rfl rfl ?_)
                      refine RG_op rfl rfl rfl rfl (st_pure (pure_indexA Tryd.underlying78 sz4 (by omega)) rfl rfl rfl ?_)
                      refine RG_op rfl rfl rfl rfl (s_st 10 rfl sz4 rfl rfl rfl one_cells (puts_one One.out (put_arr (by omega))) rfl ?_)
                      refine RG_end ?_
                      refine WQ_keep [(3, _), (4, _), (7, _), (8, _), (10, _), (11, _), (12, _), (23, _), (24, _), (25, _), (157, _)] ⟨rfl, rfl, rfl, rfl, rfl, rfl, rfl, rfl, rfl, rfl, rfl, trivial⟩ ?_
                      refine WQ_inB ?_
                      refine WQ_then ?_
                      refine W_reg (m := 2) rfl rfl ?_
                      refine RN_op rfl rfl rfl (st_pure (pure_add64 (by omega)) rfl rfl rfl ?_)
                      refine RN_op rfl rfl rfl (st_pure pure_move rfl rfl rfl ?_)
                      refine RN_end ?_
                      refine WQ_keep [(157, _), (3, _), (4, _), (7, _), (8, _), (10, _), (11, _), (12, _), (23, _), (24, _), (25, _)] ⟨rfl, rfl, rfl, rfl, rfl, rfl, rfl, rfl, rfl, rfl, rfl, trivial⟩ ?_
                      rw [toF_succ _ M Wm k (by rw [toF_at]; cases M k <;> cases Wm k <;> rfl)]
                      refine WQ_hand (k + 1) (by (try dsimp only); omega) (by (try dsimp only); omega) (AllIn.sub ⟨rfl, rfl, rfl, rfl, rfl, rfl, rfl, rfl, rfl, rfl, rfl, trivial⟩) (EntP.ent (by repeat' first | exact EntP.nil | refine EntP.same ?_ | refine EntP.drop ?_ | refine EntP.nilRow ?_))
                    · refine W_exit rfl ?_
                      refine WQ_thenX rfl ?_
                      refine WQ_thenX rfl ?_
                      refine WQ_hit ?_
                      refine WQ_inB ?_
                      have hk4 : k = 4096 := by omega
                      subst hk4
                      rw [arC_and]
                      refine WQ_sat (L' := [.old W0, .hp (HP.sep lf), .hp (BothH g9 g10), .hp (SetV yo.1 Wm), ArC yo.2 Wm, .emp, .emp, .emp, .emp, .emp, .emp, .emp, SB g12 yo.1, .emp]) (fun w hs _ => (both_fold (hs.pick [9, 2, 10, 0, 1, 3, 4, 12] (by decide))).pick [1, 2, 0, 3, 4, 6, 7, 8, 9, 10, 11, 12, 5, 13] (by decide)) ?_
                      exact WQ_mid (AllIn.sub ⟨rfl, rfl, rfl, rfl, rfl, rfl, rfl, rfl, rfl, rfl, trivial⟩) (EntP.ent (by repeat' first | exact EntP.nil | refine EntP.same ?_ | refine EntP.drop ?_ | refine EntP.nilRow ?_))
                  · refine W_seq rfl ?_
                    refine W_reg (m := 2) rfl rfl ?_
                    refine RN_op rfl rfl rfl (st_pure pure_eql rfl rfl rfl ?_)
                    refine RN_op rfl rfl rfl (st_pure pure_assign rfl rfl rfl ?_)
                    refine RN_end ?_
                    refine WQ_keep [(177, _), (3, _), (4, _), (7, _), (8, _), (9, _), (10, _), (11, _), (12, _), (23, _), (24, _), (25, _)] ⟨rfl, rfl, rfl, rfl, rfl, rfl, rfl, rfl, rfl, rfl, rfl, rfl, trivial⟩ ?_
                    refine WQ_then ?_
                    refine W_cond rfl rfl (fun hc13 => ?_) (fun hc13 => ?_)
                    · refine W_seq rfl ?_
                      refine W_reg (m := 4) rfl rfl ?_
                      refine RN_op rfl rfl rfl (st_ldN 9 rfl Tryd.underlying28 rfl sz28 rfl rfl cells_blk rfl rfl ?_)
                      refine RN_op rfl rfl rfl (s_ct (R := [2]) (W := [5]) (x0 := OneV.nil) (ct_copyO M v) fnF29 rfl rfl rfl rfl (by decide) rfl (fun _ => rfl) rfl rfl fun cv => ?_)
                      refine RN_op rfl rfl rfl (s_al 13 (alloc_new zr28) rfl rfl rfl fun g13 => ?_)
                      refine RN_op rfl rfl rfl (s_st 13 rfl sz28 rfl rfl rfl rfl puts_agg rfl ?_)
                      refine RN_end ?_
                      refine WQ_keep [(17, _), (3, _), (4, _), (7, _), (8, _), (10, _), (11, _), (12, _), (23, _), (24, _), (25, _)] ⟨rfl, rfl, rfl, rfl, rfl, rfl, rfl, rfl, rfl, rfl, rfl, trivial⟩ ?_
                      refine WQ_then ?_
                      refine W_seq rfl ?_
                      refine W_reg (m := 1) rfl rfl ?_
                      refine RN_op rfl rfl rfl (s_ct (R := []) (W := [13, 5]) (x0 := .slice none 0 0) (ct_putV g13 M 7 (by decide) cv.1) fnF11 rfl rfl rfl rfl (by decide) rfl (fun _ => rfl) rfl rfl fun cv2 => ?_)
                      refine RN_end ?_
                      refine WQ_keep [(17, _), (3, _), (4, _), (7, _), (8, _), (10, _), (11, _), (12, _), (23, _), (24, _), (25, _)] ⟨rfl, rfl, rfl, rfl, rfl, rfl, rfl, rfl, rfl, rfl, rfl, trivial⟩ ?_
                      refine WQ_then ?_
                      refine W_reg (m := 2) rfl rfl ?_
                      refine RN_op rfl rfl rfl (st_pure pure_move rfl rfl rfl ?_)
                      refine RN_op rfl rfl rfl (s_ct (R := []) (W := [13, 5]) (x0 := .slice none 0 0) (ct_cutV g13 (putM M 7) z hz1 cv2) fnF27 rfl rfl rfl rfl (by decide) rfl (fun _ => rfl) rfl rfl fun cv3 => ?_)
                      refine RN_end ?_
                      refine WQ_keep [(3, _), (4, _), (7, _), (8, _), (10, _), (11, _), (12, _), (23, _), (24, _), (25, _)] ⟨rfl, rfl, rfl, rfl, rfl, rfl, rfl, rfl, rfl, rfl, trivial⟩ ?_
                      refine WQ_inB ?_
                      refine WQ_sat (L' := [.old W0, .hp (HP.sep lf), .hp (BothH g9 g10), .hp (SetV yo.1 Wm), ArC yo.2 Wm, .emp, .emp, .emp, .emp, .emp, .emp, .emp, SB g12 yo.1, .emp]) (fun w hs _ => (both_fold (hs.pick [9, 2, 10, 0, 1, 3, 4, 12] (by decide))).pick [1, 2, 0, 3, 4, 6, 7, 8, 9, 10, 11, 12, 5, 13] (by decide)) ?_
                      exact WQ_mid (AllIn.sub ⟨rfl, rfl, rfl, rfl, rfl, rfl, rfl, rfl, rfl, rfl, trivial⟩) (EntP.ent (by repeat' first | exact EntP.nil | refine EntP.same ?_ | refine EntP.drop ?_ | refine EntP.nilRow ?_))
                    · refine W_seq rfl ?_
                      refine W_reg (m := 9) rfl rfl ?_
                      refine RN_op rfl rfl rfl (st_pure pure_move rfl rfl rfl ?_)
                      refine RN_op rfl rfl rfl (s_ct (R := []) (W := [9, 2]) (x0 := .slice none 0 0) (ct_putV g9 M z hz1 v) fnF11 rfl rfl rfl rfl (by decide) rfl (fun _ => rfl) rfl rfl fun v2 => ?_)
                      refine RN_op rfl rfl rfl (st_pure pure_move rfl rfl rfl ?_)
                      refine RN_op rfl rfl rfl (st_pure pure_move rfl rfl rfl ?_)
                      refine' RN_and 3 2 [(62, _), (3, _), (4, _), (7, _), (8, _), (10, _), (11, _), (23, _), (24, _), (25, _)] rfl rfl rfl rfl rfl rfl rfl rfl rfl rfl rfl rfl rfl ⟨rfl, rfl, rfl, rfl, rfl, rfl, rfl, rfl, rfl, rfl, trivial⟩ (wanted_none rfl) (fun hg6 => ?_) ?_
                      rotate_left 2
                      · refine RN_gT rfl rfl rfl rfl rfl rfl (st_pure pure_move rfl rfl rfl ?_)
                        refine RN_gT rfl rfl rfl rfl rfl rfl (st_pure pure_notD rfl rfl rfl ?_)
                        exact RN_end (cut_end (AllIn.sub ⟨rfl, rfl, rfl, rfl, rfl, rfl, rfl, rfl, rfl, rfl, rfl, rfl, trivial⟩) (Ent.refl _))
                      refine RN_op rfl rfl rfl (st_pure (pure_to (pure_eqlBD Tryd.underlying4) (congrArg Value.bool (decide_eq_true (can_is M z)))) rfl rfl rfl ?_)
                      refine RN_op rfl rfl rfl (st_pure pure_assign rfl rfl rfl ?_)
                      refine RN_end ?_
                      refine WQ_keep [(12, _), (3, _), (4, _), (7, _), (8, _), (10, _), (11, _), (23, _), (24, _), (25, _)] ⟨rfl, rfl, rfl, rfl, rfl, rfl, rfl, rfl, rfl, rfl, trivial⟩ ?_
                      refine WQ_then ?_
                      refine W_seq rfl ?_
                      refine W_reg (m := 1) rfl rfl ?_
                      refine RN_op rfl rfl rfl (st_pure pure_move rfl rfl rfl ?_)
                      refine RN_end ?_
                      refine WQ_keep [(69, _), (12, _), (3, _), (4, _), (7, _), (8, _), (10, _), (11, _), (23, _), (24, _), (25, _)] ⟨rfl, rfl, rfl, rfl, rfl, rfl, rfl, rfl, rfl, rfl, rfl, trivial⟩ ?_
                      refine WQ_then ?_
                      refine W_cond rfl rfl (fun hc14 => ?_) (fun hc14 => ?_)
                      · refine W_reg (m := 5) rfl rfl ?_
                        refine RN_op rfl rfl rfl (st_pure pure_move rfl rfl rfl ?_)
                        refine RN_op rfl rfl rfl (st_pure pure_move rfl rfl rfl ?_)
                        refine RN_op rfl rfl rfl (st_pure pure_nil rfl rfl rfl ?_)
                        refine RN_op rfl rfl rfl (st_pure (pure_indexA (j := z.toNat) (hi := ⟨by omega⟩) Tryd.underlying78 sz4 (by omega)) rfl rfl rfl ?_)
                        refine RN_op rfl rfl rfl (s_st 10 rfl sz4 rfl rfl rfl one_cells (puts_one One.out (put_arr (by omega))) rfl ?_)
                        refine RN_end ?_
                        refine WQ_keep [(12, _), (3, _), (4, _), (7, _), (8, _), (10, _), (11, _), (23, _), (24, _), (25, _)] ⟨rfl, rfl, rfl, rfl, rfl, rfl, rfl, rfl, rfl, rfl, trivial⟩ ?_
                        refine WQ_inB ?_
                        rw [upM_put M z (by omega)]
                        refine WQ_sat (L' := [.old W0, .hp (HP.sep lf), .hp (BothH g9 g10), .hp (SetV yo.1 Wm), ArC yo.2 Wm, .emp, .emp, .emp, .emp, .emp, .emp, .emp, SB g12 yo.1, .emp]) (fun w hs _ => (both_fold (hs.pick [9, 2, 10, 0, 1, 3, 4, 12] (by decide))).pick [1, 2, 0, 3, 4, 6, 7, 8, 9, 10, 11, 12, 5, 13] (by decide)) ?_
                        exact WQ_mid (AllIn.sub ⟨rfl, rfl, rfl, rfl, rfl, rfl, rfl, rfl, rfl, rfl, trivial⟩) (EntP.ent (by repeat' first | exact EntP.nil | refine EntP.same ?_ | refine EntP.drop ?_ | refine EntP.nilRow ?_))
                      · refine W_skip rfl ?_
                        refine WQ_inB ?_
                        rw [put_outB (by omega)]
                        refine WQ_sat (L' := [.old W0, .hp (HP.sep lf), .hp (BothH g9 g10), .hp (SetV yo.1 Wm), ArC yo.2 Wm, .emp, .emp, .emp, .emp, .emp, .emp, .emp, SB g12 yo.1, .emp]) (fun w hs _ => (both_fold (hs.pick [9, 2, 10, 0, 1, 3, 4, 12] (by decide))).pick [1, 2, 0, 3, 4, 6, 7, 8, 9, 10, 11, 12, 5, 13] (by decide)) ?_
                        exact WQ_mid (AllIn.sub ⟨rfl, rfl, rfl, rfl, rfl, rfl, rfl, rfl, rfl, rfl, trivial⟩) (EntP.ent (by repeat' first | exact EntP.nil | refine EntP.same ?_ | refine EntP.drop ?_ | refine EntP.nilRow ?_))
        · refine W_ex (L' := fun y : Value × (Nat → Bool) => [.old W0, .hp (HP.sep lf), .hp (SetV y.1 y.2), .hp (SetV yo.1 Wm), ArC yo.2 Wm, .emp, .emp, .emp, .emp, SB g9 y.1, ArC g10 y.2, .emp, SB g12 yo.1, .emp]) (fun w hs _ => ?_) fun y => ?_
          · obtain ⟨y, h⟩ := both_open.1 (hs.pick [2, 0, 1, 3, 4, 12] (by decide) : SatC w [.hp (BothH g9 g10), .old W0, .hp (HP.sep lf), .hp (SetV yo.1 Wm), ArC yo.2 Wm, SB g12 yo.1])
            exact ⟨y, h.pick [3, 4, 1, 5, 6, 8, 9, 10, 11, 0, 2, 12, 7, 13] (by decide)⟩
          refine W_know (fun w hs _ => setV_in 2 hs rfl) fun hIy => ?_
          refine W_know (fun w hs _ => setV_in 3 hs rfl) fun hIw => ?_
          refine W_seq rfl ?_
          refine W_reg (m := 3) rfl rfl ?_
          refine RN_op rfl rfl rfl (st_pure pure_move rfl rfl rfl ?_)
          refine RN_op rfl rfl rfl (s_ct (R := [10]) (W := [5]) (x0 := RowV.nil _ (elems_mx y.2)) (ct_all g10 y.2) fnF35 rfl rfl rfl rfl (by decide) rfl (fun _ => rfl) rfl rfl fun ra => ?_)
          refine RN_op rfl rfl rfl (st_pure pure_assign rfl rfl rfl ?_)
          refine RN_end ?_
          refine WQ_keep [(18, _), (3, _), (4, _), (7, _), (8, _), (10, _), (11, _), (12, _), (23, _), (24, _), (25, _)] ⟨rfl, rfl, rfl, rfl, rfl, rfl, rfl, rfl, rfl, rfl, rfl, trivial⟩ ?_
          refine WQ_then ?_
          refine W_seq rfl ?_
          obtain ⟨inf, hinf⟩ : ∃ i, Tryd.prog.info? 4 = some i := by
            obtain ⟨i, h, _⟩ := Option.map_eq_some_iff.1 sz4
            exact ⟨i, h⟩
          refine W_draw (m := 53) [(3, Spec.ldN 9 1), (4, Spec.ct [0, 2] [6] (.func (.func 15) #[] #[]) [.agg [y.1].toArray] [.old W0, .hp (SetV y.1 y.2)] [.emp] (X := RowV (elems y.2).length) (RowV.nil _ (elems_mx y.2)) (fun x => x.1) (fun x => [.row 3 1 x.1 (elems y.2).length (i64s (allI y.2))])), (6, Spec.ctE [6, 5] [] (.func (.func 36) #[] #[]) yv1 (fun u => [u, ra.1]) (fun u => [.row 3 1 u (elems y.2).length (i64s (allI y.2)), .row 3 1 ra.1 (elems y.2).length (i64s (allI y.2))]) (fun _ => []) (X := Unit) () (fun _ _ => .bool true) (fun _ _ => [])), (10, Spec.ldN 9 1), (11, Spec.ct [2] [] (.func (.func 25) #[] #[]) [.agg [y.1].toArray] [.hp (SetV y.1 y.2)] [] (X := Unit) () (fun _ => .int .i64 ((elems y.2).length : Nat)) (fun _ => [])), (17, Spec.ldN 9 1), (19, Spec.ct [2] [] (.func (.func 26) #[] #[]) [.agg [y.1].toArray, .int .i64 z] [.hp (SetV y.1 y.2)] [] (X := Unit) () (fun _ => .bool (hasM y.2 z)) (fun _ => [])), (28, Spec.ld 10), (33, Spec.ldN 9 1), (34, Spec.ldN 12 1), (35, Spec.ct [0, 2, 3] [] (.func (.func 33) #[] #[]) [.agg [y.1].toArray, .agg [yo.1].toArray] [.old W0, .hp (SetV y.1 y.2), .hp (SetV yo.1 Wm)] [] (X := Unit) () (fun _ => .bool (sameM y.2 Wm)) (fun _ => [])), (38, Spec.ldN 10 4096), (41, Spec.ldN 4 4096), (46, Spec.ldN 12 1), (47, Spec.ct [0, 3] [7] (.func (.func 15) #[] #[]) [.agg [yo.1].toArray] [.old W0, .hp (SetV yo.1 Wm)] [.emp] (X := RowV (elems Wm).length) (RowV.nil _ (elems_mx Wm)) (fun x => x.1) (fun x => [.row 3 1 x.1 (elems Wm).length (i64s (allI Wm))])), (49, Spec.ct [4] [8] (.func (.func 35) #[] #[]) [.pointer (some ⟨yo.2, 0, none⟩)] [ArC yo.2 Wm] [.emp] (X := RowV (elems Wm).length) (RowV.nil _ (elems_mx Wm)) (fun x => x.1) (fun x => [.row 3 1 x.1 (elems Wm).length (i64s (allI Wm))])), (50, Spec.ctE [7, 8] [] (.func (.func 36) #[] #[]) yv2 (fun u => [u.1, u.2]) (fun u => [.row 3 1 u.1 (elems Wm).length (i64s (allI Wm)), .row 3 1 u.2 (elems Wm).length (i64s (allI Wm))]) (fun _ => []) (X := Unit) () (fun _ _ => .bool true) (fun _ _ => []))] #[0, 1, 3, 7, 15, 7, 63, 127, 255, 511, 1023, 2047, 1023, 5119, 16383, 32767, 65535, 131071, 131071, 524287, 131071, 2097151, 4194303, 4194303, 12582911, 29360127, 8388607, 134217727, 268435455, 536870911, 1073741823, 2147483647, 4294967295, 8589934591, 8589934591, 34359738367, 8589934591, 77309411327, 214748364799, 8589934591, 558345748479, 1657857376255, 4337916968959, 8796093022207, 17592186044415, 35184372088831, 70368744177663, 140737488355327, 70368744177663, 562949953421311, 1125899906842623, 2251799813685247, 4503599627370495] rfl rfl mixed (by kernel_rfl) (by kernel_rfl) ?_
          refine RG_op rfl rfl rfl rfl (st_pure pure_move rfl rfl rfl ?_)
          refine RG_op rfl rfl rfl rfl (st_pure (pure_to (v' := .bool false) pure_not rfl) rfl rfl rfl ?_)
          refine RG_op rfl rfl rfl rfl (st_pure pure_move rfl rfl rfl ?_)
          refine RG_gT rfl rfl rfl rfl rfl rfl rfl (st_ldN 9 rfl Tryd.underlying28 rfl sz28 rfl rfl cells_blk rfl rfl ?_)
          refine RG_gT rfl rfl rfl rfl rfl rfl rfl (s_ct (R := [0, 2]) (W := [6]) (x0 := RowV.nil _ (elems_mx y.2)) (ct_allR W0 hT y.2 y.1) fnF15 rfl rfl rfl rfl (by decide) rfl (fun _ => rfl) rfl rfl fun rb => ?_)
          refine RG_gT rfl rfl rfl rfl rfl rfl rfl (st_pure pure_move rfl rfl rfl ?_)
          refine RG_gT rfl rfl rfl rfl rfl rfl rfl (s_ctE (R := [6, 5]) (W := []) (x0 := ()) (rb.1) (fun u => ct_SIrow u ra.1 _ (allI y.2) (allI_length _)) fnF36 rfl rfl rfl rfl rfl rfl (by decide) (fun _ => rfl) (fun _ _ => rfl) rfl rfl fun _ => ?_)
          refine RG_gT rfl rfl rfl rfl rfl rfl rfl (st_pure (pure_to (v' := .bool false) pure_not rfl) rfl rfl rfl ?_)
          refine RG_pickF rfl rfl rfl rfl (wanted_none rfl) rfl rfl rfl ?_
          refine RG_op rfl rfl rfl rfl (st_pure pure_move rfl rfl rfl ?_)
          refine RG_gT rfl rfl rfl rfl rfl rfl rfl (st_ldN 9 rfl Tryd.underlying28 rfl sz28 rfl rfl cells_blk rfl rfl ?_)
          refine RG_gT rfl rfl rfl rfl rfl rfl rfl (s_ct (R := [2]) (W := []) (x0 := ()) (ct_lenV y.2 y.1) fnF25 rfl rfl rfl rfl (by decide) rfl (fun _ => rfl) rfl rfl fun _ => ?_)
          refine RG_gT rfl rfl rfl rfl rfl rfl rfl (st_pure pure_move rfl rfl rfl ?_)
          refine RG_gT rfl rfl rfl rfl rfl rfl rfl (st_pure (pure_lenR Tryd.underlying46 ra.2) rfl rfl rfl ?_)
          refine RG_gT rfl rfl rfl rfl rfl rfl rfl (st_pure (pure_to (v' := .bool false) pure_neq (congrArg Value.bool (decide_eq_false (fun h => h rfl)))) rfl rfl rfl ?_)
          refine RG_pickF rfl rfl rfl rfl (wanted_none rfl) rfl rfl rfl ?_
          refine RG_op rfl rfl rfl rfl (st_pure pure_move rfl rfl rfl ?_)
          refine RG_gT rfl rfl rfl rfl rfl rfl rfl (st_ldN 9 rfl Tryd.underlying28 rfl sz28 rfl rfl cells_blk rfl rfl ?_)
          refine RG_gT rfl rfl rfl rfl rfl rfl rfl (st_pure pure_move rfl rfl rfl ?_)
          refine RG_gT rfl rfl rfl rfl rfl rfl rfl (s_ct (R := [2]) (W := []) (x0 := ()) (ct_hasV y.2 z hz1 y.1) fnF26 rfl rfl rfl rfl (by decide) rfl (fun _ => rfl) rfl rfl fun _ => ?_)
          refine RG_gT rfl rfl rfl rfl rfl rfl rfl (st_pure pure_move rfl rfl rfl ?_)
          refine RG_gT rfl rfl rfl rfl rfl rfl rfl (st_pure pure_move rfl rfl rfl ?_)
          refine' RG_and 21 7 [(205, _), (202, _), (3, _), (4, _), (10, _), (11, _), (23, _), (24, _), (25, _)] rfl rfl rfl rfl rfl rfl rfl rfl rfl rfl rfl rfl rfl ⟨rfl, rfl, rfl, rfl, rfl, rfl, rfl, rfl, rfl, trivial⟩ (wanted_some rfl rfl rfl rfl) (fun hg29 => ?_) ?_ rfl
          rotate_left 2
          · refine RG_gT rfl rfl rfl rfl rfl rfl rfl (st_pure pure_move rfl rfl rfl ?_)
            refine RG_gT rfl rfl rfl rfl rfl rfl rfl (st_pure pure_move rfl rfl rfl ?_)
            refine RG_gT rfl rfl rfl rfl rfl rfl rfl (st_pure pure_min rfl rfl rfl ?_)
            refine RG_gT rfl rfl rfl rfl rfl rfl rfl (st_pure pure_max rfl rfl rfl ?_)
            refine RG_gT rfl rfl rfl rfl rfl rfl rfl (st_pure pure_nil rfl rfl rfl ?_)
            refine RG_gT rfl rfl rfl rfl rfl rfl rfl (st_pure (pure_indexA (j := z.toNat) (hi := ⟨by omega⟩) Tryd.underlying78 sz4 (by omega)) rfl rfl rfl ?_)
            refine RG_gT rfl rfl rfl rfl rfl rfl rfl (st_ld 10 rfl Tryd.underlying4 rfl rfl rfl (cell_arrD (by omega)) rfl rfl ?_)
            exact cutF_end (AllIn.sub ⟨rfl, rfl, rfl, rfl, rfl, rfl, rfl, rfl, rfl, rfl, rfl, trivial⟩)
          refine RG_gT rfl rfl rfl rfl rfl rfl rfl (st_pure (pure_to (v' := .bool false) (pure_neqBD Tryd.underlying4) (congrArg Value.bool (decide_eq_false (fun h => h (by rw [← has_is hIy z]; simp))))) rfl rfl rfl ?_)
          refine RG_pickF rfl rfl rfl rfl (wanted_none rfl) rfl rfl rfl ?_
          refine RG_op rfl rfl rfl rfl (st_pure pure_move rfl rfl rfl ?_)
          refine RG_gT rfl rfl rfl rfl rfl rfl rfl (st_ldN 9 rfl Tryd.underlying28 rfl sz28 rfl rfl cells_blk rfl rfl ?_)
          refine RG_gT rfl rfl rfl rfl rfl rfl rfl (st_ldN 12 rfl Tryd.underlying28 rfl sz28 rfl rfl cells_blk rfl rfl ?_)
          refine RG_gT rfl rfl rfl rfl rfl rfl rfl (s_ct (R := [0, 2, 3]) (W := []) (x0 := ()) (ct_sameG W0 hT y.1 yo.1 y.2 Wm) fnF33 rfl rfl rfl rfl (by decide) rfl (fun _ => rfl) rfl rfl fun _ => ?_)
          refine RG_gT rfl rfl rfl rfl rfl rfl rfl (st_pure pure_move rfl rfl rfl ?_)
          refine RG_gT rfl rfl rfl rfl rfl rfl rfl (st_pure pure_nil rfl rfl rfl ?_)
          refine RG_gT rfl rfl rfl rfl rfl rfl rfl (st_ldN 10 rfl Tryd.underlying78 rfl sz78 rfl rfl cells_arr rfl rfl ?_)
          refine RG_gT rfl rfl rfl rfl rfl rfl rfl (st_pure pure_move rfl rfl rfl ?_)
          refine RG_gT rfl rfl rfl rfl rfl rfl rfl (st_pure pure_nil rfl rfl rfl ?_)
          refine RG_gT rfl rfl rfl rfl rfl rfl rfl (st_ldN 4 rfl Tryd.underlying78 rfl sz78 rfl rfl cells_arr rfl rfl ?_)
          refine RG_gT rfl rfl rfl rfl rfl rfl rfl (st_pure (pure_eqA Tryd.underlying78 hinf (by kernel_rfl) Tryd.underlying4 (by kernel_rfl)) rfl rfl rfl ?_)
          refine RG_gT rfl rfl rfl rfl rfl rfl rfl (st_pure (pure_to (v' := .bool false) (pure_neqBD Tryd.underlying4) (congrArg Value.bool (decide_eq_false (fun h => h (by rw [same_flags hIy hIw]; simp))))) rfl rfl rfl ?_)
          refine RG_pickF rfl rfl rfl rfl (wanted_none rfl) rfl rfl rfl ?_
          refine RG_op rfl rfl rfl rfl (st_pure pure_move rfl rfl rfl ?_)
          refine RG_gT rfl rfl rfl rfl rfl rfl rfl (st_ldN 12 rfl Tryd.underlying28 rfl sz28 rfl rfl cells_blk rfl rfl ?_)
          refine RG_gT rfl rfl rfl rfl rfl rfl rfl (s_ct (R := [0, 3]) (W := [7]) (x0 := RowV.nil _ (elems_mx Wm)) (ct_allR W0 hT Wm yo.1) fnF15 rfl rfl rfl rfl (by decide) rfl (fun _ => rfl) rfl rfl fun rc => ?_)
          refine RG_gT rfl rfl rfl rfl rfl rfl rfl (st_pure pure_move rfl rfl rfl ?_)
          refine RG_gT rfl rfl rfl rfl rfl rfl rfl (s_ct (R := [4]) (W := [8]) (x0 := RowV.nil _ (elems_mx Wm)) (ct_all yo.2 Wm) fnF35 rfl rfl rfl rfl (by decide) rfl (fun _ => rfl) rfl rfl fun rd => ?_)
          refine RG_gT rfl rfl rfl rfl rfl rfl rfl (s_ctE (R := [7, 8]) (W := []) (x0 := ()) ((rc.1, rd.1)) (fun u => ct_SIrow u.1 u.2 _ (allI Wm) (allI_length _)) fnF36 rfl rfl rfl rfl rfl rfl (by decide) (fun _ => rfl) (fun _ _ => rfl) rfl rfl fun _ => ?_)
          refine RG_gT rfl rfl rfl rfl rfl rfl rfl (st_pure (pure_to (v' := .bool false) pure_not rfl) rfl rfl rfl ?_)
          refine RG_pickF rfl rfl rfl rfl (wanted_none rfl) rfl rfl rfl ?_
          refine RG_end ?_
          refine WQ_keep [(238, _), (3, _), (4, _), (23, _), (24, _), (25, _)] ⟨rfl, rfl, rfl, rfl, rfl, rfl, trivial⟩ ?_
          refine WQ_then ?_
          refine W_condF rfl rfl ?_
          refine W_skip rfl ?_
          refine WQ_inB ?_
          refine WQ_then ?_
          refine W_reg (m := 2) rfl rfl ?_
          refine RN_op rfl rfl rfl (st_pure (pure_add64 (by omega)) rfl rfl rfl ?_)
          refine RN_op rfl rfl rfl (st_pure pure_move rfl rfl rfl ?_)
          refine RN_end ?_
          refine WQ_keep [(25, _), (3, _), (4, _), (23, _), (24, _)] ⟨rfl, rfl, rfl, rfl, rfl, trivial⟩ ?_
          refine WQ_hand ((i + 1, y.1, y.2)) (by (try dsimp only); omega) (by (try dsimp only); omega) (AllIn.sub ⟨rfl, rfl, rfl, rfl, rfl, trivial⟩) (EntP.ent (by repeat' first | exact EntP.nil | refine EntP.same ?_ | refine EntP.drop ?_ | refine EntP.nilRow ?_))
    · refine W_exit rfl ?_
      refine WQ_thenX rfl ?_
      refine WQ_thenX rfl ?_
      refine WQ_hit ?_
      refine WQ_then ?_
      refine W_seq rfl ?_
      refine W_reg (m := 1) rfl rfl ?_
      refine RN_op rfl rfl rfl (st_pure pure_assign rfl rfl rfl ?_)
      refine RN_end ?_
      refine WQ_keep [(2, _)] ⟨rfl, trivial⟩ ?_
      refine WQ_then ?_
      refine W_ret rfl ?_
      refine WQ_ret (vs := [_]) (by rw [Tryd.results8]; rfl) fun w' hs' he' => ?_
      exact ⟨(), rfl, hs'.pick [0, 1] (by decide), he'⟩
end Go.Proofs.YtompmejidaddoaaDoor
