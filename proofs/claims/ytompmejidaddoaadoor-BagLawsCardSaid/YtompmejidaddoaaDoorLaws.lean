/- The walk of the law BagLaws: whatever the two sets, it is true. -/
import Derived.Test.YtompmejidaddoaaDoorBagE
set_option linter.unusedVariables false
set_option linter.unusedSimpArgs false
namespace Go.Proofs.YtompmejidaddoaaDoor
open Go Go.RowKit

theorem back_eq (S T : Nat → Bool) : orM (subM S T) (andM S T) = S := by
  funext i; simp only [orM, subM, andM]; cases S i <;> cases T i <;> rfl
theorem whole_eq (S T : Nat → Bool) : orM (subM S T) T = orM S T := by
  funext i; simp only [orM, subM]; cases S i <;> cases T i <;> rfl
theorem all_eq (S T : Nat → Bool) : orM (orM S T) S = orM S T := by
  funext i; simp only [orM]; cases S i <;> cases T i <;> rfl
theorem count_and (S T : Nat → Bool) : ∀ l : List Nat, (l.filter (andM S T)).length + (l.filter (subM S T)).length = (l.filter S).length
  | [] => rfl
  | a :: l => by
    have := count_and S T l
    cases hS : S a <;> cases hT : T a <;> simp [List.filter_cons, andM, subM, hS, hT] <;> omega
theorem count_or (S T : Nat → Bool) : ∀ l : List Nat, (l.filter (orM S T)).length = (l.filter (subM S T)).length + (l.filter T).length
  | [] => rfl
  | a :: l => by
    have := count_or S T l
    cases hS : S a <;> cases hT : T a <;> simp [List.filter_cons, orM, subM, hS, hT] <;> omega
theorem same_self (M : Nat → Bool) : sameM M M = true := by unfold sameM; simp
theorem elems_leM (M : Nat → Bool) : (elems M).length ≤ 4096 := by rw [elems]; exact Nat.le_trans (List.length_filter_le _ _) (by simp)
theorem laws_facts (S T : Nat → Bool) : sameM (orM (subM S T) (andM S T)) S = true ∧ sameM (orM (subM S T) T) (orM S T) = true ∧
    (((elems (andM S T)).length : Nat) : Int) + (((elems (subM S T)).length : Nat) : Int) = (((elems S).length : Nat) : Int) ∧
    (((elems (orM S T)).length : Nat) : Int) = (((elems (subM S T)).length : Nat) : Int) + (((elems T).length : Nat) : Int) ∧
    ¬ (elems (orM S T)).length < (elems (orM (orM S T) S)).length := by
  refine ⟨by rw [back_eq]; exact same_self _, by rw [whole_eq]; exact same_self _, ?_, ?_, by rw [all_eq]; exact Nat.lt_irrefl _⟩
  · have := count_and S T (List.range 4096)
    unfold elems; omega
  · have := count_or S T (List.range 4096)
    unfold elems; omega

set_option maxRecDepth 100000 in
set_option maxHeartbeats 2000000 in
theorem ct_Laws (W0 : World) (hT : Tab W0) (ka xa kb xb : Int) (va vb : Value) (ra rb : Bool) (la lb : List Int) (hRa : Rds (.old W0) va la.length 1 (i64s la)) (hRb : Rds (.old W0) vb lb.length 1 (i64s lb)) (hxa : ∀ j, nth la j ≤ 9223372036854775807) (hxb : ∀ j, nth lb j ≤ 9223372036854775807) :
    Ct Tryd.prog 7 [acV ka xa va ra, acV kb xb vb rb] [.old W0] [] (X := Unit) (fun _ => .bool true) (fun _ => []) := by
  refine ct_of fun w lf hs => ?_
  haveI := hRa.row.one
  haveI := hRb.row.one
  obtain ⟨q1, q2, q3, q4, q5⟩ := laws_facts (ofM (othL ra la)) (ofM (othL rb lb))
  have z1 := elems_leM (andM (ofM (othL ra la)) (ofM (othL rb lb)))
  have z2 := elems_leM (subM (ofM (othL ra la)) (ofM (othL rb lb)))
  have z3 := elems_leM (ofM (othL rb lb))
  refine enter (c := bodyOf Tryd.f7) Tryd.func7 rfl Tryd.ntmps7 rfl (L := [.old W0, .hp (HP.sep lf), .emp, .emp, .emp, .emp, .emp, .emp, .emp, .emp, .emp, .emp, .emp, .emp, .emp, .emp, .emp, .emp, .emp, .emp]) (SatC.pad (SatC.pad hs 9) 9) ?_
  refine W_seq rfl ?_
  refine W_reg (m := 3) rfl rfl ?_
  refine RN_op rfl rfl rfl (s_al 11 alloc_boxA rfl rfl rfl fun g11 => ?_)
  refine RN_op rfl rfl rfl (s_al 12 alloc_boxA rfl rfl rfl fun g12 => ?_)
  refine RN_op rfl rfl rfl (st_pure pure_assign rfl rfl rfl ?_)
  refine RN_end ?_
  refine WQ_keep [(3, _), (2, _)] ⟨rfl, rfl, trivial⟩ ?_
  refine WQ_then ?_
  refine W_seq rfl ?_
  refine W_seq rfl ?_
  refine W_reg (m := 2) rfl rfl ?_
  refine RN_op rfl rfl rfl (s_ct (R := [0]) (W := []) (x0 := ()) (ct_awake9 W0 hT) fnF9 rfl rfl rfl rfl (by decide) rfl (fun _ => rfl) rfl rfl fun _ => ?_)
  refine RN_op rfl rfl rfl (st_pure pure_notD rfl rfl rfl ?_)
  refine RN_end ?_
  refine WQ_keep [(15, _), (3, _), (2, _)] ⟨rfl, rfl, rfl, trivial⟩ ?_
  refine WQ_then ?_
  refine W_cond rfl rfl (fun hc1 => ?_) (fun hc1 => ?_)
  · exact absurd trivial hc1
  · refine W_skip rfl ?_
    refine WQ_then ?_
    refine W_seq rfl ?_
    refine W_reg (m := 8) rfl rfl ?_
    refine RN_op rfl rfl rfl (st_ldN 11 rfl Tryd.underlying68 rfl sz68 rfl rfl cells_blk rfl rfl ?_)
    refine RN_op rfl rfl rfl (s_ct (R := [0]) (W := [2, 9]) (x0 := (.slice none 0 0, 0)) (ct_other (.old W0) ka xa va ra la hRa hxa) fnF28 rfl rfl rfl rfl (by decide) rfl (fun _ => rfl) rfl rfl fun ys => ?_)
    refine RN_know (fun w hs _ => setV_one 2 hs rfl) fun hys => ?_
    refine RN_op rfl rfl rfl (st_pure pure_move rfl rfl rfl ?_)
    refine RN_op rfl rfl rfl (st_pure (pure_extract rfl) rfl rfl rfl ?_)
    refine RN_op rfl rfl rfl (st_pure (pure_extract rfl) rfl rfl rfl ?_)
    refine RN_op rfl rfl rfl (s_al 13 (alloc_new zr28) rfl rfl rfl fun g13 => ?_)
    refine RN_op rfl rfl rfl (s_st 13 rfl sz28 rfl rfl rfl rfl puts_agg rfl ?_)
    refine RN_op rfl rfl rfl (st_pure pure_assign rfl rfl rfl ?_)
    refine RN_end ?_
    refine WQ_keep [(5, _), (3, _)] ⟨rfl, rfl, trivial⟩ ?_
    refine WQ_then ?_
    refine W_seq rfl ?_
    refine W_reg (m := 8) rfl rfl ?_
    refine RN_op rfl rfl rfl (st_ldN 12 rfl Tryd.underlying68 rfl sz68 rfl rfl cells_blk rfl rfl ?_)
    refine RN_op rfl rfl rfl (s_ct (R := [0]) (W := [3, 10]) (x0 := (.slice none 0 0, 0)) (ct_other (.old W0) kb xb vb rb lb hRb hxb) fnF28 rfl rfl rfl rfl (by decide) rfl (fun _ => rfl) rfl rfl fun yt => ?_)
    refine RN_know (fun w hs _ => setV_one 3 hs rfl) fun hyt => ?_
    refine RN_op rfl rfl rfl (st_pure pure_move rfl rfl rfl ?_)
    refine RN_op rfl rfl rfl (st_pure (pure_extract rfl) rfl rfl rfl ?_)
    refine RN_op rfl rfl rfl (st_pure (pure_extract rfl) rfl rfl rfl ?_)
    refine RN_op rfl rfl rfl (s_al 14 (alloc_new zr28) rfl rfl rfl fun g14 => ?_)
    refine RN_op rfl rfl rfl (s_st 14 rfl sz28 rfl rfl rfl rfl puts_agg rfl ?_)
    refine RN_op rfl rfl rfl (st_pure pure_assign rfl rfl rfl ?_)
    refine RN_end ?_
    refine WQ_keep [(7, _), (5, _)] ⟨rfl, rfl, trivial⟩ ?_
    refine WQ_then ?_
    refine W_seq rfl ?_
    refine W_draw (m := 12) [(0, Spec.ldN 13 1), (1, Spec.ct [2] [4] (.func (.func 29) #[] #[]) [.agg [ys.1].toArray] [.hp (SetV ys.1 (ofM (othL ra la)))] [.emp] (X := OneV) OneV.nil (fun x => .agg [x.1].toArray) (fun x => [.hp (SetV x.1 (ofM (othL ra la)))])), (2, Spec.ldN 13 1), (3, Spec.ct [2] [5] (.func (.func 29) #[] #[]) [.agg [ys.1].toArray] [.hp (SetV ys.1 (ofM (othL ra la)))] [.emp] (X := OneV) OneV.nil (fun x => .agg [x.1].toArray) (fun x => [.hp (SetV x.1 (ofM (othL ra la)))])), (4, Spec.ldN 13 1), (5, Spec.ct [2] [6] (.func (.func 29) #[] #[]) [.agg [ys.1].toArray] [.hp (SetV ys.1 (ofM (othL ra la)))] [.emp] (X := OneV) OneV.nil (fun x => .agg [x.1].toArray) (fun x => [.hp (SetV x.1 (ofM (othL ra la)))])), (6, Spec.al Tryd.prog ((nthO (cL (cA (cB (cB (cB (cB (bodyOf Tryd.f7))))))) 6).getD default) 15), (7, Spec.al Tryd.prog ((nthO (cL (cA (cB (cB (cB (cB (bodyOf Tryd.f7))))))) 7).getD default) 16), (8, Spec.al Tryd.prog ((nthO (cL (cA (cB (cB (cB (cB (bodyOf Tryd.f7))))))) 8).getD default) 17), (9, Spec.sto 15 1), (10, Spec.sto 16 1), (11, Spec.sto 17 1)] #[0, 1, 0, 7, 0, 31, 0, 0, 0, 511, 1023, 2047] rfl rfl mixed (by kernel_rfl) (by kernel_rfl) ?_
    refine RG_op rfl rfl rfl rfl (st_ldN 13 rfl Tryd.underlying28 rfl sz28 rfl rfl cells_blk rfl rfl ?_)
    refine RG_op rfl rfl rfl rfl (s_ct (R := [2]) (W := [4]) (x0 := OneV.nil) (ct_copyO (ofM (othL ra la)) ys.1) fnF29 rfl rfl rfl rfl (by decide) rfl (fun _ => rfl) rfl rfl fun c1 => ?_)
    refine RG_op rfl rfl rfl rfl (st_ldN 13 rfl Tryd.underlying28 rfl sz28 rfl rfl cells_blk rfl rfl ?_)
    refine RG_op rfl rfl rfl rfl (s_ct (R := [2]) (W := [5]) (x0 := OneV.nil) (ct_copyO (ofM (othL ra la)) ys.1) fnF29 rfl rfl rfl rfl (by decide) rfl (fun _ => rfl) rfl rfl fun c2 => ?_)
    refine RG_op rfl rfl rfl rfl (st_ldN 13 rfl Tryd.underlying28 rfl sz28 rfl rfl cells_blk rfl rfl ?_)
    refine RG_op rfl rfl rfl rfl (s_ct (R := [2]) (W := [6]) (x0 := OneV.nil) (ct_copyO (ofM (othL ra la)) ys.1) fnF29 rfl rfl rfl rfl (by decide) rfl (fun _ => rfl) rfl rfl fun c3 => ?_)
    refine RG_op rfl rfl rfl rfl (s_al 15 (alloc_new zr28) rfl rfl rfl fun g15 => ?_)
    refine RG_op rfl rfl rfl rfl (s_al 16 (alloc_new zr28) rfl rfl rfl fun g16 => ?_)
    refine RG_op rfl rfl rfl rfl (s_al 17 (alloc_new zr28) rfl rfl rfl fun g17 => ?_)
    refine RG_op rfl rfl rfl rfl (s_st 15 rfl sz28 rfl rfl rfl rfl puts_agg rfl ?_)
    refine RG_op rfl rfl rfl rfl (s_st 16 rfl sz28 rfl rfl rfl rfl puts_agg rfl ?_)
    refine RG_op rfl rfl rfl rfl (s_st 17 rfl sz28 rfl rfl rfl rfl puts_agg rfl ?_)
    refine RG_end ?_
    refine WQ_keep [(11, _), (10, _), (9, _), (7, _), (5, _)] ⟨rfl, rfl, rfl, rfl, rfl, trivial⟩ ?_
    refine WQ_then ?_
    refine W_seq rfl ?_
    refine W_reg (m := 2) rfl rfl ?_
    refine RN_op rfl rfl rfl (st_ldN 14 rfl Tryd.underlying28 rfl sz28 rfl rfl cells_blk rfl rfl ?_)
    refine RN_op rfl rfl rfl (s_ct (R := [3]) (W := [15, 4]) (x0 := .slice none 0 0) (ct_meetV g15 c1.1 yt.1 (ofM (othL ra la)) (ofM (othL rb lb))) fnF30 rfl rfl rfl rfl (by decide) rfl (fun _ => rfl) rfl rfl fun b1 => ?_)
    refine RN_end ?_
    refine WQ_keep [(11, _), (10, _), (9, _), (7, _), (5, _)] ⟨rfl, rfl, rfl, rfl, rfl, trivial⟩ ?_
    refine WQ_then ?_
    refine W_seq rfl ?_
    refine W_reg (m := 2) rfl rfl ?_
    refine RN_op rfl rfl rfl (st_ldN 14 rfl Tryd.underlying28 rfl sz28 rfl rfl cells_blk rfl rfl ?_)
    refine RN_op rfl rfl rfl (s_ct (R := [3]) (W := [16, 5]) (x0 := .slice none 0 0) (ct_lessV g16 c2.1 yt.1 (ofM (othL ra la)) (ofM (othL rb lb))) fnF31 rfl rfl rfl rfl (by decide) rfl (fun _ => rfl) rfl rfl fun a1 => ?_)
    refine RN_end ?_
    refine WQ_keep [(11, _), (10, _), (9, _), (7, _), (5, _)] ⟨rfl, rfl, rfl, rfl, rfl, trivial⟩ ?_
    refine WQ_then ?_
    refine W_seq rfl ?_
    refine W_reg (m := 2) rfl rfl ?_
    refine RN_op rfl rfl rfl (st_ldN 14 rfl Tryd.underlying28 rfl sz28 rfl rfl cells_blk rfl rfl ?_)
    refine RN_op rfl rfl rfl (s_ct (R := [0, 3]) (W := [17, 6]) (x0 := .slice none 0 0) (ct_joinV W0 hT g17 c3.1 yt.1 (ofM (othL ra la)) (ofM (othL rb lb))) fnF32 rfl rfl rfl rfl (by decide) rfl (fun _ => rfl) rfl rfl fun l1 => ?_)
    refine RN_end ?_
    refine WQ_keep [(11, _), (10, _), (9, _), (7, _), (5, _)] ⟨rfl, rfl, rfl, rfl, rfl, trivial⟩ ?_
    refine WQ_then ?_
    refine W_seq rfl ?_
    refine W_reg (m := 4) rfl rfl ?_
    refine RN_op rfl rfl rfl (st_ldN 16 rfl Tryd.underlying28 rfl sz28 rfl rfl cells_blk rfl rfl ?_)
    refine RN_op rfl rfl rfl (s_ct (R := [5]) (W := [7]) (x0 := OneV.nil) (ct_copyO (subM (ofM (othL ra la)) (ofM (othL rb lb))) a1) fnF29 rfl rfl rfl rfl (by decide) rfl (fun _ => rfl) rfl rfl fun k1 => ?_)
    refine RN_op rfl rfl rfl (s_al 18 (alloc_new zr28) rfl rfl rfl fun g18 => ?_)
    refine RN_op rfl rfl rfl (s_st 18 rfl sz28 rfl rfl rfl rfl puts_agg rfl ?_)
    refine RN_end ?_
    refine WQ_keep [(12, _), (11, _), (10, _), (9, _), (7, _), (5, _)] ⟨rfl, rfl, rfl, rfl, rfl, rfl, trivial⟩ ?_
    refine WQ_then ?_
    refine W_seq rfl ?_
    refine W_reg (m := 2) rfl rfl ?_
    refine RN_op rfl rfl rfl (st_ldN 15 rfl Tryd.underlying28 rfl sz28 rfl rfl cells_blk rfl rfl ?_)
    refine RN_op rfl rfl rfl (s_ct (R := [0, 4]) (W := [18, 7]) (x0 := .slice none 0 0) (ct_joinV W0 hT g18 k1.1 b1 (subM (ofM (othL ra la)) (ofM (othL rb lb))) (andM (ofM (othL ra la)) (ofM (othL rb lb)))) fnF32 rfl rfl rfl rfl (by decide) rfl (fun _ => rfl) rfl rfl fun k2 => ?_)
    refine RN_end ?_
    refine WQ_keep [(12, _), (11, _), (10, _), (9, _), (7, _), (5, _)] ⟨rfl, rfl, rfl, rfl, rfl, rfl, trivial⟩ ?_
    refine WQ_then ?_
    refine W_seq rfl ?_
    refine W_reg (m := 4) rfl rfl ?_
    refine RN_op rfl rfl rfl (st_ldN 16 rfl Tryd.underlying28 rfl sz28 rfl rfl cells_blk rfl rfl ?_)
    refine RN_op rfl rfl rfl (s_ct (R := [5]) (W := [8]) (x0 := OneV.nil) (ct_copyO (subM (ofM (othL ra la)) (ofM (othL rb lb))) a1) fnF29 rfl rfl rfl rfl (by decide) rfl (fun _ => rfl) rfl rfl fun w1 => ?_)
    refine RN_op rfl rfl rfl (s_al 19 (alloc_new zr28) rfl rfl rfl fun g19 => ?_)
    refine RN_op rfl rfl rfl (s_st 19 rfl sz28 rfl rfl rfl rfl puts_agg rfl ?_)
    refine RN_end ?_
    refine WQ_keep [(13, _), (12, _), (11, _), (10, _), (9, _), (7, _), (5, _)] ⟨rfl, rfl, rfl, rfl, rfl, rfl, rfl, trivial⟩ ?_
    refine WQ_then ?_
    refine W_seq rfl ?_
    refine W_reg (m := 2) rfl rfl ?_
    refine RN_op rfl rfl rfl (st_ldN 14 rfl Tryd.underlying28 rfl sz28 rfl rfl cells_blk rfl rfl ?_)
    refine RN_op rfl rfl rfl (s_ct (R := [0, 3]) (W := [19, 8]) (x0 := .slice none 0 0) (ct_joinV W0 hT g19 w1.1 yt.1 (subM (ofM (othL ra la)) (ofM (othL rb lb))) (ofM (othL rb lb))) fnF32 rfl rfl rfl rfl (by decide) rfl (fun _ => rfl) rfl rfl fun w2 => ?_)
    refine RN_end ?_
    refine WQ_keep [(13, _), (12, _), (11, _), (10, _), (9, _), (7, _), (5, _)] ⟨rfl, rfl, rfl, rfl, rfl, rfl, rfl, trivial⟩ ?_
    refine WQ_then ?_
    refine W_seq rfl ?_
    refine W_draw (m := 34) [(0, Spec.ldN 18 1), (1, Spec.ldN 13 1), (2, Spec.ct [0, 7, 2] [] (.func (.func 33) #[] #[]) [.agg [k2].toArray, .agg [ys.1].toArray] [.old W0, .hp (SetV k2 (orM (subM (ofM (othL ra la)) (ofM (othL rb lb))) (andM (ofM (othL ra la)) (ofM (othL rb lb))))), .hp (SetV ys.1 (ofM (othL ra la)))] [] (X := Unit) () (fun _ => .bool true) (fun _ => [])), (4, Spec.ldN 19 1), (5, Spec.ldN 17 1), (6, Spec.ct [0, 8, 6] [] (.func (.func 33) #[] #[]) [.agg [w2].toArray, .agg [l1].toArray] [.old W0, .hp (SetV w2 (orM (subM (ofM (othL ra la)) (ofM (othL rb lb))) (ofM (othL rb lb)))), .hp (SetV l1 (orM (ofM (othL ra la)) (ofM (othL rb lb))))] [] (X := Unit) () (fun _ => .bool true) (fun _ => [])), (9, Spec.ldN 15 1), (10, Spec.ct [4] [] (.func (.func 25) #[] #[]) [.agg [b1].toArray] [.hp (SetV b1 (andM (ofM (othL ra la)) (ofM (othL rb lb))))] [] (X := Unit) () (fun _ => .int .i64 ((elems (andM (ofM (othL ra la)) (ofM (othL rb lb)))).length : Nat)) (fun _ => [])), (11, Spec.ldN 16 1), (12, Spec.ct [5] [] (.func (.func 25) #[] #[]) [.agg [a1].toArray] [.hp (SetV a1 (subM (ofM (othL ra la)) (ofM (othL rb lb))))] [] (X := Unit) () (fun _ => .int .i64 ((elems (subM (ofM (othL ra la)) (ofM (othL rb lb)))).length : Nat)) (fun _ => [])), (14, Spec.ldN 13 1), (15, Spec.ct [2] [] (.func (.func 25) #[] #[]) [.agg [ys.1].toArray] [.hp (SetV ys.1 (ofM (othL ra la)))] [] (X := Unit) () (fun _ => .int .i64 ((elems (ofM (othL ra la))).length : Nat)) (fun _ => [])), (19, Spec.ldN 17 1), (20, Spec.ct [6] [] (.func (.func 25) #[] #[]) [.agg [l1].toArray] [.hp (SetV l1 (orM (ofM (othL ra la)) (ofM (othL rb lb))))] [] (X := Unit) () (fun _ => .int .i64 ((elems (orM (ofM (othL ra la)) (ofM (othL rb lb)))).length : Nat)) (fun _ => [])), (21, Spec.ldN 16 1), (22, Spec.ct [5] [] (.func (.func 25) #[] #[]) [.agg [a1].toArray] [.hp (SetV a1 (subM (ofM (othL ra la)) (ofM (othL rb lb))))] [] (X := Unit) () (fun _ => .int .i64 ((elems (subM (ofM (othL ra la)) (ofM (othL rb lb)))).length : Nat)) (fun _ => [])), (23, Spec.ldN 14 1), (24, Spec.ct [3] [] (.func (.func 25) #[] #[]) [.agg [yt.1].toArray] [.hp (SetV yt.1 (ofM (othL rb lb)))] [] (X := Unit) () (fun _ => .int .i64 ((elems (ofM (othL rb lb))).length : Nat)) (fun _ => [])), (29, Spec.ldN 13 1), (30, Spec.ct [0, 2] [17, 6] (.func (.func 32) #[] #[]) [.pointer (some ⟨g17, 0, none⟩), .agg [ys.1].toArray] [.old W0, .hp (SetV ys.1 (ofM (othL ra la)))] [SB g17 l1, .hp (SetV l1 (orM (ofM (othL ra la)) (ofM (othL rb lb))))] (X := Value) (.slice none 0 0) (fun _ => .bool (decide ((elems (orM (ofM (othL ra la)) (ofM (othL rb lb)))).length < (elems (orM (orM (ofM (othL ra la)) (ofM (othL rb lb))) (ofM (othL ra la)))).length))) (fun v' => [SB g17 v', .hp (SetV v' (orM (orM (ofM (othL ra la)) (ofM (othL rb lb))) (ofM (othL ra la))))]))] #[0, 0, 3, 7, 15, 15, 63, 127, 255, 511, 1023, 511, 4095, 8191, 511, 24575, 65535, 131071, 262143, 524287, 1048575, 524287, 4194303, 524287, 16777215, 33554431, 67108863, 134217727, 268435455, 536870911, 1073741823, 2147483647, 4294967295, 8589934591] rfl rfl mixed (by kernel_rfl) (by kernel_rfl) ?_
    refine RG_op rfl rfl rfl rfl (st_ldN 18 rfl Tryd.underlying28 rfl sz28 rfl rfl cells_blk rfl rfl ?_)
    refine RG_op rfl rfl rfl rfl (st_ldN 13 rfl Tryd.underlying28 rfl sz28 rfl rfl cells_blk rfl rfl ?_)
    refine RG_op rfl rfl rfl rfl (s_ct (R := [0, 7, 2]) (W := []) (x0 := ()) (ct_sameV W0 hT k2 ys.1 (orM (subM (ofM (othL ra la)) (ofM (othL rb lb))) (andM (ofM (othL ra la)) (ofM (othL rb lb)))) (ofM (othL ra la)) q1) fnF33 rfl rfl rfl rfl (by decide) rfl (fun _ => rfl) rfl rfl fun _ => ?_)
    refine RG_op rfl rfl rfl rfl (st_pure pure_move rfl rfl rfl ?_)
    refine RG_gT rfl rfl rfl rfl rfl rfl rfl (st_ldN 19 rfl Tryd.underlying28 rfl sz28 rfl rfl cells_blk rfl rfl ?_)
    refine RG_gT rfl rfl rfl rfl rfl rfl rfl (st_ldN 17 rfl Tryd.underlying28 rfl sz28 rfl rfl cells_blk rfl rfl ?_)
    refine RG_gT rfl rfl rfl rfl rfl rfl rfl (s_ct (R := [0, 8, 6]) (W := []) (x0 := ()) (ct_sameV W0 hT w2 l1 (orM (subM (ofM (othL ra la)) (ofM (othL rb lb))) (ofM (othL rb lb))) (orM (ofM (othL ra la)) (ofM (othL rb lb))) q2) fnF33 rfl rfl rfl rfl (by decide) rfl (fun _ => rfl) rfl rfl fun _ => ?_)
    refine RG_pickT rfl rfl rfl rfl (wanted_none rfl) rfl rfl rfl ?_
    refine RG_op rfl rfl rfl rfl (st_pure pure_move rfl rfl rfl ?_)
    refine RG_gT rfl rfl rfl rfl rfl rfl rfl (st_ldN 15 rfl Tryd.underlying28 rfl sz28 rfl rfl cells_blk rfl rfl ?_)
    refine RG_gT rfl rfl rfl rfl rfl rfl rfl (s_ct (R := [4]) (W := []) (x0 := ()) (ct_lenV (andM (ofM (othL ra la)) (ofM (othL rb lb))) b1) fnF25 rfl rfl rfl rfl (by decide) rfl (fun _ => rfl) rfl rfl fun _ => ?_)
    refine RG_gT rfl rfl rfl rfl rfl rfl rfl (st_ldN 16 rfl Tryd.underlying28 rfl sz28 rfl rfl cells_blk rfl rfl ?_)
    refine RG_gT rfl rfl rfl rfl rfl rfl rfl (s_ct (R := [5]) (W := []) (x0 := ()) (ct_lenV (subM (ofM (othL ra la)) (ofM (othL rb lb))) a1) fnF25 rfl rfl rfl rfl (by decide) rfl (fun _ => rfl) rfl rfl fun _ => ?_)
    refine RG_gT rfl rfl rfl rfl rfl rfl rfl (st_pure (pure_add64 (by omega)) rfl rfl rfl ?_)
    refine RG_gT rfl rfl rfl rfl rfl rfl rfl (st_ldN 13 rfl Tryd.underlying28 rfl sz28 rfl rfl cells_blk rfl rfl ?_)
    refine RG_gT rfl rfl rfl rfl rfl rfl rfl (s_ct (R := [2]) (W := []) (x0 := ()) (ct_lenV (ofM (othL ra la)) ys.1) fnF25 rfl rfl rfl rfl (by decide) rfl (fun _ => rfl) rfl rfl fun _ => ?_)
    refine RG_gT rfl rfl rfl rfl rfl rfl rfl (st_pure (pure_to pure_eql (congrArg Value.bool (decide_eq_true q3))) rfl rfl rfl ?_)
    refine RG_pickT rfl rfl rfl rfl (wanted_none rfl) rfl rfl rfl ?_
    refine RG_op rfl rfl rfl rfl (st_pure pure_move rfl rfl rfl ?_)
    refine RG_gT rfl rfl rfl rfl rfl rfl rfl (st_ldN 17 rfl Tryd.underlying28 rfl sz28 rfl rfl cells_blk rfl rfl ?_)
    refine RG_gT rfl rfl rfl rfl rfl rfl rfl (s_ct (R := [6]) (W := []) (x0 := ()) (ct_lenV (orM (ofM (othL ra la)) (ofM (othL rb lb))) l1) fnF25 rfl rfl rfl rfl (by decide) rfl (fun _ => rfl) rfl rfl fun _ => ?_)
    refine RG_gT rfl rfl rfl rfl rfl rfl rfl (st_ldN 16 rfl Tryd.underlying28 rfl sz28 rfl rfl cells_blk rfl rfl ?_)
    refine RG_gT rfl rfl rfl rfl rfl rfl rfl (s_ct (R := [5]) (W := []) (x0 := ()) (ct_lenV (subM (ofM (othL ra la)) (ofM (othL rb lb))) a1) fnF25 rfl rfl rfl rfl (by decide) rfl (fun _ => rfl) rfl rfl fun _ => ?_)
    refine RG_gT rfl rfl rfl rfl rfl rfl rfl (st_ldN 14 rfl Tryd.underlying28 rfl sz28 rfl rfl cells_blk rfl rfl ?_)
    refine RG_gT rfl rfl rfl rfl rfl rfl rfl (s_ct (R := [3]) (W := []) (x0 := ()) (ct_lenV (ofM (othL rb lb)) yt.1) fnF25 rfl rfl rfl rfl (by decide) rfl (fun _ => rfl) rfl rfl fun _ => ?_)
    refine RG_gT rfl rfl rfl rfl rfl rfl rfl (st_pure (pure_add64 (by omega)) rfl rfl rfl ?_)
    refine RG_gT rfl rfl rfl rfl rfl rfl rfl (st_pure (pure_to pure_eql (congrArg Value.bool (decide_eq_true q4))) rfl rfl rfl ?_)
    refine RG_pickT rfl rfl rfl rfl (wanted_none rfl) rfl rfl rfl ?_
    refine RG_op rfl rfl rfl rfl (st_pure pure_move rfl rfl rfl ?_)
    refine RG_gT rfl rfl rfl rfl rfl rfl rfl (st_ldN 13 rfl Tryd.underlying28 rfl sz28 rfl rfl cells_blk rfl rfl ?_)
    refine RG_gT rfl rfl rfl rfl rfl rfl rfl (s_ct (R := [0, 2]) (W := [17, 6]) (x0 := .slice none 0 0) (ct_joinV W0 hT g17 l1 ys.1 (orM (ofM (othL ra la)) (ofM (othL rb lb))) (ofM (othL ra la))) fnF32 rfl rfl rfl rfl (by decide) rfl (fun _ => rfl) rfl rfl fun l2 => ?_)
    refine RG_gT rfl rfl rfl rfl rfl rfl rfl (st_pure (pure_to pure_notD (congrArg Value.bool (decide_eq_true q5))) rfl rfl rfl ?_)
    refine RG_pickT rfl rfl rfl rfl (wanted_none rfl) rfl rfl rfl ?_
    refine RG_op rfl rfl rfl rfl (st_pure pure_assign rfl rfl rfl ?_)
    refine RG_end ?_
    refine WQ_keep [(4, _)] ⟨rfl, trivial⟩ ?_
    refine WQ_then ?_
    refine W_ret rfl ?_
    refine WQ_ret (vs := [_]) (by rw [Tryd.results7]; rfl) fun w' hs' he' => ?_
    exact ⟨(), rfl, hs'.pick [0, 1] (by decide), he'⟩
end Go.Proofs.YtompmejidaddoaaDoor
