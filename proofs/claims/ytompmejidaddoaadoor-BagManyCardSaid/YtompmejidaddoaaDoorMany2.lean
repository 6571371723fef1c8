/- The walk of the law BagMany: whatever the number and the step, it is true. -/
import Derived.Test.YtompmejidaddoaaDoorBagC
import Derived.Test.YtompmejidaddoaaDoorEngP
set_option linter.unusedVariables false
set_option linter.unusedSimpArgs false
namespace Go.Proofs.YtompmejidaddoaaDoor
open Go Go.RowKit

theorem elems_max (M : Nat → Bool) : (elems M).length ≤ maxLen := by
  have : (elems M).length ≤ 4096 := by
    rw [elems]; exact Nat.le_trans (List.length_filter_le _ _) (by simp)
  simp only [maxLen]; omega
theorem many_facts (d k : Nat) (x : Int) (hd0 : 0 < d) (hlen : (elems (mulM d k)).length = k) (hhas : hasM (mulM d k) x = (decide (0 ≤ x ∧ x < 4096) && decide (x.toNat % d = 0))) (hout : hasM (mulM d k) 4096 = false) :
    (((elems (mulM d k)).length : Nat) : Int) = ((k : Nat) : Int) ∧ hasM (mulM d k) x = decide ((x ≥ 0 ∧ x < 4096) ∧ x % (d : Int) = 0) ∧
    decide (canPut (mulM d k) x = true) = decide ((x ≥ 0 ∧ x < 4096) ∧ ¬ ((x ≥ 0 ∧ x < 4096) ∧ x % (d : Int) = 0)) ∧
    decide (hasM (putM (mulM d k) x) x = true) = decide (x ≥ 0 ∧ x < 4096) ∧
    (¬ canPut (cutM (putM (mulM d k) x) x) (-1) = true) ∧ (¬ canPut (putM (cutM (putM (mulM d k) x) x) (-1)) 4096 = true) ∧ (¬ hasM (putM (putM (cutM (putM (mulM d k) x) x) (-1)) 4096) 4096 = true) := by
  have e9 : hasM (mulM d k) x = decide ((x ≥ 0 ∧ x < 4096) ∧ x % (d : Int) = 0) := by
    rw [hhas]
    by_cases hin : 0 ≤ x ∧ x < 4096
    · obtain ⟨y, rfl⟩ : ∃ y : Nat, x = y := ⟨x.toNat, by omega⟩
      have e : ((y : Int) % (d : Int) = 0) ↔ y % d = 0 := by rw [← Int.natCast_emod]; omega
      simp only [ge_iff_le, hin, and_self, decide_true, Bool.true_and, true_and, Int.toNat_natCast, e]
    · rw [decide_eq_false hin, Bool.false_and]
      exact (decide_eq_false (fun h => hin ⟨h.1.1, h.1.2⟩)).symm
  refine ⟨by rw [hlen], e9, ?_, ?_, ?_, ?_, ?_⟩
  · by_cases hin : 0 ≤ x ∧ x < 4096
    · rw [can_in hin, e9]
      simp [hin]
    · rw [can_out hin]
      exact (decide_eq_false (by decide : ¬ (false = true))).trans (decide_eq_false (fun h => hin h.1)).symm
  · by_cases hin : 0 ≤ x ∧ x < 4096
    · rw [hasput_in hin]; simp [hin]
    · have e0 : hasM (mulM d k) x = false := by rw [e9]; exact decide_eq_false (fun h => hin h.1)
      rw [put_out hin, e0]
      exact (decide_eq_false (by decide : ¬ (false = true))).trans (decide_eq_false (fun h => hin h)).symm
  · rw [can_out (by omega)]; decide
  · rw [can_out (by omega)]; decide
  · rw [put_out (by omega), put_out (by omega)]
    have hm : mulM d k 4096 = false := by simpa [hasM] using hout
    have hp : putM (mulM d k) x 4096 = false := by
      unfold putM
      split
      · rename_i h
        simp only [hm, Bool.false_or, decide_eq_false_iff_not]
        omega
      · exact hm
    simp [hasM, cutM, hp]

set_option maxRecDepth 100000 in
set_option maxHeartbeats 2000000 in
theorem ct_Many (W0 : World) (hT : Tab W0) (x : Int) (st : Nat) (hx1 : x ≤ 9223372036854775807) (hst : st < 256) : Ct Tryd.prog 6 [.int .i64 x, .int .u8 (st : Int)] [.old W0] [] (X := Unit) (fun _ => .bool true) (fun _ => []) := by
  refine ct_of fun w lf hs => ?_
  obtain ⟨d, hd⟩ : ∃ d : Nat, d = 1 + st % 50 := ⟨_, rfl⟩
  have hd0 : 0 < d := by omega
  have hd1 : d ≤ 50 := by omega
  refine enter (c := bodyOf Tryd.f6) Tryd.func6 rfl Tryd.ntmps6 rfl (L := [.old W0, .hp (HP.sep lf), .emp, .emp, .emp]) (SatC.pad (SatC.pad hs 2) 1) ?_
  refine W_seq rfl ?_
  refine W_reg (m := 1) rfl rfl ?_
  refine RN_op rfl rfl rfl (st_pure pure_assign rfl rfl rfl ?_)
  refine RN_end ?_
  refine WQ_keep [(0, _), (1, _)] ⟨rfl, rfl, trivial⟩ ?_
  refine WQ_then ?_
  refine W_seq rfl ?_
  refine W_seq rfl ?_
  refine W_reg (m := 2) rfl rfl ?_
  refine RN_op rfl rfl rfl (s_ct (R := [0]) (W := []) (x0 := ()) (ct_awake9 W0 hT) fnF9 rfl rfl rfl rfl (by decide) rfl (fun _ => rfl) rfl rfl fun _ => ?_)
  refine RN_op rfl rfl rfl (st_pure pure_notD rfl rfl rfl ?_)
  refine RN_end ?_
  refine WQ_keep [(12, _), (0, _), (1, _)] ⟨rfl, rfl, rfl, trivial⟩ ?_
  refine WQ_then ?_
  refine W_cond rfl rfl (fun hc1 => ?_) (fun hc1 => ?_)
  · exact absurd trivial hc1
  · refine W_skip rfl ?_
    refine WQ_then ?_
    refine W_seq rfl ?_
    refine W_reg (m := 1) rfl rfl ?_
    refine RN_op rfl rfl rfl (s_al 4 (alloc_new zr28) rfl rfl rfl fun g4 => ?_)
    refine RN_end ?_
    refine WQ_keep [(5, _), (0, _), (1, _)] ⟨rfl, rfl, rfl, trivial⟩ ?_
    refine WQ_then ?_
    refine W_seq rfl ?_
    refine W_reg (m := 5) rfl rfl ?_
    refine RN_op rfl rfl rfl (st_pure pure_move rfl rfl rfl ?_)
    refine RN_op rfl rfl rfl (st_pure (pure_remP (by omega) (by omega)) rfl rfl rfl ?_)
    refine RN_op rfl rfl rfl (st_pure (pure_conv64 Tryd.underlying5 Tryd.underlying3 (by omega)) rfl rfl rfl ?_)
    refine RN_op rfl rfl rfl (st_pure (pure_add64 (by omega)) rfl rfl rfl ?_)
    refine RN_op rfl rfl rfl (st_pure pure_assign rfl rfl rfl ?_)
    refine RN_end ?_
    refine WQ_keep [(6, .int .i64 (d : Int)), (5, _), (0, _)] ⟨(congrArg (fun z : Int => some (Value.int .i64 z)) (by omega)), rfl, rfl, trivial⟩ ?_
    refine WQ_then ?_
    refine W_seq rfl ?_
    refine W_reg (m := 1) rfl rfl ?_
    refine RN_op rfl rfl rfl (st_pure pure_assign rfl rfl rfl ?_)
    refine RN_end ?_
    refine WQ_keep [(7, _), (6, _), (5, _), (0, _)] ⟨rfl, rfl, rfl, rfl, trivial⟩ ?_
    refine WQ_then ?_
    refine W_seq rfl ?_
    refine W_seq rfl ?_
    refine W_reg (m := 1) rfl rfl ?_
    refine RN_op rfl rfl rfl (st_pure pure_assign rfl rfl rfl ?_)
    refine RN_end ?_
    refine WQ_keep [(8, _), (7, _), (6, _), (5, _), (0, _)] ⟨rfl, rfl, rfl, rfl, rfl, trivial⟩ ?_
    refine WQ_then ?_
    refine W_block rfl ?_
    refine W_sat (L' := [.old W0, .hp (HP.sep lf), .hp (SetV (.slice none 0 0) (mulM d 0)), .emp, SB g4 (.slice none 0 0)]) (fun w hs _ => ?_) ?_
    · rw [mulM_zero]
      exact (setV_nil (hs.pick [0, 1, 3, 4] (by decide))).pick [1, 2, 0, 3, 4] (by decide)
    refine W_loop (σ := Nat × Value) (fun ⟨k, v⟩ => 4096 - k) (fun ⟨k, v⟩ => [(0, .int .i64 x), (5, .pointer (some ⟨g4, 0, none⟩)), (6, .int .i64 (d : Int)), (7, .int .i64 ((k : Nat) : Int)), (8, .int .i64 ((k * d : Nat) : Int))]) (fun ⟨k, v⟩ => [.old W0, .hp (HP.sep lf), .hp (SetV v (mulM d k)), .emp, SB g4 v]) (fun ⟨k, v⟩ => k ≤ 4096 ∧ ∀ j, j < k → j * d < 4096) ((0, .slice none 0 0)) rfl (⟨by omega, fun j hj => by omega⟩) (AllIn.sub ⟨rfl, rfl, rfl, rfl, congrArg (fun z : Int => some (Value.int .i64 z)) (by simp), trivial⟩) (EntP.ent (by repeat' first | exact EntP.nil | refine EntP.same ?_ | refine EntP.drop ?_ | refine EntP.nilRow ?_)) ?_
    rintro ⟨k, v⟩ hI
    refine W_as [(0, .int .i64 x), (5, .pointer (some ⟨g4, 0, none⟩)), (6, .int .i64 (d : Int)), (7, .int .i64 ((k : Nat) : Int)), (8, .int .i64 ((k * d : Nat) : Int))] [.old W0, .hp (HP.sep lf), .hp (SetV v (mulM d k)), .emp, SB g4 v] ⟨rfl, rfl, rfl, rfl, rfl, trivial⟩ (EntP.refl _) ?_
    obtain ⟨hk, hall⟩ := hI
    have hkd : k ≤ k * d := Nat.le_mul_of_pos_right k hd0
    refine W_seq rfl ?_
    refine W_seq rfl ?_
    refine W_reg (m := 2) rfl rfl ?_
    refine RN_op rfl rfl rfl (st_pure pure_move rfl rfl rfl ?_)
    refine RN_op rfl rfl rfl (st_pure pure_lss rfl rfl rfl ?_)
    refine RN_end ?_
    refine WQ_keep [(18, _), (0, _), (5, _), (6, _), (7, _), (8, _)] ⟨rfl, rfl, rfl, rfl, rfl, rfl, trivial⟩ ?_
    refine WQ_then ?_
    refine W_cond rfl rfl (fun hc2 => ?_) (fun hc2 => ?_)
    · have hlt : k * d < 4096 := by omega
      refine W_skip rfl ?_
      refine WQ_then ?_
      refine W_seq rfl ?_
      refine W_block rfl ?_
      refine W_seq rfl ?_
      refine W_seq rfl ?_
      refine W_reg (m := 3) rfl rfl ?_
      refine RN_op rfl rfl rfl (st_pure pure_move rfl rfl rfl ?_)
      refine RN_op rfl rfl rfl (s_ct (R := []) (W := [4, 2]) (x0 := .slice none 0 0) (ct_putV g4 (mulM d k) ((k * d : Nat) : Int) (by omega) v) fnF11 rfl rfl rfl rfl (by decide) rfl (fun _ => rfl) rfl rfl fun v' => ?_)
      rw [mulM_put d k hd0 hlt, mulM_can d k hlt]
      refine RN_op rfl rfl rfl (st_pure pure_notD rfl rfl rfl ?_)
      refine RN_end ?_
      refine WQ_keep [(24, _), (0, _), (5, _), (6, _), (7, _), (8, _)] ⟨rfl, rfl, rfl, rfl, rfl, rfl, trivial⟩ ?_
      refine WQ_then ?_
      refine W_cond rfl rfl (fun hc3 => ?_) (fun hc3 => ?_)
      · exact absurd rfl hc3
      · refine W_skip rfl ?_
        refine WQ_then ?_
        refine W_reg (m := 3) rfl rfl ?_
        refine RN_op rfl rfl rfl (st_pure pure_move rfl rfl rfl ?_)
        refine RN_op rfl rfl rfl (st_pure (pure_add64 (by omega)) rfl rfl rfl ?_)
        refine RN_op rfl rfl rfl (st_pure pure_assign rfl rfl rfl ?_)
        refine RN_end ?_
        refine WQ_keep [(7, _), (0, _), (5, _), (6, _), (8, _)] ⟨rfl, rfl, rfl, rfl, rfl, trivial⟩ ?_
        refine WQ_inB ?_
        refine WQ_then ?_
        refine W_reg (m := 4) rfl rfl ?_
        refine RN_op rfl rfl rfl (st_pure pure_move rfl rfl rfl ?_)
        refine RN_op rfl rfl rfl (st_pure pure_move rfl rfl rfl ?_)
        refine RN_op rfl rfl rfl (st_pure (pure_add64 (by omega)) rfl rfl rfl ?_)
        refine RN_op rfl rfl rfl (st_pure pure_assign rfl rfl rfl ?_)
        refine RN_end ?_
        refine WQ_keep [(8, _), (7, _), (0, _), (5, _), (6, _)] ⟨rfl, rfl, rfl, rfl, rfl, trivial⟩ ?_
        refine WQ_hand ((k + 1, v')) (⟨by omega, fun j hj => by rcases Nat.lt_or_ge j k with h | h; exact hall j h; have := (show j = k by omega); subst this; exact hlt⟩) (by (try dsimp only); omega) (AllIn.sub ⟨rfl, rfl, rfl, rfl, congrArg (fun z : Int => some (Value.int .i64 z)) (by push_cast; rw [Int.add_mul, Int.one_mul]), trivial⟩) (EntP.ent (by repeat' first | exact EntP.nil | refine EntP.same ?_ | refine EntP.drop ?_ | refine EntP.nilRow ?_))
    · refine W_exit rfl ?_
      refine WQ_thenX rfl ?_
      refine WQ_thenX rfl ?_
      refine WQ_hit ?_
      refine WQ_then ?_
      refine W_seq rfl ?_
      have hge : 4096 ≤ k * d := by omega
      have hlen := elems_mulM d k hd0 hall
      have hhas := mulM_has d k hd0 x hge hall
      refine W_reg (m := 7) rfl rfl ?_
      refine RN_op rfl rfl rfl (st_pure pure_move rfl rfl rfl ?_)
      refine RN_op rfl rfl rfl (st_pure pure_geq rfl rfl rfl ?_)
      refine RN_op rfl rfl rfl (st_pure pure_move rfl rfl rfl ?_)
      refine' RN_and 2 2 [(0, _), (5, _), (6, _), (7, _)] rfl rfl rfl rfl rfl rfl rfl rfl rfl rfl rfl rfl rfl ⟨rfl, rfl, rfl, rfl, trivial⟩ (wanted_none rfl) (fun hg5 => ?_) ?_
      rotate_left 2
      · refine RN_gT rfl rfl rfl rfl rfl rfl (st_pure pure_move rfl rfl rfl ?_)
        refine RN_gT rfl rfl rfl rfl rfl rfl (st_pure pure_lss rfl rfl rfl ?_)
        exact RN_end (cut_end (AllIn.sub ⟨rfl, rfl, rfl, rfl, rfl, rfl, trivial⟩) (Ent.refl _))
      refine RN_op rfl rfl rfl (st_pure pure_assign rfl rfl rfl ?_)
      refine RN_end ?_
      refine WQ_keep [(9, _), (0, _), (5, _), (6, _), (7, _)] ⟨rfl, rfl, rfl, rfl, rfl, trivial⟩ ?_
      refine WQ_then ?_
      refine W_seq rfl ?_
      refine W_reg (m := 8) rfl rfl ?_
      refine RN_op rfl rfl rfl (st_pure pure_move rfl rfl rfl ?_)
      refine RN_op rfl rfl rfl (st_pure pure_move rfl rfl rfl ?_)
      refine' RN_and 1 4 [(9, _), (0, _), (5, _), (7, _)] rfl rfl rfl rfl rfl rfl rfl rfl rfl rfl rfl rfl rfl ⟨rfl, rfl, rfl, rfl, trivial⟩ (wanted_none rfl) (fun hg6 => ?_) ?_
      rotate_left 2
      · refine RN_gT rfl rfl rfl rfl rfl rfl (st_pure pure_move rfl rfl rfl ?_)
        refine RN_gT rfl rfl rfl rfl rfl rfl (st_pure pure_move rfl rfl rfl ?_)
        refine RN_gT rfl rfl rfl rfl rfl rfl (st_pure (pure_remP (by omega) (by omega)) rfl rfl rfl ?_)
        refine RN_gT rfl rfl rfl rfl rfl rfl (st_pure pure_eql rfl rfl rfl ?_)
        exact RN_end (cut_end (AllIn.sub ⟨rfl, rfl, rfl, rfl, rfl, rfl, trivial⟩) (Ent.refl _))
      refine RN_op rfl rfl rfl (st_pure pure_assign rfl rfl rfl ?_)
      refine RN_end ?_
      refine WQ_keep [(10, _), (9, _), (0, _), (5, _), (7, _)] ⟨rfl, rfl, rfl, rfl, rfl, trivial⟩ ?_
      refine WQ_then ?_
      refine W_seq rfl ?_
      obtain ⟨q3, q9, q19, q25, q29, q33, q37⟩ := many_facts d k x hd0 hlen hhas (by rw [mulM_has d k hd0 4096 hge hall]; simp)
      refine W_draw (m := 48) [(0, Spec.ldN 4 1), (1, Spec.ct [2] [] (.func (.func 25) #[] #[]) [.agg [v].toArray] [.hp (SetV v (mulM d k))] [] (X := Unit) () (fun _ => .int .i64 ((elems (mulM d k)).length : Nat)) (fun _ => [])), (5, Spec.ldN 4 1), (7, Spec.ct [2] [] (.func (.func 26) #[] #[]) [.agg [v].toArray, .int .i64 x] [.hp (SetV v (mulM d k))] [] (X := Unit) () (fun _ => .bool (hasM (mulM d k) x)) (fun _ => [])), (13, Spec.ct [] [4, 2] (.func (.func 11) #[] #[]) [.pointer (some ⟨g4, 0, none⟩), .int .i64 x] [] [SB g4 v, .hp (SetV v (mulM d k))] (X := Value) (.slice none 0 0) (fun _ => .bool (decide (canPut (mulM d k) x = true))) (fun v' => [SB g4 v', .hp (SetV v' (putM (mulM d k) x))])), (23, Spec.ctE [] [4, 2] (.func (.func 27) #[] #[]) ysv (fun _ => [.pointer (some ⟨g4, 0, none⟩), .int .i64 (x)]) (fun _ => []) (fun v => [SB g4 v, .hp (SetV v (putM (mulM d k) x))]) (X := Value) (.slice none 0 0) (fun _ _ => .bool (decide (hasM (putM (mulM d k) x) (x) = true))) (fun _ v' => [SB g4 v', .hp (SetV v' (cutM (putM (mulM d k) x) x))])), (28, Spec.ctE [] [4, 2] (.func (.func 11) #[] #[]) ysv (fun _ => [.pointer (some ⟨g4, 0, none⟩), .int .i64 (-1)]) (fun _ => []) (fun v => [SB g4 v, .hp (SetV v (cutM (putM (mulM d k) x) x))]) (X := Value) (.slice none 0 0) (fun _ _ => .bool (decide (canPut (cutM (putM (mulM d k) x) x) (-1) = true))) (fun _ v' => [SB g4 v', .hp (SetV v' (putM (cutM (putM (mulM d k) x) x) (-1)))])), (32, Spec.ctE [] [4, 2] (.func (.func 11) #[] #[]) ysv (fun _ => [.pointer (some ⟨g4, 0, none⟩), .int .i64 (4096)]) (fun _ => []) (fun v => [SB g4 v, .hp (SetV v (putM (cutM (putM (mulM d k) x) x) (-1)))]) (X := Value) (.slice none 0 0) (fun _ _ => .bool (decide (canPut (putM (cutM (putM (mulM d k) x) x) (-1)) (4096) = true))) (fun _ v' => [SB g4 v', .hp (SetV v' (putM (putM (cutM (putM (mulM d k) x) x) (-1)) 4096))])), (36, Spec.ctE [] [4, 2] (.func (.func 27) #[] #[]) ysv (fun _ => [.pointer (some ⟨g4, 0, none⟩), .int .i64 (4096)]) (fun _ => []) (fun v => [SB g4 v, .hp (SetV v (putM (putM (cutM (putM (mulM d k) x) x) (-1)) 4096))]) (X := Value) (.slice none 0 0) (fun _ _ => .bool (decide (hasM (putM (putM (cutM (putM (mulM d k) x) x) (-1)) 4096) (4096) = true))) (fun _ v' => [SB g4 v', .hp (SetV v' (cutM (putM (putM (cutM (putM (mulM d k) x) x) (-1)) 4096) 4096))])), (40, Spec.ldN 4 1), (41, Spec.ctE [2, 0] [3] (.func (.func 15) #[] #[]) yva (fun v => [.agg [v].toArray]) (fun v => [.hp (SetV v (cutM (putM (putM (cutM (putM (mulM d k) x) x) (-1)) 4096) 4096)), .old W0]) (fun _ => [.emp]) (X := RowV (elems (cutM (putM (putM (cutM (putM (mulM d k) x) x) (-1)) 4096) 4096)).length) (RowV.nil _ (elems_max (cutM (putM (putM (cutM (putM (mulM d k) x) x) (-1)) 4096) 4096))) (fun _ r => r.1) (fun _ r => [.hp (RowH 3 1 r.1 (elems (cutM (putM (putM (cutM (putM (mulM d k) x) x) (-1)) 4096) 4096)).length (i64s (allI (cutM (putM (putM (cutM (putM (mulM d k) x) x) (-1)) 4096) 4096))))])), (43, Spec.ldN 4 1), (44, Spec.ctE [2] [] (.func (.func 25) #[] #[]) yva (fun v => [.agg [v].toArray]) (fun v => [.hp (SetV v (cutM (putM (putM (cutM (putM (mulM d k) x) x) (-1)) 4096) 4096))]) (fun _ => []) (X := Unit) () (fun _ _ => .int .i64 ((elems (cutM (putM (putM (cutM (putM (mulM d k) x) x) (-1)) 4096) 4096)).length : Nat)) (fun _ _ => []))] #[0, 1, 0, 7, 15, 31, 31, 127, 31, 511, 1023, 2047, 4095, 8191, 4095, 32767, 65535, 131071, 262143, 524287, 1048575, 2097151, 4194303, 8388607, 4194303, 33554431, 67108863, 134217727, 268435455, 536870911, 1073741823, 2147483647, 4294967295, 8589934591, 17179869183, 34359738367, 68719476735, 137438953471, 274877906943, 549755813887, 1099511627775, 2199023255551, 4398046511103, 1099511627775, 13194139533311, 35184372088831, 70368744177663, 140737488355327] rfl rfl mixed (by kernel_rfl) (by kernel_rfl) ?_
      refine RG_op rfl rfl rfl rfl (st_ldN 4 rfl Tryd.underlying28 rfl sz28 rfl rfl cells_blk rfl rfl ?_)
      refine RG_op rfl rfl rfl rfl (s_ct (R := [2]) (W := []) (x0 := ()) (ct_lenV (mulM d k) v) fnF25 rfl rfl rfl rfl (by decide) rfl (fun _ => rfl) rfl rfl fun _ => ?_)
      refine RG_op rfl rfl rfl rfl (st_pure pure_move rfl rfl rfl ?_)
      refine RG_op rfl rfl rfl rfl (st_pure (pure_to pure_eql (congrArg Value.bool (decide_eq_true q3))) rfl rfl rfl ?_)
      refine RG_op rfl rfl rfl rfl (st_pure pure_move rfl rfl rfl ?_)
      refine RG_gT rfl rfl rfl rfl rfl rfl rfl (st_ldN 4 rfl Tryd.underlying28 rfl sz28 rfl rfl cells_blk rfl rfl ?_)
      refine RG_gT rfl rfl rfl rfl rfl rfl rfl (st_pure pure_move rfl rfl rfl ?_)
      refine RG_gT rfl rfl rfl rfl rfl rfl rfl (s_ct (R := [2]) (W := []) (x0 := ()) (ct_hasV (mulM d k) x hx1 v) fnF26 rfl rfl rfl rfl (by decide) rfl (fun _ => rfl) rfl rfl fun _ => ?_)
      refine RG_gT rfl rfl rfl rfl rfl rfl rfl (st_pure pure_move rfl rfl rfl ?_)
      refine RG_gT rfl rfl rfl rfl rfl rfl rfl (st_pure (pure_to (pure_eqlBD Tryd.underlying4) (congrArg Value.bool (decide_eq_true q9))) rfl rfl rfl ?_)
      refine RG_pickT rfl rfl rfl rfl (wanted_none rfl) rfl rfl rfl ?_
      refine RG_op rfl rfl rfl rfl (st_pure pure_move rfl rfl rfl ?_)
      refine RG_gT rfl rfl rfl rfl rfl rfl rfl (st_pure pure_move rfl rfl rfl ?_)
      refine RG_gT rfl rfl rfl rfl rfl rfl rfl (s_ct (R := []) (W := [4, 2]) (x0 := .slice none 0 0) (ct_putV g4 (mulM d k) x hx1 v) fnF11 rfl rfl rfl rfl (by decide) rfl (fun _ => rfl) rfl rfl fun v1 => ?_)
      refine RG_gT rfl rfl rfl rfl rfl rfl rfl (st_pure pure_move rfl rfl rfl ?_)
      refine RG_gT rfl rfl rfl rfl rfl rfl rfl (st_pure pure_move rfl rfl rfl ?_)
      refine' RG_and 15 2 [(53, _), (51, _), (9, _), (0, _), (5, _)] rfl rfl rfl rfl rfl rfl rfl rfl rfl rfl rfl rfl rfl ⟨rfl, rfl, rfl, rfl, rfl, trivial⟩ (wanted_some rfl rfl rfl rfl) (fun hg18 => ?_) ?_ rfl
      rotate_left 2
      · refine RG_gT rfl rfl rfl rfl rfl rfl rfl (st_pure pure_move rfl rfl rfl ?_)
        refine RG_gT rfl rfl rfl rfl rfl rfl rfl (st_pure pure_notD rfl rfl rfl ?_)
        exact cutF_end (AllIn.sub ⟨rfl, rfl, rfl, rfl, rfl, rfl, rfl, trivial⟩)
      refine RG_gT rfl rfl rfl rfl rfl rfl rfl (st_pure (pure_to (pure_eqlBD Tryd.underlying4) (congrArg Value.bool (decide_eq_true q19))) rfl rfl rfl ?_)
      refine RG_pickT rfl rfl rfl rfl (wanted_none rfl) rfl rfl rfl ?_
      refine RG_op rfl rfl rfl rfl (st_pure pure_move rfl rfl rfl ?_)
      refine RG_gT rfl rfl rfl rfl rfl rfl rfl (st_pure pure_move rfl rfl rfl ?_)
      refine RG_gT rfl rfl rfl rfl rfl rfl rfl (s_ctE (R := []) (W := [4, 2]) (x0 := .slice none 0 0) (v1) (fun v => ct_cutV g4 (putM (mulM d k) x) x hx1 v) fnF27 rfl rfl rfl rfl rfl rfl (by decide) (fun _ => rfl) (fun _ _ => rfl) rfl rfl fun v2 => ?_)
      refine RG_gT rfl rfl rfl rfl rfl rfl rfl (st_pure pure_move rfl rfl rfl ?_)
      refine RG_gT rfl rfl rfl rfl rfl rfl rfl (st_pure (pure_to (pure_eqlBD Tryd.underlying4) (congrArg Value.bool (decide_eq_true q25))) rfl rfl rfl ?_)
      refine RG_pickT rfl rfl rfl rfl (wanted_none rfl) rfl rfl rfl ?_
      refine RG_op rfl rfl rfl rfl (st_pure pure_move rfl rfl rfl ?_)
      refine RG_gT rfl rfl rfl rfl rfl rfl rfl (s_ctE (R := []) (W := [4, 2]) (x0 := .slice none 0 0) (v2) (fun v => ct_putV g4 (cutM (putM (mulM d k) x) x) (-1) (by decide) v) fnF11 rfl rfl rfl rfl rfl rfl (by decide) (fun _ => rfl) (fun _ _ => rfl) rfl rfl fun v3 => ?_)
      refine RG_gT rfl rfl rfl rfl rfl rfl rfl (st_pure (pure_to pure_notD (congrArg Value.bool (decide_eq_true q29))) rfl rfl rfl ?_)
      refine RG_pickT rfl rfl rfl rfl (wanted_none rfl) rfl rfl rfl ?_
      refine RG_op rfl rfl rfl rfl (st_pure pure_move rfl rfl rfl ?_)
      refine RG_gT rfl rfl rfl rfl rfl rfl rfl (s_ctE (R := []) (W := [4, 2]) (x0 := .slice none 0 0) (v3) (fun v => ct_putV g4 (putM (cutM (putM (mulM d k) x) x) (-1)) 4096 (by decide) v) fnF11 rfl rfl rfl rfl rfl rfl (by decide) (fun _ => rfl) (fun _ _ => rfl) rfl rfl fun v4 => ?_)
      refine RG_gT rfl rfl rfl rfl rfl rfl rfl (st_pure (pure_to pure_notD (congrArg Value.bool (decide_eq_true q33))) rfl rfl rfl ?_)
      refine RG_pickT rfl rfl rfl rfl (wanted_none rfl) rfl rfl rfl ?_
      refine RG_op rfl rfl rfl rfl (st_pure pure_move rfl rfl rfl ?_)
      refine RG_gT rfl rfl rfl rfl rfl rfl rfl (s_ctE (R := []) (W := [4, 2]) (x0 := .slice none 0 0) (v4) (fun v => ct_cutV g4 (putM (putM (cutM (putM (mulM d k) x) x) (-1)) 4096) 4096 (by decide) v) fnF27 rfl rfl rfl rfl rfl rfl (by decide) (fun _ => rfl) (fun _ _ => rfl) rfl rfl fun v5 => ?_)
      refine RG_gT rfl rfl rfl rfl rfl rfl rfl (st_pure (pure_to pure_notD (congrArg Value.bool (decide_eq_true q37))) rfl rfl rfl ?_)
      refine RG_pickT rfl rfl rfl rfl (wanted_none rfl) rfl rfl rfl ?_
      refine RG_op rfl rfl rfl rfl (st_pure pure_move rfl rfl rfl ?_)
      refine RG_gT rfl rfl rfl rfl rfl rfl rfl (st_ldN 4 rfl Tryd.underlying28 rfl sz28 rfl rfl cells_blk rfl rfl ?_)
      refine RG_gT rfl rfl rfl rfl rfl rfl rfl (s_ctE (R := [2, 0]) (W := [3]) (x0 := RowV.nil _ (elems_max (cutM (putM (putM (cutM (putM (mulM d k) x) x) (-1)) 4096) 4096))) (v5) (fun v => ct_allV W0 hT (cutM (putM (putM (cutM (putM (mulM d k) x) x) (-1)) 4096) 4096) v) fnF15 rfl rfl rfl rfl rfl rfl (by decide) (fun _ => rfl) (fun _ _ => rfl) rfl rfl fun rv => ?_)
      refine RG_gT rfl rfl rfl rfl rfl rfl rfl (st_pure (pure_lenR Tryd.underlying46 rv.2) rfl rfl rfl ?_)
      refine RG_gT rfl rfl rfl rfl rfl rfl rfl (st_ldN 4 rfl Tryd.underlying28 rfl sz28 rfl rfl cells_blk rfl rfl ?_)
      refine RG_gT rfl rfl rfl rfl rfl rfl rfl (s_ctE (R := [2]) (W := []) (x0 := ()) (v5) (fun v => ct_lenV (cutM (putM (putM (cutM (putM (mulM d k) x) x) (-1)) 4096) 4096) v) fnF25 rfl rfl rfl rfl rfl rfl (by decide) (fun _ => rfl) (fun _ _ => rfl) rfl rfl fun _ => ?_)
      refine RG_gT rfl rfl rfl rfl rfl rfl rfl (st_pure (pure_to pure_eql (congrArg Value.bool (decide_eq_true rfl))) rfl rfl rfl ?_)
      refine RG_pickT rfl rfl rfl rfl (wanted_none rfl) rfl rfl rfl ?_
      refine RG_op rfl rfl rfl rfl (st_pure pure_assign rfl rfl rfl ?_)
      refine RG_end ?_
      refine WQ_keep [(4, _)] ⟨rfl, trivial⟩ ?_
      refine WQ_then ?_
      refine W_ret rfl ?_
      refine WQ_ret (vs := [_]) (by rw [Tryd.results6]; rfl) fun w' hs' he' => ?_
      exact ⟨(), rfl, hs'.pick [0, 1] (by decide), he'⟩
end Go.Proofs.YtompmejidaddoaaDoor
