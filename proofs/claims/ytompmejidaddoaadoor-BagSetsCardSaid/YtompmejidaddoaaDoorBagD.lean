/- A set of some numbers, and which these are. -/
import Derived.Test.YtompmejidaddoaaDoorBagC
import Derived.Test.YtompmejidaddoaaDoorEngQ
set_option linter.unusedVariables false
set_option linter.unusedSimpArgs false
namespace Go.Proofs.YtompmejidaddoaaDoor
open Go Go.RowKit

def u64 (x : Int) : Nat := (x % 18446744073709551616).toNat
theorem u64_wrap (x : Int) : IntKind.u64.wrap x = ((u64 x : Nat) : Int) := by
  simp [IntKind.wrap, IntKind.bits, IntKind.signed, u64]; omega
/-- One of few numbers, or as it comes. -/
def nearI (raw : Bool) (x : Int) : Int := if raw = true then x else ((u64 x % 130 : Nat) : Int)
theorem tmod_nat (a b : Nat) : ((a : Int)).tmod (b : Int) = ((a % b : Nat) : Int) := by
  rw [Int.tmod_eq_emod_of_nonneg (by omega)]; simp
theorem ct_near (x : Int) (raw : Bool) : Ct Tryd.prog 34 [.int .i64 x, .bool raw] [] [] (X := Unit) (fun _ => .int .i64 (nearI raw x)) (fun _ => []) := by
  refine ct_of fun w l hs => ?_
  refine enter (c := bodyOf Tryd.f34) Tryd.func34 rfl Tryd.ntmps34 rfl (L := [.hp (HP.sep l)]) hs ?_
  refine W_seq rfl ?_
  refine W_reg (m := 1) rfl rfl ?_
  refine RN_op rfl rfl rfl (st_pure pure_assign rfl rfl rfl ?_)
  refine RN_end ?_
  refine WQ_keep [(0, _), (1, _)] ⟨rfl, rfl, trivial⟩ ?_
  refine WQ_then ?_
  refine W_seq rfl ?_
  refine W_seq rfl ?_
  refine W_reg (m := 1) rfl rfl ?_
  refine RN_op rfl rfl rfl (st_pure pure_move rfl rfl rfl ?_)
  refine RN_end ?_
  refine WQ_keep [(5, _), (0, _)] ⟨rfl, rfl, trivial⟩ ?_
  refine WQ_then ?_
  refine W_condB rfl rfl (fun hc1 => ?_) (fun hc1 => ?_)
  · refine W_seq rfl ?_
    refine W_reg (m := 2) rfl rfl ?_
    refine RN_op rfl rfl rfl (st_pure pure_move rfl rfl rfl ?_)
    refine RN_op rfl rfl rfl (st_pure pure_assign rfl rfl rfl ?_)
    refine RN_end ?_
    refine WQ_keep [(4, _)] ⟨rfl, trivial⟩ ?_
    refine WQ_then ?_
    refine W_ret rfl ?_
    refine WQ_thenX rfl ?_
    refine WQ_ret (vs := [_]) (by rw [Tryd.results34]; rfl) fun w' hs' he' => ?_
    exact ⟨(), by rw [nearI, if_pos hc1]; rfl, hs', he'⟩
  · refine W_skip rfl ?_
    refine WQ_then ?_
    refine W_seq rfl ?_
    refine W_reg (m := 5) rfl rfl ?_
    refine RN_op rfl rfl rfl (st_pure pure_move rfl rfl rfl ?_)
    refine RN_op rfl rfl rfl (st_pure (pure_convN (r := ((u64 x : Nat) : Int)) Tryd.underlying3 Tryd.underlying99 (u64_wrap _)) rfl rfl rfl ?_)
    refine RN_op rfl rfl rfl (st_pure (pure_remN (r := ((u64 x % 130 : Nat) : Int)) (by decide) (tmod_nat _ 130)) rfl rfl rfl ?_)
    refine RN_op rfl rfl rfl (st_pure (pure_conv64 Tryd.underlying99 Tryd.underlying3 (by omega)) rfl rfl rfl ?_)
    refine RN_op rfl rfl rfl (st_pure pure_assign rfl rfl rfl ?_)
    refine RN_end ?_
    refine WQ_keep [(4, _)] ⟨rfl, trivial⟩ ?_
    refine WQ_then ?_
    refine W_ret rfl ?_
    refine WQ_ret (vs := [_]) (by rw [Tryd.results34]; rfl) fun w' hs' he' => ?_
    exact ⟨(), by rw [nearI, if_neg (by rw [hc1]; decide)]; rfl, hs', he'⟩
theorem setV_one {w : World} {L : List Chunk} {u : Value} {M : Nat → Bool} (j : Nat) (hs : SatC w L) (hk : L[j]? = some (.hp (SetV u M))) : One u := by
  obtain ⟨ws, _, h1⟩ := SetV_iff.1 (show Sat w (SetV u M :: _) from hs.takeC j hk)
  exact (isRow_own h1.row).one
theorem nth_get (xs : List Int) (j : Nat) (h : j < xs.length) : (i64s xs)[j * 1]? = some (.int .i64 (nth xs j)) := by
  rw [Nat.mul_one]; exact i64s_nth xs j h
set_option maxRecDepth 100000 in
set_option maxHeartbeats 1000000 in
theorem ct_Of (c : Chunk) (v : Value) (xs : List Int) (hR : Rds c v xs.length 1 (i64s xs)) (hx : ∀ j, nth xs j ≤ 9223372036854775807) : Ct Tryd.prog 37 [v] [c] [.emp] (X := Value) (fun x => .agg [x].toArray) (fun x => [.hp (SetV x (ofM xs))]) := by
  refine ct_of fun w l hs => ?_
  have hr := hR.row
  have hm := hr.max
  simp only [maxLen] at hm
  refine enter (c := bodyOf Tryd.f37) Tryd.func37 rfl Tryd.ntmps37 rfl (L := [c, .emp, .hp (HP.sep l), .emp, .emp]) (SatC.pad hs 2) ?_
  refine W_seq rfl ?_
  refine W_reg (m := 1) rfl rfl ?_
  refine RN_op rfl rfl rfl (s_al 3 (alloc_new zr28) rfl rfl rfl fun g3 => ?_)
  refine RN_end ?_
  refine WQ_keep [(2, _), (0, _)] ⟨rfl, rfl, trivial⟩ ?_
  refine WQ_then ?_
  refine W_seq rfl ?_
  refine W_reg (m := 1) rfl rfl ?_
  refine RN_op rfl rfl rfl (s_al 4 (alloc_new zr28) rfl rfl rfl fun g4 => ?_)
  refine RN_end ?_
  refine WQ_keep [(3, _), (2, _), (0, _)] ⟨rfl, rfl, rfl, trivial⟩ ?_
  refine WQ_then ?_
  refine W_seq rfl ?_
  refine W_seq rfl ?_
  refine W_reg (m := 3) rfl rfl ?_
  refine RN_op rfl rfl rfl (st_pure pure_move rfl rfl rfl ?_)
  refine RN_op rfl rfl rfl (st_pure (pure_lenR Tryd.underlying46 (by assumption)) rfl rfl rfl ?_)
  refine RN_op rfl rfl rfl (st_pure pure_move rfl rfl rfl ?_)
  refine RN_end ?_
  refine WQ_keep [(8, _), (7, _), (6, _), (3, _), (2, _)] ⟨rfl, rfl, rfl, rfl, rfl, trivial⟩ ?_
  refine WQ_then ?_
  refine W_block rfl ?_
  refine W_sat (L' := [c, .hp (SetV (.slice none 0 0) (ofTo xs 0)), .hp (HP.sep l), .blk g3 (.cells [.slice none 0 0].toArray 28 (0, 0)), SB g4 (.slice none 0 0)]) (fun w hs _ => ?_) ?_
  · exact (setV_nil (hs.pick [0, 2, 3, 4] (by decide))).pick [1, 0, 2, 3, 4] (by decide)
  refine W_loop (σ := Nat × Value) (fun ⟨i, u⟩ => xs.length - i) (fun ⟨i, u⟩ => [(2, .pointer (some ⟨g3, 0, none⟩)), (3, .pointer (some ⟨g4, 0, none⟩)), (6, v), (7, .int .i64 ((xs.length : Nat) : Int)), (8, .int .i64 ((i : Nat) : Int))]) (fun ⟨i, u⟩ => [c, .hp (SetV u (ofTo xs i)), .hp (HP.sep l), .blk g3 (.cells [.slice none 0 0].toArray 28 (0, 0)), SB g4 u]) (fun ⟨i, u⟩ => i ≤ xs.length) ((0, .slice none 0 0)) rfl ((Nat.zero_le _)) (AllIn.sub ⟨rfl, rfl, rfl, rfl, rfl, trivial⟩) (EntP.ent (by repeat' first | exact EntP.nil | refine EntP.same ?_ | refine EntP.drop ?_ | refine EntP.nilRow ?_)) ?_
  rintro ⟨i, u⟩ hI
  refine W_as [(2, .pointer (some ⟨g3, 0, none⟩)), (3, .pointer (some ⟨g4, 0, none⟩)), (6, v), (7, .int .i64 ((xs.length : Nat) : Int)), (8, .int .i64 ((i : Nat) : Int))] [c, .hp (SetV u (ofTo xs i)), .hp (HP.sep l), .blk g3 (.cells [.slice none 0 0].toArray 28 (0, 0)), SB g4 u] ⟨rfl, rfl, rfl, rfl, rfl, trivial⟩ (EntP.refl _) ?_
  refine W_know (fun w hs _ => setV_one 1 hs rfl) fun hu1 => ?_
  refine W_seq rfl ?_
  refine W_reg (m := 1) rfl rfl ?_
  refine RN_op rfl rfl rfl (st_pure pure_lss rfl rfl rfl ?_)
  refine RN_end ?_
  refine WQ_keep [(9, _), (2, _), (3, _), (6, _), (7, _), (8, _)] ⟨rfl, rfl, rfl, rfl, rfl, rfl, trivial⟩ ?_
  refine WQ_then ?_
  refine W_seq rfl ?_
  refine W_cond rfl rfl (fun hc1 => ?_) (fun hc1 => ?_)
  · refine W_skip rfl ?_
    refine WQ_then ?_
    refine W_seq rfl ?_
    refine W_block rfl ?_
    refine W_seq rfl ?_
    refine W_reg (m := 3) rfl rfl ?_
    refine RN_op rfl rfl rfl (st_pure (pure_indexR Tryd.underlying46 sz3 (by assumption) (by omega)) rfl rfl rfl ?_)
    refine RN_op rfl rfl rfl (st_ld 0 rfl Tryd.underlying3 rfl rfl rfl (hR.cell (nth_get xs i (by omega))) rfl rfl ?_)
    refine RN_op rfl rfl rfl (st_pure pure_assign rfl rfl rfl ?_)
    refine RN_end ?_
    refine WQ_keep [(5, _), (2, _), (3, _), (6, _), (7, _), (8, _)] ⟨rfl, rfl, rfl, rfl, rfl, rfl, trivial⟩ ?_
    refine WQ_then ?_
    refine W_reg (m := 2) rfl rfl ?_
    refine RN_op rfl rfl rfl (st_pure pure_move rfl rfl rfl ?_)
    refine RN_op rfl rfl rfl (s_ct (R := []) (W := [4, 1]) (x0 := .slice none 0 0) (ct_putV g4 (ofTo xs i) (nth xs i) (hx i) u) fnF11 rfl rfl rfl rfl (by decide) rfl (fun _ => rfl) rfl rfl fun u' => ?_)
    rw [ofTo_succ xs i (by omega)]
    refine RN_end ?_
    refine WQ_keep [(2, _), (3, _), (6, _), (7, _), (8, _)] ⟨rfl, rfl, rfl, rfl, rfl, trivial⟩ ?_
    refine WQ_inB ?_
    refine WQ_then ?_
    refine W_reg (m := 2) rfl rfl ?_
    refine RN_op rfl rfl rfl (st_pure (pure_add64 (by omega)) rfl rfl rfl ?_)
    refine RN_op rfl rfl rfl (st_pure pure_move rfl rfl rfl ?_)
    refine RN_end ?_
    refine WQ_keep [(8, _), (2, _), (3, _), (6, _), (7, _)] ⟨rfl, rfl, rfl, rfl, rfl, trivial⟩ ?_
    refine WQ_hand ((i + 1, u')) (by (try dsimp only); omega) (by (try dsimp only); omega) (AllIn.sub ⟨rfl, rfl, rfl, rfl, rfl, trivial⟩) (EntP.ent (by repeat' first | exact EntP.nil | refine EntP.same ?_ | refine EntP.drop ?_ | refine EntP.nilRow ?_))
  · refine W_exit rfl ?_
    refine WQ_thenX rfl ?_
    refine WQ_thenX rfl ?_
    refine WQ_hit ?_
    refine WQ_then ?_
    refine W_seq rfl ?_
    refine W_reg (m := 2) rfl rfl ?_
    refine RN_op rfl rfl rfl (st_ldN 4 rfl Tryd.underlying28 rfl sz28 rfl rfl cells_blk rfl rfl ?_)
    refine RN_op rfl rfl rfl (s_st 3 rfl sz28 rfl rfl rfl rfl puts_agg rfl ?_)
    refine RN_end ?_
    refine WQ_keep [(2, _)] ⟨rfl, trivial⟩ ?_
    refine WQ_then ?_
    refine W_ret rfl ?_
    refine WQ_retC (j := 3) Tryd.results37 rfl Tryd.underlying28 rfl sz28 rfl cells_blk rfl fun w' hs' he' => ?_
    rw [ofTo_all xs i (by omega)] at hs'
    exact ⟨u, rfl, hs'.pick [0, 1, 2] (by decide), he'⟩

/-- What is in the other set: the first 51, each as it comes or near. -/
def otT (raw : Bool) (xs : List Int) (i : Nat) : List Int := (xs.take i).map (nearI raw)
def othL (raw : Bool) (xs : List Int) : List Int := otT raw xs 51
theorem otT_len (raw : Bool) (xs : List Int) (i : Nat) (h : i ≤ xs.length) : (otT raw xs i).length = i := by simp [otT]; omega
theorem otT_succ (raw : Bool) (xs : List Int) (i : Nat) (h : i < xs.length) : otT raw xs i ++ [nearI raw (nth xs i)] = otT raw xs (i + 1) := by
  rw [otT, otT, List.take_succ_eq_append_getElem h, List.map_append]
  simp [nth, h]
theorem otT_all (raw : Bool) (xs : List Int) (i : Nat) (h : i ≤ xs.length) (h2 : i ≤ 51) (h3 : i = 51 ∨ xs.length ≤ i) : otT raw xs i = othL raw xs := by
  unfold othL otT
  rcases h3 with rfl | h3
  · rfl
  · rw [List.take_of_length_le h3, List.take_of_length_le (by omega)]
theorem ofM_snoc (xs : List Int) (x : Int) : ofM (xs ++ [x]) = putM (ofM xs) x := by simp [ofM, List.foldl_append]
theorem upM_put (M : Nat → Bool) (x : Int) (h : 0 ≤ x ∧ x < 4096) : upM M x.toNat true = putM M x := by
  funext i
  rw [putM, if_pos h]
  simp only [upM]
  by_cases e : i = x.toNat
  · simp [e]
  · simp [e]
theorem near_le (raw : Bool) (x : Int) (h : x ≤ 9223372036854775807) : nearI raw x ≤ 9223372036854775807 := by
  unfold nearI; split <;> omega
theorem nth_le {xs : List Int} (h : ∀ j, nth xs j ≤ 9223372036854775807) (raw : Bool) (i : Nat) : ∀ j, nth (otT raw xs i) j ≤ 9223372036854775807 := by
  intro j
  unfold nth otT
  by_cases hj : j < ((xs.take i).map (nearI raw)).length
  · have hj2 : j < xs.length := by simp at hj; omega
    have := h j
    simp only [nth, List.getD, List.getElem?_eq_getElem hj2, Option.getD_some] at this
    simp only [List.getD, List.getElem?_eq_getElem hj, Option.getD_some, List.getElem_map, List.getElem_take]
    exact near_le raw _ this
  · have e : ((xs.take i).map (nearI raw))[j]? = none := List.getElem?_eq_none (Nat.le_of_not_lt hj)
    rw [List.getD, e]
    decide
abbrev ArC (g : Nat) (M : Nat → Bool) : Chunk := .blk g (.cells (arrB M).toArray 78 (0, 0))
abbrev acV (k x : Int) (vl : Value) (raw : Bool) : Value := .agg [.int .u8 k, .int .i64 x, vl, .bool raw].toArray
theorem zr_model : zeroIs Tryd.prog 78 (.agg (List.replicate 4096 (Value.bool false)).toArray) 4096 := by unfold zeroIs; kernel_rfl
theorem i64s_snoc (xs : List Int) (x : Int) : i64s xs ++ [.int .i64 x] = i64s (xs ++ [x]) := by simp [i64s]
set_option maxRecDepth 100000 in
set_option maxHeartbeats 1000000 in
theorem ct_other (c : Chunk) (k x : Int) (vl : Value) (raw : Bool) (xs : List Int) (hR : Rds c vl xs.length 1 (i64s xs)) (hx : ∀ j, nth xs j ≤ 9223372036854775807) : Ct Tryd.prog 28 [acV k x vl raw] [c] [.emp, .emp] (X := Value × Nat) (fun y => .tuple #[.agg [y.1].toArray, .pointer (some ⟨y.2, 0, none⟩)]) (fun y => [.hp (SetV y.1 (ofM (othL raw xs))), ArC y.2 (ofM (othL raw xs))]) := by
  refine ct_of fun w lf hs => ?_
  have hr := hR.row
  haveI := hr.one
  have hm := hr.max
  simp only [maxLen] at hm
  refine enter (c := bodyOf Tryd.f28) Tryd.func28 rfl Tryd.ntmps28 rfl (L := [c, .emp, .emp, .hp (HP.sep lf), .emp, .emp, .emp, .emp, .emp]) (SatC.pad (SatC.pad hs 1) 4) ?_
  refine W_seq rfl ?_
  refine W_reg (m := 3) rfl rfl ?_
  refine RN_op rfl rfl rfl (s_al 5 alloc_boxA rfl rfl rfl fun g5 => ?_)
  refine RN_op rfl rfl rfl (s_al 6 (alloc_new zr28) rfl rfl rfl fun g6 => ?_)
  refine RN_op rfl rfl rfl (st_pure pure_assign rfl rfl rfl ?_)
  refine RN_end ?_
  refine WQ_keep [(2, _), (1, _)] ⟨rfl, rfl, trivial⟩ ?_
  refine WQ_then ?_
  refine W_seq rfl ?_
  refine W_reg (m := 1) rfl rfl ?_
  refine RN_op rfl rfl rfl (st_pure pure_assign rfl rfl rfl ?_)
  refine RN_end ?_
  refine WQ_keep [(4, _), (2, _), (1, _)] ⟨rfl, rfl, rfl, trivial⟩ ?_
  refine WQ_then ?_
  refine W_seq rfl ?_
  refine W_reg (m := 3) rfl rfl ?_
  refine RN_op rfl rfl rfl (st_pure (pure_buildZ Tryd.underlying78 zr_model sz4) rfl rfl rfl ?_)
  refine RN_op rfl rfl rfl (s_al 7 alloc_boxA rfl rfl rfl fun g7 => ?_)
  refine RN_op rfl rfl rfl (st_pure pure_assign rfl rfl rfl ?_)
  refine RN_end ?_
  refine WQ_keep [(5, _), (4, _), (2, _), (1, _)] ⟨rfl, rfl, rfl, rfl, trivial⟩ ?_
  refine WQ_then ?_
  refine W_seq rfl ?_
  refine W_seq rfl ?_
  refine W_reg (m := 4) rfl rfl ?_
  refine RN_op rfl rfl rfl (st_pure (pure_field0 2 Tryd.underlying68 rfl rfl sz46) rfl rfl rfl ?_)
  refine RN_op rfl rfl rfl (st_ld 5 rfl Tryd.underlying46 rfl rfl rfl cell_blk rfl rfl ?_)
  refine RN_op rfl rfl rfl (st_pure (pure_lenR Tryd.underlying46 (by assumption)) rfl rfl rfl ?_)
  refine RN_op rfl rfl rfl (st_pure pure_move rfl rfl rfl ?_)
  refine RN_end ?_
  refine WQ_keep [(13, _), (12, _), (11, _), (5, _), (4, _), (2, _), (1, _)] ⟨rfl, rfl, rfl, rfl, rfl, rfl, rfl, trivial⟩ ?_
  refine WQ_then ?_
  refine W_block rfl ?_
  rw [arr_nil]
  refine W_loop (σ := Nat × Value) (fun ⟨i, vo⟩ => xs.length - i) (fun ⟨i, vo⟩ => [(1, .pointer (some ⟨g5, 0, none⟩)), (2, .pointer (some ⟨g6, 0, none⟩)), (4, vo), (5, .pointer (some ⟨g7, 0, none⟩)), (11, vl), (12, .int .i64 ((xs.length : Nat) : Int)), (13, .int .i64 ((i : Nat) : Int))]) (fun ⟨i, vo⟩ => [c, .emp, .emp, .hp (HP.sep lf), .row 3 1 vo i (i64s (otT raw xs i)), .blk g5 (.cells [.int .u8 k, .int .i64 x, vl, .bool raw].toArray 68 (0, 0)), .blk g6 (.cells [.slice none 0 0].toArray 28 (0, 0)), ArC g7 (ofM (otT raw xs i)), .emp]) (fun ⟨i, vo⟩ => i ≤ xs.length ∧ i ≤ 51 ∧ IsRow vo i) ((0, .slice none 0 0)) rfl (⟨Nat.zero_le _, Nat.zero_le _, .inl ⟨rfl, rfl⟩⟩) (AllIn.sub ⟨rfl, rfl, rfl, rfl, rfl, rfl, rfl, trivial⟩) (EntP.ent (by repeat' first | exact EntP.nil | refine EntP.same ?_ | refine EntP.drop ?_ | refine EntP.nilRow ?_)) ?_
  rintro ⟨i, vo⟩ hI
  refine W_as [(1, .pointer (some ⟨g5, 0, none⟩)), (2, .pointer (some ⟨g6, 0, none⟩)), (4, vo), (5, .pointer (some ⟨g7, 0, none⟩)), (11, vl), (12, .int .i64 ((xs.length : Nat) : Int)), (13, .int .i64 ((i : Nat) : Int))] [c, .emp, .emp, .hp (HP.sep lf), .row 3 1 vo i (i64s (otT raw xs i)), .blk g5 (.cells [.int .u8 k, .int .i64 x, vl, .bool raw].toArray 68 (0, 0)), .blk g6 (.cells [.slice none 0 0].toArray 28 (0, 0)), ArC g7 (ofM (otT raw xs i)), .emp] ⟨rfl, rfl, rfl, rfl, rfl, rfl, rfl, trivial⟩ (EntP.refl _) ?_
  obtain ⟨hi, hi51, hvo⟩ := hI
  refine W_seq rfl ?_
  refine W_reg (m := 1) rfl rfl ?_
  refine RN_op rfl rfl rfl (st_pure pure_lss rfl rfl rfl ?_)
  refine RN_end ?_
  refine WQ_keep [(14, _), (1, _), (2, _), (4, _), (5, _), (11, _), (12, _), (13, _)] ⟨rfl, rfl, rfl, rfl, rfl, rfl, rfl, rfl, trivial⟩ ?_
  refine WQ_then ?_
  refine W_seq rfl ?_
  refine W_cond rfl rfl (fun hc1 => ?_) (fun hc1 => ?_)
  · refine W_skip rfl ?_
    refine WQ_then ?_
    refine W_seq rfl ?_
    refine W_block rfl ?_
    refine W_seq rfl ?_
    refine W_reg (m := 5) rfl rfl ?_
    refine RN_op rfl rfl rfl (st_pure pure_move rfl rfl rfl ?_)
    refine RN_op rfl rfl rfl (st_pure (pure_indexR Tryd.underlying46 sz3 (by assumption) (by omega)) rfl rfl rfl ?_)
    refine RN_op rfl rfl rfl (st_ld 0 rfl Tryd.underlying3 rfl rfl rfl (hR.cell (nth_get xs i (by omega))) rfl rfl ?_)
    refine RN_op rfl rfl rfl (st_pure pure_assign rfl rfl rfl ?_)
    refine RN_op rfl rfl rfl (st_pure pure_assign rfl rfl rfl ?_)
    refine RN_end ?_
    refine WQ_keep [(7, _), (6, _), (1, _), (2, _), (4, _), (5, _), (11, _), (12, _), (13, _)] ⟨rfl, rfl, rfl, rfl, rfl, rfl, rfl, rfl, rfl, trivial⟩ ?_
    refine WQ_then ?_
    refine W_seq rfl ?_
    refine W_seq rfl ?_
    refine W_reg (m := 2) rfl rfl ?_
    refine RN_op rfl rfl rfl (st_pure pure_move rfl rfl rfl ?_)
    refine RN_op rfl rfl rfl (st_pure pure_gtr rfl rfl rfl ?_)
    refine RN_end ?_
    refine WQ_keep [(19, _), (7, _), (1, _), (2, _), (4, _), (5, _), (11, _), (12, _), (13, _)] ⟨rfl, rfl, rfl, rfl, rfl, rfl, rfl, rfl, rfl, trivial⟩ ?_
    refine WQ_then ?_
    refine W_cond rfl rfl (fun hc2 => ?_) (fun hc2 => ?_)
    · refine W_exit rfl ?_
      refine WQ_thenX rfl ?_
      refine WQ_pass rfl ?_
      refine WQ_thenX rfl ?_
      refine WQ_thenX rfl ?_
      refine WQ_hit ?_
      refine WQ_then ?_
      refine W_seq rfl ?_
      have e := otT_all raw xs i hi hi51 (by omega)
      have el : (othL raw xs).length = i := by rw [← e]; exact otT_len raw xs i hi
      rw [e]
      refine W_reg (m := 5) rfl rfl ?_
      refine RN_op rfl rfl rfl (st_pure pure_move rfl rfl rfl ?_)
      refine RN_op rfl rfl rfl (s_ct (R := [4]) (W := [1]) (x0 := .slice none 0 0) (ct_Of (.row 3 1 vo i (i64s (othL raw xs))) vo (othL raw xs) (by rw [el]; exact rds_row hvo (by rw [i64s_length, el, Nat.mul_one])) (nth_le hx raw 51)) fnF37 rfl rfl rfl rfl (by decide) rfl (fun _ => rfl) rfl rfl fun u => ?_)
      refine RN_know (fun w hs _ => setV_one 1 hs rfl) fun hu1 => ?_
      refine RN_op rfl rfl rfl (st_pure pure_move rfl rfl rfl ?_)
      refine RN_op rfl rfl rfl (s_st 6 rfl sz28 rfl rfl rfl rfl puts_agg rfl ?_)
      refine RN_op rfl rfl rfl (st_pure pure_assign rfl rfl rfl ?_)
      refine RN_end ?_
      refine WQ_keep [(3, _), (2, _)] ⟨rfl, rfl, trivial⟩ ?_
      refine WQ_then ?_
      refine W_ret rfl ?_
      refine WQ_retV (by rw [Tryd.results28]) (ResV.cell 6 rfl Tryd.underlying28 rfl sz28 rfl cells_blk (ResV.tmp rfl ResV.nil)) rfl fun w' hs' he' => ?_
      exact ⟨(u, g7), rfl, hs'.pick [0, 1, 7, 3] (by decide), he'⟩
    · refine W_skip rfl ?_
      refine WQ_then ?_
      refine W_seq rfl ?_
      refine W_seq rfl ?_
      refine W_reg (m := 5) rfl rfl ?_
      refine RN_op rfl rfl rfl (st_pure pure_move rfl rfl rfl ?_)
      refine RN_op rfl rfl rfl (st_pure (pure_field0 3 Tryd.underlying68 rfl rfl sz4) rfl rfl rfl ?_)
      refine RN_op rfl rfl rfl (st_ld 5 rfl Tryd.underlying4 rfl rfl rfl cell_blk rfl rfl ?_)
      refine RN_op rfl rfl rfl (s_ct (R := []) (W := []) (x0 := ()) (ct_near (nth xs i) raw) fnF34 rfl rfl rfl rfl (by decide) rfl (fun _ => rfl) rfl rfl fun _ => ?_)
      refine RN_op rfl rfl rfl (st_pure pure_assign rfl rfl rfl ?_)
      refine RN_end ?_
      refine WQ_keep [(7, _), (1, _), (2, _), (4, _), (5, _), (11, _), (12, _), (13, _)] ⟨rfl, rfl, rfl, rfl, rfl, rfl, rfl, rfl, trivial⟩ ?_
      refine WQ_then ?_
      refine W_seq rfl ?_
      refine W_reg (m := 6) rfl rfl ?_
      refine RN_op rfl rfl rfl (st_pure pure_move rfl rfl rfl ?_)
      refine RN_op rfl rfl rfl (st_pure pure_geq rfl rfl rfl ?_)
      refine RN_op rfl rfl rfl (st_pure pure_move rfl rfl rfl ?_)
      refine' RN_and 2 2 [(7, _), (1, _), (2, _), (4, _), (5, _), (11, _), (12, _), (13, _)] rfl rfl rfl rfl rfl rfl rfl rfl rfl rfl rfl rfl rfl ⟨rfl, rfl, rfl, rfl, rfl, rfl, rfl, rfl, trivial⟩ (wanted_none rfl) (fun hg5 => ?_) ?_
      rotate_left 2
      · refine RN_gT rfl rfl rfl rfl rfl rfl (st_pure pure_move rfl rfl rfl ?_)
        refine RN_gT rfl rfl rfl rfl rfl rfl (st_pure pure_lss rfl rfl rfl ?_)
        exact RN_end (cut_end (AllIn.sub ⟨rfl, rfl, rfl, rfl, rfl, rfl, rfl, rfl, rfl, rfl, trivial⟩) (Ent.refl _))
      refine RN_end ?_
      refine WQ_keep [(29, _), (7, _), (1, _), (2, _), (4, _), (5, _), (11, _), (12, _), (13, _)] ⟨rfl, rfl, rfl, rfl, rfl, rfl, rfl, rfl, rfl, trivial⟩ ?_
      refine WQ_then ?_
      refine W_cond rfl rfl (fun hc3 => ?_) (fun hc3 => ?_)
      · refine W_reg (m := 5) rfl rfl ?_
        refine RN_op rfl rfl rfl (st_pure pure_move rfl rfl rfl ?_)
        refine RN_op rfl rfl rfl (st_pure pure_move rfl rfl rfl ?_)
        refine RN_op rfl rfl rfl (st_pure pure_nil rfl rfl rfl ?_)
        refine RN_op rfl rfl rfl (st_pure (pure_indexA (j := (nearI raw (nth xs i)).toNat) (hi := ⟨by omega⟩) Tryd.underlying78 sz4 (by omega)) rfl rfl rfl ?_)
        refine RN_op rfl rfl rfl (s_st 7 rfl sz4 rfl rfl rfl one_cells (puts_one One.out (put_arr (by omega))) rfl ?_)
        refine RN_end ?_
        refine WQ_keep [(7, _), (1, _), (2, _), (4, _), (5, _), (11, _), (12, _), (13, _)] ⟨rfl, rfl, rfl, rfl, rfl, rfl, rfl, rfl, trivial⟩ ?_
        rw [upM_put _ _ (by omega), ← ofM_snoc, otT_succ raw xs i (by omega)]
        refine WQ_then ?_
        refine W_reg (m := 5) rfl rfl ?_
        refine RN_op rfl rfl rfl (st_pure pure_move rfl rfl rfl ?_)
        refine RN_op rfl rfl rfl (st_pure pure_move rfl rfl rfl ?_)
        refine RN_op rfl rfl rfl (s_al 8 (alloc_buildSlice Tryd.underlying46 el46.zero rfl (by decide)) rfl rfl rfl fun g8 => ?_)
        refine RN_op rfl rfl rfl (s_appR 8 4 rfl el46 rfl rfl rfl rfl rfl toRow_row (rds_blk rfl (by decide)) AllOne.out (by omega) (by omega) rfl rfl fun v37 hv37 => ?_)
        rw [i64s_snoc, otT_succ raw xs i (by omega)]
        refine RN_op rfl rfl rfl (st_pure pure_assign rfl rfl rfl ?_)
        refine RN_end ?_
        refine WQ_keep [(4, _), (1, _), (2, _), (5, _), (11, _), (12, _), (13, _)] ⟨rfl, rfl, rfl, rfl, rfl, rfl, rfl, trivial⟩ ?_
        refine WQ_inB ?_
        refine WQ_then ?_
        refine W_reg (m := 2) rfl rfl ?_
        refine RN_op rfl rfl rfl (st_pure (pure_add64 (by omega)) rfl rfl rfl ?_)
        refine RN_op rfl rfl rfl (st_pure pure_move rfl rfl rfl ?_)
        refine RN_end ?_
        refine WQ_keep [(13, _), (4, _), (1, _), (2, _), (5, _), (11, _), (12, _)] ⟨rfl, rfl, rfl, rfl, rfl, rfl, rfl, trivial⟩ ?_
        refine WQ_hand ((i + 1, v37)) (⟨by omega, by omega, hv37⟩) (by (try dsimp only); omega) (AllIn.sub ⟨rfl, rfl, rfl, rfl, rfl, rfl, rfl, trivial⟩) (EntP.ent (by repeat' first | exact EntP.nil | refine EntP.same ?_ | refine EntP.drop ?_ | refine EntP.nilRow ?_))
      · refine W_skip rfl ?_
        refine WQ_then ?_
        refine W_reg (m := 5) rfl rfl ?_
        refine RN_op rfl rfl rfl (st_pure pure_move rfl rfl rfl ?_)
        refine RN_op rfl rfl rfl (st_pure pure_move rfl rfl rfl ?_)
        refine RN_op rfl rfl rfl (s_al 8 (alloc_buildSlice Tryd.underlying46 el46.zero rfl (by decide)) rfl rfl rfl fun g8 => ?_)
        refine RN_op rfl rfl rfl (s_appR 8 4 rfl el46 rfl rfl rfl rfl rfl toRow_row (rds_blk rfl (by decide)) AllOne.out (by omega) (by omega) rfl rfl fun v37 hv37 => ?_)
        rw [i64s_snoc, otT_succ raw xs i (by omega)]
        refine RN_op rfl rfl rfl (st_pure pure_assign rfl rfl rfl ?_)
        refine RN_end ?_
        refine WQ_keep [(4, _), (1, _), (2, _), (5, _), (11, _), (12, _), (13, _)] ⟨rfl, rfl, rfl, rfl, rfl, rfl, rfl, trivial⟩ ?_
        refine WQ_inB ?_
        refine WQ_then ?_
        refine W_reg (m := 2) rfl rfl ?_
        refine RN_op rfl rfl rfl (st_pure (pure_add64 (by omega)) rfl rfl rfl ?_)
        refine RN_op rfl rfl rfl (st_pure pure_move rfl rfl rfl ?_)
        refine RN_end ?_
        refine WQ_keep [(13, _), (4, _), (1, _), (2, _), (5, _), (11, _), (12, _)] ⟨rfl, rfl, rfl, rfl, rfl, rfl, rfl, trivial⟩ ?_
        rw [show ofM (otT raw xs i) = ofM (otT raw xs (i + 1)) by rw [← otT_succ raw xs i (by omega), ofM_snoc, put_outB (by omega)]]
        refine WQ_hand ((i + 1, v37)) (⟨by omega, by omega, hv37⟩) (by (try dsimp only); omega) (AllIn.sub ⟨rfl, rfl, rfl, rfl, rfl, rfl, rfl, trivial⟩) (EntP.ent (by repeat' first | exact EntP.nil | refine EntP.same ?_ | refine EntP.drop ?_ | refine EntP.nilRow ?_))
  · refine W_exit rfl ?_
    refine WQ_thenX rfl ?_
    refine WQ_thenX rfl ?_
    refine WQ_hit ?_
    refine WQ_then ?_
    refine W_seq rfl ?_
    have e := otT_all raw xs i hi hi51 (by omega)
    have el : (othL raw xs).length = i := by rw [← e]; exact otT_len raw xs i hi
    rw [e]
    refine W_reg (m := 5) rfl rfl ?_
    refine RN_op rfl rfl rfl (st_pure pure_move rfl rfl rfl ?_)
    refine RN_op rfl rfl rfl (s_ct (R := [4]) (W := [1]) (x0 := .slice none 0 0) (ct_Of (.row 3 1 vo i (i64s (othL raw xs))) vo (othL raw xs) (by rw [el]; exact rds_row hvo (by rw [i64s_length, el, Nat.mul_one])) (nth_le hx raw 51)) fnF37 rfl rfl rfl rfl (by decide) rfl (fun _ => rfl) rfl rfl fun u => ?_)
    refine RN_know (fun w hs _ => setV_one 1 hs rfl) fun hu1 => ?_
    refine RN_op rfl rfl rfl (st_pure pure_move rfl rfl rfl ?_)
    refine RN_op rfl rfl rfl (s_st 6 rfl sz28 rfl rfl rfl rfl puts_agg rfl ?_)
    refine RN_op rfl rfl rfl (st_pure pure_assign rfl rfl rfl ?_)
    refine RN_end ?_
    refine WQ_keep [(3, _), (2, _)] ⟨rfl, rfl, trivial⟩ ?_
    refine WQ_then ?_
    refine W_ret rfl ?_
    refine WQ_retV (by rw [Tryd.results28]) (ResV.cell 6 rfl Tryd.underlying28 rfl sz28 rfl cells_blk (ResV.tmp rfl ResV.nil)) rfl fun w' hs' he' => ?_
    exact ⟨(u, g7), rfl, hs'.pick [0, 1, 7, 3] (by decide), he'⟩
end Go.Proofs.YtompmejidaddoaaDoor
