/- The walk of the law BagQueues: whatever the turns, it is true, and turns nothing that was there. -/
import Derived.Test.YtompmejidaddoaaDoorAwake
import Derived.Test.YtompmejidaddoaaDoorTurns
set_option linter.unusedVariables false
set_option linter.unusedSimpArgs false
namespace Go.Proofs.YtompmejidaddoaaDoor
open Go.RowKit Go.ChangeMaps

theorem strs_append1 (xs : List ByteArray) (x : ByteArray) : strs (xs ++ [x]) = strs xs ++ [.string x] := by simp [strs]
/-- Is x among the first i? -/
def inTo (row : List ByteArray) (x : ByteArray) (i : Nat) : Bool := (row.take i).any fun y => decide (y = x)
theorem inTo_succ (row : List ByteArray) (x : ByteArray) (i : Nat) (h : i < row.length) : inTo row x (i + 1) = (inTo row x i || decide (sth row i = x)) := by
  rw [inTo, inTo, List.take_succ_eq_append_getElem h, List.any_append]
  simp [sth, h]

theorem bytes_ext {a b : ByteArray} (h : a.toList = b.toList) : a = b := by
  rw [Lib.toList_data, Lib.toList_data] at h
  cases a with
  | mk x => cases b with
    | mk y => exact congrArg ByteArray.mk (Array.toList_inj.1 h)
theorem cell_old {w wr : World} (h : ∀ i, i < w.heap.size → wr.heap[i]? = w.heap[i]?) {a : Addr} {u : Value} (ha : a.block < w.heap.size) (hc : w.cell? a = some u) : wr.cell? a = some u := by
  rw [← hc]
  simp [World.cell?, h _ ha]

section
set_option maxRecDepth 100000
set_option maxHeartbeats 2000000
theorem bagQueues_any (w : World) (v : Value) (n : Nat) (ks : Nat → Nat) (xs : Nat → ByteArray) (vs : Nat → Int) (hT : Tab w) (hA : TurnsAt w v n ks xs vs) :
    Calls Tryd.prog 4 #[v] w fun e w' => e = .returned (.bool true) ∧ Below w.heap.size w w' := by
  obtain ⟨A, c, rfl, hn, hsome⟩ := hA.form
  have hn' : (n : Int) ≤ 9223372036854775807 := by simp [maxLen] at hn; omega
  have HA := Hd.mk hA
  have H1 := Hd.mk (awake_any w hT)
  have HSo := Hd.mk hsome
  clear hA hT hsome hn
  go_enter Tryd.func4, Tryd.ntmps4
  go_wp2_with (go_at_call 9; refine H1.out.mono ?_; rintro e w1 ⟨rfl, hb1⟩; have hs1 := QueueH_new (((Sat_old w).below hb1).alloc (.cells #[.slice none 0 0, .map none] 53)); have HS1 := Hd.mk ((hs1.nil_rowO 9 1).front 1 rfl); have HE1 := Hd.mk ((Ext.of_below hb1).alloc (.cells #[.slice none 0 0, .map none] 53)); clear hb1 hs1 H1)
  go_loopg [4, 16] n (fun k s4 s16 wr => ∃ (j : Nat) (row : List ByteArray) (v4 : Value), j + k = n ∧ s16 = .int .i64 j ∧ s4 = v4 ∧ row.length ≤ j ∧ (∀ y ∈ row, SV y) ∧ Sat wr (QueueH w1.heap.size row :: RowO 9 1 v4 row.length (strs row) :: [Old w]) ∧ Ext w wr)
  case atStart => exact ⟨0, [], _, by omega, rfl, rfl, by simp, by simp, HS1.out, HE1.out⟩
  case round =>
    obtain ⟨j, row, v4, hj, rfl, rfl, hrj, hrs, hs, he⟩ := hrel
    have HRS := Hd.mk hrs
    clear hrs
    obtain ⟨go, rfl⟩ : ∃ n : Nat, n = gk := ⟨_, rfl⟩
    have HJ := Hd.mk hj
    have HR := Hd.mk hrj
    have hjm : j ≤ n := by omega
    clear hj hrj HS1 HE1
    by_cases hlt : j < n
    · obtain ⟨a, rfl⟩ := HSo.out j hlt
      obtain ⟨hab, hc0, hc1, hc2⟩ := HA.out.at' a n c rfl j hlt
      obtain ⟨hk, hsv⟩ := HA.out.small j hlt
      have ho := (hs.front 2 rfl).old
      have hab2 : (a.add (j * 3)).block < w.heap.size := by rw [add_block]; exact hab
      have hd0 := cell_old ho hab2 hc0
      have hd1 := cell_old (a := ⟨(a.add (j * 3)).block, (a.add (j * 3)).off + 1, none⟩) ho hab2 hc1
      have hd2 := cell_old (a := ⟨(a.add (j * 3)).block, (a.add (j * 3)).off + 2, none⟩) ho hab2 hc2
      have HS := Hd.mk hs
      have HE := Hd.mk he
      clear hc0 hc1 hc2 hab hab2 ho hs he
      by_cases h2 : j > 200
      · go_wp2_with fail
        go_ret
        exact ⟨rfl, Sat.below_old ((HS.out.alloc_skip _).front 2 rfl) (HE.out.alloc _)⟩
      have hxs := hsv
      have HX := Hd.mk hsv
      simp only [SV, maxLen] at hxs
      clear hsv
      by_cases hx : (xs j).size > 100
      · go_wp2_with fail
        go_ret
        exact ⟨rfl, Sat.below_old ((HS.out.alloc_skip _).front 2 rfl) (HE.out.alloc _)⟩
      have HS0 := Hd.mk (HS.out.alloc (.cells #[.int .u8 (ks j), .string (xs j), .int .i64 (vs j)] 55))
      have HE0 := Hd.mk (HE.out.alloc (.cells #[.int .u8 (ks j), .string (xs j), .int .i64 (vs j)] 55))
      obtain ⟨A4, c4, rfl, hnc⟩ := RowO.shape (HS.out.front 1 rfl)
      have hrl : row.length ≤ 200 := by have := HR.out; omega
      by_cases hm : ((ks j : Nat) : Int) % 3 < 2
      · go_wp2_with fail
        obtain ⟨na, hna⟩ : ∃ na, na = wr.heap.size := ⟨_, rfl⟩
        rw [← hna] at HS0 ⊢
        obtain ⟨W0, hW0⟩ : ∃ W0, W0 = wr.alloc (.cells #[.int .u8 (ks j), .string (xs j), .int .i64 (vs j)] 55) := ⟨_, rfl⟩
        rw [← hW0] at HS0 HE0 ⊢
        have hx1 := blk_cell HS0.out.blk 1
        clear hW0 hna HS HE hd0 hd1 hd2
        go_loopg [7, 35] row.length (fun k s7 s35 wr2 => ∃ i : Nat, i + k = row.length ∧ s35 = .int .i64 i ∧ s7 = .bool (inTo row (xs j) i) ∧ W0 = wr2)
        case atStart => exact ⟨0, by omega, rfl, rfl, rfl⟩
        case round =>
          obtain ⟨i, hi, rfl, rfl, rfl⟩ := hrel
          have HI := Hd.mk hi
          have him : i ≤ row.length := by omega
          clear hi
          by_cases hil : i < row.length
          · obtain ⟨g4, off4, cap4, hv4, hg4, hnc4, hcs4, _⟩ := RowO.form (HS0.out.front 2 rfl) (by omega)
            injection hv4 with hA4 _ hc4
            subst hA4 hc4
            have hci := hcs4 i _ (strs_get row i hil)
            have HT := Hd.mk (inTo_succ row (xs j) i hil)
            clear hcs4
            cases ht : inTo row (xs j) i <;> rw [ht] at HT
            · by_cases heq : sth row i = xs j
              · go_wp2_with fail
                go_roundg (gk - 1)
                case measure => have := HI.out; omega
                case rel => exact ⟨i + 1, by have := HI.out; omega, by go_num, by rw [HT.out]; simp [heq], rfl⟩
              · have hne : ¬ (sth row i).toList = (xs j).toList := fun h => heq (bytes_ext h)
                go_wp2_with fail
                go_roundg (gk - 1)
                case measure => have := HI.out; omega
                case rel => exact ⟨i + 1, by have := HI.out; omega, by go_num, by rw [HT.out]; simp [heq, hne], rfl⟩
            · go_wp2_with fail
              go_roundg (gk - 1)
              case measure => have := HI.out; omega
              case rel => exact ⟨i + 1, by have := HI.out; omega, by go_num, by rw [HT.out]; simp, rfl⟩
          · have hq : inTo row (xs j) i = inRow row (xs j) := by rw [inTo, List.take_of_length_le (by omega), inRow]
            rw [hq]
            have HQ := Hd.mk (qput_any w1.heap.size row (xs j) W0 _ HX.out (by omega) (HS0.out.front 1 rfl))
            cases hb : inRow row (xs j)
            · rw [hb, if_neg (by decide)] at HQ
              have HN := Hd.mk (fun (W : World) => cell_one_new W (.string (xs j)) 9)
              go_wp2_with (first
                | (go_at_call 18; refine HQ.out.mono ?_; rintro e w4 ⟨rfl, hs4, he4⟩; have HS4 := Hd.mk (hs4.alloc_skip (.cells #[.string (xs j)] 9)); have HE4 := Hd.mk ((HE0.out.trans he4).alloc (.cells #[.string (xs j)] 9)); have hx4 := blk_cell (hs4.blkAt 1 rfl) 1; clear hs4 he4 HQ HS0 HE0)
                | (at_builtin; refine wpList_append_o rfl _ _ 23 rfl 9 (.string ByteArray.empty) 1 16 Tryd.underlying23 (by kernel_rfl) rfl (by decide) _ row.length _ rfl HS4.out 2 rfl ⟨_, 0, none⟩ 1 1 [.string (xs j)] rfl rfl (HN.out _) (one_str (xs j)) (by decide) (by omega) (by omega) ?_; intro v5 w5 hs5 he5; obtain ⟨A5, c5, rfl, hnc5⟩ := RowO.shape (hs5.front 2 rfl); have HS5 := Hd.mk hs5; have HE5 := Hd.mk (HE4.out.trans he5); clear hs5 he5 HS4 HE4)
                | (go_at_call 20; refine (qlen_any w1.heap.size (row ++ [xs j]) _ _ HS5.out (by simp; omega)).mono ?_; rintro e w6 ⟨rfl, rfl⟩))
              go_roundg (go - 1)
              case measure => have := HJ.out; omega
              case rel => exact ⟨j + 1, row ++ [xs j], _, by have := HJ.out; omega, by go_num, rfl, by have := HR.out; simp; omega, (fun y hy => by
                rcases List.mem_append.1 hy with h | h
                · exact HRS.out y h
                · simp at h; subst h; exact HX.out), by
                have h := HS5.out.drop 1
                rw [← strs_append1] at h
                simpa using h, HE5.out⟩
            · rw [hb, if_pos rfl] at HQ
              go_wp2_with (first
                | (go_at_call 18; refine HQ.out.mono ?_; rintro e w4 ⟨rfl, hs4, he4⟩; have HS4 := Hd.mk hs4; have HE4 := Hd.mk (HE0.out.trans he4); have hx4 := blk_cell (hs4.blkAt 1 rfl) 1; clear hs4 he4 HQ HS0 HE0)
                | (go_at_call 20; refine (qlen_any w1.heap.size row _ _ HS4.out (by omega)).mono ?_; rintro e w5 ⟨rfl, rfl⟩))
              go_roundg (go - 1)
              case measure => have := HJ.out; omega
              case rel => exact ⟨j + 1, row, _, by have := HJ.out; omega, by go_num, rfl, by have := HR.out; omega, HRS.out, HS4.out.drop 1, HE4.out⟩
      · have HM := Hd.mk hm
        have hm2 : ¬ ((ks j : Nat) : Int) % 3 < 2 := hm
        clear hm
        rcases row with _ | ⟨y, r⟩
        · have HQ := Hd.mk (qtake_none w1.heap.size _ _ (HS0.out.front 1 rfl))
          have hE : ByteArray.empty.toList = ({ data := #[] } : ByteArray).toList := rfl
          go_wp2_with (first
            | (go_at_call 19; refine HQ.out.mono ?_; rintro e w4 ⟨rfl, rfl⟩)
            | (go_at_call 20; refine (qlen_any w1.heap.size [] _ _ (HS0.out.front 1 rfl) (by simp)).mono ?_; rintro e w5 ⟨rfl, rfl⟩))
          go_roundg (go - 1)
          case measure => have := HJ.out; omega
          case rel => exact ⟨j + 1, [], _, by have := HJ.out; omega, by go_num, rfl, by simp, by simp, HS0.out.drop 0, HE0.out⟩
        · have hlen : (y :: r).length = r.length + 1 := by simp
          have HQ := Hd.mk (qtake_some w1.heap.size y r _ _ (HRS.out y (by simp)) (by omega) (HS0.out.front 1 rfl))
          obtain ⟨g4, off4, cap4, hv4, hg4, hnc4, hcs4, _⟩ := RowO.form (HS.out.front 1 rfl) (by simp)
          injection hv4 with hA4 _ hc4
          subst hA4 hc4
          clear hcs4
          rw [hlen] at hnc hrl
          have HRL := Hd.mk hlen
          by_cases hcap : c4 = 1
          · subst hcap
            have h0 : r.length = 0 := by omega
            have HZ := Hd.mk h0
            clear h0
            go_wp2_with (first
              | (go_at_call 19; refine HQ.out.mono ?_; rintro e w4 ⟨rfl, hs4, he4⟩; have HS4 := Hd.mk hs4; have HE4 := Hd.mk (HE0.out.trans he4); obtain ⟨g5, off5, cap5, hv5, hg5, hnc5, hcs5, _⟩ := RowO.form (hs4.front 2 rfl) (by simp); injection hv5 with hA5 _ hc5; injection hA5 with hA6; injection hA6 with hA7 hA8; subst hA7 hA8 hc5; have hy0 : w4.cell? ⟨g4, off4, none⟩ = some (.string y) := hcs5 0 _ rfl; have h6 := RowO.cut (hs4.front 2 rfl) (m := 1) (by simp) off4 (.inr ⟨rfl, rfl⟩); have HC4 := Hd.mk ((h6.drop 2).front 1 rfl); clear hs4 he4 h6 hcs5 HQ HS0 HE0)
              | (go_at_call 20; refine (qlen_any w1.heap.size r _ _ HS4.out (by omega)).mono ?_; rintro e w5 ⟨rfl, rfl⟩))
            go_roundg (go - 1)
            case measure => have := HJ.out; omega
            case rel =>
              have h7 := HC4.out
              rw [show (y :: r).length - 1 = 0 by rw [List.length_cons]; have := HZ.out; omega] at h7
              refine ⟨j + 1, r, _, by have := HJ.out; omega, by go_num, rfl, by have := HR.out; have := HRL.out; omega, fun z hz => HRS.out z (by simp [hz]), ?_, HE4.out⟩
              rw [HZ.out]
              exact h7
          · skip
            go_wp2_with (first
              | (go_at_call 19; refine HQ.out.mono ?_; rintro e w4 ⟨rfl, hs4, he4⟩; have HS4 := Hd.mk hs4; have HE4 := Hd.mk (HE0.out.trans he4); obtain ⟨g5, off5, cap5, hv5, hg5, hnc5, hcs5, _⟩ := RowO.form (hs4.front 2 rfl) (by simp); injection hv5 with hA5 _ hc5; injection hA5 with hA6; injection hA6 with hA7 hA8; subst hA7 hA8 hc5; have hy0 : w4.cell? ⟨g4, off4, none⟩ = some (.string y) := hcs5 0 _ rfl; have h6 := RowO.cut (hs4.front 2 rfl) (m := 1) (by simp) (off4 + 1) (.inl (by omega)); have HC4 := Hd.mk ((h6.drop 2).front 1 rfl); clear hs4 he4 h6 hcs5 HQ HS0 HE0)
              | (go_at_call 20; refine (qlen_any w1.heap.size r _ _ HS4.out (by omega)).mono ?_; rintro e w5 ⟨rfl, rfl⟩))
            go_roundg (go - 1)
            case measure => have := HJ.out; omega
            case rel =>
              have h7 := HC4.out
              rw [show (y :: r).length - 1 = r.length by simp] at h7
              exact ⟨j + 1, r, _, by have := HJ.out; omega, by go_num, rfl, by have := HR.out; have := HRL.out; omega, fun z hz => HRS.out z (by simp [hz]), h7, HE4.out⟩
    · go_wp2_with fail
      go_ret
      exact ⟨rfl, Sat.below_old (hs.front 2 rfl) he⟩
end
end Go.Proofs.YtompmejidaddoaaDoor
