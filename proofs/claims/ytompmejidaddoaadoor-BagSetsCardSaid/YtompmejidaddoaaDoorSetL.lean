/- The walks of package bag's Set[int]: how many, and all. -/
import Derived.Test.YtompmejidaddoaaDoorSetW
import Derived.Test.YtompmejidaddoaaDoorBitsW
set_option linter.unusedVariables false
set_option linter.unusedSimpArgs false
namespace Go.Proofs.YtompmejidaddoaaDoor
open Go.RowKit

def i64s (xs : List Int) : List Value := xs.map fun x => .int .i64 x
theorem i64s_length (xs : List Int) : (i64s xs).length = xs.length := by simp [i64s]
theorem i64s_append (xs ys : List Int) : i64s (xs ++ ys) = i64s xs ++ i64s ys := by simp [i64s]
theorem i64s_get (xs : List Int) (j : Nat) (h : j < xs.length) : (i64s xs)[j]? = some (.int .i64 (xs.getD j 0)) := by simp [i64s, h]
def ints (l : List Nat) : List Int := l.map fun (n : Nat) => (n : Int)
theorem ints_length (l : List Nat) : (ints l).length = l.length := by simp [ints]
theorem one_i64 (x : Int) : ∀ u ∈ [Value.int .i64 x], u.oneCell' = true := by intro u hu; simp at hu; subst hu; rfl

/-- What a call makes: a row of its own, beside which nothing has turned. -/
structure Fresh (w w' : World) (e size : Nat) (v : Value) (n : Nat) (xs : List Value) : Prop where
  below : Below w.heap.size w w'
  own : w'.ownsRow w.heap.size e size v n xs
theorem Fresh.sat {w w' : World} {e size n : Nat} {v : Value} {xs : List Value} {l : List HP} (h : Fresh w w' e size v n xs) (hs : Sat w l) : Sat w' (RowH e size v n xs :: l) := hs.new h.below h.own (Nat.le_refl _)
theorem Fresh.of_sat {w w' : World} {e size n : Nat} {v : Value} {xs : List Value} (h : Sat w' [RowH e size v n xs, Old w]) (he : Ext w w') : Fresh w w' e size v n xs := by
  refine ⟨(h.front 1 rfl).below_old he, ?_⟩
  obtain ⟨S, hS, _, R, hR, hRT, _⟩ := h
  obtain ⟨h1, h2⟩ := hS.1
  refine ⟨h1, ?_⟩
  rcases h2 with hn | ⟨g, cap, cur, rfl, _, rest⟩
  · exact .inl hn
  · refine .inr ⟨g, cap, cur, rfl, ?_, rest⟩
    refine Nat.le_of_not_lt fun hlt => (hRT g ((hR.1 g).2 hlt)).2 ((hS.2 g).2 rfl)

section
set_option maxRecDepth 100000
set_option maxHeartbeats 400000
theorem len_any (v : Value) (ws : List Nat) (w : World) (hw : Words ws) (ho : w.ownsRow 0 84 1 v ws.length (u64s ws)) :
    Calls Tryd.prog 25 #[.agg #[v]] w fun e w' => e = .returned (.int .i64 ((elems (mem ws)).length : Nat)) ∧ Below w.heap.size w w' := by
  rw [elems_upto hw]
  have HW := Hd.mk hw
  have hn := hw.1
  clear hw
  obtain ⟨A, c, rfl⟩ := own_shape ho
  have HO := Hd.mk ho
  clear ho
  go_enter Tryd.func25, Tryd.ntmps25
  go_wp2_with fail
  go_loopg [3, 9] ws.length (fun k acc i wr => ∃ j, j + k = ws.length ∧ i = .int .i64 (j : Nat) ∧ acc = .int .i64 ((upto ws j).length : Nat) ∧ w.alloc (.cells #[.slice A ws.length c] 28) = wr)
  case atStart => exact ⟨0, by omega, rfl, rfl, rfl⟩
  case round =>
    obtain ⟨j, hj, rfl, rfl, rfl⟩ := hrel
    have HJ := Hd.mk hj
    have hj2 : j ≤ ws.length := by omega
    have hb1 : ((upto ws j).length : Int) ≤ 4096 := by have := upto_le ws j; omega
    have hb2 : ((bitsOf (wd ws j)).length : Int) ≤ 64 := by have := bitsOf_le (wd ws j); omega
    clear hj
    by_cases hlt : j < ws.length
    · obtain ⟨g, cap, hv, hg, hcap, hcs, hfr⟩ := own_form HO.out (by omega)
      injection hv with hA _ hcc
      subst hA hcc
      have hc := hcs j _ (u64s_get ws j hlt)
      clear hcs hfr
      go_wp2_with (go_at_call 47; refine (ones_any (wd ws j) (HW.out.2 j) _).mono ?_; rintro e w' ⟨rfl, rfl⟩)
      go_roundg (gk - 1)
      case measure => have := HJ.out; omega
      case rel => exact ⟨j + 1, by have := HJ.out; omega, by go_num, by rw [upto_succ, List.length_append, List.length_map, Int.natCast_add], rfl⟩
    · obtain rfl : j = ws.length := by omega
      go_wp2
      go_ret
      exact ⟨rfl, below1 _ _⟩

/-- All of a set: the rows' own lists. -/
def allI (M : Nat → Bool) : List Int := ints (elems M)
theorem all_loop (v : Value) (ws : List Nat) (w : World) (hw : Words ws) (ho : w.ownsRow 0 84 1 v ws.length (u64s ws)) (hT : Tab w) :
    Calls Tryd.prog 15 #[.agg #[v]] w fun e w' => ∃ v', e = .returned v' ∧ Fresh w w' 3 1 v' (elems (mem ws)).length (i64s (allI (mem ws))) := by
  unfold allI
  rw [elems_upto hw]
  have HW := Hd.mk hw
  have hn := hw.1
  clear hw
  obtain ⟨A, c, rfl⟩ := own_shape ho
  have HO := Hd.mk ho
  have HT := Hd.mk hT
  have HS := (Sat_old w).alloc_skip (.cells #[.slice A ws.length c] 28)
  have HE := (Ext.refl w).alloc (.cells #[.slice A ws.length c] 28)
  clear ho hT
  go_enter Tryd.func15, Tryd.ntmps15
  go_wp2_with fail
  go_loopg [3, 9] ws.length (fun k out i wr => ∃ j, j + k = ws.length ∧ i = .int .i64 (j : Nat) ∧ Sat wr [RowH 3 1 out (upto ws j).length (i64s (ints (upto ws j))), Old w] ∧ Ext w wr)
  case atStart => exact ⟨0, by omega, rfl, by simpa [upto, ints, i64s] using HS.nil_row 3 1, HE⟩
  case round =>
    obtain ⟨j, hj, rfl, hs, he⟩ := hrel
    have HJ := Hd.mk hj
    have hj2 : j ≤ ws.length := by omega
    obtain ⟨A1, c1, rfl⟩ := own_shape (hs.rowAt 0 rfl)
    clear hj
    by_cases hlt : j < ws.length
    · obtain ⟨g, cap, hv, hg, hcap, hcs, hfr⟩ := own_form HO.out (by omega)
      injection hv with hA _ hcc
      subst hA hcc
      have hc : wr.cell? ⟨g, j, none⟩ = some (.int .u64 (wd ws j : Nat)) := by
        have := hcs j _ (u64s_get ws j hlt)
        rw [← this]
        exact World.cell?_of_block ((hs.front 1 rfl).old g hg)
      clear hcs hfr
      go_wp2_with fail
      obtain ⟨wo, rfl⟩ : ∃ wo : World, wo = wr := ⟨_, rfl⟩
      obtain ⟨go, rfl⟩ : ∃ n : Nat, n = gk := ⟨_, rfl⟩
      go_loopg [3, 5] (bitsOf (wd ws j)).length (fun k out u wr2 => ∃ x done, done ++ bitsOf x = bitsOf (wd ws j) ∧ (bitsOf x).length = k ∧ x < 18446744073709551616 ∧ u = .int .u64 (x : Nat) ∧ Sat wr2 [RowH 3 1 out ((upto ws j).length + done.length) (i64s (ints (upto ws j ++ done.map (64 * j + ·)))), Old w] ∧ Ext w wr2)
      case atStart => exact ⟨wd ws j, [], rfl, rfl, HW.out.2 j, rfl, by simpa using hs, he⟩
      case round =>
        obtain ⟨x, done, hd, hk, hx, rfl, hs2, he2⟩ := hrel
        have HD := Hd.mk hd
        have HK := Hd.mk hk
        have HX := Hd.mk hx
        obtain ⟨A2, c2, rfl⟩ := own_shape (hs2.rowAt 0 rfl)
        have hT2 := Hd.mk (HT.out.old (hs2.front 1 rfl).old)
        have hdl : (upto ws j).length + done.length ≤ 5000 := by
          have h1 := upto_le ws j
          have h2 := bitsOf_le (wd ws j)
          have h3 := congrArg List.length hd
          simp only [List.length_append] at h3
          omega
        have HX2 := Hd.mk (show x &&& (x - 1) < 18446744073709551616 from Nat.lt_of_le_of_lt Nat.and_le_left hx)
        clear hd hk hx hc
        by_cases h0 : x = 0
        · subst h0
          have HU : Hd (upto ws (j + 1) = upto ws j ++ done.map (64 * j + ·)) := ⟨by rw [upto_succ, ← HD.out, bitsOf_zero, List.append_nil]⟩
          go_wp2
          go_roundg (go - 1)
          case measure => have := HJ.out; omega
          case rel => exact ⟨j + 1, by have := HJ.out; omega, by go_num, by rw [HU.out]; simpa using hs2, he2⟩
        · have hx1 : 1 ≤ x := by omega
          have hcz : Lib.ctz 64 x < 64 := (ctz_spec x h0 HX.out).1
          have HB := Hd.mk (bitsOf_step x h0 HX.out)
          have hn0 : ((x : Int) == 0) = false := by simp [h0]
          clear h0
          go_wp2_with (first | (go_at_call 42; refine (tz_any x HX.out _ hT2.out).mono ?_; rintro e w' ⟨rfl, rfl⟩) | (at_builtin; refine wpList_append_sat rfl _ _ 46 rfl 3 (.int .i64 0) 1 8 Tryd.underlying46 (by kernel_rfl) rfl (by decide) _ ((upto ws j).length + done.length) _ rfl hs2 0 rfl 1 1 [.int .i64 (64 * (j : Int) + (Lib.ctz 64 x : Nat))] rfl rfl (one_i64 _) (by omega) (by omega) ?_; intro v3 w3 hs3 he3; obtain ⟨A3, c3, rfl⟩ := own_shape (hs3.rowAt 0 rfl)))
          go_roundg (gk - 1)
          case measure =>
            have h1 := HK.out
            rw [HB.out] at h1
            simp at h1
            omega
          case rel =>
            refine ⟨x &&& (x - 1), done ++ [Lib.ctz 64 x], ?_, ?_, HX2.out, ?_, ?_, he2.trans he3⟩
            · rw [List.append_assoc, List.singleton_append, ← HB.out]; exact HD.out
            · have h1 := HK.out
              rw [HB.out] at h1
              simp at h1
              omega
            · rw [show ((x : Int) - 1) = ((x - 1 : Nat) : Int) by omega, wrap_u64_nat _ (by have := HX.out; omega), u64_and_nat _ _ HX.out (by have := HX.out; omega)]
            · have h4 : Sat w3 [RowH 3 1 (.slice A3 ((upto ws j).length + done.length + 1) c3) ((upto ws j).length + done.length + 1) (i64s (ints (upto ws j ++ List.map (fun x => 64 * j + x) done)) ++ [.int .i64 (64 * (j : Int) + (Lib.ctz 64 x : Nat))]), Old w] := hs3
              simpa [i64s, ints, Nat.add_assoc] using h4
    · obtain rfl : j = ws.length := by omega
      go_wp2
      go_ret
      exact ⟨_, rfl, Fresh.of_sat hs he⟩
end
end Go.Proofs.YtompmejidaddoaaDoor
