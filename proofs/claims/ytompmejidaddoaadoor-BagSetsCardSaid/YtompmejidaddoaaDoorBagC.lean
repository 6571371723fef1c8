/- Sets' contracts in the engine's form. -/
import Derived.Test.YtompmejidaddoaaDoorAwake
import Derived.Test.YtompmejidaddoaaDoorEngO
import Derived.Test.YtompmejidaddoaaDoorTy
set_option linter.unusedVariables false
set_option linter.unusedSimpArgs false
namespace Go.Proofs.YtompmejidaddoaaDoor
open Go Go.RowKit

theorem put_outB {M : Nat → Bool} {x : Int} (h : ¬ (0 ≤ x ∧ x < 4096)) : putM M x = M := by rw [putM, if_neg h]
abbrev SB (g : Nat) (v : Value) : Chunk := .blk g (.cells [v].toArray 28 (0, 0))
theorem isRow_own {w : World} {B e s n : Nat} {v : Value} {xs : List Value} (h : w.ownsRow B e s v n xs) : IsRow v n := by
  rcases h.2 with ⟨rfl, rfl⟩ | ⟨g, cap, cur, rfl, _, _, h1, h2, _⟩
  · exact .inl ⟨rfl, rfl⟩
  · exact .inr (.inl ⟨g, 0, cap, rfl, h1, h2⟩)
theorem ct_putV (g : Nat) (M : Nat → Bool) (x : Int) (hx : x ≤ 9223372036854775807) (v : Value) : Ct Tryd.prog 11 [.pointer (some ⟨g, 0, none⟩), .int .i64 x] [] [SB g v, .hp (SetV v M)] (X := Value) (fun _ => .bool (decide (canPut M x = true))) (fun v' => [SB g v', .hp (SetV v' (putM M x))]) := by
  intro w l hs
  have hs1 : Sat w (SetH g M :: l) := SetH_SetV.2 ⟨v, hs⟩
  refine (put_any g M x w l hs1 hx).mono fun e w' ⟨he, h1, h2⟩ => ?_
  obtain ⟨v', h3⟩ := SetH_SetV.1 h1
  exact ⟨v', by rw [he]; simp, h3, h2⟩
theorem ct_cutV (g : Nat) (M : Nat → Bool) (x : Int) (hx : x ≤ 9223372036854775807) (v : Value) : Ct Tryd.prog 27 [.pointer (some ⟨g, 0, none⟩), .int .i64 x] [] [SB g v, .hp (SetV v M)] (X := Value) (fun _ => .bool (decide (hasM M x = true))) (fun v' => [SB g v', .hp (SetV v' (cutM M x))]) := by
  intro w l hs
  have hs1 : Sat w (SetH g M :: l) := SetH_SetV.2 ⟨v, hs⟩
  refine (cut_any g M x w l hs1 hx).mono fun e w' ⟨he, h1, h2⟩ => ?_
  obtain ⟨v', h3⟩ := SetH_SetV.1 h1
  exact ⟨v', by rw [he]; simp, h3, h2⟩
theorem ct_lenV (M : Nat → Bool) (v : Value) : Ct Tryd.prog 25 [.agg [v].toArray] [.hp (SetV v M)] [] (X := Unit) (fun _ => .int .i64 ((elems M).length : Nat)) (fun _ => []) := by
  intro w l hs
  obtain ⟨ws, ⟨hw, hm⟩, h1⟩ := SetV_iff.1 (show Sat w (SetV v M :: l) from hs)
  subst hm
  exact (len_any v ws w hw h1.row).mono fun e w' ⟨he, hb⟩ => ⟨(), he, hs.below hb, Ext.of_below hb⟩
theorem ct_hasV (M : Nat → Bool) (x : Int) (hx : x ≤ 9223372036854775807) (v : Value) : Ct Tryd.prog 26 [.agg [v].toArray, .int .i64 x] [.hp (SetV v M)] [] (X := Unit) (fun _ => .bool (hasM M x)) (fun _ => []) := by
  intro w l hs
  obtain ⟨ws, ⟨hw, hm⟩, h1⟩ := SetV_iff.1 (show Sat w (SetV v M :: l) from hs)
  subst hm
  exact (has_any v ws x w hw h1.row hx).mono fun e w' ⟨he, hb⟩ => ⟨(), he, hs.below hb, Ext.of_below hb⟩
abbrev RowV (n : Nat) : Type := {u : Value // IsRow u n}
def RowV.nil (n : Nat) (h : n ≤ maxLen) : RowV n := ⟨mkRow n none, (mkRow_is n none h).up⟩
theorem ct_allV (W0 : World) (hT : Tab W0) (M : Nat → Bool) (v : Value) : Ct Tryd.prog 15 [.agg [v].toArray] [.hp (SetV v M), .old W0] [.emp] (X := RowV (elems M).length) (fun x => x.1) (fun x => [.hp (RowH 3 1 x.1 (elems M).length (i64s (allI M)))]) := by
  intro w l hs
  have hs0 : Sat w (SetV v M :: Old W0 :: HP.sep [] :: l) := hs
  obtain ⟨ws, ⟨hw, hm⟩, h1⟩ := SetV_iff.1 hs0
  subst hm
  refine (all_loop v ws w hw h1.row (hT.old (hs0.front 1 rfl).old)).mono fun e w' ⟨v', he, hf⟩ => ?_
  have h2 : Sat w' (RowH 3 1 v' (elems (mem ws)).length (i64s (allI (mem ws))) :: SetV v (mem ws) :: Old W0 :: HP.sep [] :: l) := hf.sat hs0
  have h3 : Sat w' (HP.sep [] :: RowH 3 1 v' (elems (mem ws)).length (i64s (allI (mem ws))) :: SetV v (mem ws) :: Old W0 :: l) := h2.front 3 rfl
  have h4 : Sat w' (RowH 3 1 v' (elems (mem ws)).length (i64s (allI (mem ws))) :: SetV v (mem ws) :: Old W0 :: l) := Sat_sep.1 h3
  exact ⟨⟨v', isRow_own hf.own⟩, he, h4.perm ((List.Perm.swap _ _ _).trans ((List.Perm.swap _ _ _).cons _)), Ext.of_below hf.below⟩
theorem ct_awake9 (W0 : World) (hT : Tab W0) : Ct Tryd.prog 9 [] [.old W0] [] (X := Unit) (fun _ => .bool (decide True)) (fun _ => []) := by
  intro w l hs
  exact (awake_any w (hT.old (show Sat w (Old W0 :: l) from hs).old)).mono fun e w' ⟨he, hb⟩ => ⟨(), he, hs.below hb, Ext.of_below hb⟩
theorem setV_nil {w : World} {L : List Chunk} (h : SatC w L) : SatC w (.hp (SetV (.slice none 0 0) noneM) :: L) :=
  SetV_iff.2 ⟨[], ⟨⟨by simp, fun j => by simp⟩, mem_nil⟩, Sat.nil_row h 84 1⟩
/-- A set's value, out of the chunks that a call takes. -/
def ysv (_ : List Value) : List Chunk → Value
  | .blk _ (.cells c _ _) :: _ => c[0]!
  | _ => default
def yva : List Value → List Chunk → Value
  | _ :: .agg c :: _, _ => c[0]!
  | _, _ => default
end Go.Proofs.YtompmejidaddoaaDoor
