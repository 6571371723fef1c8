/- Sets' contracts in the engine's form: copies, joined, less, met, compared. -/
import Derived.Test.YtompmejidaddoaaDoorBagD
set_option linter.unusedVariables false
set_option linter.unusedSimpArgs false
namespace Go.Proofs.YtompmejidaddoaaDoor
open Go Go.RowKit

def andM (M N : Nat → Bool) : Nat → Bool := fun i => M i && N i
def subM (M N : Nat → Bool) : Nat → Bool := fun i => M i && !N i
def orM (M N : Nat → Bool) : Nat → Bool := fun i => M i || N i
theorem ct_copyV (M : Nat → Bool) (v : Value) : Ct Tryd.prog 29 [.agg [v].toArray] [.hp (SetV v M)] [.emp] (X := Value) (fun x => .agg [x].toArray) (fun x => [.hp (SetV x M)]) := by
  intro w l hs
  have hs0 : Sat w (SetV v M :: HP.sep [] :: l) := hs
  refine (copy_any v M w _ hs0).mono fun e w' ⟨v', he, h1, hb⟩ => ?_
  have h2 : Sat w' (HP.sep [] :: SetV v' M :: SetV v M :: l) := h1.front 2 rfl
  have h3 : Sat w' (SetV v' M :: SetV v M :: l) := Sat_sep.1 h2
  exact ⟨v', he, h3.perm (List.Perm.swap _ _ _), Ext.of_below hb⟩
abbrev OneV : Type := {u : Value // One u}
instance (x : OneV) : One x.1 := x.2
def OneV.nil : OneV := ⟨.slice none 0 0, inferInstance⟩
theorem ct_copyO (M : Nat → Bool) (v : Value) : Ct Tryd.prog 29 [.agg [v].toArray] [.hp (SetV v M)] [.emp] (X := OneV) (fun x => .agg [x.1].toArray) (fun x => [.hp (SetV x.1 M)]) := by
  intro w l hs
  refine (ct_copyV M v w l hs).mono fun e w' ⟨v', he, h1, h2⟩ => ?_
  have h3 : Sat w' (SetV v M :: SetV v' M :: l) := h1
  obtain ⟨ws, _, h4⟩ := SetV_iff.1 (h3.front 1 rfl)
  exact ⟨⟨v', (isRow_own h4.row).one⟩, he, h1, h2⟩
theorem two_sets {w : World} {g : Nat} {v1 v2 : Value} {M1 M2 : Nat → Bool} {l : List HP} (hs : Sat w (SetV v2 M2 :: (SB g v1).toHP :: SetV v1 M1 :: l)) : Sat w (SetH g M1 :: SetV v2 M2 :: l) :=
  SetH_SetV.2 ⟨v1, hs.perm ((List.Perm.swap _ _ _).trans ((List.Perm.swap _ _ _).cons _))⟩
theorem two_back {w : World} {g : Nat} {v2 : Value} {M1 M2 : Nat → Bool} {l : List HP} (hs : Sat w (SetH g M1 :: SetV v2 M2 :: l)) : ∃ v', Sat w (SetV v2 M2 :: (SB g v').toHP :: SetV v' M1 :: l) := by
  obtain ⟨v', h⟩ := SetH_SetV.1 hs
  exact ⟨v', h.perm (((List.Perm.swap _ _ _).cons _).trans (List.Perm.swap _ _ _))⟩
theorem ct_lessV (g : Nat) (v1 v2 : Value) (M1 M2 : Nat → Bool) : Ct Tryd.prog 31 [.pointer (some ⟨g, 0, none⟩), .agg [v2].toArray] [.hp (SetV v2 M2)] [SB g v1, .hp (SetV v1 M1)] (X := Value) (fun _ => .tuple #[]) (fun v' => [SB g v', .hp (SetV v' (subM M1 M2))]) := by
  intro w l hs
  refine (less_any g v2 M1 M2 w l (two_sets hs)).mono fun e w' ⟨he, h1, h2⟩ => ?_
  obtain ⟨v', h3⟩ := two_back h1
  exact ⟨v', he, h3, h2⟩
theorem ct_meetV (g : Nat) (v1 v2 : Value) (M1 M2 : Nat → Bool) : Ct Tryd.prog 30 [.pointer (some ⟨g, 0, none⟩), .agg [v2].toArray] [.hp (SetV v2 M2)] [SB g v1, .hp (SetV v1 M1)] (X := Value) (fun _ => .tuple #[]) (fun v' => [SB g v', .hp (SetV v' (andM M1 M2))]) := by
  intro w l hs
  refine (meet_any g v2 M1 M2 w l (two_sets hs)).mono fun e w' ⟨he, h1, h2⟩ => ?_
  obtain ⟨v', h3⟩ := two_back h1
  exact ⟨v', he, h3, h2⟩
theorem ct_joinV (W0 : World) (hT : Tab W0) (g : Nat) (v1 v2 : Value) (M1 M2 : Nat → Bool) : Ct Tryd.prog 32 [.pointer (some ⟨g, 0, none⟩), .agg [v2].toArray] [.old W0, .hp (SetV v2 M2)] [SB g v1, .hp (SetV v1 M1)] (X := Value) (fun _ => .bool (decide ((elems M1).length < (elems (orM M1 M2)).length))) (fun v' => [SB g v', .hp (SetV v' (orM M1 M2))]) := by
  intro w l hs
  have hs0 : Sat w (Old W0 :: SetV v2 M2 :: (SB g v1).toHP :: SetV v1 M1 :: l) := hs
  have hs1 : Sat w (SetV v2 M2 :: (SB g v1).toHP :: SetV v1 M1 :: Old W0 :: l) := hs0.perm ((List.Perm.swap _ _ _).trans (((List.Perm.swap _ _ _).trans ((List.Perm.swap _ _ _).cons _)).cons _))
  refine (join_any g v2 M1 M2 w (Old W0 :: l) (fun w hs => hT.old hs.old) (two_sets hs1)).mono fun e w' ⟨he, h1, h2⟩ => ?_
  obtain ⟨v', h3⟩ := two_back h1
  exact ⟨v', he, h3.perm ((((List.Perm.swap _ _ _).cons _).trans (List.Perm.swap _ _ _)).cons _ |>.trans (List.Perm.swap _ _ _)), h2⟩
theorem ct_sameV (W0 : World) (hT : Tab W0) (v1 v2 : Value) (M1 M2 : Nat → Bool) (h : sameM M1 M2 = true) : Ct Tryd.prog 33 [.agg [v1].toArray, .agg [v2].toArray] [.old W0, .hp (SetV v1 M1), .hp (SetV v2 M2)] [] (X := Unit) (fun _ => .bool true) (fun _ => []) := by
  intro w l hs
  have hs0 : Sat w (Old W0 :: SetV v1 M1 :: SetV v2 M2 :: l) := hs
  obtain ⟨ws1, ⟨hw1, hm1⟩, h1⟩ := SetV_iff.1 (hs0.front 1 rfl)
  obtain ⟨ws2, ⟨hw2, hm2⟩, h2⟩ := SetV_iff.1 (hs0.front 2 rfl)
  subst hm1 hm2
  exact (same_any v1 v2 ws1 ws2 w hw1 hw2 (hT.old hs0.old) h1.row h2.row).mono fun e w' ⟨he, hb⟩ => ⟨(), by rw [he, h], hs.below hb, Ext.of_below hb⟩
end Go.Proofs.YtompmejidaddoaaDoor
