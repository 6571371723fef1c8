/- A small separation logic over the model's worlds: which blocks a thing owns, and that things own blocks apart. No program. -/
import Derived.WalkKit
import Derived.WalkSpells
import Derived.WalkLawsBesides
import Derived.Laws.AppendOwn
import Derived.Laws.BitsAllLaws
import Derived.Maps.AppendAt
import Derived.Deep.Draws
import Derived.Deep.LoopGhost
import Derived.Deep.QuietTactic
import Derived.Deep.DeepCutAuto
import Derived.Deep.CutBlock
import Derived.Deep.RegionHeld3
import Derived.BigQuiet
import Derived.KernelRfl
set_option linter.unusedVariables false
set_option linter.unusedSimpArgs false
namespace Go.Proofs.YtompmejidaddoaaDoor
open Go.RowKit

/-- A fact that the walk's simp doesn't look into. -/
structure Hd (p : Prop) : Prop where
  out : p

abbrev Foot := Nat → Prop

/-- What a thing says of the blocks that it owns. -/
structure HP where
  h : World → Foot → Prop
  loc : ∀ {w w' : World} {S : Foot}, h w S → (∀ i, S i → w'.heap[i]? = w.heap[i]?) → h w' S
  lt : ∀ {w : World} {S : Foot}, h w S → ∀ i, S i → i < w.heap.size

def SatF (w : World) : List HP → Foot → Prop
  | [], _ => True
  | H :: l, T => ∃ S, H.h w S ∧ (∀ i, S i → T i) ∧ SatF w l (fun i => T i ∧ ¬ S i)

/-- The things of a list hold, each of blocks of its own. -/
def Sat (w : World) (l : List HP) : Prop := SatF w l (fun _ => True)

/-- What stays beside the heap. -/
structure Ext (w w' : World) : Prop where
  os : w'.os = w.os
  tape : w'.tape = w.tape
  output : w'.output = w.output
  size : w.heap.size ≤ w'.heap.size

theorem alloc_size (w : World) (o : Obj) : (w.alloc o).heap.size = w.heap.size + 1 := by simp
theorem Ext.refl (w : World) : Ext w w := ⟨rfl, rfl, rfl, Nat.le_refl _⟩
theorem Ext.trans {a b c : World} (h : Ext a b) (k : Ext b c) : Ext a c := ⟨k.os.trans h.os, k.tape.trans h.tape, k.output.trans h.output, Nat.le_trans h.size k.size⟩
theorem Ext.of_below {B : Nat} {w w' : World} (h : Below B w w') : Ext w w' := ⟨h.os, h.tape, h.output, h.size⟩
theorem Ext.of_grown {w w' : World} {row : Option Nat} (h : w.grownBy w' row) : Ext w w' := ⟨h.os, h.tape, h.output, h.size⟩
theorem Ext.alloc {w w' : World} (h : Ext w w') (o : Obj) : Ext w (w'.alloc o) := h.trans ⟨rfl, rfl, rfl, by simp⟩
theorem Ext.setCell {w w' : World} (h : Ext w w') (a : Addr) (v : Value) : Ext w (w'.setCell a v) := h.trans ⟨rfl, rfl, rfl, by simp [World.setCell]⟩
theorem Ext.drew {w w' : World} (h : Ext w w') : Ext w w'.drew := ⟨h.os, h.tape, h.output, h.size⟩
theorem Ext.drewN {w w' : World} (h : Ext w w') (n : Nat) : Ext w (w'.drewN n) := ⟨h.os, h.tape, h.output, h.size⟩

theorem SatF.move {w w' : World} : ∀ {l : List HP} {T T' : Foot}, SatF w l T → (∀ i, T i → i < w.heap.size → w'.heap[i]? = w.heap[i]? ∧ T' i) → SatF w' l T'
  | [], _, _, _, _ => trivial
  | H :: l, T, T', h, hk => by
    obtain ⟨S, hS, hT, hr⟩ := h
    refine ⟨S, H.loc hS (fun i hi => (hk i (hT i hi) (H.lt hS i hi)).1), fun i hi => (hk i (hT i hi) (H.lt hS i hi)).2, ?_⟩
    exact SatF.move hr (fun i hi hl => ⟨(hk i hi.1 hl).1, (hk i hi.1 hl).2, hi.2⟩)

theorem SatF.mono {w : World} {l : List HP} {T T' : Foot} (h : SatF w l T) (hk : ∀ i, T i → T' i) : SatF w l T' := h.move (fun i hi _ => ⟨rfl, hk i hi⟩)

/-- Nothing of what was there has turned. -/
theorem Sat.below {w w' : World} {l : List HP} (h : Sat w l) (hb : Below w.heap.size w w') : Sat w' l := SatF.move h (fun i _ hl => ⟨hb.block i hl, trivial⟩)
theorem Sat.drew {w : World} {l : List HP} (h : Sat w l) : Sat w.drew l := SatF.move h (fun _ _ _ => ⟨rfl, trivial⟩)
theorem Sat.drewN {w : World} {l : List HP} (h : Sat w l) (n : Nat) : Sat (w.drewN n) l := SatF.move h (fun _ _ _ => ⟨rfl, trivial⟩)

/-- From w to w' only blocks of S may have turned; S' is of these and of new ones. -/
structure Mut (w w' : World) (S S' : Foot) : Prop where
  ext : Ext w w'
  keep : ∀ i, i < w.heap.size → ¬ S i → w'.heap[i]? = w.heap[i]?
  foot : ∀ i, S' i → S i ∨ w.heap.size ≤ i

theorem Sat.mut {w w' : World} {H H' : HP} {l : List HP} (h : Sat w (H :: l)) (hm : ∀ S, H.h w S → ∃ S', H'.h w' S' ∧ Mut w w' S S') : Sat w' (H' :: l) := by
  obtain ⟨S, hS, _, hr⟩ := h
  obtain ⟨S', hS', hm⟩ := hm S hS
  refine ⟨S', hS', fun _ _ => trivial, hr.move (fun i hi hl => ⟨hm.keep i hl hi.2, trivial, fun hi' => ?_⟩)⟩
  rcases hm.foot i hi' with h1 | h1
  · exact hi.2 h1
  · omega

theorem Sat.conv {w : World} {H H' : HP} {l : List HP} (h : Sat w (H :: l)) (hc : ∀ S, H.h w S → H'.h w S) : Sat w (H' :: l) := by
  obtain ⟨S, hS, h1, hr⟩ := h
  exact ⟨S, hc S hS, h1, hr⟩

theorem Sat.tail {w : World} {H : HP} {l : List HP} (h : Sat w (H :: l)) : Sat w l := by
  obtain ⟨S, _, _, hr⟩ := h
  exact SatF.mono hr (fun _ _ => trivial)

theorem SatF.swap {w : World} {A B : HP} {l : List HP} {T : Foot} (h : SatF w (A :: B :: l) T) : SatF w (B :: A :: l) T := by
  obtain ⟨S, hS, hT, R, hR, hRT, hr⟩ := h
  exact ⟨R, hR, fun i hi => (hRT i hi).1, S, hS, fun i hi => ⟨hT i hi, fun hr => (hRT i hr).2 hi⟩, hr.mono (fun i hi => ⟨⟨hi.1.1, hi.2⟩, hi.1.2⟩)⟩

theorem SatF.perm {w : World} {l l' : List HP} (p : l.Perm l') : ∀ {T : Foot}, SatF w l T → SatF w l' T := by
  induction p with
  | nil => exact fun h => h
  | cons x _ ih => exact fun ⟨S, hS, hT, hr⟩ => ⟨S, hS, hT, ih hr⟩
  | swap x y l => exact fun h => h.swap
  | trans _ _ ih1 ih2 => exact fun h => ih2 (ih1 h)

theorem Sat.perm {w : World} {l l' : List HP} (h : Sat w l) (p : l.Perm l') : Sat w l' := SatF.perm p h

theorem perm_take : ∀ (n : Nat) (l : List HP) (x : HP), l[n]? = some x → l.Perm (x :: l.eraseIdx n)
  | _, [], _, h => by simp at h
  | 0, y :: l, x, h => by simp at h; subst h; exact List.Perm.refl _
  | n + 1, y :: l, x, h => by
    have := perm_take n l x (by simpa using h)
    exact (this.cons y).trans (List.Perm.swap _ _ _)

/-- The n-th to the front. -/
theorem Sat.front {w : World} {l : List HP} (n : Nat) {x : HP} (h : Sat w l) (hx : l[n]? = some x) : Sat w (x :: l.eraseIdx n) := h.perm (perm_take n l x hx)
/-- The first to the n-th place. -/
theorem Sat.back {w : World} {l : List HP} (n : Nat) {x : HP} (h : Sat w (x :: l.eraseIdx n)) (hx : l[n]? = some x) : Sat w l := h.perm (perm_take n l x hx).symm

/-- Without the k-th. -/
theorem Sat.drop {w : World} {l : List HP} (k : Nat) (h : Sat w l) : Sat w (l.eraseIdx k) := by
  by_cases hk : k < l.length
  · exact (h.front k (List.getElem?_eq_getElem hk)).tail
  · rwa [List.eraseIdx_of_length_le (by omega)]

theorem SatF.split {w : World} : ∀ {l : List HP} {T : Foot}, SatF w l T → ∃ S, (∀ i, S i → T i ∧ i < w.heap.size) ∧ SatF w l S
  | [], _, _ => ⟨fun _ => False, fun _ h => h.elim, trivial⟩
  | H :: l, T, ⟨S, hS, hT, hr⟩ => by
    obtain ⟨R, hR, hrR⟩ := SatF.split hr
    refine ⟨fun i => S i ∨ R i, fun i hi => ?_, S, hS, fun i hi => .inl hi, hrR.mono (fun i hi => ⟨.inr hi, (hR i hi).1.2⟩)⟩
    rcases hi with hi | hi
    · exact ⟨hT i hi, H.lt hS i hi⟩
    · exact ⟨(hR i hi).1.1, (hR i hi).2⟩

theorem SatF.append {w : World} : ∀ {l1 l2 : List HP} {T : Foot}, SatF w (l1 ++ l2) T ↔ ∃ S, (∀ i, S i → T i ∧ i < w.heap.size) ∧ SatF w l1 S ∧ SatF w l2 (fun i => T i ∧ ¬ S i)
  | [], l2, T => ⟨fun h => ⟨fun _ => False, fun _ h => h.elim, trivial, SatF.mono h (fun i hi => ⟨hi, fun h => h⟩)⟩, fun ⟨_, _, _, h⟩ => SatF.mono h (fun _ hi => hi.1)⟩
  | H :: l1, l2, T => by
    constructor
    · rintro ⟨S, hS, hT, hr⟩
      obtain ⟨R, hR, h1, h2⟩ := SatF.append.1 hr
      refine ⟨fun i => S i ∨ R i, fun i hi => ?_, ⟨S, hS, fun i hi => .inl hi, h1.mono (fun i hi => ⟨.inr hi, (hR i hi).1.2⟩)⟩, h2.mono (fun i hi => ⟨hi.1.1, fun h => h.elim hi.1.2 hi.2⟩)⟩
      rcases hi with hi | hi
      · exact ⟨hT i hi, H.lt hS i hi⟩
      · exact ⟨(hR i hi).1.1, (hR i hi).2⟩
    · rintro ⟨R, hR, ⟨S, hS, hT, hr⟩, h2⟩
      refine ⟨S, hS, fun i hi => (hR i (hT i hi)).1, SatF.append.2 ⟨fun i => R i ∧ ¬ S i, fun i hi => ⟨⟨(hR i hi.1).1, hi.2⟩, (hR i hi.1).2⟩, hr, h2.mono (fun i hi => ⟨⟨hi.1, fun h => hi.2 (hT i h)⟩, fun h => hi.2 h.1⟩)⟩⟩

def HP.sep (l : List HP) : HP where
  h w S := SatF w l S ∧ ∀ i, S i → i < w.heap.size
  loc := fun {w w' S} hh hk => by
    refine ⟨SatF.move hh.1 (fun i hi _ => ⟨hk i hi, hi⟩), fun i hi => ?_⟩
    have := hh.2 i hi
    have e := hk i hi
    rw [Array.getElem?_eq_getElem this] at e
    exact (Array.getElem?_eq_some_iff.1 e).1
  lt := fun hh => hh.2

theorem Sat_sep {w : World} {l L : List HP} : Sat w (HP.sep l :: L) ↔ Sat w (l ++ L) := by
  unfold Sat
  rw [SatF.append]
  constructor
  · rintro ⟨S, hS, _, hr⟩; exact ⟨S, fun i hi => ⟨trivial, hS.2 i hi⟩, hS.1, hr⟩
  · rintro ⟨S, hS, h1, h2⟩; exact ⟨S, ⟨h1, fun i hi => (hS i hi).2⟩, fun _ _ => trivial, h2⟩

def HP.ex {α : Type} (P : α → HP) : HP where
  h w S := ∃ x, (P x).h w S
  loc := fun ⟨x, hx⟩ hk => ⟨x, (P x).loc hx hk⟩
  lt := fun ⟨x, hx⟩ => (P x).lt hx
theorem Sat_ex {w : World} {α : Type} {P : α → HP} {L : List HP} : Sat w (HP.ex P :: L) ↔ ∃ x, Sat w (P x :: L) := by
  constructor
  · rintro ⟨S, ⟨x, hx⟩, h1, hr⟩; exact ⟨x, S, hx, h1, hr⟩
  · rintro ⟨x, S, hx, h1, hr⟩; exact ⟨S, ⟨x, hx⟩, h1, hr⟩

def HP.and (p : Prop) (H : HP) : HP where
  h w S := p ∧ H.h w S
  loc := fun hh hk => ⟨hh.1, H.loc hh.2 hk⟩
  lt := fun hh => H.lt hh.2
theorem Sat_and {w : World} {p : Prop} {H : HP} {L : List HP} : Sat w (HP.and p H :: L) ↔ p ∧ Sat w (H :: L) := by
  constructor
  · rintro ⟨S, hx, h1, hr⟩; exact ⟨hx.1, S, hx.2, h1, hr⟩
  · rintro ⟨hp, S, hx, h1, hr⟩; exact ⟨S, ⟨hp, hx⟩, h1, hr⟩

/-- One block, whole. -/
def Blk (g : Nat) (o : Obj) : HP where
  h w S := w.heap[g]? = some o ∧ ∀ i, S i ↔ i = g
  loc := fun ⟨h1, h2⟩ hk => ⟨(hk g ((h2 g).2 rfl)).trans h1, h2⟩
  lt := fun ⟨h1, h2⟩ i hi => by have := (h2 i).1 hi; subst this; exact (Array.getElem?_eq_some_iff.1 h1).1

/-- All that was there in w0 is as it was. -/
def Old (w0 : World) : HP where
  h w S := (∀ i, S i ↔ i < w0.heap.size) ∧ (∀ i, i < w0.heap.size → w.heap[i]? = w0.heap[i]?)
  loc := fun ⟨h1, h2⟩ hk => ⟨h1, fun i hi => (hk i ((h1 i).2 hi)).trans (h2 i hi)⟩
  lt := fun ⟨h1, h2⟩ i hi => by
    have hl := (h1 i).1 hi
    have e := h2 i hl
    rw [Array.getElem?_eq_getElem hl] at e
    exact (Array.getElem?_eq_some_iff.1 e).1

theorem Sat_old (w : World) : Sat w [Old w] := ⟨fun i => i < w.heap.size, ⟨fun _ => Iff.rfl, fun _ _ => rfl⟩, fun _ _ => trivial, trivial⟩

/-- A row of the call's own: n elements of so many cells. -/
def RowH (e : TypeId) (size : Nat) (v : Value) (n : Nat) (xs : List Value) : HP where
  h w S := w.ownsRow 0 e size v n xs ∧ ∀ i, S i ↔ v.ownBlock = some i
  loc := fun {w w' S} ⟨h1, h2⟩ hk => by
    refine ⟨⟨h1.1, ?_⟩, h2⟩
    rcases h1.2 with hn | ⟨g, cap, cur, rfl, hb, hgg, rest⟩
    · exact .inl hn
    · exact .inr ⟨g, cap, cur, rfl, hb, (hk g ((h2 g).2 rfl)).trans hgg, rest⟩
  lt := fun ⟨h1, h2⟩ i hi => (h1.lt i ((h2 i).1 hi)).2

/-! ### What is read -/
theorem Sat.head {w : World} {H : HP} {l : List HP} (h : Sat w (H :: l)) : ∃ S, H.h w S := let ⟨S, hS, _⟩ := h; ⟨S, hS⟩
theorem Sat.blk {w : World} {g : Nat} {o : Obj} {l : List HP} (h : Sat w (Blk g o :: l)) : w.heap[g]? = some o := let ⟨_, hS⟩ := h.head; hS.1
theorem Sat.row {w : World} {e size n : Nat} {v : Value} {xs : List Value} {l : List HP} (h : Sat w (RowH e size v n xs :: l)) : w.ownsRow 0 e size v n xs := let ⟨_, hS⟩ := h.head; hS.1
theorem Sat.old {w w0 : World} {l : List HP} (h : Sat w (Old w0 :: l)) : ∀ i, i < w0.heap.size → w.heap[i]? = w0.heap[i]? := let ⟨_, hS⟩ := h.head; hS.2
theorem Sat.below_old {w w0 : World} {l : List HP} (h : Sat w (Old w0 :: l)) (he : Ext w0 w) : Below w0.heap.size w0 w := ⟨he.os, he.tape, he.output, he.size, h.old⟩
theorem Sat.lt {w : World} {g : Nat} {o : Obj} {l : List HP} (h : Sat w (Blk g o :: l)) : g < w.heap.size := (Array.getElem?_eq_some_iff.1 h.blk).1

theorem blk_cell {w : World} {g : Nat} {cs : Array Value} {t : TypeId} {fr : Nat × Nat} (h : w.heap[g]? = some (.cells cs t fr)) (i : Nat) : w.cell? ⟨g, i, none⟩ = cs[i]? := by simp [World.cell?, h]
theorem blk_free {w : World} {g : Nat} {cs : Array Value} {t : TypeId} (h : w.heap[g]? = some (.cells cs t (0, 0))) (i : Nat) : w.frozen? ⟨g, i, none⟩ = false := by simp [World.frozen?, h]

/-! ### What is made and written -/
theorem Sat.alloc {w : World} {l : List HP} (h : Sat w l) (o : Obj) : Sat (w.alloc o) (Blk w.heap.size o :: l) :=
  ⟨fun i => i = w.heap.size, ⟨heap_alloc_new w o, fun _ => Iff.rfl⟩, fun _ _ => trivial, SatF.move h (fun i _ hl => ⟨Below.heap_alloc w o i hl, trivial, by omega⟩)⟩
theorem Sat.alloc_skip {w : World} {l : List HP} (h : Sat w l) (o : Obj) : Sat (w.alloc o) l := (h.alloc o).tail

theorem heap_setCell_same {w : World} {g : Nat} {cs : Array Value} {t : TypeId} {fr : Nat × Nat} (h : w.heap[g]? = some (.cells cs t fr)) (i : Nat) (v : Value) : (w.setCell ⟨g, i, none⟩ v).heap[g]? = some (.cells (cs.setIfInBounds i v) t fr) := by
  simp [World.setCell, Array.getElem?_modify, h]

theorem mut_setCell (w : World) (a : Addr) (v : Value) {S : Foot} (hS : S a.block) : Mut w (w.setCell a v) S S :=
  ⟨(Ext.refl w).setCell a v, fun i _ hn => Below.heap_setCell w a v i (fun e => hn (e ▸ hS)), fun i hi => .inl hi⟩

theorem Sat.set {w : World} {g : Nat} {cs : Array Value} {t : TypeId} {fr : Nat × Nat} {l : List HP} (h : Sat w (Blk g (.cells cs t fr) :: l)) (i : Nat) (v : Value) :
    Sat (w.setCell ⟨g, i, none⟩ v) (Blk g (.cells (cs.setIfInBounds i v) t fr) :: l) :=
  h.mut fun S hS => ⟨S, ⟨heap_setCell_same hS.1 i v, hS.2⟩, mut_setCell w _ v ((hS.2 g).2 rfl)⟩

/-- A row's element of one cell is written. -/
theorem Sat.row_set {w : World} {e n cap : Nat} {g : Nat} {xs : List Value} {l : List HP} (h : Sat w (RowH e 1 (.slice (some ⟨g, 0, none⟩) n cap) n xs :: l)) (i : Nat) (v : Value) :
    Sat (w.setCell ⟨g, i, none⟩ v) (RowH e 1 (.slice (some ⟨g, 0, none⟩) n cap) n (xs.set i v) :: l) :=
  h.mut fun S hS => ⟨S, ⟨(hS.1.stored i v).1, hS.2⟩, mut_setCell w _ v ((hS.2 g).2 rfl)⟩

/-- What 'append' leaves. -/
theorem Sat.grown {w w1 : World} {e size n n1 : Nat} {v v1 : Value} {xs ys : List Value} {l : List HP} (h : Sat w (RowH e size v n xs :: l)) (ho : w1.ownsRow 0 e size v1 n1 ys) (hg : w.grownBy w1 v.ownBlock)
    (hat : v1.ownBlock = v.ownBlock ∨ v1.ownBlock = some w.heap.size) : Sat w1 (RowH e size v1 n1 ys :: l) :=
  h.mut fun S hS => ⟨fun i => v1.ownBlock = some i, ⟨ho, fun _ => Iff.rfl⟩, Ext.of_grown hg, fun i hi hn => hg.block i hi (fun e => hn ((hS.2 i).2 e.symm)), fun i hi => by
    rcases hat with h1 | h1
    · exact .inl ((hS.2 i).2 (h1 ▸ hi))
    · rw [h1] at hi; injection hi with hi; exact .inr (by omega)⟩

/-- A new row of the callee's or of 'make'. -/
theorem Sat.new {w w1 : World} {e size n B : Nat} {v : Value} {xs : List Value} {l : List HP} (h : Sat w l) (hb : Below w.heap.size w w1) (ho : w1.ownsRow B e size v n xs) (hB : w.heap.size ≤ B) : Sat w1 (RowH e size v n xs :: l) := by
  have h0 : w1.ownsRow 0 e size v n xs := by
    refine ⟨ho.1, ?_⟩
    rcases ho.2 with hn | ⟨g, cap, cur, rfl, _, rest⟩
    · exact .inl hn
    · exact .inr ⟨g, cap, cur, rfl, Nat.zero_le _, rest⟩
  refine ⟨fun i => v.ownBlock = some i, ⟨h0, fun _ => Iff.rfl⟩, fun _ _ => trivial, SatF.move h (fun i _ hl => ⟨hb.block i hl, trivial, fun hi => ?_⟩)⟩
  have := (ho.lt i hi).1
  omega
theorem Sat.nil_row {w : World} {l : List HP} (h : Sat w l) (e size : Nat) : Sat w (RowH e size (.slice none 0 0) 0 [] :: l) :=
  h.new (Below.refl _ _) (World.ownsRow_nil w w.heap.size e size) (Nat.le_refl _)
/-- A block of cells that a slice literal or a make has laid, as a row. -/
theorem Sat.to_row {w : World} {l : List HP} {g e size n : Nat} {cs : Array Value} (h : Sat w (Blk g (.cells cs e (0, 0)) :: l)) (hn : cs.size = n * size) (hm : n ≤ maxLen) : Sat w (RowH e size (.slice (some ⟨g, 0, none⟩) n n) n cs.toList :: l) :=
  h.conv fun S hS => ⟨⟨by simpa using hn, .inr ⟨g, n, cs, rfl, Nat.zero_le _, hS.1, Nat.le_refl _, hm, hn, List.take_of_length_le (by simp [hn])⟩⟩, fun i => (hS.2 i).trans ⟨fun e => by simp [Value.ownBlock, e], fun e => by simpa [Value.ownBlock, eq_comm] using e⟩⟩

/-- Two blocks that are owned apart are two. -/
theorem Sat.ne {w : World} {g g' : Nat} {o o' : Obj} {l : List HP} (h : Sat w (Blk g o :: Blk g' o' :: l)) : g ≠ g' := by
  obtain ⟨S, hS, _, R, hR, hRT, _⟩ := h
  rintro rfl
  exact (hRT g ((hR.2 g).2 rfl)).2 ((hS.2 g).2 rfl)
theorem Sat.ne_row {w : World} {g e size n : Nat} {o : Obj} {v : Value} {xs : List Value} {l : List HP} (h : Sat w (Blk g o :: RowH e size v n xs :: l)) : v.ownBlock ≠ some g := by
  obtain ⟨S, hS, _, R, hR, hRT, _⟩ := h
  intro e
  exact (hRT g ((hR.2 g).2 e)).2 ((hS.2 g).2 rfl)

/-! ### The same at the k-th place: the order stays -/
theorem Sat.mutAt {w w' : World} {l : List HP} (h : Sat w l) (k : Nat) {H H' : HP} (hk : l[k]? = some H) (hm : ∀ S, H.h w S → ∃ S', H'.h w' S' ∧ Mut w w' S S') : Sat w' (l.set k H') := by
  have h1 := (h.front k hk).mut hm
  refine Sat.back k (x := H') ?_ ?_
  · rwa [List.eraseIdx_set_eq]
  · have := (List.getElem?_eq_some_iff.1 hk).1
    simp [this]
theorem Sat.at_ {w : World} {l : List HP} (h : Sat w l) (k : Nat) {H : HP} (hk : l[k]? = some H) : ∃ S, H.h w S := (h.front k hk).head
theorem Sat.blkAt {w : World} {l : List HP} (h : Sat w l) (k : Nat) {g : Nat} {o : Obj} (hk : l[k]? = some (Blk g o)) : w.heap[g]? = some o := (h.front k hk).blk
theorem Sat.rowAt {w : World} {l : List HP} (h : Sat w l) (k : Nat) {e size n : Nat} {v : Value} {xs : List Value} (hk : l[k]? = some (RowH e size v n xs)) : w.ownsRow 0 e size v n xs := (h.front k hk).row
theorem Sat.setAt {w : World} {l : List HP} (h : Sat w l) (k : Nat) {g : Nat} {cs : Array Value} {t : TypeId} {fr : Nat × Nat} (hk : l[k]? = some (Blk g (.cells cs t fr))) (i : Nat) (v : Value) :
    Sat (w.setCell ⟨g, i, none⟩ v) (l.set k (Blk g (.cells (cs.setIfInBounds i v) t fr))) :=
  h.mutAt k hk fun S hS => ⟨S, ⟨heap_setCell_same hS.1 i v, hS.2⟩, mut_setCell w _ v ((hS.2 g).2 rfl)⟩
theorem Sat.rowSetAt {w : World} {l : List HP} (h : Sat w l) (k : Nat) {e n cap : Nat} {g : Nat} {xs : List Value} (hk : l[k]? = some (RowH e 1 (.slice (some ⟨g, 0, none⟩) n cap) n xs)) (i : Nat) (v : Value) :
    Sat (w.setCell ⟨g, i, none⟩ v) (l.set k (RowH e 1 (.slice (some ⟨g, 0, none⟩) n cap) n (xs.set i v))) :=
  h.mutAt k hk fun S hS => ⟨S, ⟨(hS.1.stored i v).1, hS.2⟩, mut_setCell w _ v ((hS.2 g).2 rfl)⟩
theorem Sat.grownAt {w w1 : World} {l : List HP} (h : Sat w l) (k : Nat) {e size n n1 : Nat} {v v1 : Value} {xs ys : List Value} (hk : l[k]? = some (RowH e size v n xs)) (ho : w1.ownsRow 0 e size v1 n1 ys) (hg : w.grownBy w1 v.ownBlock)
    (hat : v1.ownBlock = v.ownBlock ∨ v1.ownBlock = some w.heap.size) : Sat w1 (l.set k (RowH e size v1 n1 ys)) :=
  h.mutAt k hk fun S hS => ⟨fun i => v1.ownBlock = some i, ⟨ho, fun _ => Iff.rfl⟩, Ext.of_grown hg, fun i hi hn => hg.block i hi (fun e => hn ((hS.2 i).2 e.symm)), fun i hi => by
    rcases hat with h1 | h1
    · exact .inl ((hS.2 i).2 (h1 ▸ hi))
    · rw [h1] at hi; injection hi with hi; exact .inr (by omega)⟩

/-- 'append(v, x)' AND 'append(v, x, y)', THE NEW CELLS IN A BLOCK JUST LAID: the row at the k-th place grows. -/
theorem wpList_append_sat {P : Program} {ops : Array Oper} {rest : List Oper} {o : Oper} {a : Act} {Q : Exit → Act → World → Prop} {W : World} {l : List HP} (hgd : o.guard = none) (s x : Operand) (t : TypeId)
    (ho : o.op = .call { callee := .builtin .append, args := #[s, x], argTypes := #[t, t] })
    (e : TypeId) (z : Value) (size bytes : Nat) (ht : P.underlying t = some (.slice e)) (hinfo : (P.info? e).map (fun i => (i.zero, i.size, i.bytes)) = some (some z, size, bytes)) (hzs : z.cells.size = size) (hsz : 0 < size)
    (v : Value) (n : Nat) (xs : List Value) (hs : a.eval s = v) (H : Sat W l) (k : Nat) (hk : l[k]? = some (RowH e size v n xs))
    (m c : Nat) (news : List Value) (hx : a.eval x = .slice (some ⟨W.heap.size, 0, none⟩) m c) (hl : news.length = m * size) (h1 : ∀ u ∈ news, u.oneCell' = true)
    (hbytes : (n + m) * bytes ≤ 140737488355328) (h63 : n + m ≤ 140737488355328)
    (h : ∀ v1 w1, Sat w1 (l.set k (RowH e size v1 (n + m) (xs ++ news))) → Ext W w1 → wpList P ops Q rest (a.put o.dst v1) w1) :
    wpList P ops Q (o :: rest) a (W.alloc (.cells news.toArray e)) := by
  obtain ⟨i0, hi, hzz⟩ := Option.map_eq_some_iff.1 hinfo
  simp only [Prod.mk.injEq] at hzz
  obtain ⟨hz0, hz1, hz2⟩ := hzz
  have H1 := H.alloc_skip (.cells news.toArray e)
  refine wpList_append_own_at (W.alloc (.cells news.toArray e)) hgd s x t ho 0 e i0 z size bytes ht hi hz0 hz1 hz2 hzs hsz v n xs hs (H1.rowAt k hk) ⟨W.heap.size, 0, none⟩ m c news hx hl (fun j u hu => ?_) h1 (by simp only [maxLen]; omega) hbytes (Nat.zero_le _) ?_
  · rw [Addr.add_lit, Nat.zero_add, blk_cell (heap_alloc_new W _)]
    simpa using hu
  · intro v1 w1 hown hg _ hat
    exact h v1 w1 (H1.grownAt k hk hown hg hat) (((Ext.refl W).alloc _).trans (Ext.of_grown hg))

/-- 'append(v, ys...)': the row at the k-th place grows by what ys reads. -/
theorem wpList_append_from {P : Program} {ops : Array Oper} {rest : List Oper} {o : Oper} {a : Act} {Q : Exit → Act → World → Prop} {W : World} {l : List HP} (hgd : o.guard = none) (s x : Operand) (t : TypeId)
    (ho : o.op = .call { callee := .builtin .append, args := #[s, x], argTypes := #[t, t] })
    (e : TypeId) (z : Value) (size bytes : Nat) (ht : P.underlying t = some (.slice e)) (hinfo : (P.info? e).map (fun i => (i.zero, i.size, i.bytes)) = some (some z, size, bytes)) (hzs : z.cells.size = size) (hsz : 0 < size)
    (v : Value) (n : Nat) (xs : List Value) (hs : a.eval s = v) (H : Sat W l) (k : Nat) (hk : l[k]? = some (RowH e size v n xs))
    (ad : Addr) (m c : Nat) (news : List Value) (hx : a.eval x = .slice (some ad) m c) (hl : news.length = m * size) (hnews : ∀ j u, news[j]? = some u → W.cell? (ad.add j) = some u) (h1 : ∀ u ∈ news, u.oneCell' = true)
    (hbytes : (n + m) * bytes ≤ 140737488355328) (h63 : n + m ≤ 140737488355328)
    (h : ∀ v1 w1, Sat w1 (l.set k (RowH e size v1 (n + m) (xs ++ news))) → Ext W w1 → wpList P ops Q rest (a.put o.dst v1) w1) :
    wpList P ops Q (o :: rest) a W := by
  obtain ⟨i0, hi, hzz⟩ := Option.map_eq_some_iff.1 hinfo
  simp only [Prod.mk.injEq] at hzz
  obtain ⟨hz0, hz1, hz2⟩ := hzz
  refine wpList_append_own_at W hgd s x t ho 0 e i0 z size bytes ht hi hz0 hz1 hz2 hzs hsz v n xs hs (H.rowAt k hk) ad m c news hx hl hnews h1 (by simp only [maxLen]; omega) hbytes (Nat.zero_le _) ?_
  intro v1 w1 hown hg _ hat
  exact h v1 w1 (H.grownAt k hk hown hg hat) (Ext.of_grown hg)

end Go.Proofs.YtompmejidaddoaaDoor
