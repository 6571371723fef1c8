/- Maps that a call makes, as lists of keys and values: what the model's operations do to them. No program. -/
import Derived.Test.YtompmejidaddoaaDoorSep
import Derived.Maps.OwnSet
import Derived.WideKeyEntry
set_option linter.unusedVariables false
set_option linter.unusedSimpArgs false
namespace Go.Proofs.YtompmejidaddoaaDoor
open Go.RowKit Go.ChangeMaps Go.MapKept Go.WideElems
open Go.Maps (Keyed)

section assoc
variable {κ ν : Type} [DecidableEq κ]
def aget (l : List (κ × ν)) (x : κ) : Option ν := match l with
  | [] => none
  | p :: r => if p.1 = x then some p.2 else aget r x
def ADist (l : List (κ × ν)) : Prop := l.Pairwise (fun a b => a.1 ≠ b.1)
def aput (l : List (κ × ν)) (x : κ) (v : ν) : List (κ × ν) := match l with
  | [] => [(x, v)]
  | p :: r => if p.1 = x then (x, v) :: r else p :: aput r x v
def adel (l : List (κ × ν)) (x : κ) : List (κ × ν) := l.filter fun p => !decide (p.1 = x)
theorem aget_none {l : List (κ × ν)} {x : κ} (h : ∀ p ∈ l, p.1 ≠ x) : aget l x = none := by
  induction l with
  | nil => rfl
  | cons p r ih =>
    rw [aget, if_neg (h p (by simp))]
    exact ih fun q hq => h q (by simp [hq])
theorem aget_at {l : List (κ × ν)} (hd : ADist l) {j : Nat} {p : κ × ν} (h : l[j]? = some p) : aget l p.1 = some p.2 := by
  induction l generalizing j with
  | nil => simp at h
  | cons q r ih =>
    cases j with
    | zero => simp at h; subst h; simp [aget]
    | succ j =>
      have hr : r[j]? = some p := by simpa using h
      have hq := (List.pairwise_cons.1 hd).1 p (List.mem_of_getElem? hr)
      rw [aget, if_neg hq]
      exact ih (List.pairwise_cons.1 hd).2 hr
theorem aput_none {l : List (κ × ν)} {x : κ} (h : ∀ p ∈ l, p.1 ≠ x) (v : ν) : aput l x v = l ++ [(x, v)] := by
  induction l with
  | nil => rfl
  | cons p r ih =>
    rw [aput, if_neg (h p (by simp)), ih fun q hq => h q (by simp [hq])]
    rfl
theorem aput_at {l : List (κ × ν)} (hd : ADist l) {j : Nat} {p : κ × ν} (h : l[j]? = some p) (v : ν) : aput l p.1 v = l.set j (p.1, v) := by
  induction l generalizing j with
  | nil => simp at h
  | cons q r ih =>
    cases j with
    | zero => simp at h; subst h; simp [aput]
    | succ j =>
      have hr : r[j]? = some p := by simpa using h
      have hq := (List.pairwise_cons.1 hd).1 p (List.mem_of_getElem? hr)
      rw [aput, if_neg hq, ih (List.pairwise_cons.1 hd).2 hr]
      rfl
theorem adel_none {l : List (κ × ν)} {x : κ} (h : ∀ p ∈ l, p.1 ≠ x) : adel l x = l := by
  unfold adel
  exact List.filter_eq_self.2 fun p hp => by simp [h p hp]
theorem adel_at {l : List (κ × ν)} (hd : ADist l) {j : Nat} {p : κ × ν} (h : l[j]? = some p) : adel l p.1 = l.eraseIdx j := by
  induction l generalizing j with
  | nil => simp at h
  | cons q r ih =>
    cases j with
    | zero =>
      simp at h
      subst h
      have := (List.pairwise_cons.1 hd).1
      show (q :: r).filter _ = _
      rw [List.filter_cons, if_neg (by simp)]
      exact adel_none fun p hp => (this p hp).symm
    | succ j =>
      have hr : r[j]? = some p := by simpa using h
      have hq := (List.pairwise_cons.1 hd).1 p (List.mem_of_getElem? hr)
      show (q :: r).filter _ = _
      rw [List.filter_cons, if_pos (by simp [hq])]
      show q :: adel r p.1 = _
      rw [ih (List.pairwise_cons.1 hd).2 hr]
      rfl
theorem aput_dist {l : List (κ × ν)} (hd : ADist l) (x : κ) (v : ν) : ADist (aput l x v) := by
  have key : ∀ (l : List (κ × ν)) (q : κ × ν), q ∈ aput l x v → q.1 = x ∨ q ∈ l := by
    intro l
    induction l with
    | nil => intro q hq; simp [aput] at hq; exact .inl (by rw [hq])
    | cons p r ih =>
      intro q hq
      rw [aput] at hq
      split at hq
      · rcases List.mem_cons.1 hq with rfl | hq
        · exact .inl rfl
        · exact .inr (by simp [hq])
      · rcases List.mem_cons.1 hq with rfl | hq
        · exact .inr (by simp)
        · exact (ih q hq).imp id fun h => by simp [h]
  induction l with
  | nil => simp [aput, ADist]
  | cons p r ih =>
    have h1 := List.pairwise_cons.1 hd
    rw [aput]
    split
    · rename_i e
      exact List.pairwise_cons.2 ⟨fun q hq => by rw [← e]; exact h1.1 q hq, h1.2⟩
    · rename_i e
      refine List.pairwise_cons.2 ⟨fun q hq => ?_, ih h1.2⟩
      rcases key r q hq with h | h
      · rw [h]; exact e
      · exact h1.1 q h
theorem aget_aput (l : List (κ × ν)) (x y : κ) (v : ν) : aget (aput l x v) y = if y = x then some v else aget l y := by
  induction l with
  | nil => simp [aput, aget, eq_comm]
  | cons p r ih =>
    rw [aput]
    split
    · rename_i e
      simp only [aget]
      by_cases h : x = y
      · simp [h]
      · rw [if_neg h, if_neg (Ne.symm h), e, if_neg h]
    · rename_i e
      simp only [aget]
      rw [ih]
      by_cases h : p.1 = y
      · have : ¬ y = x := fun e2 => e (h.trans e2)
        simp [h, this]
      · simp [h]
theorem aget_adel (l : List (κ × ν)) (x y : κ) : aget (adel l x) y = if y = x then none else aget l y := by
  induction l with
  | nil => simp [adel, aget]
  | cons p r ih =>
    unfold adel at ih ⊢
    rw [List.filter_cons]
    by_cases h : p.1 = x
    · rw [if_neg (by simp [h]), ih]
      simp only [aget]
      by_cases h2 : y = x
      · simp [h2]
      · rw [if_neg h2, if_neg h2, if_neg (fun e => h2 (e.symm.trans h))]
    · rw [if_pos (by simp [h])]
      simp only [aget]
      rw [ih]
      by_cases h2 : y = x
      · subst h2; simp [h]
      · simp [h2]
theorem adel_dist {l : List (κ × ν)} (hd : ADist l) (x : κ) : ADist (adel l x) := hd.filter _
theorem aput_mem {l : List (κ × ν)} {x : κ} {v : ν} {q : κ × ν} (h : q ∈ aput l x v) : q.1 = x ∨ q ∈ l := by
  induction l with
  | nil => simp [aput] at h; exact .inl (by rw [h])
  | cons p r ih =>
    rw [aput] at h
    split at h
    · rcases List.mem_cons.1 h with rfl | h
      · exact .inl rfl
      · exact .inr (by simp [h])
    · rcases List.mem_cons.1 h with rfl | h
      · exact .inr (by simp)
      · exact (ih h).imp id fun h => by simp [h]
end assoc

/-- What the operations need of a key's type. -/
structure KK (P : Program) (k : TypeId) {κ : Type} (ek : κ → Value) (V : κ → Prop) : Prop where
  keyed : Keyed P k
  key : ∀ x, V x → ∃ l, keyOf P k (ek x) = some l
  inj : ∀ x y, ek x = ek y → x = y

section
variable {P : Program} {k : TypeId} {κ ν : Type} {ek : κ → Value} {ev : ν → Value} {V : κ → Prop}

structure MapIs (P : Program) (k : TypeId) (ek : κ → Value) (ev : ν → Value) (V : κ → Prop) (es : Array MapEntry) (clock : Nat) (l : List (κ × ν)) : Prop where
  kv : es.toList.map (fun e => (e.key, e.val)) = l.map fun p => (ek p.1, ev p.2)
  valid : ∀ p ∈ l, V p.1
  dist : ADist l
  stamped : Stamped es clock

/-- Block r is a map of these keys and values. -/
def MapH (P : Program) (k : TypeId) (ek : κ → Value) (ev : ν → Value) (V : κ → Prop) (r : Nat) (l : List (κ × ν)) : HP :=
  HP.ex fun es : Array MapEntry => HP.ex fun clock : Nat => HP.and (MapIs P k ek ev V es clock l) (Blk r (.map es clock))
theorem MapH_iff {w : World} {r : Nat} {l : List (κ × ν)} {L : List HP} : Sat w (MapH P k ek ev V r l :: L) ↔ ∃ es clock, MapIs P k ek ev V es clock l ∧ Sat w (Blk r (.map es clock) :: L) := by
  simp only [MapH, Sat_ex, Sat_and]

theorem map_empty : MapIs P k ek ev V #[] 0 ([] : List (κ × ν)) := ⟨rfl, by simp, List.Pairwise.nil, stamped_empty 0⟩
theorem MapIs.entry {es : Array MapEntry} {clock : Nat} {l : List (κ × ν)} (M : MapIs P k ek ev V es clock l) {j : Nat} {e : MapEntry} (h : es.toList[j]? = some e) : ∃ p, l[j]? = some p ∧ e.key = ek p.1 ∧ e.val = ev p.2 := by
  have h1 := congrArg (fun a => a[j]?) M.kv
  simp only [List.getElem?_map, h, Option.map_some] at h1
  cases hl : l[j]? with
  | none => rw [hl] at h1; simp at h1
  | some p =>
    rw [hl] at h1
    simp only [Option.map_some, Option.some.injEq, Prod.mk.injEq] at h1
    exact ⟨p, rfl, h1.1, h1.2⟩
theorem MapIs.back {es : Array MapEntry} {clock : Nat} {l : List (κ × ν)} (M : MapIs P k ek ev V es clock l) {p : κ × ν} (h : p ∈ l) : ∃ e ∈ es.toList, e.key = ek p.1 := by
  have h1 : (ek p.1, ev p.2) ∈ es.toList.map (fun e => (e.key, e.val)) := by rw [M.kv]; exact List.mem_map.2 ⟨p, h, rfl⟩
  obtain ⟨e, he, h2⟩ := List.mem_map.1 h1
  simp only [Prod.mk.injEq] at h2
  exact ⟨e, he, h2.1⟩
theorem MapIs.keys {es : Array MapEntry} {clock : Nat} {l : List (κ × ν)} (K : KK P k ek V) (M : MapIs P k ek ev V es clock l) : ∀ e ∈ es.toList, ∃ x, keyOf P k e.key = some x := by
  intro e he
  obtain ⟨j, hj⟩ := List.getElem?_of_mem he
  obtain ⟨p, hp, h1, _⟩ := M.entry hj
  rw [h1]
  exact K.key _ (M.valid p (List.mem_of_getElem? hp))

/-- Where a key is, if it is there. -/
theorem MapIs.find {es : Array MapEntry} {clock : Nat} {l : List (κ × ν)} (K : KK P k ek V) (M : MapIs P k ek ev V es clock l) (w : World) (x : κ) (hx : V x) :
    ((Instr.findKey k (ek x) es.toList).run P w = .ok none w ∧ ∀ p ∈ l, p.1 ≠ x) ∨
    ∃ j v e, (Instr.findKey k (ek x) es.toList).run P w = .ok (some (j, ev v)) w ∧ l[j]? = some (x, v) ∧ es.toList[j]? = some e ∧ e.key = ek x ∧ e.val = ev v := by
  obtain ⟨lx, hlx⟩ := K.key x hx
  rcases K.keyed.find w hlx es.toList (M.keys K) with ⟨h1, h2⟩ | ⟨j, e, h1, h2, h3⟩
  · refine .inl ⟨h1, fun p hp e => ?_⟩
    obtain ⟨e', he', hk⟩ := M.back hp
    exact h2 e' he' (by rw [hk, e])
  · obtain ⟨p, hp, g1, g2⟩ := M.entry h2
    have hpx : p.1 = x := K.inj _ _ (g1.symm.trans h3)
    refine .inr ⟨j, p.2, e, by rw [h1, g2], ?_, h2, h3, g2⟩
    rw [hp, ← hpx]

theorem MapIs.check {es : Array MapEntry} {clock : Nat} {l : List (κ × ν)} (K : KK P k ek V) (w : World) (em : Bool) (x : κ) (hx : V x) : (Instr.checkKey em 10000 k (ek x)).run P w = .ok () w := by
  obtain ⟨lx, hlx⟩ := K.key x hx
  exact K.keyed.check w em hlx

section
variable [DecidableEq κ]
theorem map_look {t e : TypeId} {z : Value} {es : Array MapEntry} {clock : Nat} {l : List (κ × ν)} {w : World} {r : Nat} (K : KK P k ek V) (M : MapIs P k ek ev V es clock l) (ht : P.underlying t = some (.map k e)) (hz : ∀ W : World, (zeroValue e).run P W = .ok z W)
    (hb : w.heap[r]? = some (.map es clock)) (x : κ) (hx : V x) (c : Bool) :
    (Instr.lookup t (.map (some r)) (ek x) c).run P w = .ok (if c then .tuple #[((aget l x).map ev).getD z, .bool (aget l x).isSome] else ((aget l x).map ev).getD z) w := by
  have hc := fun em => MapIs.check (es := es) (clock := clock) (l := l) (ν := ν) K w em x hx
  rcases M.find K w x hx with ⟨h1, h2⟩ | ⟨j, v, e0, h1, h2, _⟩
  · rw [aget_none h2]
    cases c <;> simp [Instr.lookup, run_underlying ht, MapKept.run_getObj_map hb, hc, h1, hz, Result.andThen]
  · have := aget_at M.dist h2
    simp only at this
    rw [this]
    cases c <;> simp [Instr.lookup, run_underlying ht, MapKept.run_getObj_map hb, hc, h1, Result.andThen]

end
theorem look_nil {t e : TypeId} {z : Value} {w : World} (K : KK P k ek V) (ht : P.underlying t = some (.map k e)) (hz : ∀ W : World, (zeroValue e).run P W = .ok z W) (x : κ) (hx : V x) (c : Bool) :
    (Instr.lookup t (.map none) (ek x) c).run P w = .ok (if c then .tuple #[z, .bool false] else z) w := by
  obtain ⟨lx, hlx⟩ := K.key x hx
  exact Maps.look_nil c K.keyed ht (hz w) hlx

section
variable [DecidableEq κ]
theorem MapIs.store {es : Array MapEntry} {clock j : Nat} {l : List (κ × ν)} {e0 : MapEntry} {x : κ} {v : ν} (M : MapIs P k ek ev V es clock l) (v1 : ν) (hl : l[j]? = some (x, v)) (he' : es.toList[j]? = some e0) (hk : e0.key = ek x) :
    MapIs P k ek ev V (es.modify j fun e => { e with key := ek x, val := ev v1 }) clock (aput l x v1) := by
  have hp := aput_at M.dist hl v1
  simp only at hp
  rw [hp]
  have hs : (es.modify j fun e => { e with key := ek x, val := ev v1 }).toList = es.toList.set j { e0 with key := ek x, val := ev v1 } := by
    rw [Array.toList_modify, modify_eq_set _ _ _ _ he']
  refine ⟨?_, ?_, ?_, ?_⟩
  · rw [hs, List.map_set, M.kv, List.map_set]
  · intro p hp
    rcases List.mem_or_eq_of_mem_set hp with h | h
    · exact M.valid p h
    · rw [h]; exact M.valid (x, v) (List.mem_of_getElem? hl)
  · rw [← hp]; exact aput_dist M.dist _ _
  · exact stamped_modify M.stamped j _ (fun _ _ => rfl) (fun e he h => by
      have : e = e0 := by
        have h2 : es[j]? = some e0 := by simpa using he'
        rw [h2] at h
        exact (Option.some.inj h).symm
      rw [this]; exact hk.symm)
theorem MapIs.push {es : Array MapEntry} {clock : Nat} {l : List (κ × ν)} {x : κ} (K : KK P k ek V) (M : MapIs P k ek ev V es clock l) (v1 : ν) (hx : V x) (hn : ∀ p ∈ l, p.1 ≠ x) :
    MapIs P k ek ev V (es.push ⟨ek x, ev v1, clock⟩) (clock + 1) (aput l x v1) := by
  have hp := aput_none hn v1
  rw [hp]
  refine ⟨by rw [Array.toList_push, List.map_append, M.kv]; simp, ?_, ?_, ?_⟩
  · intro p hp
    rcases List.mem_append.1 hp with h | h
    · exact M.valid p h
    · simp at h; rw [h]; exact hx
  · rw [← hp]; exact aput_dist M.dist _ _
  · refine stamped_push M.stamped fun e he h => ?_
    obtain ⟨j, hj⟩ := List.getElem?_of_mem he
    obtain ⟨p, hp, h1, _⟩ := M.entry hj
    exact hn p (List.mem_of_getElem? hp) (K.inj _ _ (h1.symm.trans h))
theorem MapIs.drop {es : Array MapEntry} {clock j : Nat} {l : List (κ × ν)} {x : κ} {v : ν} (M : MapIs P k ek ev V es clock l) (hl : l[j]? = some (x, v)) :
    MapIs P k ek ev V (es.eraseIdxIfInBounds j) clock (adel l x) := by
  have hp := adel_at M.dist hl
  simp only at hp
  have hjl : j < l.length := (List.getElem?_eq_some_iff.1 hl).1
  have hjs : j < es.size := by
    have := congrArg List.length M.kv
    simp at this
    omega
  have hsub : (es.eraseIdxIfInBounds j).toList = es.toList.eraseIdx j := by
    unfold Array.eraseIdxIfInBounds
    rw [dif_pos hjs]
    simp
  refine ⟨?_, fun p hp => M.valid p (List.mem_filter.1 hp).1, adel_dist M.dist x, stamped_erase M.stamped j⟩
  rw [hp, hsub, map_eraseIdx, M.kv, map_eraseIdx]

/-- 'm[x] = v' as the two steps of a statement of several: the entry, then the store. -/
theorem map_entry {t e : TypeId} {z : Value} {es : Array MapEntry} {clock : Nat} {l : List (κ × ν)} {w : World} {r : Nat} (K : KK P k ek V) (M : MapIs P k ek ev V es clock l) (ht : P.underlying t = some (.map k e)) (hz : ∀ W : World, (zeroValue e).run P W = .ok z W)
    (hb : w.heap[r]? = some (.map es clock)) (x : κ) (hx : V x) :
    ∃ v0 st es1 clock1, (Instr.mapEntry t (.map (some r)) (ek x)).run P w = .ok (.tuple #[v0, goInt st]) (setBlock w r (.map es1 clock1)) ∧
      ∀ (w2 : World) (v : ν), w2.heap[r]? = some (.map es1 clock1) → ∃ es' clock', (Instr.entryStore t (.map (some r)) (goInt st) (ev v)).run P w2 = .ok () (setBlock w2 r (.map es' clock')) ∧ MapIs P k ek ev V es' clock' (aput l x v) := by
  have hc := fun em => MapIs.check (es := es) (clock := clock) (l := l) (ν := ν) K w em x hx
  obtain ⟨s1, s2, _⟩ := M.stamped
  rcases M.find K w x hx with ⟨h1, h2⟩ | ⟨j, v0, e0, h1, h2, h3, h4, h5⟩
  · refine ⟨z, clock, es.push ⟨ek x, z, clock⟩, clock + 1, ?_, fun w2 v hw2 => ⟨es.push ⟨ek x, ev v, clock⟩, clock + 1, ?_, M.push K v hx h2⟩⟩
    · simp [Instr.mapEntry, run_underlying ht, MapKept.run_getObj_map hb, hc, h1, hz, MapKept.run_setObj_map _ hb, Result.andThen, setBlock]
    · have hidx : (es.push ⟨ek x, z, clock⟩).findIdx? (fun e => ((e.born : Nat) : Int) == ((clock : Nat) : Int)) = some es.size := by
        rw [findIdx_arr]
        have := findIdx_born (l := (es.push ⟨ek x, z, clock⟩).toList) (j := es.size) (e0 := ⟨ek x, z, clock⟩) (by
          simp only [Array.toList_push, List.map_append, List.map_cons, List.map_nil]
          refine List.nodup_append.2 ⟨s2, by simp, fun a ha c hc e1 => ?_⟩
          simp only [List.mem_singleton] at hc
          obtain ⟨y, hy, rfl⟩ := List.mem_map.1 ha
          have := s1 y hy
          omega) (by simp)
        exact this
      have hmod : (es.push ⟨ek x, z, clock⟩).modify es.size (fun e => { e with val := ev v }) = es.push ⟨ek x, ev v, clock⟩ := by
        apply Array.ext'
        rw [Array.toList_modify, Array.toList_push, Array.toList_push, ← Array.length_toList, modify_last]
      simp [Instr.entryStore, MapKept.run_getObj_map hw2, asInt, asIntOf, goInt, hidx, hmod, MapKept.run_setObj_map _ hw2, Result.andThen, setBlock]
  · obtain ⟨lx, hlx⟩ := K.key x hx
    have hj : es[j]? = some e0 := by simpa using h3
    have hsame : es.modify j (fun e => { e with key := ek x }) = es := by
      apply Array.ext'
      rw [Array.toList_modify, modify_eq_set _ _ _ _ h3]
      have : ({ e0 with key := ek x } : MapEntry) = e0 := by rw [← h4]
      rw [this]
      exact set_self _ _ _ h3
    refine ⟨ev v0, e0.born, es, clock, ?_, fun w2 v hw2 => ⟨es.modify j (fun e' => { e' with key := ek x, val := ev v }), clock, ?_, M.store v h2 h3 h4⟩⟩
    · simp [Instr.mapEntry, run_underlying ht, MapKept.run_getObj_map hb, hc, h1, hj, h4, K.keyed.stays w hlx, hsame, MapKept.run_setObj_map _ hb, Result.andThen, setBlock]
    · have hidx : es.findIdx? (fun e => ((e.born : Nat) : Int) == ((e0.born : Nat) : Int)) = some j := by
        rw [findIdx_arr]
        exact findIdx_born s2 h3
      have hmod : es.modify j (fun e => { e with val := ev v }) = es.modify j (fun e' => { e' with key := ek x, val := ev v }) := by
        apply Array.ext'
        rw [Array.toList_modify, Array.toList_modify, modify_eq_set _ _ _ _ h3, modify_eq_set _ _ _ _ h3, ← h4]
      simp [Instr.entryStore, MapKept.run_getObj_map hw2, asInt, asIntOf, goInt, hidx, hmod, MapKept.run_setObj_map _ hw2, Result.andThen, setBlock]
theorem map_update {t e : TypeId} {es : Array MapEntry} {clock : Nat} {l : List (κ × ν)} {w : World} {r : Nat} (K : KK P k ek V) (M : MapIs P k ek ev V es clock l) (ht : P.underlying t = some (.map k e))
    (hb : w.heap[r]? = some (.map es clock)) (x : κ) (hx : V x) (v : ν) :
    ∃ es' clock', (Instr.mapUpdate t (.map (some r)) (ek x) (ev v)).run P w = .ok () (setBlock w r (.map es' clock')) ∧ MapIs P k ek ev V es' clock' (aput l x v) := by
  have hc := fun em => MapIs.check (es := es) (clock := clock) (l := l) (ν := ν) K w em x hx
  rcases M.find K w x hx with ⟨h1, h2⟩ | ⟨j, v0, e0, h1, h2, h3, h4, h5⟩
  · refine ⟨es.push ⟨ek x, ev v, clock⟩, clock + 1, ?_, M.push K v hx h2⟩
    simp [Instr.mapUpdate, run_underlying ht, MapKept.run_getObj_map hb, hc, h1, MapKept.run_setObj_map _ hb, Result.andThen, setBlock]
  · obtain ⟨lx, hlx⟩ := K.key x hx
    have hj : es[j]? = some e0 := by simpa using h3
    refine ⟨es.modify j (fun e' => { e' with key := ek x, val := ev v }), clock, ?_, M.store v h2 h3 h4⟩
    simp [Instr.mapUpdate, run_underlying ht, MapKept.run_getObj_map hb, hc, h1, hj, h4, K.keyed.stays w hlx, MapKept.run_setObj_map _ hb, Result.andThen, setBlock]
theorem map_delete {t e ty : TypeId} {es : Array MapEntry} {clock : Nat} {l : List (κ × ν)} {w : World} {r : Nat} (K : KK P k ek V) (M : MapIs P k ek ev V es clock l) (ht : P.underlying t = some (.map k e))
    (hb : w.heap[r]? = some (.map es clock)) (x : κ) (hx : V x) :
    ∃ es', (Builtin.delete_ #[t, k] ty #[.map (some r), ek x]).run P w = .ok (.tuple #[]) (setBlock w r (.map es' clock)) ∧ MapIs P k ek ev V es' clock (adel l x) := by
  have hc := fun em => MapIs.check (es := es) (clock := clock) (l := l) (ν := ν) K w em x hx
  rcases M.find K w x hx with ⟨h1, h2⟩ | ⟨j, v0, e0, h1, h2, h3, h4, h5⟩
  · refine ⟨es, ?_, by rw [adel_none h2]; exact M⟩
    simp [Builtin.delete_, run_underlying ht, MapKept.run_getObj_map hb, hc, h1, MapKept.run_setObj_map _ hb, Result.andThen, setBlock]
  · refine ⟨es.eraseIdxIfInBounds j, ?_, M.drop h2⟩
    simp [Builtin.delete_, run_underlying ht, MapKept.run_getObj_map hb, hc, h1, MapKept.run_setObj_map _ hb, Result.andThen, setBlock]
end
theorem map_len {t : TypeId} {e : TypeId} {es : Array MapEntry} {clock : Nat} {l : List (κ × ν)} {w : World} {r : Nat} (M : MapIs P k ek ev V es clock l) (ht : P.underlying t = some (.map k e)) (ty : TypeId)
    (hb : w.heap[r]? = some (.map es clock)) : (Builtin.len_ #[t] ty #[.map (some r)]).run P w = .ok (.int .i64 (l.length : Nat)) w := by
  have h := congrArg List.length M.kv
  simp at h
  simp [Builtin.len_, Builtin.lenOf, run_underlying ht, MapKept.run_getObj_map hb, Result.andThen, h, goInt]
end

theorem setCell_size (w : World) (a : Addr) (v : Value) : (w.setCell a v).heap.size = w.heap.size := by simp [World.setCell]
/-- A block of its own is written whole. -/
theorem heap_setBlock (w : World) (r : Nat) (o : Obj) (i : Nat) (h : i ≠ r) : (setBlock w r o).heap[i]? = w.heap[i]? := by
  simp [setBlock, Array.getElem?_setIfInBounds, Ne.symm h]
theorem Sat.block {w : World} {l : List HP} (h : Sat w l) (k : Nat) {r : Nat} {o : Obj} (hk : l[k]? = some (Blk r o)) (o' : Obj) : Sat (setBlock w r o') (l.set k (Blk r o')) :=
  h.mutAt k hk fun S hS => ⟨S, ⟨by
    have := (Array.getElem?_eq_some_iff.1 hS.1).1
    simp [setBlock, this], hS.2⟩, ⟨⟨rfl, rfl, rfl, by simp [setBlock]⟩, fun i hi hn => heap_setBlock w r o' i (fun e => hn ((hS.2 i).2 e)), fun i hi => .inl hi⟩⟩
theorem Ext.block {w w' : World} (h : Ext w w') (r : Nat) (o : Obj) : Ext w (setBlock w' r o) := h.trans ⟨rfl, rfl, rfl, by simp [setBlock]⟩
section
variable {P : Program} {k : TypeId} {κ ν : Type} {ek : κ → Value} {ev : ν → Value} {V : κ → Prop}
theorem Sat.map_block {w w' : World} {l : List HP} (h : Sat w l) (i : Nat) {r : Nat} {m m' : List (κ × ν)} {es es' : Array MapEntry} {clock clock' : Nat} (hi : l[i]? = some (MapH P k ek ev V r m)) (hb : w.heap[r]? = some (.map es clock))
    (M' : MapIs P k ek ev V es' clock' m') (hw : w' = setBlock w r (.map es' clock')) : Sat w' (l.set i (MapH P k ek ev V r m')) := by
  subst hw
  refine h.mutAt i hi fun S hS => ⟨S, ?_, ?_⟩
  · obtain ⟨es0, clock0, M, hS⟩ := hS
    exact ⟨es', clock', M', ⟨by
      have := (Array.getElem?_eq_some_iff.1 hS.1).1
      simp [setBlock, this], hS.2⟩⟩
  · obtain ⟨es0, clock0, M, hS⟩ := hS
    exact ⟨(Ext.refl w).block r _, fun i hi hn => heap_setBlock w r _ i (fun e => hn ((hS.2 i).2 e)), fun i hi => .inl hi⟩
theorem Sat.map_at {w : World} {l : List HP} (h : Sat w l) (i : Nat) {r : Nat} {m : List (κ × ν)} (hi : l[i]? = some (MapH P k ek ev V r m)) : ∃ es clock, w.heap[r]? = some (.map es clock) ∧ MapIs P k ek ev V es clock m := by
  obtain ⟨S, es, clock, M, hS⟩ := h.at_ i hi
  exact ⟨es, clock, hS.1, M⟩

variable [DecidableEq κ]
/-- 'delete(m, x)'. -/
theorem wpList_delete_sat {ops : Array Oper} {rest : List Oper} {o : Oper} {a : Act} {Q : Exit → Act → World → Prop} {W : World} {l : List HP} (hg : o.guard = none) (m x : Operand) (t : TypeId) (hop : o.op = Op.call { callee := Callee.builtin Builtin.delete, args := #[m, x], argTypes := #[t, k] })
    (e : TypeId) (K : KK P k ek V) (ht : P.underlying t = some (.map k e)) (H : Sat W l) (i : Nat) {r : Nat} {kv : List (κ × ν)} (hi : l[i]? = some (MapH P k ek ev V r kv)) (hm : a.eval m = .map (some r)) (key : κ) (hv : V key) (hx : a.eval x = ek key)
    (h : ∀ w1, Sat w1 (l.set i (MapH P k ek ev V r (adel kv key))) → Ext W w1 → wpList P ops Q rest (a.put o.dst (.tuple #[])) w1) :
    wpList P ops Q (o :: rest) a W := by
  refine wpList_plain hg fun K' hK' => ?_
  obtain ⟨es, clock, hb, M⟩ := H.map_at i hi
  obtain ⟨es', hrun, M'⟩ := map_delete (ty := o.type) K M ht hb key hv
  unfold Oper.wp
  simp [execOp, hop, resolve, invoke, builtin, hm, hx, hrun, Result.andThen]
  exact hK' _ _ (h _ (H.map_block i hi hb M' rfl) ((Ext.refl W).block _ _))
/-- 'm[x] = v'. -/
theorem wpList_update_sat {ops : Array Oper} {rest : List Oper} {o : Oper} {a : Act} {Q : Exit → Act → World → Prop} {W : World} {l : List HP} (hg : o.guard = none) (m x v : Operand) (t : TypeId) (hop : o.op = Op.mapUpdate t m x v)
    (e : TypeId) (K : KK P k ek V) (ht : P.underlying t = some (.map k e)) (H : Sat W l) (i : Nat) {r : Nat} {kv : List (κ × ν)} (hi : l[i]? = some (MapH P k ek ev V r kv)) (hm : a.eval m = .map (some r)) (key : κ) (hv : V key) (hx : a.eval x = ek key) (val : ν) (hvv : a.eval v = ev val)
    (h : ∀ w1, Sat w1 (l.set i (MapH P k ek ev V r (aput kv key val))) → Ext W w1 → wpList P ops Q rest (a.put o.dst undef) w1) :
    wpList P ops Q (o :: rest) a W := by
  refine wpList_plain hg fun K' hK' => ?_
  obtain ⟨es, clock, hb, M⟩ := H.map_at i hi
  obtain ⟨es', clock', hrun, M'⟩ := map_update K M ht hb key hv val
  unfold Oper.wp
  simp [execOp, hop, hm, hx, hvv, hrun, Result.andThen]
  exact hK' _ _ (h _ (H.map_block i hi hb M' rfl) ((Ext.refl W).block _ _))
end
end Go.Proofs.YtompmejidaddoaaDoor
