/- A row's arguments behind the call; a contract used at a world. -/
import Derived.Test.YtompmejidaddoaaDoorEngI
import Derived.ProofKit
import Derived.LaidMore
import Derived.OpenShut
import Derived.Stop.Joined
set_option linter.unusedVariables false
set_option linter.unusedSimpArgs false
namespace Go.Proofs.YtompmejidaddoaaDoor
open Go Go.ChangeShapes Go.WideShapes Go.ChangeAt Go.RowKit
/-- The arguments read behind as ahead where nothing old has turned. -/
theorem below_trodP {H : Type} {enc : TypeId × Value → H} {P : Program} (hlo : laidOutB P = true) {W W' : World} (hb : Below W.heap.size W W') : ∀ {ts : List TypeId} {vs : List Value} {ds : List (DataW H)} {ps : List MemPlace}, (ts.all fun t => P.readableRec t && decide (t < P.types.size)) = true → (∀ x ∈ ps, x.block < W.heap.size) → DataW.TrodAll enc P W 0 (fun _ => true) true ts vs ds ps → DataW.TrodAll enc P W' 0 (fun b => decide (b < W.heap.size)) true ts vs ds ps
  | [], vs, ds, ps, ht, hlt, h => by
    obtain ⟨rfl, rfl, rfl⟩ := trodAll_nil h
    exact trodAll_mk0
  | t :: ts, vs, ds, ps, ht, hlt, h => by
    obtain ⟨v, vs', d, ds', p, q, rfl, rfl, rfl, hd, hr⟩ := trodAll_cons h
    simp only [List.all_cons, Bool.and_eq_true, decide_eq_true_eq] at ht
    exact trodAll_cons_mk (Below.trod hlo ht.1.1 ht.1.2 hd hb fun x hx => hlt x (List.mem_append_left _ hx)) (below_trodP hlo hb ht.2 (fun x hx => hlt x (List.mem_append_right _ hx)) hr)
/-- A contract that reads what was there, used at a world. -/
theorem Ct.at_old {P : Program} {F : FuncId} {args : List Value} {val : Value} {W : World} (h : Ct P F args [.old W] [] (X := Unit) (fun _ => val) (fun _ => [])) : Calls P F args.toArray W fun e w' => e = .returned val ∧ Below W.heap.size W w' :=
  (h W [] (show Sat W (hps [.old W] ++ []) from Sat_old W)).mono fun e w' ⟨_, h1, h2, h3⟩ => ⟨h1, Sat.below_old h2 h3⟩
end Go.Proofs.YtompmejidaddoaaDoor
