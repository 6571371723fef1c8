/- Bytes as a string. No program. -/
import Derived.Test.YtompmejidaddoaaDoorEngM
import Derived.Laws.BytesArg
set_option linter.unusedVariables false
set_option linter.unusedSimpArgs false
namespace Go.Proofs.YtompmejidaddoaaDoor
open Go Go.RowKit

def asBy : List Value → Option (List Int)
  | [] => some []
  | .int .u8 n :: l => (asBy l).map (n :: ·)
  | _ :: _ => none
theorem asBy_spec : ∀ {l : List Value} {xs : List Int}, asBy l = some xs → l = xs.map (Value.int .u8)
  | [], xs, h => by simp [asBy] at h; subst h; rfl
  | v :: l, xs, h => by
    unfold asBy at h
    split at h
    · rename_i hh; cases hh
    · rename_i n l' hh
      injection hh with h1 h2
      subst h1 h2
      obtain ⟨ys, h3, rfl⟩ := Option.map_eq_some_iff.1 h
      simp [asBy_spec h3]
    · cases h
theorem asBy_map : ∀ xs : List Int, asBy (xs.map (Value.int .u8)) = some xs
  | [] => rfl
  | x :: xs => by simp [asBy, asBy_map xs]
/-- Bytes read as a string. -/
noncomputable def Spec.str (k : Nat) : Spec := Spec.fn [k] [] fun vs cs => match vs, cs with
  | [.slice A n c], [ch] => (newsOf ch A n).bind fun l => (asBy l).map fun xs => (.string (strOfNums xs), [])
  | _, _ => none
theorem sound_str {P : Program} {o : Oper} {t u e : TypeId} {x : Operand} {k : Nat} (ho : o.op = .convert t u x) (hs' : P.underlying t = some (.slice e)) (he : P.underlying e = some (.int .u8)) (hd : P.underlying u = some .string) : Sound P o (Spec.str k) := by
  intro a w L K Q hs hp hk
  obtain ⟨v, δ, hf⟩ := hp ()
  have hf0 := hf
  have hv : Oper.vals o a = [a.eval x] := by simp [Oper.vals, ho, Op.operands]
  simp only [Spec.str, Spec.fn, hv, List.append_nil] at hf
  have hse : sel L [k] = [L.getD k .emp] := rfl
  rw [hse] at hf
  split at hf
  · rename_i A n c ch h1 h2
    simp only [List.cons.injEq, and_true] at h1 h2
    subst h2
    cases hn : newsOf (L.getD k .emp) A n with
    | none => rw [hn] at hf; cases hf
    | some l =>
      cases hb : asBy l with
      | none => rw [hn, Option.bind_some, hb] at hf; cases hf
      | some xs =>
        rw [hn, Option.bind_some, hb, Option.map_some] at hf
        injection hf with hf
        injection hf with hf1 hf2
        subst hf1 hf2
        have hl := asBy_spec hb
        have hconv : (convert t u (.slice A n c)).run P w = .ok (.string (strOfNums xs)) w := by
          cases A with
          | none =>
            have hxs : xs = [] := by
              unfold newsOf at hn
              split at hn
              · injection hn with hn; subst hn; simpa using hl.symm
              · cases hn
            subst hxs
            rw [run_convert_bytes_nil w t e hs' he n c u hd]
            rfl
          | some ad =>
            have hload : (loadCells ad n).run P w = .ok (xs.map (Value.int .u8)).toArray w := by
              unfold newsOf at hn
              split at hn
              · rename_i h0
                injection hn with hn
                subst h0
                have hx : xs = [] := by rw [← hn] at hl; simpa using hl.symm
                subst hx
                rfl
              · have hsat : ∃ l, Sat w ((L.getD k .emp).toHP :: l) := by
                  rcases Nat.lt_or_ge k L.length with hjl | hjl
                  · exact ⟨_, SatC.take hs k (by simp [List.getD, List.getElem?_eq_getElem hjl])⟩
                  · exact ⟨[], by simp only [List.getD, List.getElem?_eq_none hjl]; exact ⟨fun _ => False, ⟨trivial, fun i h => h.elim⟩, fun i h => trivial, trivial⟩⟩
                obtain ⟨l', hsat⟩ := hsat
                obtain ⟨hlen, hcells⟩ := cells_spec hsat n 0 l hn
                have := run_loadCells_list (P := P) w ad l (fun j v hj => by simpa using hcells j v hj)
                rw [hlen, hl] at this
                exact this
            rw [run_convert_bytes_string w t u e _ n c hs' he hd, run_bytesToString w ad n c xs hload, foldl_push_bytes]
            simp [strOfNums, ByteArray.empty, ByteArray.emptyWithCapacity]
            rfl
        have hr : (execOp a.eval o).run P w = .ok (.value (.string (strOfNums xs))) w := by
          simp only [execOp, ho, h1, Sem.run_bind, hconv, Result.andThen_ok, Sem.run_pure]
        unfold Oper.wp
        rw [hr]
        exact hk () _ [] w hf0 hs (Ext.refl w)
  · cases hf
theorem s_str {P : Program} {n : Nat} {env : Env} {L : List Chunk} {o : Oper} {K : Env → List Chunk → Prop} {t u e : TypeId} {x : Operand} {v : Value} {ck : Chunk} {d n' : Nat} {xs : List Int} (k : Nat)
    (ho : o.op = .convert t u x) (hs : P.underlying t = some (.slice e)) (he : P.underlying e = some (.int .u8)) (hu : P.underlying u = some .string) (hx : evE env x = some v) (hk : L[k]? = some ck) (hr : Rds ck v n' 1 (xs.map (Value.int .u8))) (hd : o.dst = some d) (hn : Nat.blt d n = true)
    (kk : K ((d, .string (strOfNums xs)) :: env) L) : StepOk P o (Spec.str k) n env L K := by
  obtain ⟨A, cc, rfl, _⟩ := hr.1.slice
  refine ⟨[.slice A n' cc], by simp [ho, Op.operands, evL, hx], by rw [hd]; exact hn, sound_str ho hs he hu, fun q => ⟨.string (strOfNums xs), [], ?_, ?_⟩⟩
  · have hse : sel L [k] = [ck] := by simp [sel, List.getD, hk]
    have hnw := news_rds hr
    rw [Nat.mul_one] at hnw
    simp only [Spec.str, Spec.fn, List.append_nil, hse, hnw, Option.bind_some, asBy_map, Option.map_some]
  · rw [hd]
    exact kk
end Go.Proofs.YtompmejidaddoaaDoor
