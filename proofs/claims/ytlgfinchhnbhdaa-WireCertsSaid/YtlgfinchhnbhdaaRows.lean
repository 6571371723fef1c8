/-
  No cell of these rows narrows 'for every input' (looked for: loops, veiled, ifaces, maps, wideKeys, modest, calm, conditions, laid).
  DERIVED. THE GIVEN ROWS OF THIS SEAT. 9 by the template 'for every input the law returns true; each argument reads behind the call as it read before'; 0 by the template 'total and deterministic' (their statements: YtlgfinchhnbhdaaTotals.lean).
  GIVEN WITH THE SEED: the statements are not yours to turn. If you find one false, say at which input.
  Laid BY PROGRAM, IN A SANDBOX (cutbox-rows.mjs): the forced cells as the released guide's own fill.sh prints them over the translation b96192f1bd4f532b… (all of the seat's roots in one cut). By AI agents, Wed Nov 11 2026. No macro, syntax, notation, axiom, sorry.
-/
import Derived.Test.YtlgfinchhnbhdaaChecked
import GoSem.Claim
import GoSem.ClaimJoined
import GoSem.ClaimMapViews
import Derived.JoinedTies
import Derived.KernelRfl
namespace Go.Proofs.Ytlgfinchhnbhdaa
/- THE CELL 'sum', in the pinned program and in every row, IS THE sha256 OF THE DUMP (.gsa) THAT YtlgfinchhnbhdaaProg.lean LOADS. Nothing in Lean hashes anything: it is a label: what it is worth is what the hold of that sum in a sandbox is worth. -/
noncomputable def Try.pinned : Pinned := { name := "ytlgfinchhnbhdaa", sum := "b96192f1bd4f532b41e43cdecc4cc92bd1f7cc13e8abd0790ccdd29c0b4e294c", checked := Try.checked }
namespace Rows
def none {H : Type} : Left H := { results := [], args := [] }

/-- 'outworkerlaw08.WireCerts': WHATEVER THE INPUT: true; the input reads as it did. -/
def wireCertsSpec : ChangeSpec := { name := "wireCerts", fn := fun _ => fun
  | [d1, d2, d3, d4] => { results := [.lit (.bool true)], args := [d1, d2, d3, d4] }
  | _ => none }
def wireCertsRow : OpenClaim := { program := "ytlgfinchhnbhdaa", sum := "b96192f1bd4f532b41e43cdecc4cc92bd1f7cc13e8abd0790ccdd29c0b4e294c", func := "outworker/outworkerlaw08.WireCerts", spec := "wireCerts", apart := false }
def WireCertsSaid : Prop := wireCertsRow.holds Try.pinned (OpenSpec.ofChange wireCertsSpec)

/-- ITS FALSE NEIGHBOUR: 'it returns false'. Refute it at one input. -/
def wireCertsWrong : ChangeSpec := { name := "wireCerts", fn := fun _ => fun
  | [d1, d2, d3, d4] => { results := [.lit (.bool false)], args := [d1, d2, d3, d4] }
  | _ => none }
def WireCertsWrongFalsely : Prop := wireCertsRow.holds Try.pinned (OpenSpec.ofChange wireCertsWrong)

/-- 'outworkerlaw07.ExecExecs': WHATEVER THE INPUT: true; the input reads as it did. -/
def execExecsSpec : ChangeSpec := { name := "execExecs", fn := fun _ => fun
  | [d1, d2, d3, d4, d5] => { results := [.lit (.bool true)], args := [d1, d2, d3, d4, d5] }
  | _ => none }
def execExecsRow : OpenClaim := { program := "ytlgfinchhnbhdaa", sum := "b96192f1bd4f532b41e43cdecc4cc92bd1f7cc13e8abd0790ccdd29c0b4e294c", func := "outworker/outworkerlaw07.ExecExecs", spec := "execExecs", unfollowed := true, recurses := true, apart := false }
def ExecExecsSaid : Prop := execExecsRow.holds Try.pinned (OpenSpec.ofChange execExecsSpec)

/-- ITS FALSE NEIGHBOUR: 'it returns false'. Refute it at one input. -/
def execExecsWrong : ChangeSpec := { name := "execExecs", fn := fun _ => fun
  | [d1, d2, d3, d4, d5] => { results := [.lit (.bool false)], args := [d1, d2, d3, d4, d5] }
  | _ => none }
def ExecExecsWrongFalsely : Prop := execExecsRow.holds Try.pinned (OpenSpec.ofChange execExecsWrong)

/-- 'outworkerlaw07.ExecRefuses': WHATEVER THE INPUT: true; the input reads as it did. -/
def execRefusesSpec : ChangeSpec := { name := "execRefuses", fn := fun _ => fun
  | [d1, d2, d3, d4, d5, d6, d7] => { results := [.lit (.bool true)], args := [d1, d2, d3, d4, d5, d6, d7] }
  | _ => none }
def execRefusesRow : OpenClaim := { program := "ytlgfinchhnbhdaa", sum := "b96192f1bd4f532b41e43cdecc4cc92bd1f7cc13e8abd0790ccdd29c0b4e294c", func := "outworker/outworkerlaw07.ExecRefuses", spec := "execRefuses", unfollowed := true, recurses := true, apart := false }
def ExecRefusesSaid : Prop := execRefusesRow.holds Try.pinned (OpenSpec.ofChange execRefusesSpec)

/-- ITS FALSE NEIGHBOUR: 'it returns false'. Refute it at one input. -/
def execRefusesWrong : ChangeSpec := { name := "execRefuses", fn := fun _ => fun
  | [d1, d2, d3, d4, d5, d6, d7] => { results := [.lit (.bool false)], args := [d1, d2, d3, d4, d5, d6, d7] }
  | _ => none }
def ExecRefusesWrongFalsely : Prop := execRefusesRow.holds Try.pinned (OpenSpec.ofChange execRefusesWrong)

/-- 'outworkerlaw07.ExecSlots': WHATEVER THE INPUT: true; the input reads as it did. -/
def execSlotsSpec : ChangeSpec := { name := "execSlots", fn := fun _ => fun
  | [d1, d2, d3, d4, d5, d6] => { results := [.lit (.bool true)], args := [d1, d2, d3, d4, d5, d6] }
  | _ => none }
def execSlotsRow : OpenClaim := { program := "ytlgfinchhnbhdaa", sum := "b96192f1bd4f532b41e43cdecc4cc92bd1f7cc13e8abd0790ccdd29c0b4e294c", func := "outworker/outworkerlaw07.ExecSlots", spec := "execSlots", unfollowed := true, recurses := true, apart := false }
def ExecSlotsSaid : Prop := execSlotsRow.holds Try.pinned (OpenSpec.ofChange execSlotsSpec)

/-- ITS FALSE NEIGHBOUR: 'it returns false'. Refute it at one input. -/
def execSlotsWrong : ChangeSpec := { name := "execSlots", fn := fun _ => fun
  | [d1, d2, d3, d4, d5, d6] => { results := [.lit (.bool false)], args := [d1, d2, d3, d4, d5, d6] }
  | _ => none }
def ExecSlotsWrongFalsely : Prop := execSlotsRow.holds Try.pinned (OpenSpec.ofChange execSlotsWrong)

/-- 'outworkerlaw07.ExecPlain': WHATEVER THE INPUT: true; the input reads as it did. -/
def execPlainSpec : ChangeSpec := { name := "execPlain", fn := fun _ => fun
  | [d1, d2] => { results := [.lit (.bool true)], args := [d1, d2] }
  | _ => none }
def execPlainRow : OpenClaim := { program := "ytlgfinchhnbhdaa", sum := "b96192f1bd4f532b41e43cdecc4cc92bd1f7cc13e8abd0790ccdd29c0b4e294c", func := "outworker/outworkerlaw07.ExecPlain", spec := "execPlain", apart := false }
def ExecPlainSaid : Prop := execPlainRow.holds Try.pinned (OpenSpec.ofChange execPlainSpec)

/-- ITS FALSE NEIGHBOUR: 'it returns false'. Refute it at one input. -/
def execPlainWrong : ChangeSpec := { name := "execPlain", fn := fun _ => fun
  | [d1, d2] => { results := [.lit (.bool false)], args := [d1, d2] }
  | _ => none }
def ExecPlainWrongFalsely : Prop := execPlainRow.holds Try.pinned (OpenSpec.ofChange execPlainWrong)

/-- 'outworkerlaw08.WireReads': WHATEVER THE INPUT: true; the input reads as it did. -/
def wireReadsSpec : ChangeSpec := { name := "wireReads", fn := fun _ => fun
  | [d1, d2, d3, d4, d5, d6] => { results := [.lit (.bool true)], args := [d1, d2, d3, d4, d5, d6] }
  | _ => none }
def wireReadsRow : OpenClaim := { program := "ytlgfinchhnbhdaa", sum := "b96192f1bd4f532b41e43cdecc4cc92bd1f7cc13e8abd0790ccdd29c0b4e294c", func := "outworker/outworkerlaw08.WireReads", spec := "wireReads", unfollowed := true, recurses := true, apart := false }
def WireReadsSaid : Prop := wireReadsRow.holds Try.pinned (OpenSpec.ofChange wireReadsSpec)

/-- ITS FALSE NEIGHBOUR: 'it returns false'. Refute it at one input. -/
def wireReadsWrong : ChangeSpec := { name := "wireReads", fn := fun _ => fun
  | [d1, d2, d3, d4, d5, d6] => { results := [.lit (.bool false)], args := [d1, d2, d3, d4, d5, d6] }
  | _ => none }
def WireReadsWrongFalsely : Prop := wireReadsRow.holds Try.pinned (OpenSpec.ofChange wireReadsWrong)

/-- 'outworkerlaw08.WireBack': WHATEVER THE INPUT: true; the input reads as it did. -/
def wireBackSpec : ChangeSpec := { name := "wireBack", fn := fun _ => fun
  | [d1, d2, d3, d4] => { results := [.lit (.bool true)], args := [d1, d2, d3, d4] }
  | _ => none }
def wireBackRow : OpenClaim := { program := "ytlgfinchhnbhdaa", sum := "b96192f1bd4f532b41e43cdecc4cc92bd1f7cc13e8abd0790ccdd29c0b4e294c", func := "outworker/outworkerlaw08.WireBack", spec := "wireBack", unfollowed := true, recurses := true, apart := false }
def WireBackSaid : Prop := wireBackRow.holds Try.pinned (OpenSpec.ofChange wireBackSpec)

/-- ITS FALSE NEIGHBOUR: 'it returns false'. Refute it at one input. -/
def wireBackWrong : ChangeSpec := { name := "wireBack", fn := fun _ => fun
  | [d1, d2, d3, d4] => { results := [.lit (.bool false)], args := [d1, d2, d3, d4] }
  | _ => none }
def WireBackWrongFalsely : Prop := wireBackRow.holds Try.pinned (OpenSpec.ofChange wireBackWrong)

/-- 'outworkerlaw08.WireOne': WHATEVER THE INPUT: true; the input reads as it did. -/
def wireOneSpec : ChangeSpec := { name := "wireOne", fn := fun _ => fun
  | [d1, d2, d3, d4] => { results := [.lit (.bool true)], args := [d1, d2, d3, d4] }
  | _ => none }
def wireOneRow : OpenClaim := { program := "ytlgfinchhnbhdaa", sum := "b96192f1bd4f532b41e43cdecc4cc92bd1f7cc13e8abd0790ccdd29c0b4e294c", func := "outworker/outworkerlaw08.WireOne", spec := "wireOne", unfollowed := true, recurses := true, apart := false }
def WireOneSaid : Prop := wireOneRow.holds Try.pinned (OpenSpec.ofChange wireOneSpec)

/-- ITS FALSE NEIGHBOUR: 'it returns false'. Refute it at one input. -/
def wireOneWrong : ChangeSpec := { name := "wireOne", fn := fun _ => fun
  | [d1, d2, d3, d4] => { results := [.lit (.bool false)], args := [d1, d2, d3, d4] }
  | _ => none }
def WireOneWrongFalsely : Prop := wireOneRow.holds Try.pinned (OpenSpec.ofChange wireOneWrong)

/-- 'outworkerlaw18.SplitSame': WHATEVER THE INPUT: true; the input reads as it did. -/
def splitSameSpec : ChangeSpec := { name := "splitSame", fn := fun _ => fun
  | [d1, d2, d3] => { results := [.lit (.bool true)], args := [d1, d2, d3] }
  | _ => none }
def splitSameRow : OpenClaim := { program := "ytlgfinchhnbhdaa", sum := "b96192f1bd4f532b41e43cdecc4cc92bd1f7cc13e8abd0790ccdd29c0b4e294c", func := "outworker/outworkerlaw18.SplitSame", spec := "splitSame", inPlace := ["slices.overlaps[int]"], apart := false }
def SplitSameSaid : Prop := splitSameRow.holds Try.pinned (OpenSpec.ofChange splitSameSpec)

/-- ITS FALSE NEIGHBOUR: 'it returns false'. Refute it at one input. -/
def splitSameWrong : ChangeSpec := { name := "splitSame", fn := fun _ => fun
  | [d1, d2, d3] => { results := [.lit (.bool false)], args := [d1, d2, d3] }
  | _ => none }
def SplitSameWrongFalsely : Prop := splitSameRow.holds Try.pinned (OpenSpec.ofChange splitSameWrong)

/- THE SECOND FORM. 'bulk': how many values and letters a reading holds, each counted each time it is reached (what is shared counts as often as it is met; a slice's spare places count too). A statement '..UptoSaid' is the law's where the arguments, and the package variables that the reading takes, are together of bulk at most 1048576: NARROWER than '..Said'. Prove '..Said' where nothing that the law and all that it calls make is longer than what came in: it says more and counts as full. Else prove '..UptoSaid'. A law counts once. -/
mutual
def uptoBulk {H : Type} : DataW H → Nat
  | .lit (.string bytes) => bytes.length + 1
  | .lit _ => 1
  | .nil => 1
  | .ptr d => uptoBulk d + 1
  | .slice elems spare => uptoBulkAll elems + uptoBulkAll spare + 1
  | .agg parts => uptoBulkAll parts + 1
  | .iface _ d => uptoBulk d + 1
  | .map entries => uptoBulkEntries entries + 1
  | .held _ => 1
def uptoBulkAll {H : Type} : List (DataW H) → Nat
  | [] => 0
  | d :: r => uptoBulk d + uptoBulkAll r
def uptoBulkEntries {H : Type} : List (Lit × DataW H) → Nat
  | [] => 0
  | x :: r => uptoBulkEntry x + uptoBulkEntries r
def uptoBulkEntry {H : Type} : Lit × DataW H → Nat
  | (.string bytes, d) => bytes.length + uptoBulk d + 1
  | (_, d) => uptoBulk d + 1
 end
def uptoSmall : (H : Type) → List (DataW H) → Bool := fun _ ds => decide (uptoBulkAll ds ≤ 1048576)
def OpenSpec.upto (s : _root_.Go.ChangeSpec) : _root_.Go.OpenSpec := { _root_.Go.OpenSpec.ofChange s with cond := some uptoSmall }

/-- 'outworkerlaw08.WireCerts', WHERE WHAT IT READS IS OF BULK AT MOST 1048576: true; the input reads as it did. -/
def wireCertsUptoRow : OpenClaim := { program := "ytlgfinchhnbhdaa", sum := "b96192f1bd4f532b41e43cdecc4cc92bd1f7cc13e8abd0790ccdd29c0b4e294c", func := "outworker/outworkerlaw08.WireCerts", spec := "wireCerts", apart := false, narrowed := true }
def WireCertsUptoSaid : Prop := wireCertsUptoRow.holds Try.pinned (OpenSpec.upto wireCertsSpec)

/-- 'outworkerlaw07.ExecExecs', WHERE WHAT IT READS IS OF BULK AT MOST 1048576: true; the input reads as it did. -/
def execExecsUptoRow : OpenClaim := { program := "ytlgfinchhnbhdaa", sum := "b96192f1bd4f532b41e43cdecc4cc92bd1f7cc13e8abd0790ccdd29c0b4e294c", func := "outworker/outworkerlaw07.ExecExecs", spec := "execExecs", unfollowed := true, recurses := true, apart := false, narrowed := true }
def ExecExecsUptoSaid : Prop := execExecsUptoRow.holds Try.pinned (OpenSpec.upto execExecsSpec)

/-- 'outworkerlaw07.ExecRefuses', WHERE WHAT IT READS IS OF BULK AT MOST 1048576: true; the input reads as it did. -/
def execRefusesUptoRow : OpenClaim := { program := "ytlgfinchhnbhdaa", sum := "b96192f1bd4f532b41e43cdecc4cc92bd1f7cc13e8abd0790ccdd29c0b4e294c", func := "outworker/outworkerlaw07.ExecRefuses", spec := "execRefuses", unfollowed := true, recurses := true, apart := false, narrowed := true }
def ExecRefusesUptoSaid : Prop := execRefusesUptoRow.holds Try.pinned (OpenSpec.upto execRefusesSpec)

/-- 'outworkerlaw07.ExecSlots', WHERE WHAT IT READS IS OF BULK AT MOST 1048576: true; the input reads as it did. -/
def execSlotsUptoRow : OpenClaim := { program := "ytlgfinchhnbhdaa", sum := "b96192f1bd4f532b41e43cdecc4cc92bd1f7cc13e8abd0790ccdd29c0b4e294c", func := "outworker/outworkerlaw07.ExecSlots", spec := "execSlots", unfollowed := true, recurses := true, apart := false, narrowed := true }
def ExecSlotsUptoSaid : Prop := execSlotsUptoRow.holds Try.pinned (OpenSpec.upto execSlotsSpec)

/-- 'outworkerlaw07.ExecPlain', WHERE WHAT IT READS IS OF BULK AT MOST 1048576: true; the input reads as it did. -/
def execPlainUptoRow : OpenClaim := { program := "ytlgfinchhnbhdaa", sum := "b96192f1bd4f532b41e43cdecc4cc92bd1f7cc13e8abd0790ccdd29c0b4e294c", func := "outworker/outworkerlaw07.ExecPlain", spec := "execPlain", apart := false, narrowed := true }
def ExecPlainUptoSaid : Prop := execPlainUptoRow.holds Try.pinned (OpenSpec.upto execPlainSpec)

/-- 'outworkerlaw08.WireReads', WHERE WHAT IT READS IS OF BULK AT MOST 1048576: true; the input reads as it did. -/
def wireReadsUptoRow : OpenClaim := { program := "ytlgfinchhnbhdaa", sum := "b96192f1bd4f532b41e43cdecc4cc92bd1f7cc13e8abd0790ccdd29c0b4e294c", func := "outworker/outworkerlaw08.WireReads", spec := "wireReads", unfollowed := true, recurses := true, apart := false, narrowed := true }
def WireReadsUptoSaid : Prop := wireReadsUptoRow.holds Try.pinned (OpenSpec.upto wireReadsSpec)

/-- 'outworkerlaw08.WireBack', WHERE WHAT IT READS IS OF BULK AT MOST 1048576: true; the input reads as it did. -/
def wireBackUptoRow : OpenClaim := { program := "ytlgfinchhnbhdaa", sum := "b96192f1bd4f532b41e43cdecc4cc92bd1f7cc13e8abd0790ccdd29c0b4e294c", func := "outworker/outworkerlaw08.WireBack", spec := "wireBack", unfollowed := true, recurses := true, apart := false, narrowed := true }
def WireBackUptoSaid : Prop := wireBackUptoRow.holds Try.pinned (OpenSpec.upto wireBackSpec)

/-- 'outworkerlaw08.WireOne', WHERE WHAT IT READS IS OF BULK AT MOST 1048576: true; the input reads as it did. -/
def wireOneUptoRow : OpenClaim := { program := "ytlgfinchhnbhdaa", sum := "b96192f1bd4f532b41e43cdecc4cc92bd1f7cc13e8abd0790ccdd29c0b4e294c", func := "outworker/outworkerlaw08.WireOne", spec := "wireOne", unfollowed := true, recurses := true, apart := false, narrowed := true }
def WireOneUptoSaid : Prop := wireOneUptoRow.holds Try.pinned (OpenSpec.upto wireOneSpec)

/-- 'outworkerlaw18.SplitSame', WHERE WHAT IT READS IS OF BULK AT MOST 1048576: true; the input reads as it did. -/
def splitSameUptoRow : OpenClaim := { program := "ytlgfinchhnbhdaa", sum := "b96192f1bd4f532b41e43cdecc4cc92bd1f7cc13e8abd0790ccdd29c0b4e294c", func := "outworker/outworkerlaw18.SplitSame", spec := "splitSame", inPlace := ["slices.overlaps[int]"], apart := false, narrowed := true }
def SplitSameUptoSaid : Prop := splitSameUptoRow.holds Try.pinned (OpenSpec.upto splitSameSpec)

end Rows
end Go.Proofs.Ytlgfinchhnbhdaa
