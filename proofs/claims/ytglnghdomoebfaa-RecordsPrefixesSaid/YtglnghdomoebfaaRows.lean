/-
  No cell of these rows narrows 'for every input' (looked for: loops, veiled, ifaces, maps, wideKeys, modest, calm, conditions, laid).
  DERIVED. THE GIVEN ROWS OF THIS SEAT. 11 by the template 'for every input the law returns true; each argument reads behind the call as it read before'; 0 by the template 'total and deterministic' (their statements: YtglnghdomoebfaaTotals.lean).
  GIVEN WITH THE SEED: the statements are not yours to turn. If you find one false, say at which input.
  Laid BY PROGRAM, IN A SANDBOX (cutbox-rows.mjs): the forced cells as the released guide's own fill.sh prints them over the translation 82c8b45b635de710… (all of the seat's roots in one cut). By AI agents, Wed Nov 11 2026. No macro, syntax, notation, axiom, sorry.
-/
import Derived.Test.YtglnghdomoebfaaChecked
import GoSem.Claim
import GoSem.ClaimJoined
import GoSem.ClaimMapViews
import Derived.JoinedTies
import Derived.KernelRfl
namespace Go.Proofs.Ytglnghdomoebfaa
/- THE CELL 'sum', in the pinned program and in every row, IS THE sha256 OF THE DUMP (.gsa) THAT YtglnghdomoebfaaProg.lean LOADS. Nothing in Lean hashes anything: it is a label: what it is worth is what the hold of that sum in a sandbox is worth. -/
noncomputable def Try.pinned : Pinned := { name := "ytglnghdomoebfaa", sum := "82c8b45b635de710b9472f58f3aabe4a12f861cc6c2641c222a74bd53ffe381d", checked := Try.checked }
namespace Rows
def none {H : Type} : Left H := { results := [], args := [] }

/-- 'tsblocklaw13.RecordsEncode': WHATEVER THE INPUT: true; the input reads as it did. -/
def recordsEncodeSpec : ChangeSpec := { name := "recordsEncode", fn := fun _ => fun
  | [d1, d2] => { results := [.lit (.bool true)], args := [d1, d2] }
  | _ => none }
def recordsEncodeRow : OpenClaim := { program := "ytglnghdomoebfaa", sum := "82c8b45b635de710b9472f58f3aabe4a12f861cc6c2641c222a74bd53ffe381d", func := "tsblock/tsblocklaw13.RecordsEncode", spec := "recordsEncode", unfollowed := true, recurses := true, apart := false }
def RecordsEncodeSaid : Prop := recordsEncodeRow.holds Try.pinned (OpenSpec.ofChange recordsEncodeSpec)

/-- ITS FALSE NEIGHBOUR: 'it returns false'. Refute it at one input. -/
def recordsEncodeWrong : ChangeSpec := { name := "recordsEncode", fn := fun _ => fun
  | [d1, d2] => { results := [.lit (.bool false)], args := [d1, d2] }
  | _ => none }
def RecordsEncodeWrongFalsely : Prop := recordsEncodeRow.holds Try.pinned (OpenSpec.ofChange recordsEncodeWrong)

/-- 'tsblocklaw13.RecordsDecode': WHATEVER THE INPUT: true; the input reads as it did. -/
def recordsDecodeSpec : ChangeSpec := { name := "recordsDecode", fn := fun _ => fun
  | [d1, d2] => { results := [.lit (.bool true)], args := [d1, d2] }
  | _ => none }
def recordsDecodeRow : OpenClaim := { program := "ytglnghdomoebfaa", sum := "82c8b45b635de710b9472f58f3aabe4a12f861cc6c2641c222a74bd53ffe381d", func := "tsblock/tsblocklaw13.RecordsDecode", spec := "recordsDecode", unfollowed := true, recurses := true, apart := false }
def RecordsDecodeSaid : Prop := recordsDecodeRow.holds Try.pinned (OpenSpec.ofChange recordsDecodeSpec)

/-- ITS FALSE NEIGHBOUR: 'it returns false'. Refute it at one input. -/
def recordsDecodeWrong : ChangeSpec := { name := "recordsDecode", fn := fun _ => fun
  | [d1, d2] => { results := [.lit (.bool false)], args := [d1, d2] }
  | _ => none }
def RecordsDecodeWrongFalsely : Prop := recordsDecodeRow.holds Try.pinned (OpenSpec.ofChange recordsDecodeWrong)

/-- 'tsblocklaw13.RecordsRoundTrip': WHATEVER THE INPUT: true; the input reads as it did. -/
def recordsRoundTripSpec : ChangeSpec := { name := "recordsRoundTrip", fn := fun _ => fun
  | [d1, d2] => { results := [.lit (.bool true)], args := [d1, d2] }
  | _ => none }
def recordsRoundTripRow : OpenClaim := { program := "ytglnghdomoebfaa", sum := "82c8b45b635de710b9472f58f3aabe4a12f861cc6c2641c222a74bd53ffe381d", func := "tsblock/tsblocklaw13.RecordsRoundTrip", spec := "recordsRoundTrip", unfollowed := true, recurses := true, apart := false }
def RecordsRoundTripSaid : Prop := recordsRoundTripRow.holds Try.pinned (OpenSpec.ofChange recordsRoundTripSpec)

/-- ITS FALSE NEIGHBOUR: 'it returns false'. Refute it at one input. -/
def recordsRoundTripWrong : ChangeSpec := { name := "recordsRoundTrip", fn := fun _ => fun
  | [d1, d2] => { results := [.lit (.bool false)], args := [d1, d2] }
  | _ => none }
def RecordsRoundTripWrongFalsely : Prop := recordsRoundTripRow.holds Try.pinned (OpenSpec.ofChange recordsRoundTripWrong)

/-- 'tsblocklaw13.RecordsAreCanonical': WHATEVER THE INPUT: true; the input reads as it did. -/
def recordsAreCanonicalSpec : ChangeSpec := { name := "recordsAreCanonical", fn := fun _ => fun
  | [d1, d2] => { results := [.lit (.bool true)], args := [d1, d2] }
  | _ => none }
def recordsAreCanonicalRow : OpenClaim := { program := "ytglnghdomoebfaa", sum := "82c8b45b635de710b9472f58f3aabe4a12f861cc6c2641c222a74bd53ffe381d", func := "tsblock/tsblocklaw13.RecordsAreCanonical", spec := "recordsAreCanonical", unfollowed := true, recurses := true, apart := false }
def RecordsAreCanonicalSaid : Prop := recordsAreCanonicalRow.holds Try.pinned (OpenSpec.ofChange recordsAreCanonicalSpec)

/-- ITS FALSE NEIGHBOUR: 'it returns false'. Refute it at one input. -/
def recordsAreCanonicalWrong : ChangeSpec := { name := "recordsAreCanonical", fn := fun _ => fun
  | [d1, d2] => { results := [.lit (.bool false)], args := [d1, d2] }
  | _ => none }
def RecordsAreCanonicalWrongFalsely : Prop := recordsAreCanonicalRow.holds Try.pinned (OpenSpec.ofChange recordsAreCanonicalWrong)

/-- 'tsblocklaw13.RecordsPrefixes': WHATEVER THE INPUT: true; the input reads as it did. -/
def recordsPrefixesSpec : ChangeSpec := { name := "recordsPrefixes", fn := fun _ => fun
  | [d1, d2] => { results := [.lit (.bool true)], args := [d1, d2] }
  | _ => none }
def recordsPrefixesRow : OpenClaim := { program := "ytglnghdomoebfaa", sum := "82c8b45b635de710b9472f58f3aabe4a12f861cc6c2641c222a74bd53ffe381d", func := "tsblock/tsblocklaw13.RecordsPrefixes", spec := "recordsPrefixes", unfollowed := true, recurses := true, apart := false }
def RecordsPrefixesSaid : Prop := recordsPrefixesRow.holds Try.pinned (OpenSpec.ofChange recordsPrefixesSpec)

/-- ITS FALSE NEIGHBOUR: 'it returns false'. Refute it at one input. -/
def recordsPrefixesWrong : ChangeSpec := { name := "recordsPrefixes", fn := fun _ => fun
  | [d1, d2] => { results := [.lit (.bool false)], args := [d1, d2] }
  | _ => none }
def RecordsPrefixesWrongFalsely : Prop := recordsPrefixesRow.holds Try.pinned (OpenSpec.ofChange recordsPrefixesWrong)

/-- 'tsblocklaw11.LabelsCheck': WHATEVER THE INPUT: true; the input reads as it did. -/
def labelsCheckSpec : ChangeSpec := { name := "labelsCheck", fn := fun _ => fun
  | [d] => { results := [.lit (.bool true)], args := [d] }
  | _ => none }
def labelsCheckRow : OpenClaim := { program := "ytglnghdomoebfaa", sum := "82c8b45b635de710b9472f58f3aabe4a12f861cc6c2641c222a74bd53ffe381d", func := "tsblock/tsblocklaw11.LabelsCheck", spec := "labelsCheck", unfollowed := true, recurses := true, apart := false }
def LabelsCheckSaid : Prop := labelsCheckRow.holds Try.pinned (OpenSpec.ofChange labelsCheckSpec)

/-- ITS FALSE NEIGHBOUR: 'it returns false'. Refute it at one input. -/
def labelsCheckWrong : ChangeSpec := { name := "labelsCheck", fn := fun _ => fun
  | [d] => { results := [.lit (.bool false)], args := [d] }
  | _ => none }
def LabelsCheckWrongFalsely : Prop := labelsCheckRow.holds Try.pinned (OpenSpec.ofChange labelsCheckWrong)

/-- 'tsblocklaw11.LabelsNormalize': WHATEVER THE INPUT: true; the input reads as it did. -/
def labelsNormalizeSpec : ChangeSpec := { name := "labelsNormalize", fn := fun _ => fun
  | [d] => { results := [.lit (.bool true)], args := [d] }
  | _ => none }
def labelsNormalizeRow : OpenClaim := { program := "ytglnghdomoebfaa", sum := "82c8b45b635de710b9472f58f3aabe4a12f861cc6c2641c222a74bd53ffe381d", func := "tsblock/tsblocklaw11.LabelsNormalize", spec := "labelsNormalize", unfollowed := true, recurses := true, apart := false }
def LabelsNormalizeSaid : Prop := labelsNormalizeRow.holds Try.pinned (OpenSpec.ofChange labelsNormalizeSpec)

/-- ITS FALSE NEIGHBOUR: 'it returns false'. Refute it at one input. -/
def labelsNormalizeWrong : ChangeSpec := { name := "labelsNormalize", fn := fun _ => fun
  | [d] => { results := [.lit (.bool false)], args := [d] }
  | _ => none }
def LabelsNormalizeWrongFalsely : Prop := labelsNormalizeRow.holds Try.pinned (OpenSpec.ofChange labelsNormalizeWrong)

/-- 'tsblocklaw11.LabelsCompare': WHATEVER THE INPUT: true; the input reads as it did. -/
def labelsCompareSpec : ChangeSpec := { name := "labelsCompare", fn := fun _ => fun
  | [d1, d2] => { results := [.lit (.bool true)], args := [d1, d2] }
  | _ => none }
def labelsCompareRow : OpenClaim := { program := "ytglnghdomoebfaa", sum := "82c8b45b635de710b9472f58f3aabe4a12f861cc6c2641c222a74bd53ffe381d", func := "tsblock/tsblocklaw11.LabelsCompare", spec := "labelsCompare", unfollowed := true, recurses := true, apart := false }
def LabelsCompareSaid : Prop := labelsCompareRow.holds Try.pinned (OpenSpec.ofChange labelsCompareSpec)

/-- ITS FALSE NEIGHBOUR: 'it returns false'. Refute it at one input. -/
def labelsCompareWrong : ChangeSpec := { name := "labelsCompare", fn := fun _ => fun
  | [d1, d2] => { results := [.lit (.bool false)], args := [d1, d2] }
  | _ => none }
def LabelsCompareWrongFalsely : Prop := labelsCompareRow.holds Try.pinned (OpenSpec.ofChange labelsCompareWrong)

/-- 'tsblocklaw11.LabelsTransitive': WHATEVER THE INPUT: true; the input reads as it did. -/
def labelsTransitiveSpec : ChangeSpec := { name := "labelsTransitive", fn := fun _ => fun
  | [d1, d2, d3] => { results := [.lit (.bool true)], args := [d1, d2, d3] }
  | _ => none }
def labelsTransitiveRow : OpenClaim := { program := "ytglnghdomoebfaa", sum := "82c8b45b635de710b9472f58f3aabe4a12f861cc6c2641c222a74bd53ffe381d", func := "tsblock/tsblocklaw11.LabelsTransitive", spec := "labelsTransitive", unfollowed := true, recurses := true, apart := false }
def LabelsTransitiveSaid : Prop := labelsTransitiveRow.holds Try.pinned (OpenSpec.ofChange labelsTransitiveSpec)

/-- ITS FALSE NEIGHBOUR: 'it returns false'. Refute it at one input. -/
def labelsTransitiveWrong : ChangeSpec := { name := "labelsTransitive", fn := fun _ => fun
  | [d1, d2, d3] => { results := [.lit (.bool false)], args := [d1, d2, d3] }
  | _ => none }
def LabelsTransitiveWrongFalsely : Prop := labelsTransitiveRow.holds Try.pinned (OpenSpec.ofChange labelsTransitiveWrong)

/-- 'tsblocklaw11.LabelsGet': WHATEVER THE INPUT: true; the input reads as it did. -/
def labelsGetSpec : ChangeSpec := { name := "labelsGet", fn := fun _ => fun
  | [d1, d2] => { results := [.lit (.bool true)], args := [d1, d2] }
  | _ => none }
def labelsGetRow : OpenClaim := { program := "ytglnghdomoebfaa", sum := "82c8b45b635de710b9472f58f3aabe4a12f861cc6c2641c222a74bd53ffe381d", func := "tsblock/tsblocklaw11.LabelsGet", spec := "labelsGet", unfollowed := true, recurses := true, apart := false }
def LabelsGetSaid : Prop := labelsGetRow.holds Try.pinned (OpenSpec.ofChange labelsGetSpec)

/-- ITS FALSE NEIGHBOUR: 'it returns false'. Refute it at one input. -/
def labelsGetWrong : ChangeSpec := { name := "labelsGet", fn := fun _ => fun
  | [d1, d2] => { results := [.lit (.bool false)], args := [d1, d2] }
  | _ => none }
def LabelsGetWrongFalsely : Prop := labelsGetRow.holds Try.pinned (OpenSpec.ofChange labelsGetWrong)

/-- 'tsblocklaw11.LabelsForgetOrder': WHATEVER THE INPUT: true; the input reads as it did. -/
def labelsForgetOrderSpec : ChangeSpec := { name := "labelsForgetOrder", fn := fun _ => fun
  | [d1, d2] => { results := [.lit (.bool true)], args := [d1, d2] }
  | _ => none }
def labelsForgetOrderRow : OpenClaim := { program := "ytglnghdomoebfaa", sum := "82c8b45b635de710b9472f58f3aabe4a12f861cc6c2641c222a74bd53ffe381d", func := "tsblock/tsblocklaw11.LabelsForgetOrder", spec := "labelsForgetOrder", unfollowed := true, recurses := true, apart := false }
def LabelsForgetOrderSaid : Prop := labelsForgetOrderRow.holds Try.pinned (OpenSpec.ofChange labelsForgetOrderSpec)

/-- ITS FALSE NEIGHBOUR: 'it returns false'. Refute it at one input. -/
def labelsForgetOrderWrong : ChangeSpec := { name := "labelsForgetOrder", fn := fun _ => fun
  | [d1, d2] => { results := [.lit (.bool false)], args := [d1, d2] }
  | _ => none }
def LabelsForgetOrderWrongFalsely : Prop := labelsForgetOrderRow.holds Try.pinned (OpenSpec.ofChange labelsForgetOrderWrong)

/- THE SECOND FORM. 'bulk': how many values and letters a reading holds, each counted each time it is reached (what is shared counts as often as it is met; a slice's spare places count too). A statement '..UptoSaid' is the law's where the arguments, and the package variables that the reading takes, are together of bulk at most 1048576: NARROWER than '..Said'. Prove '..Said' where nothing that the law and all that it calls make is longer than what came in: it says more and counts as full. Else prove '..UptoSaid'. A law counts once. -/
mutual
def uptoBulk {H : Type} : DataW H → Nat
  | .lit (.string bytes) => bytes.length + 1
  | .lit _ => 1
  | .nil => 1
  | .ptr d => uptoBulk d + 1
  | .slice elems spare => uptoBulkAll elems + uptoBulkAll spare + 1
  | .agg parts => uptoBulkAll parts + 1
  | .iface _ d => uptoBulk d + 1
  | .map entries => uptoBulkEntries entries + 1
  | .held _ => 1
def uptoBulkAll {H : Type} : List (DataW H) → Nat
  | [] => 0
  | d :: r => uptoBulk d + uptoBulkAll r
def uptoBulkEntries {H : Type} : List (Lit × DataW H) → Nat
  | [] => 0
  | x :: r => uptoBulkEntry x + uptoBulkEntries r
def uptoBulkEntry {H : Type} : Lit × DataW H → Nat
  | (.string bytes, d) => bytes.length + uptoBulk d + 1
  | (_, d) => uptoBulk d + 1
 end
def uptoSmall : (H : Type) → List (DataW H) → Bool := fun _ ds => decide (uptoBulkAll ds ≤ 1048576)
def OpenSpec.upto (s : _root_.Go.ChangeSpec) : _root_.Go.OpenSpec := { _root_.Go.OpenSpec.ofChange s with cond := some uptoSmall }

/-- 'tsblocklaw13.RecordsEncode', WHERE WHAT IT READS IS OF BULK AT MOST 1048576: true; the input reads as it did. -/
def recordsEncodeUptoRow : OpenClaim := { program := "ytglnghdomoebfaa", sum := "82c8b45b635de710b9472f58f3aabe4a12f861cc6c2641c222a74bd53ffe381d", func := "tsblock/tsblocklaw13.RecordsEncode", spec := "recordsEncode", unfollowed := true, recurses := true, apart := false, narrowed := true }
def RecordsEncodeUptoSaid : Prop := recordsEncodeUptoRow.holds Try.pinned (OpenSpec.upto recordsEncodeSpec)

/-- 'tsblocklaw13.RecordsDecode', WHERE WHAT IT READS IS OF BULK AT MOST 1048576: true; the input reads as it did. -/
def recordsDecodeUptoRow : OpenClaim := { program := "ytglnghdomoebfaa", sum := "82c8b45b635de710b9472f58f3aabe4a12f861cc6c2641c222a74bd53ffe381d", func := "tsblock/tsblocklaw13.RecordsDecode", spec := "recordsDecode", unfollowed := true, recurses := true, apart := false, narrowed := true }
def RecordsDecodeUptoSaid : Prop := recordsDecodeUptoRow.holds Try.pinned (OpenSpec.upto recordsDecodeSpec)

/-- 'tsblocklaw13.RecordsRoundTrip', WHERE WHAT IT READS IS OF BULK AT MOST 1048576: true; the input reads as it did. -/
def recordsRoundTripUptoRow : OpenClaim := { program := "ytglnghdomoebfaa", sum := "82c8b45b635de710b9472f58f3aabe4a12f861cc6c2641c222a74bd53ffe381d", func := "tsblock/tsblocklaw13.RecordsRoundTrip", spec := "recordsRoundTrip", unfollowed := true, recurses := true, apart := false, narrowed := true }
def RecordsRoundTripUptoSaid : Prop := recordsRoundTripUptoRow.holds Try.pinned (OpenSpec.upto recordsRoundTripSpec)

/-- 'tsblocklaw13.RecordsAreCanonical', WHERE WHAT IT READS IS OF BULK AT MOST 1048576: true; the input reads as it did. -/
def recordsAreCanonicalUptoRow : OpenClaim := { program := "ytglnghdomoebfaa", sum := "82c8b45b635de710b9472f58f3aabe4a12f861cc6c2641c222a74bd53ffe381d", func := "tsblock/tsblocklaw13.RecordsAreCanonical", spec := "recordsAreCanonical", unfollowed := true, recurses := true, apart := false, narrowed := true }
def RecordsAreCanonicalUptoSaid : Prop := recordsAreCanonicalUptoRow.holds Try.pinned (OpenSpec.upto recordsAreCanonicalSpec)

/-- 'tsblocklaw13.RecordsPrefixes', WHERE WHAT IT READS IS OF BULK AT MOST 1048576: true; the input reads as it did. -/
def recordsPrefixesUptoRow : OpenClaim := { program := "ytglnghdomoebfaa", sum := "82c8b45b635de710b9472f58f3aabe4a12f861cc6c2641c222a74bd53ffe381d", func := "tsblock/tsblocklaw13.RecordsPrefixes", spec := "recordsPrefixes", unfollowed := true, recurses := true, apart := false, narrowed := true }
def RecordsPrefixesUptoSaid : Prop := recordsPrefixesUptoRow.holds Try.pinned (OpenSpec.upto recordsPrefixesSpec)

/-- 'tsblocklaw11.LabelsCheck', WHERE WHAT IT READS IS OF BULK AT MOST 1048576: true; the input reads as it did. -/
def labelsCheckUptoRow : OpenClaim := { program := "ytglnghdomoebfaa", sum := "82c8b45b635de710b9472f58f3aabe4a12f861cc6c2641c222a74bd53ffe381d", func := "tsblock/tsblocklaw11.LabelsCheck", spec := "labelsCheck", unfollowed := true, recurses := true, apart := false, narrowed := true }
def LabelsCheckUptoSaid : Prop := labelsCheckUptoRow.holds Try.pinned (OpenSpec.upto labelsCheckSpec)

/-- 'tsblocklaw11.LabelsNormalize', WHERE WHAT IT READS IS OF BULK AT MOST 1048576: true; the input reads as it did. -/
def labelsNormalizeUptoRow : OpenClaim := { program := "ytglnghdomoebfaa", sum := "82c8b45b635de710b9472f58f3aabe4a12f861cc6c2641c222a74bd53ffe381d", func := "tsblock/tsblocklaw11.LabelsNormalize", spec := "labelsNormalize", unfollowed := true, recurses := true, apart := false, narrowed := true }
def LabelsNormalizeUptoSaid : Prop := labelsNormalizeUptoRow.holds Try.pinned (OpenSpec.upto labelsNormalizeSpec)

/-- 'tsblocklaw11.LabelsCompare', WHERE WHAT IT READS IS OF BULK AT MOST 1048576: true; the input reads as it did. -/
def labelsCompareUptoRow : OpenClaim := { program := "ytglnghdomoebfaa", sum := "82c8b45b635de710b9472f58f3aabe4a12f861cc6c2641c222a74bd53ffe381d", func := "tsblock/tsblocklaw11.LabelsCompare", spec := "labelsCompare", unfollowed := true, recurses := true, apart := false, narrowed := true }
def LabelsCompareUptoSaid : Prop := labelsCompareUptoRow.holds Try.pinned (OpenSpec.upto labelsCompareSpec)

/-- 'tsblocklaw11.LabelsTransitive', WHERE WHAT IT READS IS OF BULK AT MOST 1048576: true; the input reads as it did. -/
def labelsTransitiveUptoRow : OpenClaim := { program := "ytglnghdomoebfaa", sum := "82c8b45b635de710b9472f58f3aabe4a12f861cc6c2641c222a74bd53ffe381d", func := "tsblock/tsblocklaw11.LabelsTransitive", spec := "labelsTransitive", unfollowed := true, recurses := true, apart := false, narrowed := true }
def LabelsTransitiveUptoSaid : Prop := labelsTransitiveUptoRow.holds Try.pinned (OpenSpec.upto labelsTransitiveSpec)

/-- 'tsblocklaw11.LabelsGet', WHERE WHAT IT READS IS OF BULK AT MOST 1048576: true; the input reads as it did. -/
def labelsGetUptoRow : OpenClaim := { program := "ytglnghdomoebfaa", sum := "82c8b45b635de710b9472f58f3aabe4a12f861cc6c2641c222a74bd53ffe381d", func := "tsblock/tsblocklaw11.LabelsGet", spec := "labelsGet", unfollowed := true, recurses := true, apart := false, narrowed := true }
def LabelsGetUptoSaid : Prop := labelsGetUptoRow.holds Try.pinned (OpenSpec.upto labelsGetSpec)

/-- 'tsblocklaw11.LabelsForgetOrder', WHERE WHAT IT READS IS OF BULK AT MOST 1048576: true; the input reads as it did. -/
def labelsForgetOrderUptoRow : OpenClaim := { program := "ytglnghdomoebfaa", sum := "82c8b45b635de710b9472f58f3aabe4a12f861cc6c2641c222a74bd53ffe381d", func := "tsblock/tsblocklaw11.LabelsForgetOrder", spec := "labelsForgetOrder", unfollowed := true, recurses := true, apart := false, narrowed := true }
def LabelsForgetOrderUptoSaid : Prop := labelsForgetOrderUptoRow.holds Try.pinned (OpenSpec.upto labelsForgetOrderSpec)

end Rows
end Go.Proofs.Ytglnghdomoebfaa
