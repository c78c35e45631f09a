/-
  No cell of these rows narrows 'for every input' (looked for: loops, veiled, ifaces, maps, wideKeys, modest, calm, conditions, laid).
  DERIVED. THE GIVEN ROWS OF THIS SEAT. 12 by the template 'for every input the law returns true; each argument reads behind the call as it read before'; 0 by the template 'total and deterministic' (their statements: YthhcfocmaiacoaaTotals.lean).
  GIVEN WITH THE SEED: the statements are not yours to turn. If you find one false, say at which input.
  Laid BY PROGRAM, IN A SANDBOX (cutbox-rows.mjs): the forced cells as the released guide's own fill.sh prints them over the translation 6ae08fc95a709eb7… (all of the seat's roots in one cut). By AI agents, Wed Nov 11 2026. No macro, syntax, notation, axiom, sorry.
-/
import Derived.Test.YthhcfocmaiacoaaChecked
import GoSem.Claim
import GoSem.ClaimJoined
import GoSem.ClaimMapViews
import Derived.JoinedTies
import Derived.KernelRfl
namespace Go.Proofs.Ythhcfocmaiacoaa
/- THE CELL 'sum', in the pinned program and in every row, IS THE sha256 OF THE DUMP (.gsa) THAT YthhcfocmaiacoaaProg.lean LOADS. Nothing in Lean hashes anything: it is a label: what it is worth is what the hold of that sum in a sandbox is worth. -/
noncomputable def Try.pinned : Pinned := { name := "ythhcfocmaiacoaa", sum := "6ae08fc95a709eb79ecd64c0ad29fd5b2ee60870f720db163f265dd68bd6c00b", checked := Try.checked }
namespace Rows
def none {H : Type} : Left H := { results := [], args := [] }

/-- 'tsblocklaw10.SymbolsFinds': WHATEVER THE INPUT: true; the input reads as it did. -/
def symbolsFindsSpec : ChangeSpec := { name := "symbolsFinds", fn := fun _ => fun
  | [d1, d2] => { results := [.lit (.bool true)], args := [d1, d2] }
  | _ => none }
def symbolsFindsRow : OpenClaim := { program := "ythhcfocmaiacoaa", sum := "6ae08fc95a709eb79ecd64c0ad29fd5b2ee60870f720db163f265dd68bd6c00b", func := "tsblock/tsblocklaw10.SymbolsFinds", spec := "symbolsFinds", unfollowed := true, recurses := true, plainKeys := false, apart := false }
def SymbolsFindsSaid : Prop := symbolsFindsRow.holds Try.pinned (OpenSpec.ofChange symbolsFindsSpec)

/-- ITS FALSE NEIGHBOUR: 'it returns false'. Refute it at one input. -/
def symbolsFindsWrong : ChangeSpec := { name := "symbolsFinds", fn := fun _ => fun
  | [d1, d2] => { results := [.lit (.bool false)], args := [d1, d2] }
  | _ => none }
def SymbolsFindsWrongFalsely : Prop := symbolsFindsRow.holds Try.pinned (OpenSpec.ofChange symbolsFindsWrong)

/-- 'tsblocklaw10.SymbolsEncodes': WHATEVER THE INPUT: true; the input reads as it did. -/
def symbolsEncodesSpec : ChangeSpec := { name := "symbolsEncodes", fn := fun _ => fun
  | [d] => { results := [.lit (.bool true)], args := [d] }
  | _ => none }
def symbolsEncodesRow : OpenClaim := { program := "ythhcfocmaiacoaa", sum := "6ae08fc95a709eb79ecd64c0ad29fd5b2ee60870f720db163f265dd68bd6c00b", func := "tsblock/tsblocklaw10.SymbolsEncodes", spec := "symbolsEncodes", unfollowed := true, recurses := true, plainKeys := false, apart := false }
def SymbolsEncodesSaid : Prop := symbolsEncodesRow.holds Try.pinned (OpenSpec.ofChange symbolsEncodesSpec)

/-- ITS FALSE NEIGHBOUR: 'it returns false'. Refute it at one input. -/
def symbolsEncodesWrong : ChangeSpec := { name := "symbolsEncodes", fn := fun _ => fun
  | [d] => { results := [.lit (.bool false)], args := [d] }
  | _ => none }
def SymbolsEncodesWrongFalsely : Prop := symbolsEncodesRow.holds Try.pinned (OpenSpec.ofChange symbolsEncodesWrong)

/-- 'tsblocklaw10.SymbolsTables': WHATEVER THE INPUT: true; the input reads as it did. -/
def symbolsTablesSpec : ChangeSpec := { name := "symbolsTables", fn := fun _ => fun
  | [d] => { results := [.lit (.bool true)], args := [d] }
  | _ => none }
def symbolsTablesRow : OpenClaim := { program := "ythhcfocmaiacoaa", sum := "6ae08fc95a709eb79ecd64c0ad29fd5b2ee60870f720db163f265dd68bd6c00b", func := "tsblock/tsblocklaw10.SymbolsTables", spec := "symbolsTables", unfollowed := true, recurses := true, plainKeys := false, apart := false }
def SymbolsTablesSaid : Prop := symbolsTablesRow.holds Try.pinned (OpenSpec.ofChange symbolsTablesSpec)

/-- ITS FALSE NEIGHBOUR: 'it returns false'. Refute it at one input. -/
def symbolsTablesWrong : ChangeSpec := { name := "symbolsTables", fn := fun _ => fun
  | [d] => { results := [.lit (.bool false)], args := [d] }
  | _ => none }
def SymbolsTablesWrongFalsely : Prop := symbolsTablesRow.holds Try.pinned (OpenSpec.ofChange symbolsTablesWrong)

/-- 'tsblocklaw10.SymbolsDecodes': WHATEVER THE INPUT: true; the input reads as it did. -/
def symbolsDecodesSpec : ChangeSpec := { name := "symbolsDecodes", fn := fun _ => fun
  | [d] => { results := [.lit (.bool true)], args := [d] }
  | _ => none }
def symbolsDecodesRow : OpenClaim := { program := "ythhcfocmaiacoaa", sum := "6ae08fc95a709eb79ecd64c0ad29fd5b2ee60870f720db163f265dd68bd6c00b", func := "tsblock/tsblocklaw10.SymbolsDecodes", spec := "symbolsDecodes", unfollowed := true, recurses := true, plainKeys := false, apart := false }
def SymbolsDecodesSaid : Prop := symbolsDecodesRow.holds Try.pinned (OpenSpec.ofChange symbolsDecodesSpec)

/-- ITS FALSE NEIGHBOUR: 'it returns false'. Refute it at one input. -/
def symbolsDecodesWrong : ChangeSpec := { name := "symbolsDecodes", fn := fun _ => fun
  | [d] => { results := [.lit (.bool false)], args := [d] }
  | _ => none }
def SymbolsDecodesWrongFalsely : Prop := symbolsDecodesRow.holds Try.pinned (OpenSpec.ofChange symbolsDecodesWrong)

/-- 'tsblocklaw10.SymbolsRoundTrip': WHATEVER THE INPUT: true; the input reads as it did. -/
def symbolsRoundTripSpec : ChangeSpec := { name := "symbolsRoundTrip", fn := fun _ => fun
  | [d] => { results := [.lit (.bool true)], args := [d] }
  | _ => none }
def symbolsRoundTripRow : OpenClaim := { program := "ythhcfocmaiacoaa", sum := "6ae08fc95a709eb79ecd64c0ad29fd5b2ee60870f720db163f265dd68bd6c00b", func := "tsblock/tsblocklaw10.SymbolsRoundTrip", spec := "symbolsRoundTrip", unfollowed := true, recurses := true, plainKeys := false, apart := false }
def SymbolsRoundTripSaid : Prop := symbolsRoundTripRow.holds Try.pinned (OpenSpec.ofChange symbolsRoundTripSpec)

/-- ITS FALSE NEIGHBOUR: 'it returns false'. Refute it at one input. -/
def symbolsRoundTripWrong : ChangeSpec := { name := "symbolsRoundTrip", fn := fun _ => fun
  | [d] => { results := [.lit (.bool false)], args := [d] }
  | _ => none }
def SymbolsRoundTripWrongFalsely : Prop := symbolsRoundTripRow.holds Try.pinned (OpenSpec.ofChange symbolsRoundTripWrong)

/-- 'tsblocklaw10.SymbolsAreCanonical': WHATEVER THE INPUT: true; the input reads as it did. -/
def symbolsAreCanonicalSpec : ChangeSpec := { name := "symbolsAreCanonical", fn := fun _ => fun
  | [d] => { results := [.lit (.bool true)], args := [d] }
  | _ => none }
def symbolsAreCanonicalRow : OpenClaim := { program := "ythhcfocmaiacoaa", sum := "6ae08fc95a709eb79ecd64c0ad29fd5b2ee60870f720db163f265dd68bd6c00b", func := "tsblock/tsblocklaw10.SymbolsAreCanonical", spec := "symbolsAreCanonical", unfollowed := true, recurses := true, plainKeys := false, apart := false }
def SymbolsAreCanonicalSaid : Prop := symbolsAreCanonicalRow.holds Try.pinned (OpenSpec.ofChange symbolsAreCanonicalSpec)

/-- ITS FALSE NEIGHBOUR: 'it returns false'. Refute it at one input. -/
def symbolsAreCanonicalWrong : ChangeSpec := { name := "symbolsAreCanonical", fn := fun _ => fun
  | [d] => { results := [.lit (.bool false)], args := [d] }
  | _ => none }
def SymbolsAreCanonicalWrongFalsely : Prop := symbolsAreCanonicalRow.holds Try.pinned (OpenSpec.ofChange symbolsAreCanonicalWrong)

/-- 'tsblocklaw15.PostingsBuild': WHATEVER THE INPUT: true; the input reads as it did. -/
def postingsBuildSpec : ChangeSpec := { name := "postingsBuild", fn := fun _ => fun
  | [d] => { results := [.lit (.bool true)], args := [d] }
  | _ => none }
def postingsBuildRow : OpenClaim := { program := "ythhcfocmaiacoaa", sum := "6ae08fc95a709eb79ecd64c0ad29fd5b2ee60870f720db163f265dd68bd6c00b", func := "tsblock/tsblocklaw15.PostingsBuild", spec := "postingsBuild", unfollowed := true, recurses := true, plainKeys := false, apart := false }
def PostingsBuildSaid : Prop := postingsBuildRow.holds Try.pinned (OpenSpec.ofChange postingsBuildSpec)

/-- ITS FALSE NEIGHBOUR: 'it returns false'. Refute it at one input. -/
def postingsBuildWrong : ChangeSpec := { name := "postingsBuild", fn := fun _ => fun
  | [d] => { results := [.lit (.bool false)], args := [d] }
  | _ => none }
def PostingsBuildWrongFalsely : Prop := postingsBuildRow.holds Try.pinned (OpenSpec.ofChange postingsBuildWrong)

/-- 'tsblocklaw15.PostingsEncode': WHATEVER THE INPUT: true; the input reads as it did. -/
def postingsEncodeSpec : ChangeSpec := { name := "postingsEncode", fn := fun _ => fun
  | [d1, d2] => { results := [.lit (.bool true)], args := [d1, d2] }
  | _ => none }
def postingsEncodeRow : OpenClaim := { program := "ythhcfocmaiacoaa", sum := "6ae08fc95a709eb79ecd64c0ad29fd5b2ee60870f720db163f265dd68bd6c00b", func := "tsblock/tsblocklaw15.PostingsEncode", spec := "postingsEncode", unfollowed := true, recurses := true, plainKeys := false, apart := false }
def PostingsEncodeSaid : Prop := postingsEncodeRow.holds Try.pinned (OpenSpec.ofChange postingsEncodeSpec)

/-- ITS FALSE NEIGHBOUR: 'it returns false'. Refute it at one input. -/
def postingsEncodeWrong : ChangeSpec := { name := "postingsEncode", fn := fun _ => fun
  | [d1, d2] => { results := [.lit (.bool false)], args := [d1, d2] }
  | _ => none }
def PostingsEncodeWrongFalsely : Prop := postingsEncodeRow.holds Try.pinned (OpenSpec.ofChange postingsEncodeWrong)

/-- 'tsblocklaw15.PostingsDecode': WHATEVER THE INPUT: true; the input reads as it did. -/
def postingsDecodeSpec : ChangeSpec := { name := "postingsDecode", fn := fun _ => fun
  | [d1, d2, d3] => { results := [.lit (.bool true)], args := [d1, d2, d3] }
  | _ => none }
def postingsDecodeRow : OpenClaim := { program := "ythhcfocmaiacoaa", sum := "6ae08fc95a709eb79ecd64c0ad29fd5b2ee60870f720db163f265dd68bd6c00b", func := "tsblock/tsblocklaw15.PostingsDecode", spec := "postingsDecode", unfollowed := true, recurses := true, plainKeys := false, apart := false }
def PostingsDecodeSaid : Prop := postingsDecodeRow.holds Try.pinned (OpenSpec.ofChange postingsDecodeSpec)

/-- ITS FALSE NEIGHBOUR: 'it returns false'. Refute it at one input. -/
def postingsDecodeWrong : ChangeSpec := { name := "postingsDecode", fn := fun _ => fun
  | [d1, d2, d3] => { results := [.lit (.bool false)], args := [d1, d2, d3] }
  | _ => none }
def PostingsDecodeWrongFalsely : Prop := postingsDecodeRow.holds Try.pinned (OpenSpec.ofChange postingsDecodeWrong)

/-- 'tsblocklaw15.PostingsRoundTrip': WHATEVER THE INPUT: true; the input reads as it did. -/
def postingsRoundTripSpec : ChangeSpec := { name := "postingsRoundTrip", fn := fun _ => fun
  | [d] => { results := [.lit (.bool true)], args := [d] }
  | _ => none }
def postingsRoundTripRow : OpenClaim := { program := "ythhcfocmaiacoaa", sum := "6ae08fc95a709eb79ecd64c0ad29fd5b2ee60870f720db163f265dd68bd6c00b", func := "tsblock/tsblocklaw15.PostingsRoundTrip", spec := "postingsRoundTrip", unfollowed := true, recurses := true, plainKeys := false, apart := false }
def PostingsRoundTripSaid : Prop := postingsRoundTripRow.holds Try.pinned (OpenSpec.ofChange postingsRoundTripSpec)

/-- ITS FALSE NEIGHBOUR: 'it returns false'. Refute it at one input. -/
def postingsRoundTripWrong : ChangeSpec := { name := "postingsRoundTrip", fn := fun _ => fun
  | [d] => { results := [.lit (.bool false)], args := [d] }
  | _ => none }
def PostingsRoundTripWrongFalsely : Prop := postingsRoundTripRow.holds Try.pinned (OpenSpec.ofChange postingsRoundTripWrong)

/-- 'tsblocklaw15.PostingsAreCanonical': WHATEVER THE INPUT: true; the input reads as it did. -/
def postingsAreCanonicalSpec : ChangeSpec := { name := "postingsAreCanonical", fn := fun _ => fun
  | [d1, d2, d3] => { results := [.lit (.bool true)], args := [d1, d2, d3] }
  | _ => none }
def postingsAreCanonicalRow : OpenClaim := { program := "ythhcfocmaiacoaa", sum := "6ae08fc95a709eb79ecd64c0ad29fd5b2ee60870f720db163f265dd68bd6c00b", func := "tsblock/tsblocklaw15.PostingsAreCanonical", spec := "postingsAreCanonical", unfollowed := true, recurses := true, plainKeys := false, apart := false }
def PostingsAreCanonicalSaid : Prop := postingsAreCanonicalRow.holds Try.pinned (OpenSpec.ofChange postingsAreCanonicalSpec)

/-- ITS FALSE NEIGHBOUR: 'it returns false'. Refute it at one input. -/
def postingsAreCanonicalWrong : ChangeSpec := { name := "postingsAreCanonical", fn := fun _ => fun
  | [d1, d2, d3] => { results := [.lit (.bool false)], args := [d1, d2, d3] }
  | _ => none }
def PostingsAreCanonicalWrongFalsely : Prop := postingsAreCanonicalRow.holds Try.pinned (OpenSpec.ofChange postingsAreCanonicalWrong)

/-- 'tsblocklaw15.PostingsFind': WHATEVER THE INPUT: true; the input reads as it did. -/
def postingsFindSpec : ChangeSpec := { name := "postingsFind", fn := fun _ => fun
  | [d1, d2] => { results := [.lit (.bool true)], args := [d1, d2] }
  | _ => none }
def postingsFindRow : OpenClaim := { program := "ythhcfocmaiacoaa", sum := "6ae08fc95a709eb79ecd64c0ad29fd5b2ee60870f720db163f265dd68bd6c00b", func := "tsblock/tsblocklaw15.PostingsFind", spec := "postingsFind", unfollowed := true, recurses := true, plainKeys := false, apart := false }
def PostingsFindSaid : Prop := postingsFindRow.holds Try.pinned (OpenSpec.ofChange postingsFindSpec)

/-- ITS FALSE NEIGHBOUR: 'it returns false'. Refute it at one input. -/
def postingsFindWrong : ChangeSpec := { name := "postingsFind", fn := fun _ => fun
  | [d1, d2] => { results := [.lit (.bool false)], args := [d1, d2] }
  | _ => none }
def PostingsFindWrongFalsely : Prop := postingsFindRow.holds Try.pinned (OpenSpec.ofChange postingsFindWrong)

/- THE SECOND FORM. 'bulk': how many values and letters a reading holds, each counted each time it is reached (what is shared counts as often as it is met; a slice's spare places count too). A statement '..UptoSaid' is the law's where the arguments, and the package variables that the reading takes, are together of bulk at most 1048576: NARROWER than '..Said'. Prove '..Said' where nothing that the law and all that it calls make is longer than what came in: it says more and counts as full. Else prove '..UptoSaid'. A law counts once. -/
mutual
def uptoBulk {H : Type} : DataW H → Nat
  | .lit (.string bytes) => bytes.length + 1
  | .lit _ => 1
  | .nil => 1
  | .ptr d => uptoBulk d + 1
  | .slice elems spare => uptoBulkAll elems + uptoBulkAll spare + 1
  | .agg parts => uptoBulkAll parts + 1
  | .iface _ d => uptoBulk d + 1
  | .map entries => uptoBulkEntries entries + 1
  | .held _ => 1
def uptoBulkAll {H : Type} : List (DataW H) → Nat
  | [] => 0
  | d :: r => uptoBulk d + uptoBulkAll r
def uptoBulkEntries {H : Type} : List (Lit × DataW H) → Nat
  | [] => 0
  | x :: r => uptoBulkEntry x + uptoBulkEntries r
def uptoBulkEntry {H : Type} : Lit × DataW H → Nat
  | (.string bytes, d) => bytes.length + uptoBulk d + 1
  | (_, d) => uptoBulk d + 1
 end
def uptoSmall : (H : Type) → List (DataW H) → Bool := fun _ ds => decide (uptoBulkAll ds ≤ 1048576)
def OpenSpec.upto (s : _root_.Go.ChangeSpec) : _root_.Go.OpenSpec := { _root_.Go.OpenSpec.ofChange s with cond := some uptoSmall }

/-- 'tsblocklaw10.SymbolsFinds', WHERE WHAT IT READS IS OF BULK AT MOST 1048576: true; the input reads as it did. -/
def symbolsFindsUptoRow : OpenClaim := { program := "ythhcfocmaiacoaa", sum := "6ae08fc95a709eb79ecd64c0ad29fd5b2ee60870f720db163f265dd68bd6c00b", func := "tsblock/tsblocklaw10.SymbolsFinds", spec := "symbolsFinds", unfollowed := true, recurses := true, plainKeys := false, apart := false, narrowed := true }
def SymbolsFindsUptoSaid : Prop := symbolsFindsUptoRow.holds Try.pinned (OpenSpec.upto symbolsFindsSpec)

/-- 'tsblocklaw10.SymbolsEncodes', WHERE WHAT IT READS IS OF BULK AT MOST 1048576: true; the input reads as it did. -/
def symbolsEncodesUptoRow : OpenClaim := { program := "ythhcfocmaiacoaa", sum := "6ae08fc95a709eb79ecd64c0ad29fd5b2ee60870f720db163f265dd68bd6c00b", func := "tsblock/tsblocklaw10.SymbolsEncodes", spec := "symbolsEncodes", unfollowed := true, recurses := true, plainKeys := false, apart := false, narrowed := true }
def SymbolsEncodesUptoSaid : Prop := symbolsEncodesUptoRow.holds Try.pinned (OpenSpec.upto symbolsEncodesSpec)

/-- 'tsblocklaw10.SymbolsTables', WHERE WHAT IT READS IS OF BULK AT MOST 1048576: true; the input reads as it did. -/
def symbolsTablesUptoRow : OpenClaim := { program := "ythhcfocmaiacoaa", sum := "6ae08fc95a709eb79ecd64c0ad29fd5b2ee60870f720db163f265dd68bd6c00b", func := "tsblock/tsblocklaw10.SymbolsTables", spec := "symbolsTables", unfollowed := true, recurses := true, plainKeys := false, apart := false, narrowed := true }
def SymbolsTablesUptoSaid : Prop := symbolsTablesUptoRow.holds Try.pinned (OpenSpec.upto symbolsTablesSpec)

/-- 'tsblocklaw10.SymbolsDecodes', WHERE WHAT IT READS IS OF BULK AT MOST 1048576: true; the input reads as it did. -/
def symbolsDecodesUptoRow : OpenClaim := { program := "ythhcfocmaiacoaa", sum := "6ae08fc95a709eb79ecd64c0ad29fd5b2ee60870f720db163f265dd68bd6c00b", func := "tsblock/tsblocklaw10.SymbolsDecodes", spec := "symbolsDecodes", unfollowed := true, recurses := true, plainKeys := false, apart := false, narrowed := true }
def SymbolsDecodesUptoSaid : Prop := symbolsDecodesUptoRow.holds Try.pinned (OpenSpec.upto symbolsDecodesSpec)

/-- 'tsblocklaw10.SymbolsRoundTrip', WHERE WHAT IT READS IS OF BULK AT MOST 1048576: true; the input reads as it did. -/
def symbolsRoundTripUptoRow : OpenClaim := { program := "ythhcfocmaiacoaa", sum := "6ae08fc95a709eb79ecd64c0ad29fd5b2ee60870f720db163f265dd68bd6c00b", func := "tsblock/tsblocklaw10.SymbolsRoundTrip", spec := "symbolsRoundTrip", unfollowed := true, recurses := true, plainKeys := false, apart := false, narrowed := true }
def SymbolsRoundTripUptoSaid : Prop := symbolsRoundTripUptoRow.holds Try.pinned (OpenSpec.upto symbolsRoundTripSpec)

/-- 'tsblocklaw10.SymbolsAreCanonical', WHERE WHAT IT READS IS OF BULK AT MOST 1048576: true; the input reads as it did. -/
def symbolsAreCanonicalUptoRow : OpenClaim := { program := "ythhcfocmaiacoaa", sum := "6ae08fc95a709eb79ecd64c0ad29fd5b2ee60870f720db163f265dd68bd6c00b", func := "tsblock/tsblocklaw10.SymbolsAreCanonical", spec := "symbolsAreCanonical", unfollowed := true, recurses := true, plainKeys := false, apart := false, narrowed := true }
def SymbolsAreCanonicalUptoSaid : Prop := symbolsAreCanonicalUptoRow.holds Try.pinned (OpenSpec.upto symbolsAreCanonicalSpec)

/-- 'tsblocklaw15.PostingsBuild', WHERE WHAT IT READS IS OF BULK AT MOST 1048576: true; the input reads as it did. -/
def postingsBuildUptoRow : OpenClaim := { program := "ythhcfocmaiacoaa", sum := "6ae08fc95a709eb79ecd64c0ad29fd5b2ee60870f720db163f265dd68bd6c00b", func := "tsblock/tsblocklaw15.PostingsBuild", spec := "postingsBuild", unfollowed := true, recurses := true, plainKeys := false, apart := false, narrowed := true }
def PostingsBuildUptoSaid : Prop := postingsBuildUptoRow.holds Try.pinned (OpenSpec.upto postingsBuildSpec)

/-- 'tsblocklaw15.PostingsEncode', WHERE WHAT IT READS IS OF BULK AT MOST 1048576: true; the input reads as it did. -/
def postingsEncodeUptoRow : OpenClaim := { program := "ythhcfocmaiacoaa", sum := "6ae08fc95a709eb79ecd64c0ad29fd5b2ee60870f720db163f265dd68bd6c00b", func := "tsblock/tsblocklaw15.PostingsEncode", spec := "postingsEncode", unfollowed := true, recurses := true, plainKeys := false, apart := false, narrowed := true }
def PostingsEncodeUptoSaid : Prop := postingsEncodeUptoRow.holds Try.pinned (OpenSpec.upto postingsEncodeSpec)

/-- 'tsblocklaw15.PostingsDecode', WHERE WHAT IT READS IS OF BULK AT MOST 1048576: true; the input reads as it did. -/
def postingsDecodeUptoRow : OpenClaim := { program := "ythhcfocmaiacoaa", sum := "6ae08fc95a709eb79ecd64c0ad29fd5b2ee60870f720db163f265dd68bd6c00b", func := "tsblock/tsblocklaw15.PostingsDecode", spec := "postingsDecode", unfollowed := true, recurses := true, plainKeys := false, apart := false, narrowed := true }
def PostingsDecodeUptoSaid : Prop := postingsDecodeUptoRow.holds Try.pinned (OpenSpec.upto postingsDecodeSpec)

/-- 'tsblocklaw15.PostingsRoundTrip', WHERE WHAT IT READS IS OF BULK AT MOST 1048576: true; the input reads as it did. -/
def postingsRoundTripUptoRow : OpenClaim := { program := "ythhcfocmaiacoaa", sum := "6ae08fc95a709eb79ecd64c0ad29fd5b2ee60870f720db163f265dd68bd6c00b", func := "tsblock/tsblocklaw15.PostingsRoundTrip", spec := "postingsRoundTrip", unfollowed := true, recurses := true, plainKeys := false, apart := false, narrowed := true }
def PostingsRoundTripUptoSaid : Prop := postingsRoundTripUptoRow.holds Try.pinned (OpenSpec.upto postingsRoundTripSpec)

/-- 'tsblocklaw15.PostingsAreCanonical', WHERE WHAT IT READS IS OF BULK AT MOST 1048576: true; the input reads as it did. -/
def postingsAreCanonicalUptoRow : OpenClaim := { program := "ythhcfocmaiacoaa", sum := "6ae08fc95a709eb79ecd64c0ad29fd5b2ee60870f720db163f265dd68bd6c00b", func := "tsblock/tsblocklaw15.PostingsAreCanonical", spec := "postingsAreCanonical", unfollowed := true, recurses := true, plainKeys := false, apart := false, narrowed := true }
def PostingsAreCanonicalUptoSaid : Prop := postingsAreCanonicalUptoRow.holds Try.pinned (OpenSpec.upto postingsAreCanonicalSpec)

/-- 'tsblocklaw15.PostingsFind', WHERE WHAT IT READS IS OF BULK AT MOST 1048576: true; the input reads as it did. -/
def postingsFindUptoRow : OpenClaim := { program := "ythhcfocmaiacoaa", sum := "6ae08fc95a709eb79ecd64c0ad29fd5b2ee60870f720db163f265dd68bd6c00b", func := "tsblock/tsblocklaw15.PostingsFind", spec := "postingsFind", unfollowed := true, recurses := true, plainKeys := false, apart := false, narrowed := true }
def PostingsFindUptoSaid : Prop := postingsFindUptoRow.holds Try.pinned (OpenSpec.upto postingsFindSpec)

end Rows
end Go.Proofs.Ythhcfocmaiacoaa
