/-
  NARROWER THAN 'FOR EVERY INPUT', by the rows' own cells (each row's printed sentence says how): WireWrites: laid · WireFindsBursts: laid · WireRoundTrip: laid · WireReads: laid · WireStays: laid · WireIsolated: laid · LayoutAssembles: laid · LayoutParses: laid · LayoutIsCanonical: laid · LayoutFindsBursts: laid · LayoutRoundTrip: laid · LayoutPrefixes: laid.
  DERIVED. THE GIVEN ROWS OF THIS SEAT. 12 by the template 'for every input the law returns true; each argument reads behind the call as it read before'; 0 by the template 'total and deterministic' (their statements: YtknfkbgnfjfpeaaDoorTotals.lean).
  GIVEN WITH THE SEED: the statements are not yours to turn. If you find one false, say at which input.
  Laid BY PROGRAM, IN A SANDBOX (cutbox-rows.mjs): the forced cells as the released guide's own fill.sh prints them over the translation 67831ac8102706e0… (all of the seat's roots in one cut). By AI agents, Wed Nov 11 2026. No macro, syntax, notation, axiom, sorry.
-/
import Derived.Test.YtknfkbgnfjfpeaaDoorChecked
import GoSem.Claim
import GoSem.ClaimJoined
import GoSem.ClaimMapViews
import Derived.JoinedTies
import Derived.KernelRfl
namespace Go.Proofs.YtknfkbgnfjfpeaaDoor
/- THE CELL 'sum', in the pinned program and in every row, IS THE sha256 OF THE DUMP (.gsa) THAT YtknfkbgnfjfpeaaDoorProg.lean LOADS. Nothing in Lean hashes anything: it is a label: what it is worth is what the hold of that sum in a sandbox is worth. -/
noncomputable def Tryd.pinned : Pinned := { name := "ytknfkbgnfjfpeaadoor", sum := "67831ac8102706e04d4ef2ab4b509c8242678495d626ca9caf52ab81357eb81a", checked := Tryd.checked }
namespace Rows
def none {H : Type} : Left H := { results := [], args := [] }

/- WHAT THE LISTED PACKAGE-LEVEL VARIABLES READ AS WHEN THE CALL BEGINS. Each datum BY PROGRAM (the guide's laid-datum.mjs) off the statement by which the dump's own 'gosem.cut.vars' lays the variable. In a bare row this is a premise. The card (YtknfkbgnfjfpeaaDoorCards.lean) ties it to the program's text. -/
def laid_tsblock_crc_table {H : Type} : DataW H := .agg [.lit (.int .u32 0), .lit (.int .u32 498536548), .lit (.int .u32 997073096), .lit (.int .u32 651767980), .lit (.int .u32 1994146192), .lit (.int .u32 1802195444), .lit (.int .u32 1303535960), .lit (.int .u32 1342533948), .lit (.int .u32 3988292384), .lit (.int .u32 4027552580), .lit (.int .u32 3604390888), .lit (.int .u32 3412177804), .lit (.int .u32 2607071920), .lit (.int .u32 2262029012), .lit (.int .u32 2685067896), .lit (.int .u32 3183342108)]

/-- 'tsblocklaw04.WireWrites': WHATEVER THE INPUT: true; the input reads as it did. -/
def wireWritesSpec : ChangeSpec := { name := "wireWrites", fn := fun _ => fun
  | [d1, d2, d3] => { results := [.lit (.bool true)], args := [d1, d2, d3] }
  | _ => none }
def wireWritesRow : OpenClaim := { program := "ytknfkbgnfjfpeaadoor", sum := "67831ac8102706e04d4ef2ab4b509c8242678495d626ca9caf52ab81357eb81a", func := "tsblock/tsblocklaw04.WireWrites", spec := "wireWrites", unfollowed := true, recurses := true, named := ["tsblock/crc.table"], apart := false, laid := [("tsblock/crc.table", laid_tsblock_crc_table)] }
def WireWritesSaid : Prop := wireWritesRow.holds Tryd.pinned (OpenSpec.ofChange wireWritesSpec)

/-- ITS FALSE NEIGHBOUR: 'it returns false'. Refute it at one input. -/
def wireWritesWrong : ChangeSpec := { name := "wireWrites", fn := fun _ => fun
  | [d1, d2, d3] => { results := [.lit (.bool false)], args := [d1, d2, d3] }
  | _ => none }
def WireWritesWrongFalsely : Prop := wireWritesRow.holds Tryd.pinned (OpenSpec.ofChange wireWritesWrong)

/-- 'tsblocklaw04.WireFindsBursts': WHATEVER THE INPUT: true; the input reads as it did. -/
def wireFindsBurstsSpec : ChangeSpec := { name := "wireFindsBursts", fn := fun _ => fun
  | [d1, d2, d3] => { results := [.lit (.bool true)], args := [d1, d2, d3] }
  | _ => none }
def wireFindsBurstsRow : OpenClaim := { program := "ytknfkbgnfjfpeaadoor", sum := "67831ac8102706e04d4ef2ab4b509c8242678495d626ca9caf52ab81357eb81a", func := "tsblock/tsblocklaw04.WireFindsBursts", spec := "wireFindsBursts", unfollowed := true, recurses := true, named := ["tsblock/crc.table"], apart := false, laid := [("tsblock/crc.table", laid_tsblock_crc_table)] }
def WireFindsBurstsSaid : Prop := wireFindsBurstsRow.holds Tryd.pinned (OpenSpec.ofChange wireFindsBurstsSpec)

/-- ITS FALSE NEIGHBOUR: 'it returns false'. Refute it at one input. -/
def wireFindsBurstsWrong : ChangeSpec := { name := "wireFindsBursts", fn := fun _ => fun
  | [d1, d2, d3] => { results := [.lit (.bool false)], args := [d1, d2, d3] }
  | _ => none }
def WireFindsBurstsWrongFalsely : Prop := wireFindsBurstsRow.holds Tryd.pinned (OpenSpec.ofChange wireFindsBurstsWrong)

/-- 'tsblocklaw04.WireRoundTrip': WHATEVER THE INPUT: true; the input reads as it did. -/
def wireRoundTripSpec : ChangeSpec := { name := "wireRoundTrip", fn := fun _ => fun
  | [d1, d2] => { results := [.lit (.bool true)], args := [d1, d2] }
  | _ => none }
def wireRoundTripRow : OpenClaim := { program := "ytknfkbgnfjfpeaadoor", sum := "67831ac8102706e04d4ef2ab4b509c8242678495d626ca9caf52ab81357eb81a", func := "tsblock/tsblocklaw04.WireRoundTrip", spec := "wireRoundTrip", unfollowed := true, recurses := true, named := ["tsblock/crc.table"], apart := false, laid := [("tsblock/crc.table", laid_tsblock_crc_table)] }
def WireRoundTripSaid : Prop := wireRoundTripRow.holds Tryd.pinned (OpenSpec.ofChange wireRoundTripSpec)

/-- ITS FALSE NEIGHBOUR: 'it returns false'. Refute it at one input. -/
def wireRoundTripWrong : ChangeSpec := { name := "wireRoundTrip", fn := fun _ => fun
  | [d1, d2] => { results := [.lit (.bool false)], args := [d1, d2] }
  | _ => none }
def WireRoundTripWrongFalsely : Prop := wireRoundTripRow.holds Tryd.pinned (OpenSpec.ofChange wireRoundTripWrong)

/-- 'tsblocklaw04.WireReads': WHATEVER THE INPUT: true; the input reads as it did. -/
def wireReadsSpec : ChangeSpec := { name := "wireReads", fn := fun _ => fun
  | [d1, d2] => { results := [.lit (.bool true)], args := [d1, d2] }
  | _ => none }
def wireReadsRow : OpenClaim := { program := "ytknfkbgnfjfpeaadoor", sum := "67831ac8102706e04d4ef2ab4b509c8242678495d626ca9caf52ab81357eb81a", func := "tsblock/tsblocklaw04.WireReads", spec := "wireReads", unfollowed := true, recurses := true, named := ["tsblock/crc.table"], apart := false, laid := [("tsblock/crc.table", laid_tsblock_crc_table)] }
def WireReadsSaid : Prop := wireReadsRow.holds Tryd.pinned (OpenSpec.ofChange wireReadsSpec)

/-- ITS FALSE NEIGHBOUR: 'it returns false'. Refute it at one input. -/
def wireReadsWrong : ChangeSpec := { name := "wireReads", fn := fun _ => fun
  | [d1, d2] => { results := [.lit (.bool false)], args := [d1, d2] }
  | _ => none }
def WireReadsWrongFalsely : Prop := wireReadsRow.holds Tryd.pinned (OpenSpec.ofChange wireReadsWrong)

/-- 'tsblocklaw04.WireStays': WHATEVER THE INPUT: true; the input reads as it did. -/
def wireStaysSpec : ChangeSpec := { name := "wireStays", fn := fun _ => fun
  | [d1, d2, d3] => { results := [.lit (.bool true)], args := [d1, d2, d3] }
  | _ => none }
def wireStaysRow : OpenClaim := { program := "ytknfkbgnfjfpeaadoor", sum := "67831ac8102706e04d4ef2ab4b509c8242678495d626ca9caf52ab81357eb81a", func := "tsblock/tsblocklaw04.WireStays", spec := "wireStays", unfollowed := true, recurses := true, named := ["tsblock/crc.table"], apart := false, laid := [("tsblock/crc.table", laid_tsblock_crc_table)] }
def WireStaysSaid : Prop := wireStaysRow.holds Tryd.pinned (OpenSpec.ofChange wireStaysSpec)

/-- ITS FALSE NEIGHBOUR: 'it returns false'. Refute it at one input. -/
def wireStaysWrong : ChangeSpec := { name := "wireStays", fn := fun _ => fun
  | [d1, d2, d3] => { results := [.lit (.bool false)], args := [d1, d2, d3] }
  | _ => none }
def WireStaysWrongFalsely : Prop := wireStaysRow.holds Tryd.pinned (OpenSpec.ofChange wireStaysWrong)

/-- 'tsblocklaw04.WireIsolated': WHATEVER THE INPUT: true; the input reads as it did. -/
def wireIsolatedSpec : ChangeSpec := { name := "wireIsolated", fn := fun _ => fun
  | [d1, d2] => { results := [.lit (.bool true)], args := [d1, d2] }
  | _ => none }
def wireIsolatedRow : OpenClaim := { program := "ytknfkbgnfjfpeaadoor", sum := "67831ac8102706e04d4ef2ab4b509c8242678495d626ca9caf52ab81357eb81a", func := "tsblock/tsblocklaw04.WireIsolated", spec := "wireIsolated", unfollowed := true, recurses := true, named := ["tsblock/crc.table"], apart := false, laid := [("tsblock/crc.table", laid_tsblock_crc_table)] }
def WireIsolatedSaid : Prop := wireIsolatedRow.holds Tryd.pinned (OpenSpec.ofChange wireIsolatedSpec)

/-- ITS FALSE NEIGHBOUR: 'it returns false'. Refute it at one input. -/
def wireIsolatedWrong : ChangeSpec := { name := "wireIsolated", fn := fun _ => fun
  | [d1, d2] => { results := [.lit (.bool false)], args := [d1, d2] }
  | _ => none }
def WireIsolatedWrongFalsely : Prop := wireIsolatedRow.holds Tryd.pinned (OpenSpec.ofChange wireIsolatedWrong)

/-- 'tsblocklaw16.LayoutAssembles': WHATEVER THE INPUT: true; the input reads as it did. -/
def layoutAssemblesSpec : ChangeSpec := { name := "layoutAssembles", fn := fun _ => fun
  | [d] => { results := [.lit (.bool true)], args := [d] }
  | _ => none }
def layoutAssemblesRow : OpenClaim := { program := "ytknfkbgnfjfpeaadoor", sum := "67831ac8102706e04d4ef2ab4b509c8242678495d626ca9caf52ab81357eb81a", func := "tsblock/tsblocklaw16.LayoutAssembles", spec := "layoutAssembles", unfollowed := true, recurses := true, named := ["tsblock/crc.table"], apart := false, laid := [("tsblock/crc.table", laid_tsblock_crc_table)] }
def LayoutAssemblesSaid : Prop := layoutAssemblesRow.holds Tryd.pinned (OpenSpec.ofChange layoutAssemblesSpec)

/-- ITS FALSE NEIGHBOUR: 'it returns false'. Refute it at one input. -/
def layoutAssemblesWrong : ChangeSpec := { name := "layoutAssembles", fn := fun _ => fun
  | [d] => { results := [.lit (.bool false)], args := [d] }
  | _ => none }
def LayoutAssemblesWrongFalsely : Prop := layoutAssemblesRow.holds Tryd.pinned (OpenSpec.ofChange layoutAssemblesWrong)

/-- 'tsblocklaw16.LayoutParses': WHATEVER THE INPUT: true; the input reads as it did. -/
def layoutParsesSpec : ChangeSpec := { name := "layoutParses", fn := fun _ => fun
  | [d] => { results := [.lit (.bool true)], args := [d] }
  | _ => none }
def layoutParsesRow : OpenClaim := { program := "ytknfkbgnfjfpeaadoor", sum := "67831ac8102706e04d4ef2ab4b509c8242678495d626ca9caf52ab81357eb81a", func := "tsblock/tsblocklaw16.LayoutParses", spec := "layoutParses", unfollowed := true, recurses := true, named := ["tsblock/crc.table"], apart := false, laid := [("tsblock/crc.table", laid_tsblock_crc_table)] }
def LayoutParsesSaid : Prop := layoutParsesRow.holds Tryd.pinned (OpenSpec.ofChange layoutParsesSpec)

/-- ITS FALSE NEIGHBOUR: 'it returns false'. Refute it at one input. -/
def layoutParsesWrong : ChangeSpec := { name := "layoutParses", fn := fun _ => fun
  | [d] => { results := [.lit (.bool false)], args := [d] }
  | _ => none }
def LayoutParsesWrongFalsely : Prop := layoutParsesRow.holds Tryd.pinned (OpenSpec.ofChange layoutParsesWrong)

/-- 'tsblocklaw16.LayoutIsCanonical': WHATEVER THE INPUT: true; the input reads as it did. -/
def layoutIsCanonicalSpec : ChangeSpec := { name := "layoutIsCanonical", fn := fun _ => fun
  | [d] => { results := [.lit (.bool true)], args := [d] }
  | _ => none }
def layoutIsCanonicalRow : OpenClaim := { program := "ytknfkbgnfjfpeaadoor", sum := "67831ac8102706e04d4ef2ab4b509c8242678495d626ca9caf52ab81357eb81a", func := "tsblock/tsblocklaw16.LayoutIsCanonical", spec := "layoutIsCanonical", unfollowed := true, recurses := true, named := ["tsblock/crc.table"], apart := false, laid := [("tsblock/crc.table", laid_tsblock_crc_table)] }
def LayoutIsCanonicalSaid : Prop := layoutIsCanonicalRow.holds Tryd.pinned (OpenSpec.ofChange layoutIsCanonicalSpec)

/-- ITS FALSE NEIGHBOUR: 'it returns false'. Refute it at one input. -/
def layoutIsCanonicalWrong : ChangeSpec := { name := "layoutIsCanonical", fn := fun _ => fun
  | [d] => { results := [.lit (.bool false)], args := [d] }
  | _ => none }
def LayoutIsCanonicalWrongFalsely : Prop := layoutIsCanonicalRow.holds Tryd.pinned (OpenSpec.ofChange layoutIsCanonicalWrong)

/-- 'tsblocklaw16.LayoutFindsBursts': WHATEVER THE INPUT: true; the input reads as it did. -/
def layoutFindsBurstsSpec : ChangeSpec := { name := "layoutFindsBursts", fn := fun _ => fun
  | [d1, d2, d3] => { results := [.lit (.bool true)], args := [d1, d2, d3] }
  | _ => none }
def layoutFindsBurstsRow : OpenClaim := { program := "ytknfkbgnfjfpeaadoor", sum := "67831ac8102706e04d4ef2ab4b509c8242678495d626ca9caf52ab81357eb81a", func := "tsblock/tsblocklaw16.LayoutFindsBursts", spec := "layoutFindsBursts", unfollowed := true, recurses := true, named := ["tsblock/crc.table"], apart := false, laid := [("tsblock/crc.table", laid_tsblock_crc_table)] }
def LayoutFindsBurstsSaid : Prop := layoutFindsBurstsRow.holds Tryd.pinned (OpenSpec.ofChange layoutFindsBurstsSpec)

/-- ITS FALSE NEIGHBOUR: 'it returns false'. Refute it at one input. -/
def layoutFindsBurstsWrong : ChangeSpec := { name := "layoutFindsBursts", fn := fun _ => fun
  | [d1, d2, d3] => { results := [.lit (.bool false)], args := [d1, d2, d3] }
  | _ => none }
def LayoutFindsBurstsWrongFalsely : Prop := layoutFindsBurstsRow.holds Tryd.pinned (OpenSpec.ofChange layoutFindsBurstsWrong)

/-- 'tsblocklaw16.LayoutRoundTrip': WHATEVER THE INPUT: true; the input reads as it did. -/
def layoutRoundTripSpec : ChangeSpec := { name := "layoutRoundTrip", fn := fun _ => fun
  | [d] => { results := [.lit (.bool true)], args := [d] }
  | _ => none }
def layoutRoundTripRow : OpenClaim := { program := "ytknfkbgnfjfpeaadoor", sum := "67831ac8102706e04d4ef2ab4b509c8242678495d626ca9caf52ab81357eb81a", func := "tsblock/tsblocklaw16.LayoutRoundTrip", spec := "layoutRoundTrip", unfollowed := true, recurses := true, named := ["tsblock/crc.table"], apart := false, laid := [("tsblock/crc.table", laid_tsblock_crc_table)] }
def LayoutRoundTripSaid : Prop := layoutRoundTripRow.holds Tryd.pinned (OpenSpec.ofChange layoutRoundTripSpec)

/-- ITS FALSE NEIGHBOUR: 'it returns false'. Refute it at one input. -/
def layoutRoundTripWrong : ChangeSpec := { name := "layoutRoundTrip", fn := fun _ => fun
  | [d] => { results := [.lit (.bool false)], args := [d] }
  | _ => none }
def LayoutRoundTripWrongFalsely : Prop := layoutRoundTripRow.holds Tryd.pinned (OpenSpec.ofChange layoutRoundTripWrong)

/-- 'tsblocklaw16.LayoutPrefixes': WHATEVER THE INPUT: true; the input reads as it did. -/
def layoutPrefixesSpec : ChangeSpec := { name := "layoutPrefixes", fn := fun _ => fun
  | [d1, d2, d3] => { results := [.lit (.bool true)], args := [d1, d2, d3] }
  | _ => none }
def layoutPrefixesRow : OpenClaim := { program := "ytknfkbgnfjfpeaadoor", sum := "67831ac8102706e04d4ef2ab4b509c8242678495d626ca9caf52ab81357eb81a", func := "tsblock/tsblocklaw16.LayoutPrefixes", spec := "layoutPrefixes", unfollowed := true, recurses := true, named := ["tsblock/crc.table"], apart := false, laid := [("tsblock/crc.table", laid_tsblock_crc_table)] }
def LayoutPrefixesSaid : Prop := layoutPrefixesRow.holds Tryd.pinned (OpenSpec.ofChange layoutPrefixesSpec)

/-- ITS FALSE NEIGHBOUR: 'it returns false'. Refute it at one input. -/
def layoutPrefixesWrong : ChangeSpec := { name := "layoutPrefixes", fn := fun _ => fun
  | [d1, d2, d3] => { results := [.lit (.bool false)], args := [d1, d2, d3] }
  | _ => none }
def LayoutPrefixesWrongFalsely : Prop := layoutPrefixesRow.holds Tryd.pinned (OpenSpec.ofChange layoutPrefixesWrong)

/- THE SECOND FORM. 'bulk': how many values and letters a reading holds, each counted each time it is reached (what is shared counts as often as it is met; a slice's spare places count too). A statement '..UptoSaid' is the law's where the arguments, and the package variables that the reading takes, are together of bulk at most 1048576: NARROWER than '..Said'. Prove '..Said' where nothing that the law and all that it calls make is longer than what came in: it says more and counts as full. Else prove '..UptoSaid'. A law counts once. -/
mutual
def uptoBulk {H : Type} : DataW H → Nat
  | .lit (.string bytes) => bytes.length + 1
  | .lit _ => 1
  | .nil => 1
  | .ptr d => uptoBulk d + 1
  | .slice elems spare => uptoBulkAll elems + uptoBulkAll spare + 1
  | .agg parts => uptoBulkAll parts + 1
  | .iface _ d => uptoBulk d + 1
  | .map entries => uptoBulkEntries entries + 1
  | .held _ => 1
def uptoBulkAll {H : Type} : List (DataW H) → Nat
  | [] => 0
  | d :: r => uptoBulk d + uptoBulkAll r
def uptoBulkEntries {H : Type} : List (Lit × DataW H) → Nat
  | [] => 0
  | x :: r => uptoBulkEntry x + uptoBulkEntries r
def uptoBulkEntry {H : Type} : Lit × DataW H → Nat
  | (.string bytes, d) => bytes.length + uptoBulk d + 1
  | (_, d) => uptoBulk d + 1
 end
def uptoSmall : (H : Type) → List (DataW H) → Bool := fun _ ds => decide (uptoBulkAll ds ≤ 1048576)
def OpenSpec.upto (s : _root_.Go.ChangeSpec) : _root_.Go.OpenSpec := { _root_.Go.OpenSpec.ofChange s with cond := some uptoSmall }

/-- 'tsblocklaw04.WireWrites', WHERE WHAT IT READS IS OF BULK AT MOST 1048576: true; the input reads as it did. -/
def wireWritesUptoRow : OpenClaim := { program := "ytknfkbgnfjfpeaadoor", sum := "67831ac8102706e04d4ef2ab4b509c8242678495d626ca9caf52ab81357eb81a", func := "tsblock/tsblocklaw04.WireWrites", spec := "wireWrites", unfollowed := true, recurses := true, named := ["tsblock/crc.table"], apart := false, laid := [("tsblock/crc.table", laid_tsblock_crc_table)], narrowed := true }
def WireWritesUptoSaid : Prop := wireWritesUptoRow.holds Tryd.pinned (OpenSpec.upto wireWritesSpec)

/-- 'tsblocklaw04.WireFindsBursts', WHERE WHAT IT READS IS OF BULK AT MOST 1048576: true; the input reads as it did. -/
def wireFindsBurstsUptoRow : OpenClaim := { program := "ytknfkbgnfjfpeaadoor", sum := "67831ac8102706e04d4ef2ab4b509c8242678495d626ca9caf52ab81357eb81a", func := "tsblock/tsblocklaw04.WireFindsBursts", spec := "wireFindsBursts", unfollowed := true, recurses := true, named := ["tsblock/crc.table"], apart := false, laid := [("tsblock/crc.table", laid_tsblock_crc_table)], narrowed := true }
def WireFindsBurstsUptoSaid : Prop := wireFindsBurstsUptoRow.holds Tryd.pinned (OpenSpec.upto wireFindsBurstsSpec)

/-- 'tsblocklaw04.WireRoundTrip', WHERE WHAT IT READS IS OF BULK AT MOST 1048576: true; the input reads as it did. -/
def wireRoundTripUptoRow : OpenClaim := { program := "ytknfkbgnfjfpeaadoor", sum := "67831ac8102706e04d4ef2ab4b509c8242678495d626ca9caf52ab81357eb81a", func := "tsblock/tsblocklaw04.WireRoundTrip", spec := "wireRoundTrip", unfollowed := true, recurses := true, named := ["tsblock/crc.table"], apart := false, laid := [("tsblock/crc.table", laid_tsblock_crc_table)], narrowed := true }
def WireRoundTripUptoSaid : Prop := wireRoundTripUptoRow.holds Tryd.pinned (OpenSpec.upto wireRoundTripSpec)

/-- 'tsblocklaw04.WireReads', WHERE WHAT IT READS IS OF BULK AT MOST 1048576: true; the input reads as it did. -/
def wireReadsUptoRow : OpenClaim := { program := "ytknfkbgnfjfpeaadoor", sum := "67831ac8102706e04d4ef2ab4b509c8242678495d626ca9caf52ab81357eb81a", func := "tsblock/tsblocklaw04.WireReads", spec := "wireReads", unfollowed := true, recurses := true, named := ["tsblock/crc.table"], apart := false, laid := [("tsblock/crc.table", laid_tsblock_crc_table)], narrowed := true }
def WireReadsUptoSaid : Prop := wireReadsUptoRow.holds Tryd.pinned (OpenSpec.upto wireReadsSpec)

/-- 'tsblocklaw04.WireStays', WHERE WHAT IT READS IS OF BULK AT MOST 1048576: true; the input reads as it did. -/
def wireStaysUptoRow : OpenClaim := { program := "ytknfkbgnfjfpeaadoor", sum := "67831ac8102706e04d4ef2ab4b509c8242678495d626ca9caf52ab81357eb81a", func := "tsblock/tsblocklaw04.WireStays", spec := "wireStays", unfollowed := true, recurses := true, named := ["tsblock/crc.table"], apart := false, laid := [("tsblock/crc.table", laid_tsblock_crc_table)], narrowed := true }
def WireStaysUptoSaid : Prop := wireStaysUptoRow.holds Tryd.pinned (OpenSpec.upto wireStaysSpec)

/-- 'tsblocklaw04.WireIsolated', WHERE WHAT IT READS IS OF BULK AT MOST 1048576: true; the input reads as it did. -/
def wireIsolatedUptoRow : OpenClaim := { program := "ytknfkbgnfjfpeaadoor", sum := "67831ac8102706e04d4ef2ab4b509c8242678495d626ca9caf52ab81357eb81a", func := "tsblock/tsblocklaw04.WireIsolated", spec := "wireIsolated", unfollowed := true, recurses := true, named := ["tsblock/crc.table"], apart := false, laid := [("tsblock/crc.table", laid_tsblock_crc_table)], narrowed := true }
def WireIsolatedUptoSaid : Prop := wireIsolatedUptoRow.holds Tryd.pinned (OpenSpec.upto wireIsolatedSpec)

/-- 'tsblocklaw16.LayoutAssembles', WHERE WHAT IT READS IS OF BULK AT MOST 1048576: true; the input reads as it did. -/
def layoutAssemblesUptoRow : OpenClaim := { program := "ytknfkbgnfjfpeaadoor", sum := "67831ac8102706e04d4ef2ab4b509c8242678495d626ca9caf52ab81357eb81a", func := "tsblock/tsblocklaw16.LayoutAssembles", spec := "layoutAssembles", unfollowed := true, recurses := true, named := ["tsblock/crc.table"], apart := false, laid := [("tsblock/crc.table", laid_tsblock_crc_table)], narrowed := true }
def LayoutAssemblesUptoSaid : Prop := layoutAssemblesUptoRow.holds Tryd.pinned (OpenSpec.upto layoutAssemblesSpec)

/-- 'tsblocklaw16.LayoutParses', WHERE WHAT IT READS IS OF BULK AT MOST 1048576: true; the input reads as it did. -/
def layoutParsesUptoRow : OpenClaim := { program := "ytknfkbgnfjfpeaadoor", sum := "67831ac8102706e04d4ef2ab4b509c8242678495d626ca9caf52ab81357eb81a", func := "tsblock/tsblocklaw16.LayoutParses", spec := "layoutParses", unfollowed := true, recurses := true, named := ["tsblock/crc.table"], apart := false, laid := [("tsblock/crc.table", laid_tsblock_crc_table)], narrowed := true }
def LayoutParsesUptoSaid : Prop := layoutParsesUptoRow.holds Tryd.pinned (OpenSpec.upto layoutParsesSpec)

/-- 'tsblocklaw16.LayoutIsCanonical', WHERE WHAT IT READS IS OF BULK AT MOST 1048576: true; the input reads as it did. -/
def layoutIsCanonicalUptoRow : OpenClaim := { program := "ytknfkbgnfjfpeaadoor", sum := "67831ac8102706e04d4ef2ab4b509c8242678495d626ca9caf52ab81357eb81a", func := "tsblock/tsblocklaw16.LayoutIsCanonical", spec := "layoutIsCanonical", unfollowed := true, recurses := true, named := ["tsblock/crc.table"], apart := false, laid := [("tsblock/crc.table", laid_tsblock_crc_table)], narrowed := true }
def LayoutIsCanonicalUptoSaid : Prop := layoutIsCanonicalUptoRow.holds Tryd.pinned (OpenSpec.upto layoutIsCanonicalSpec)

/-- 'tsblocklaw16.LayoutFindsBursts', WHERE WHAT IT READS IS OF BULK AT MOST 1048576: true; the input reads as it did. -/
def layoutFindsBurstsUptoRow : OpenClaim := { program := "ytknfkbgnfjfpeaadoor", sum := "67831ac8102706e04d4ef2ab4b509c8242678495d626ca9caf52ab81357eb81a", func := "tsblock/tsblocklaw16.LayoutFindsBursts", spec := "layoutFindsBursts", unfollowed := true, recurses := true, named := ["tsblock/crc.table"], apart := false, laid := [("tsblock/crc.table", laid_tsblock_crc_table)], narrowed := true }
def LayoutFindsBurstsUptoSaid : Prop := layoutFindsBurstsUptoRow.holds Tryd.pinned (OpenSpec.upto layoutFindsBurstsSpec)

/-- 'tsblocklaw16.LayoutRoundTrip', WHERE WHAT IT READS IS OF BULK AT MOST 1048576: true; the input reads as it did. -/
def layoutRoundTripUptoRow : OpenClaim := { program := "ytknfkbgnfjfpeaadoor", sum := "67831ac8102706e04d4ef2ab4b509c8242678495d626ca9caf52ab81357eb81a", func := "tsblock/tsblocklaw16.LayoutRoundTrip", spec := "layoutRoundTrip", unfollowed := true, recurses := true, named := ["tsblock/crc.table"], apart := false, laid := [("tsblock/crc.table", laid_tsblock_crc_table)], narrowed := true }
def LayoutRoundTripUptoSaid : Prop := layoutRoundTripUptoRow.holds Tryd.pinned (OpenSpec.upto layoutRoundTripSpec)

/-- 'tsblocklaw16.LayoutPrefixes', WHERE WHAT IT READS IS OF BULK AT MOST 1048576: true; the input reads as it did. -/
def layoutPrefixesUptoRow : OpenClaim := { program := "ytknfkbgnfjfpeaadoor", sum := "67831ac8102706e04d4ef2ab4b509c8242678495d626ca9caf52ab81357eb81a", func := "tsblock/tsblocklaw16.LayoutPrefixes", spec := "layoutPrefixes", unfollowed := true, recurses := true, named := ["tsblock/crc.table"], apart := false, laid := [("tsblock/crc.table", laid_tsblock_crc_table)], narrowed := true }
def LayoutPrefixesUptoSaid : Prop := layoutPrefixesUptoRow.holds Tryd.pinned (OpenSpec.upto layoutPrefixesSpec)

end Rows
end Go.Proofs.YtknfkbgnfjfpeaaDoor
