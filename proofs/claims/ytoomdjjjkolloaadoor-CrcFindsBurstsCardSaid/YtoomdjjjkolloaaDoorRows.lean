/-
  NARROWER THAN 'FOR EVERY INPUT', by the rows' own cells (each row's printed sentence says how): CrcConcatenates: laid · CrcCombines: laid · CrcCombinesLong: laid · CrcRoundTrip: laid · CrcMatchesReference: laid · CrcFindsBursts: laid.
  DERIVED. THE GIVEN ROWS OF THIS SEAT. 6 by the template 'for every input the law returns true; each argument reads behind the call as it read before'; 0 by the template 'total and deterministic' (their statements: YtoomdjjjkolloaaDoorTotals.lean).
  GIVEN WITH THE SEED: the statements are not yours to turn. If you find one false, say at which input.
  Laid BY PROGRAM, IN A SANDBOX (cutbox-rows.mjs): the forced cells as the released guide's own fill.sh prints them over the translation bb55c51d09edec9e… (all of the seat's roots in one cut). By AI agents, Wed Nov 11 2026. No macro, syntax, notation, axiom, sorry.
-/
import Derived.Test.YtoomdjjjkolloaaDoorChecked
import GoSem.Claim
import GoSem.ClaimJoined
import GoSem.ClaimMapViews
import Derived.JoinedTies
import Derived.KernelRfl
namespace Go.Proofs.YtoomdjjjkolloaaDoor
/- THE CELL 'sum', in the pinned program and in every row, IS THE sha256 OF THE DUMP (.gsa) THAT YtoomdjjjkolloaaDoorProg.lean LOADS. Nothing in Lean hashes anything: it is a label: what it is worth is what the hold of that sum in a sandbox is worth. -/
noncomputable def Tryd.pinned : Pinned := { name := "ytoomdjjjkolloaadoor", sum := "bb55c51d09edec9e9f017092334ef95eb10ce861058dc38ece49e2cf849d64ca", checked := Tryd.checked }
namespace Rows
def none {H : Type} : Left H := { results := [], args := [] }

/- WHAT THE LISTED PACKAGE-LEVEL VARIABLES READ AS WHEN THE CALL BEGINS. Each datum BY PROGRAM (the guide's laid-datum.mjs) off the statement by which the dump's own 'gosem.cut.vars' lays the variable. In a bare row this is a premise. The card (YtoomdjjjkolloaaDoorCards.lean) ties it to the program's text. -/
def laid_tsblock_crc_table {H : Type} : DataW H := .agg [.lit (.int .u32 0), .lit (.int .u32 498536548), .lit (.int .u32 997073096), .lit (.int .u32 651767980), .lit (.int .u32 1994146192), .lit (.int .u32 1802195444), .lit (.int .u32 1303535960), .lit (.int .u32 1342533948), .lit (.int .u32 3988292384), .lit (.int .u32 4027552580), .lit (.int .u32 3604390888), .lit (.int .u32 3412177804), .lit (.int .u32 2607071920), .lit (.int .u32 2262029012), .lit (.int .u32 2685067896), .lit (.int .u32 3183342108)]

/-- 'tsblocklaw03.CrcConcatenates': WHATEVER THE INPUT: true; the input reads as it did. -/
def crcConcatenatesSpec : ChangeSpec := { name := "crcConcatenates", fn := fun _ => fun
  | [d1, d2, d3] => { results := [.lit (.bool true)], args := [d1, d2, d3] }
  | _ => none }
def crcConcatenatesRow : OpenClaim := { program := "ytoomdjjjkolloaadoor", sum := "bb55c51d09edec9e9f017092334ef95eb10ce861058dc38ece49e2cf849d64ca", func := "tsblock/tsblocklaw03.CrcConcatenates", spec := "crcConcatenates", named := ["tsblock/crc.table"], apart := false, laid := [("tsblock/crc.table", laid_tsblock_crc_table)] }
def CrcConcatenatesSaid : Prop := crcConcatenatesRow.holds Tryd.pinned (OpenSpec.ofChange crcConcatenatesSpec)

/-- ITS FALSE NEIGHBOUR: 'it returns false'. Refute it at one input. -/
def crcConcatenatesWrong : ChangeSpec := { name := "crcConcatenates", fn := fun _ => fun
  | [d1, d2, d3] => { results := [.lit (.bool false)], args := [d1, d2, d3] }
  | _ => none }
def CrcConcatenatesWrongFalsely : Prop := crcConcatenatesRow.holds Tryd.pinned (OpenSpec.ofChange crcConcatenatesWrong)

/-- 'tsblocklaw03.CrcCombines': WHATEVER THE INPUT: true; the input reads as it did. -/
def crcCombinesSpec : ChangeSpec := { name := "crcCombines", fn := fun _ => fun
  | [d1, d2] => { results := [.lit (.bool true)], args := [d1, d2] }
  | _ => none }
def crcCombinesRow : OpenClaim := { program := "ytoomdjjjkolloaadoor", sum := "bb55c51d09edec9e9f017092334ef95eb10ce861058dc38ece49e2cf849d64ca", func := "tsblock/tsblocklaw03.CrcCombines", spec := "crcCombines", named := ["tsblock/crc.table"], apart := false, laid := [("tsblock/crc.table", laid_tsblock_crc_table)] }
def CrcCombinesSaid : Prop := crcCombinesRow.holds Tryd.pinned (OpenSpec.ofChange crcCombinesSpec)

/-- ITS FALSE NEIGHBOUR: 'it returns false'. Refute it at one input. -/
def crcCombinesWrong : ChangeSpec := { name := "crcCombines", fn := fun _ => fun
  | [d1, d2] => { results := [.lit (.bool false)], args := [d1, d2] }
  | _ => none }
def CrcCombinesWrongFalsely : Prop := crcCombinesRow.holds Tryd.pinned (OpenSpec.ofChange crcCombinesWrong)

/-- 'tsblocklaw03.CrcCombinesLong': WHATEVER THE INPUT: true; the input reads as it did. -/
def crcCombinesLongSpec : ChangeSpec := { name := "crcCombinesLong", fn := fun _ => fun
  | [d1, d2, d3] => { results := [.lit (.bool true)], args := [d1, d2, d3] }
  | _ => none }
def crcCombinesLongRow : OpenClaim := { program := "ytoomdjjjkolloaadoor", sum := "bb55c51d09edec9e9f017092334ef95eb10ce861058dc38ece49e2cf849d64ca", func := "tsblock/tsblocklaw03.CrcCombinesLong", spec := "crcCombinesLong", named := ["tsblock/crc.table"], apart := false, laid := [("tsblock/crc.table", laid_tsblock_crc_table)] }
def CrcCombinesLongSaid : Prop := crcCombinesLongRow.holds Tryd.pinned (OpenSpec.ofChange crcCombinesLongSpec)

/-- ITS FALSE NEIGHBOUR: 'it returns false'. Refute it at one input. -/
def crcCombinesLongWrong : ChangeSpec := { name := "crcCombinesLong", fn := fun _ => fun
  | [d1, d2, d3] => { results := [.lit (.bool false)], args := [d1, d2, d3] }
  | _ => none }
def CrcCombinesLongWrongFalsely : Prop := crcCombinesLongRow.holds Tryd.pinned (OpenSpec.ofChange crcCombinesLongWrong)

/-- 'tsblocklaw03.CrcRoundTrip': WHATEVER THE INPUT: true; the input reads as it did. -/
def crcRoundTripSpec : ChangeSpec := { name := "crcRoundTrip", fn := fun _ => fun
  | [d1, d2, d3] => { results := [.lit (.bool true)], args := [d1, d2, d3] }
  | _ => none }
def crcRoundTripRow : OpenClaim := { program := "ytoomdjjjkolloaadoor", sum := "bb55c51d09edec9e9f017092334ef95eb10ce861058dc38ece49e2cf849d64ca", func := "tsblock/tsblocklaw03.CrcRoundTrip", spec := "crcRoundTrip", named := ["tsblock/crc.table"], apart := false, laid := [("tsblock/crc.table", laid_tsblock_crc_table)] }
def CrcRoundTripSaid : Prop := crcRoundTripRow.holds Tryd.pinned (OpenSpec.ofChange crcRoundTripSpec)

/-- ITS FALSE NEIGHBOUR: 'it returns false'. Refute it at one input. -/
def crcRoundTripWrong : ChangeSpec := { name := "crcRoundTrip", fn := fun _ => fun
  | [d1, d2, d3] => { results := [.lit (.bool false)], args := [d1, d2, d3] }
  | _ => none }
def CrcRoundTripWrongFalsely : Prop := crcRoundTripRow.holds Tryd.pinned (OpenSpec.ofChange crcRoundTripWrong)

/-- 'tsblocklaw03.CrcMatchesReference': WHATEVER THE INPUT: true; the input reads as it did. -/
def crcMatchesReferenceSpec : ChangeSpec := { name := "crcMatchesReference", fn := fun _ => fun
  | [d1, d2] => { results := [.lit (.bool true)], args := [d1, d2] }
  | _ => none }
def crcMatchesReferenceRow : OpenClaim := { program := "ytoomdjjjkolloaadoor", sum := "bb55c51d09edec9e9f017092334ef95eb10ce861058dc38ece49e2cf849d64ca", func := "tsblock/tsblocklaw03.CrcMatchesReference", spec := "crcMatchesReference", named := ["tsblock/crc.table"], apart := false, laid := [("tsblock/crc.table", laid_tsblock_crc_table)] }
def CrcMatchesReferenceSaid : Prop := crcMatchesReferenceRow.holds Tryd.pinned (OpenSpec.ofChange crcMatchesReferenceSpec)

/-- ITS FALSE NEIGHBOUR: 'it returns false'. Refute it at one input. -/
def crcMatchesReferenceWrong : ChangeSpec := { name := "crcMatchesReference", fn := fun _ => fun
  | [d1, d2] => { results := [.lit (.bool false)], args := [d1, d2] }
  | _ => none }
def CrcMatchesReferenceWrongFalsely : Prop := crcMatchesReferenceRow.holds Tryd.pinned (OpenSpec.ofChange crcMatchesReferenceWrong)

/-- 'tsblocklaw03.CrcFindsBursts': WHATEVER THE INPUT: true; the input reads as it did. -/
def crcFindsBurstsSpec : ChangeSpec := { name := "crcFindsBursts", fn := fun _ => fun
  | [d1, d2, d3] => { results := [.lit (.bool true)], args := [d1, d2, d3] }
  | _ => none }
def crcFindsBurstsRow : OpenClaim := { program := "ytoomdjjjkolloaadoor", sum := "bb55c51d09edec9e9f017092334ef95eb10ce861058dc38ece49e2cf849d64ca", func := "tsblock/tsblocklaw03.CrcFindsBursts", spec := "crcFindsBursts", named := ["tsblock/crc.table"], apart := false, laid := [("tsblock/crc.table", laid_tsblock_crc_table)] }
def CrcFindsBurstsSaid : Prop := crcFindsBurstsRow.holds Tryd.pinned (OpenSpec.ofChange crcFindsBurstsSpec)

/-- ITS FALSE NEIGHBOUR: 'it returns false'. Refute it at one input. -/
def crcFindsBurstsWrong : ChangeSpec := { name := "crcFindsBursts", fn := fun _ => fun
  | [d1, d2, d3] => { results := [.lit (.bool false)], args := [d1, d2, d3] }
  | _ => none }
def CrcFindsBurstsWrongFalsely : Prop := crcFindsBurstsRow.holds Tryd.pinned (OpenSpec.ofChange crcFindsBurstsWrong)

/- THE SECOND FORM. 'bulk': how many values and letters a reading holds, each counted each time it is reached (what is shared counts as often as it is met; a slice's spare places count too). A statement '..UptoSaid' is the law's where the arguments, and the package variables that the reading takes, are together of bulk at most 1048576: NARROWER than '..Said'. Prove '..Said' where nothing that the law and all that it calls make is longer than what came in: it says more and counts as full. Else prove '..UptoSaid'. A law counts once. -/
mutual
def uptoBulk {H : Type} : DataW H → Nat
  | .lit (.string bytes) => bytes.length + 1
  | .lit _ => 1
  | .nil => 1
  | .ptr d => uptoBulk d + 1
  | .slice elems spare => uptoBulkAll elems + uptoBulkAll spare + 1
  | .agg parts => uptoBulkAll parts + 1
  | .iface _ d => uptoBulk d + 1
  | .map entries => uptoBulkEntries entries + 1
  | .held _ => 1
def uptoBulkAll {H : Type} : List (DataW H) → Nat
  | [] => 0
  | d :: r => uptoBulk d + uptoBulkAll r
def uptoBulkEntries {H : Type} : List (Lit × DataW H) → Nat
  | [] => 0
  | x :: r => uptoBulkEntry x + uptoBulkEntries r
def uptoBulkEntry {H : Type} : Lit × DataW H → Nat
  | (.string bytes, d) => bytes.length + uptoBulk d + 1
  | (_, d) => uptoBulk d + 1
 end
def uptoSmall : (H : Type) → List (DataW H) → Bool := fun _ ds => decide (uptoBulkAll ds ≤ 1048576)
def OpenSpec.upto (s : _root_.Go.ChangeSpec) : _root_.Go.OpenSpec := { _root_.Go.OpenSpec.ofChange s with cond := some uptoSmall }

/-- 'tsblocklaw03.CrcConcatenates', WHERE WHAT IT READS IS OF BULK AT MOST 1048576: true; the input reads as it did. -/
def crcConcatenatesUptoRow : OpenClaim := { program := "ytoomdjjjkolloaadoor", sum := "bb55c51d09edec9e9f017092334ef95eb10ce861058dc38ece49e2cf849d64ca", func := "tsblock/tsblocklaw03.CrcConcatenates", spec := "crcConcatenates", named := ["tsblock/crc.table"], apart := false, laid := [("tsblock/crc.table", laid_tsblock_crc_table)], narrowed := true }
def CrcConcatenatesUptoSaid : Prop := crcConcatenatesUptoRow.holds Tryd.pinned (OpenSpec.upto crcConcatenatesSpec)

/-- 'tsblocklaw03.CrcCombines', WHERE WHAT IT READS IS OF BULK AT MOST 1048576: true; the input reads as it did. -/
def crcCombinesUptoRow : OpenClaim := { program := "ytoomdjjjkolloaadoor", sum := "bb55c51d09edec9e9f017092334ef95eb10ce861058dc38ece49e2cf849d64ca", func := "tsblock/tsblocklaw03.CrcCombines", spec := "crcCombines", named := ["tsblock/crc.table"], apart := false, laid := [("tsblock/crc.table", laid_tsblock_crc_table)], narrowed := true }
def CrcCombinesUptoSaid : Prop := crcCombinesUptoRow.holds Tryd.pinned (OpenSpec.upto crcCombinesSpec)

/-- 'tsblocklaw03.CrcCombinesLong', WHERE WHAT IT READS IS OF BULK AT MOST 1048576: true; the input reads as it did. -/
def crcCombinesLongUptoRow : OpenClaim := { program := "ytoomdjjjkolloaadoor", sum := "bb55c51d09edec9e9f017092334ef95eb10ce861058dc38ece49e2cf849d64ca", func := "tsblock/tsblocklaw03.CrcCombinesLong", spec := "crcCombinesLong", named := ["tsblock/crc.table"], apart := false, laid := [("tsblock/crc.table", laid_tsblock_crc_table)], narrowed := true }
def CrcCombinesLongUptoSaid : Prop := crcCombinesLongUptoRow.holds Tryd.pinned (OpenSpec.upto crcCombinesLongSpec)

/-- 'tsblocklaw03.CrcRoundTrip', WHERE WHAT IT READS IS OF BULK AT MOST 1048576: true; the input reads as it did. -/
def crcRoundTripUptoRow : OpenClaim := { program := "ytoomdjjjkolloaadoor", sum := "bb55c51d09edec9e9f017092334ef95eb10ce861058dc38ece49e2cf849d64ca", func := "tsblock/tsblocklaw03.CrcRoundTrip", spec := "crcRoundTrip", named := ["tsblock/crc.table"], apart := false, laid := [("tsblock/crc.table", laid_tsblock_crc_table)], narrowed := true }
def CrcRoundTripUptoSaid : Prop := crcRoundTripUptoRow.holds Tryd.pinned (OpenSpec.upto crcRoundTripSpec)

/-- 'tsblocklaw03.CrcMatchesReference', WHERE WHAT IT READS IS OF BULK AT MOST 1048576: true; the input reads as it did. -/
def crcMatchesReferenceUptoRow : OpenClaim := { program := "ytoomdjjjkolloaadoor", sum := "bb55c51d09edec9e9f017092334ef95eb10ce861058dc38ece49e2cf849d64ca", func := "tsblock/tsblocklaw03.CrcMatchesReference", spec := "crcMatchesReference", named := ["tsblock/crc.table"], apart := false, laid := [("tsblock/crc.table", laid_tsblock_crc_table)], narrowed := true }
def CrcMatchesReferenceUptoSaid : Prop := crcMatchesReferenceUptoRow.holds Tryd.pinned (OpenSpec.upto crcMatchesReferenceSpec)

/-- 'tsblocklaw03.CrcFindsBursts', WHERE WHAT IT READS IS OF BULK AT MOST 1048576: true; the input reads as it did. -/
def crcFindsBurstsUptoRow : OpenClaim := { program := "ytoomdjjjkolloaadoor", sum := "bb55c51d09edec9e9f017092334ef95eb10ce861058dc38ece49e2cf849d64ca", func := "tsblock/tsblocklaw03.CrcFindsBursts", spec := "crcFindsBursts", named := ["tsblock/crc.table"], apart := false, laid := [("tsblock/crc.table", laid_tsblock_crc_table)], narrowed := true }
def CrcFindsBurstsUptoSaid : Prop := crcFindsBurstsUptoRow.holds Tryd.pinned (OpenSpec.upto crcFindsBurstsSpec)

end Rows
end Go.Proofs.YtoomdjjjkolloaaDoor
