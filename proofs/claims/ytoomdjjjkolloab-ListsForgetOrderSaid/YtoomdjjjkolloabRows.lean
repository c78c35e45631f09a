/-
  No cell of these rows narrows 'for every input' (looked for: loops, veiled, ifaces, maps, wideKeys, modest, calm, conditions, laid).
  DERIVED. THE GIVEN ROWS OF THIS SEAT. 6 by the template 'for every input the law returns true; each argument reads behind the call as it read before'; 0 by the template 'total and deterministic' (their statements: YtoomdjjjkolloabTotals.lean).
  GIVEN WITH THE SEED: the statements are not yours to turn. If you find one false, say at which input.
  Laid BY PROGRAM, IN A SANDBOX (cutbox-rows.mjs): the forced cells as the released guide's own fill.sh prints them over the translation 20350a9bfe7d8c57… (all of the seat's roots in one cut). By AI agents, Wed Nov 11 2026. No macro, syntax, notation, axiom, sorry.
-/
import Derived.Test.YtoomdjjjkolloabChecked
import GoSem.Claim
import GoSem.ClaimJoined
import GoSem.ClaimMapViews
import Derived.JoinedTies
import Derived.KernelRfl
namespace Go.Proofs.Ytoomdjjjkolloab
/- THE CELL 'sum', in the pinned program and in every row, IS THE sha256 OF THE DUMP (.gsa) THAT YtoomdjjjkolloabProg.lean LOADS. Nothing in Lean hashes anything: it is a label: what it is worth is what the hold of that sum in a sandbox is worth. -/
noncomputable def Try.pinned : Pinned := { name := "ytoomdjjjkolloab", sum := "20350a9bfe7d8c5729c1a367e955c186979494461d30e9411a213862c49b21cc", checked := Try.checked }
namespace Rows
def none {H : Type} : Left H := { results := [], args := [] }

/-- 'tsblocklaw14.ListsSorted': WHATEVER THE INPUT: true; the input reads as it did. -/
def listsSortedSpec : ChangeSpec := { name := "listsSorted", fn := fun _ => fun
  | [d] => { results := [.lit (.bool true)], args := [d] }
  | _ => none }
def listsSortedRow : OpenClaim := { program := "ytoomdjjjkolloab", sum := "20350a9bfe7d8c5729c1a367e955c186979494461d30e9411a213862c49b21cc", func := "tsblock/tsblocklaw14.ListsSorted", spec := "listsSorted", unfollowed := true, recurses := true, apart := false }
def ListsSortedSaid : Prop := listsSortedRow.holds Try.pinned (OpenSpec.ofChange listsSortedSpec)

/-- ITS FALSE NEIGHBOUR: 'it returns false'. Refute it at one input. -/
def listsSortedWrong : ChangeSpec := { name := "listsSorted", fn := fun _ => fun
  | [d] => { results := [.lit (.bool false)], args := [d] }
  | _ => none }
def ListsSortedWrongFalsely : Prop := listsSortedRow.holds Try.pinned (OpenSpec.ofChange listsSortedWrong)

/-- 'tsblocklaw14.ListsCombine': WHATEVER THE INPUT: true; the input reads as it did. -/
def listsCombineSpec : ChangeSpec := { name := "listsCombine", fn := fun _ => fun
  | [d] => { results := [.lit (.bool true)], args := [d] }
  | _ => none }
def listsCombineRow : OpenClaim := { program := "ytoomdjjjkolloab", sum := "20350a9bfe7d8c5729c1a367e955c186979494461d30e9411a213862c49b21cc", func := "tsblock/tsblocklaw14.ListsCombine", spec := "listsCombine", unfollowed := true, recurses := true, apart := false }
def ListsCombineSaid : Prop := listsCombineRow.holds Try.pinned (OpenSpec.ofChange listsCombineSpec)

/-- ITS FALSE NEIGHBOUR: 'it returns false'. Refute it at one input. -/
def listsCombineWrong : ChangeSpec := { name := "listsCombine", fn := fun _ => fun
  | [d] => { results := [.lit (.bool false)], args := [d] }
  | _ => none }
def ListsCombineWrongFalsely : Prop := listsCombineRow.holds Try.pinned (OpenSpec.ofChange listsCombineWrong)

/-- 'tsblocklaw14.ListsDiffer': WHATEVER THE INPUT: true; the input reads as it did. -/
def listsDifferSpec : ChangeSpec := { name := "listsDiffer", fn := fun _ => fun
  | [d1, d2] => { results := [.lit (.bool true)], args := [d1, d2] }
  | _ => none }
def listsDifferRow : OpenClaim := { program := "ytoomdjjjkolloab", sum := "20350a9bfe7d8c5729c1a367e955c186979494461d30e9411a213862c49b21cc", func := "tsblock/tsblocklaw14.ListsDiffer", spec := "listsDiffer", unfollowed := true, recurses := true, apart := false }
def ListsDifferSaid : Prop := listsDifferRow.holds Try.pinned (OpenSpec.ofChange listsDifferSpec)

/-- ITS FALSE NEIGHBOUR: 'it returns false'. Refute it at one input. -/
def listsDifferWrong : ChangeSpec := { name := "listsDiffer", fn := fun _ => fun
  | [d1, d2] => { results := [.lit (.bool false)], args := [d1, d2] }
  | _ => none }
def ListsDifferWrongFalsely : Prop := listsDifferRow.holds Try.pinned (OpenSpec.ofChange listsDifferWrong)

/-- 'tsblocklaw14.ListsComplement': WHATEVER THE INPUT: true; the input reads as it did. -/
def listsComplementSpec : ChangeSpec := { name := "listsComplement", fn := fun _ => fun
  | [d1, d2] => { results := [.lit (.bool true)], args := [d1, d2] }
  | _ => none }
def listsComplementRow : OpenClaim := { program := "ytoomdjjjkolloab", sum := "20350a9bfe7d8c5729c1a367e955c186979494461d30e9411a213862c49b21cc", func := "tsblock/tsblocklaw14.ListsComplement", spec := "listsComplement", unfollowed := true, recurses := true, apart := false }
def ListsComplementSaid : Prop := listsComplementRow.holds Try.pinned (OpenSpec.ofChange listsComplementSpec)

/-- ITS FALSE NEIGHBOUR: 'it returns false'. Refute it at one input. -/
def listsComplementWrong : ChangeSpec := { name := "listsComplement", fn := fun _ => fun
  | [d1, d2] => { results := [.lit (.bool false)], args := [d1, d2] }
  | _ => none }
def ListsComplementWrongFalsely : Prop := listsComplementRow.holds Try.pinned (OpenSpec.ofChange listsComplementWrong)

/-- 'tsblocklaw14.ListsMorgan': WHATEVER THE INPUT: true; the input reads as it did. -/
def listsMorganSpec : ChangeSpec := { name := "listsMorgan", fn := fun _ => fun
  | [d1, d2, d3] => { results := [.lit (.bool true)], args := [d1, d2, d3] }
  | _ => none }
def listsMorganRow : OpenClaim := { program := "ytoomdjjjkolloab", sum := "20350a9bfe7d8c5729c1a367e955c186979494461d30e9411a213862c49b21cc", func := "tsblock/tsblocklaw14.ListsMorgan", spec := "listsMorgan", unfollowed := true, recurses := true, apart := false }
def ListsMorganSaid : Prop := listsMorganRow.holds Try.pinned (OpenSpec.ofChange listsMorganSpec)

/-- ITS FALSE NEIGHBOUR: 'it returns false'. Refute it at one input. -/
def listsMorganWrong : ChangeSpec := { name := "listsMorgan", fn := fun _ => fun
  | [d1, d2, d3] => { results := [.lit (.bool false)], args := [d1, d2, d3] }
  | _ => none }
def ListsMorganWrongFalsely : Prop := listsMorganRow.holds Try.pinned (OpenSpec.ofChange listsMorganWrong)

/-- 'tsblocklaw14.ListsForgetOrder': WHATEVER THE INPUT: true; the input reads as it did. -/
def listsForgetOrderSpec : ChangeSpec := { name := "listsForgetOrder", fn := fun _ => fun
  | [d1, d2] => { results := [.lit (.bool true)], args := [d1, d2] }
  | _ => none }
def listsForgetOrderRow : OpenClaim := { program := "ytoomdjjjkolloab", sum := "20350a9bfe7d8c5729c1a367e955c186979494461d30e9411a213862c49b21cc", func := "tsblock/tsblocklaw14.ListsForgetOrder", spec := "listsForgetOrder", unfollowed := true, recurses := true, apart := false }
def ListsForgetOrderSaid : Prop := listsForgetOrderRow.holds Try.pinned (OpenSpec.ofChange listsForgetOrderSpec)

/-- ITS FALSE NEIGHBOUR: 'it returns false'. Refute it at one input. -/
def listsForgetOrderWrong : ChangeSpec := { name := "listsForgetOrder", fn := fun _ => fun
  | [d1, d2] => { results := [.lit (.bool false)], args := [d1, d2] }
  | _ => none }
def ListsForgetOrderWrongFalsely : Prop := listsForgetOrderRow.holds Try.pinned (OpenSpec.ofChange listsForgetOrderWrong)

/- THE SECOND FORM. 'bulk': how many values and letters a reading holds, each counted each time it is reached (what is shared counts as often as it is met; a slice's spare places count too). A statement '..UptoSaid' is the law's where the arguments, and the package variables that the reading takes, are together of bulk at most 1048576: NARROWER than '..Said'. Prove '..Said' where nothing that the law and all that it calls make is longer than what came in: it says more and counts as full. Else prove '..UptoSaid'. A law counts once. -/
mutual
def uptoBulk {H : Type} : DataW H → Nat
  | .lit (.string bytes) => bytes.length + 1
  | .lit _ => 1
  | .nil => 1
  | .ptr d => uptoBulk d + 1
  | .slice elems spare => uptoBulkAll elems + uptoBulkAll spare + 1
  | .agg parts => uptoBulkAll parts + 1
  | .iface _ d => uptoBulk d + 1
  | .map entries => uptoBulkEntries entries + 1
  | .held _ => 1
def uptoBulkAll {H : Type} : List (DataW H) → Nat
  | [] => 0
  | d :: r => uptoBulk d + uptoBulkAll r
def uptoBulkEntries {H : Type} : List (Lit × DataW H) → Nat
  | [] => 0
  | x :: r => uptoBulkEntry x + uptoBulkEntries r
def uptoBulkEntry {H : Type} : Lit × DataW H → Nat
  | (.string bytes, d) => bytes.length + uptoBulk d + 1
  | (_, d) => uptoBulk d + 1
 end
def uptoSmall : (H : Type) → List (DataW H) → Bool := fun _ ds => decide (uptoBulkAll ds ≤ 1048576)
def OpenSpec.upto (s : _root_.Go.ChangeSpec) : _root_.Go.OpenSpec := { _root_.Go.OpenSpec.ofChange s with cond := some uptoSmall }

/-- 'tsblocklaw14.ListsSorted', WHERE WHAT IT READS IS OF BULK AT MOST 1048576: true; the input reads as it did. -/
def listsSortedUptoRow : OpenClaim := { program := "ytoomdjjjkolloab", sum := "20350a9bfe7d8c5729c1a367e955c186979494461d30e9411a213862c49b21cc", func := "tsblock/tsblocklaw14.ListsSorted", spec := "listsSorted", unfollowed := true, recurses := true, apart := false, narrowed := true }
def ListsSortedUptoSaid : Prop := listsSortedUptoRow.holds Try.pinned (OpenSpec.upto listsSortedSpec)

/-- 'tsblocklaw14.ListsCombine', WHERE WHAT IT READS IS OF BULK AT MOST 1048576: true; the input reads as it did. -/
def listsCombineUptoRow : OpenClaim := { program := "ytoomdjjjkolloab", sum := "20350a9bfe7d8c5729c1a367e955c186979494461d30e9411a213862c49b21cc", func := "tsblock/tsblocklaw14.ListsCombine", spec := "listsCombine", unfollowed := true, recurses := true, apart := false, narrowed := true }
def ListsCombineUptoSaid : Prop := listsCombineUptoRow.holds Try.pinned (OpenSpec.upto listsCombineSpec)

/-- 'tsblocklaw14.ListsDiffer', WHERE WHAT IT READS IS OF BULK AT MOST 1048576: true; the input reads as it did. -/
def listsDifferUptoRow : OpenClaim := { program := "ytoomdjjjkolloab", sum := "20350a9bfe7d8c5729c1a367e955c186979494461d30e9411a213862c49b21cc", func := "tsblock/tsblocklaw14.ListsDiffer", spec := "listsDiffer", unfollowed := true, recurses := true, apart := false, narrowed := true }
def ListsDifferUptoSaid : Prop := listsDifferUptoRow.holds Try.pinned (OpenSpec.upto listsDifferSpec)

/-- 'tsblocklaw14.ListsComplement', WHERE WHAT IT READS IS OF BULK AT MOST 1048576: true; the input reads as it did. -/
def listsComplementUptoRow : OpenClaim := { program := "ytoomdjjjkolloab", sum := "20350a9bfe7d8c5729c1a367e955c186979494461d30e9411a213862c49b21cc", func := "tsblock/tsblocklaw14.ListsComplement", spec := "listsComplement", unfollowed := true, recurses := true, apart := false, narrowed := true }
def ListsComplementUptoSaid : Prop := listsComplementUptoRow.holds Try.pinned (OpenSpec.upto listsComplementSpec)

/-- 'tsblocklaw14.ListsMorgan', WHERE WHAT IT READS IS OF BULK AT MOST 1048576: true; the input reads as it did. -/
def listsMorganUptoRow : OpenClaim := { program := "ytoomdjjjkolloab", sum := "20350a9bfe7d8c5729c1a367e955c186979494461d30e9411a213862c49b21cc", func := "tsblock/tsblocklaw14.ListsMorgan", spec := "listsMorgan", unfollowed := true, recurses := true, apart := false, narrowed := true }
def ListsMorganUptoSaid : Prop := listsMorganUptoRow.holds Try.pinned (OpenSpec.upto listsMorganSpec)

/-- 'tsblocklaw14.ListsForgetOrder', WHERE WHAT IT READS IS OF BULK AT MOST 1048576: true; the input reads as it did. -/
def listsForgetOrderUptoRow : OpenClaim := { program := "ytoomdjjjkolloab", sum := "20350a9bfe7d8c5729c1a367e955c186979494461d30e9411a213862c49b21cc", func := "tsblock/tsblocklaw14.ListsForgetOrder", spec := "listsForgetOrder", unfollowed := true, recurses := true, apart := false, narrowed := true }
def ListsForgetOrderUptoSaid : Prop := listsForgetOrderUptoRow.holds Try.pinned (OpenSpec.upto listsForgetOrderSpec)

end Rows
end Go.Proofs.Ytoomdjjjkolloab
