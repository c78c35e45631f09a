/-
  DERIVED: THE SHELF's CONTRACTS AT THIS DUMP, IN PLAIN WORDS (tools/lay-plain.mjs out of 'YtglnghdomoebfaaShelfB.lean', which tools/lay-shelf.mjs wrote): THE SAME DECLARATIONS UNDER THE SAME NAMES: 'import', 'namespace', 'open', 'def', 'theorem' AND NOTHING ELSE: no command of the shelf's: FOR A HAND-IN. Each laying: the table of numbers ('.._ren') and one theorem, a field a fact of the dump's own or the kernel's comparison; each contract: ONE APPLICATION.
-/
import Derived.Shelf.Spec.SearchS
import Derived.Test.YtglnghdomoebfaaProg
namespace Go.Proofs
open Go.Shelf
def Try.bsL_ren : Go.Shelf.Ren := ⟨fun | 26 => 69 | 33 => 89 | 34 => 90 | 38 => 94 | n => n, fun | 24 => 22 | 9 => 9 | 3 => 3 | 4 => 4 | 40 => 130 | 0 => 0 | n => n, fun | n => n⟩
theorem Try.bsL : Go.Proofs.Lays2.n26 Try.prog Try.bsL_ren := {
  mixed := by kernel_rfl
  f26 := Try.func69.trans (congrArg some (by kernel_rfl))
  f33 := Try.func89.trans (congrArg some (by kernel_rfl))
  f34 := Try.func90.trans (congrArg some (by kernel_rfl))
  f38 := Try.func94.trans (congrArg some (by kernel_rfl))
  t0 := Try.underlying0
  a0 := Try.isAgg0
  z0 := Try.sizeOf0
  v0 := Try.zeroValue0
  t3 := Try.underlying3
  a3 := Try.isAgg3
  z3 := Try.sizeOf3
  v3 := Try.zeroValue3
  t4 := Try.underlying4
  a4 := Try.isAgg4
  z4 := Try.sizeOf4
  v4 := Try.zeroValue4
  t9 := Try.underlying9
  a9 := Try.isAgg9
  z9 := Try.sizeOf9
  v9 := Try.zeroValue9
  t24 := Try.underlying22
  a24 := Try.isAgg22
  z24 := Try.sizeOf22
  v24 := Try.zeroValue22
  t40 := Try.underlying130
  a40 := Try.isAgg130
  z40 := Try.sizeOf130
  v40 := Try.zeroValue130 }
end Go.Proofs
