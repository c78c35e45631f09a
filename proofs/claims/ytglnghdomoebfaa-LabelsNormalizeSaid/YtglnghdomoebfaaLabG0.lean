/- Labels held against each other. -/
import Derived.Test.YtglnghdomoebfaaLabF
import Derived.Laws.StructEq
import Derived.Shelf.SlicesE.Kit
namespace Go.Proofs.Ytglnghdomoebfaa
open Go.RowKit Go.Shelf
set_option maxHeartbeats 1000000 in
theorem neqL (x y : Lab) (w : World) : Sem.run Try.prog (binOp .neq 57 (.agg #[.string x.n, .string x.v]) (.agg #[.string y.n, .string y.v])) w = .ok (.bool (!decide (x = y))) w := by
  have u3 := Try.underlying9
  have a3 := Try.isAgg9
  have z3 := Try.sizeOf9
  have hS : Try.prog.underlying 57 = some (.struct (Try.prog.fieldsOf 57)) := by kernel_rfl
  have hp : Try.prog.stoodInHeld 57 = false := by kernel_rfl
  rw [run_neq_struct, show (10000 : Nat) = 9999 + 1 from rfl, run_equalIn_agg w 9999 57 _ _ hS hp]
  simp only [Program.fieldsOf, Try.underlying57]
  go_simp
  by_cases h1 : x.n = y.n
  · by_cases h2 : x.v = y.v
    · rw [if_pos (by rw [h1]), if_pos (by rw [h2]), decide_eq_true (Lb.ext h1 h2)]; rfl
    · rw [if_pos (by rw [h1]), if_neg (fun e => h2 (St.tl_inj e)), decide_eq_false (fun e => h2 (by rw [e]))]; rfl
  · rw [if_neg (fun e => h1 (St.tl_inj e)), decide_eq_false (fun e => h1 (by rw [e]))]; rfl
theorem guardL (op : BinOp) (a b : Operand) (x y : Lab) (w : World) : Sem.run Try.prog (eqGuard op 57 a b (.agg #[.string x.n, .string x.v]) (.agg #[.string y.n, .string y.v])) w = .ok () w := by
  exact GuardAt.agg (α := Lab) (fun x : Lab => #[.string x.n, .string x.v]) (by kernel_rfl) op a b x y w
end Go.Proofs.Ytglnghdomoebfaa
