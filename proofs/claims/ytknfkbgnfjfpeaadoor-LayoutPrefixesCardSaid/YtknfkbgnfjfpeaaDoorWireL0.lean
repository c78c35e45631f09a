/- Bytes out of a string. -/
import Derived.Test.YtknfkbgnfjfpeaaDoorWireA
import Derived.Laws.IdiomStrings
namespace Go.Proofs.YtknfkbgnfjfpeaaDoor
open Go.RowKit Go.Shelf

theorem run_str_bytes (w : World) (s : ByteArray) (hs : s.size ≤ 140737488355328) : ∃ c2 w', (convert 9 22 (.string s)).run Tryd.prog w = .ok (.slice (some ⟨w.heap.size, 0, none⟩) s.size c2) w' ∧
    RdB w' (w.heap.size + 1) (some ⟨w.heap.size, 0, none⟩) s.size c2 s.data.toList ∧ Below w.heap.size w w' ∧ w'.heap.size = w.heap.size + 1 := by
  have hr := run_bytes_of_string (P := Tryd.prog) w 9 22 5 s Tryd.underlying9 Tryd.underlying22 Tryd.underlying5
  have hlo := grownCap_ge w s.size 0 5
  have hhi := grownCap_le_maxLen w s.size 0 5 (by unfold maxLen; omega)
  refine ⟨_, _, hr, ⟨hlo, hhi, by rw [bvs_length, Nat.mul_one, Array.length_toList]; rfl, fun _ => ⟨_, 0, rfl, by omega, fun i u hu => ?_⟩⟩, ((Below.refl _ w).drew).alloc (Nat.le_refl _) _, by simp⟩
  rw [Nat.zero_add]
  refine (World.cell?_alloc_mark w.drew _ _ _ i).trans ?_
  have hi : i < s.data.toList.length := by
    have := (List.getElem?_eq_some_iff.1 hu).1
    simpa [bvs] using this
  have hu2 : u = .int .u8 ((s.data.toList[i]).toNat : Int) := by
    simp only [bvs, List.getElem?_map, List.getElem?_eq_getElem hi, Option.map_some, Option.some.injEq] at hu
    exact hu.symm
  rw [hu2]
  have hi' : i < s.data.size := by simpa using hi
  simp [bytesRow, Array.getElem?_append]
  rw [if_pos (show i < s.size from hi'), Array.getElem?_eq_getElem hi']
  rfl
theorem wpList_convS {w : World} {ops : Array Oper} {rest : List Oper} {o : Oper} {a : Act} {Q : Exit → Act → World → Prop} (hgd : Region.wanted o (yielded ops a.tmps) = true) (x : Operand)
    (ho : o.op = .convert 9 22 x) (s : ByteArray) (hx : a.eval x = .string s) (hs : s.size ≤ 140737488355328)
    (h : ∀ c2 w', RdB w' (w.heap.size + 1) (some ⟨w.heap.size, 0, none⟩) s.size c2 s.data.toList → Below w.heap.size w w' → w'.heap.size = w.heap.size + 1 → wpList Tryd.prog ops Q rest (a.put o.dst (.slice (some ⟨w.heap.size, 0, none⟩) s.size c2)) w') : wpList Tryd.prog ops Q (o :: rest) a w :=
  wpList_step fun _ hK => by
    rw [if_pos hgd]
    obtain ⟨c2, w', hr, h1, h2, h3⟩ := run_str_bytes w s hs
    unfold Oper.wp execOp
    simp only [ho, hx, Sem.run_bind, Sem.run_pure, Result.andThen_ok, hr]
    exact hK _ _ (h c2 w' h1 h2 h3)
end Go.Proofs.YtknfkbgnfjfpeaaDoor
