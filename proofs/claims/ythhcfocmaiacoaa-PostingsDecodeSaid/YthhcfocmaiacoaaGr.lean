/- Worlds that have only grown: draws and new blocks. -/
import Derived.Test.YthhcfocmaiacoaaMem
import Derived.Sort.Grow
namespace Go.Proofs.Ythhcfocmaiacoaa
open Go.RowKit
/-- draws and new blocks, and nothing else -/
def Gr (w w' : World) : Prop := ∃ q os, w' = Sort.grow (w.drewN q) os
theorem Gr.refl (w : World) : Gr w w := ⟨0, #[], by rw [Sort.grow_empty]; rfl⟩
theorem Gr.trans {a b c : World} (h : Gr a b) (h' : Gr b c) : Gr a c := by
  obtain ⟨q, os, rfl⟩ := h
  obtain ⟨q', os', rfl⟩ := h'
  refine ⟨q + q', os ++ os', ?_⟩
  show Sort.grow (Sort.grow ((a.drewN q).drewN q') os) os' = _
  rw [Sort.grow_grow, World.drewN_drewN]
theorem Gr.alloc {a b : World} (h : Gr a b) (o : Obj) : Gr a (b.alloc o) := h.trans ⟨0, #[o], by rw [Sort.alloc_eq_grow]; rfl⟩
theorem Gr.drew {a b : World} (h : Gr a b) : Gr a b.drew := h.trans ⟨1, #[], by rw [Sort.grow_empty]; rfl⟩
theorem Gr.drewN {a b : World} (h : Gr a b) (n : Nat) : Gr a (b.drewN n) := h.trans ⟨n, #[], by rw [Sort.grow_empty]⟩
theorem Gr.size {a b : World} (h : Gr a b) : a.heap.size ≤ b.heap.size := by
  obtain ⟨q, os, rfl⟩ := h
  rw [Sort.size_grow]
  show a.heap.size ≤ a.heap.size + _
  omega
theorem Gr.below {a b : World} (h : Gr a b) : Below a.heap.size a b := by
  have hs := h.size
  obtain ⟨q, os, rfl⟩ := h
  exact ⟨rfl, rfl, rfl, hs, fun k hk => Sort.heap_grow_old _ os hk⟩
theorem Gr.cell {a b : World} (h : Gr a b) (B o : Nat) (hB : B < a.heap.size) : b.cell? ⟨B, o, none⟩ = a.cell? ⟨B, o, none⟩ := h.below.cell (p := ⟨B, o, none⟩) hB
end Go.Proofs.Ythhcfocmaiacoaa
