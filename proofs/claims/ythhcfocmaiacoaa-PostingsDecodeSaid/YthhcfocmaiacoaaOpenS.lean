/- Arguments opened: slices of strings. -/
import Derived.Test.YthhcfocmaiacoaaOpen
import Derived.Test.YthhcfocmaiacoaaMemS
import Derived.OpenShut
import Derived.SliceStrings
namespace Go.Proofs.Ythhcfocmaiacoaa.Open
open Go.ChangeShapes Go.WideShapes Go.ChangeAt Go.RowKit
section
variable {H : Type} {enc : TypeId × Value → H} {W : World} {A : Option Addr} {len cap : Nat} {d : DataW H} {p : List MemPlace}
theorem strings (h : DataW.Trod enc Try.prog W 0 (fun _ => true) true 22 (.slice A len cap) d p) :
    ∃ L : List ByteArray, RdS W W.heap.size A len cap L ∧ ∀ s ∈ L, s.size ≤ maxLen := by
  obtain ⟨fuel, hf⟩ := h
  rcases open_strings Try.underlying22 Try.underlying9 (by kernel_rfl) hf with ⟨hcs, _⟩ | ⟨x, l, c, ss, hcs, _, hl, hm, hz, _, hcell, hw⟩
  · simp [Value.cells] at hcs
    obtain ⟨rfl, rfl, rfl⟩ := hcs
    exact ⟨[], Rd.nil W _ 1 0 none (by unfold maxLen; omega), by simp⟩
  · simp [Value.cells] at hcs
    obtain ⟨rfl, rfl, rfl⟩ := hcs
    have hz' : ss.length = cap := by simpa using hz
    refine ⟨ss.take len, ⟨hl, hm, by simp [svs]; omega, fun hn => ?_⟩, fun s hs => hw s (List.mem_of_mem_take hs)⟩
    obtain ⟨b, off, spot⟩ := x
    have hc0 := hcell 0 (by omega)
    have hspot : spot = none := by simpa [Addr.add] using World.cell?_spot hc0
    subst hspot
    refine ⟨b, off, rfl, ?_, fun i u hu => ?_⟩
    · rw [add_plain] at hc0; exact World.block_lt_of_cell? W _ hc0
    · have hi : i < len := by
        have := (List.getElem?_eq_some_iff.1 hu).1
        simp [svs] at this
        omega
      have hci := hcell i (by omega)
      rw [add_plain] at hci
      rw [hci]
      simp [svs, sv, hi, show i < ss.length by omega] at hu
      rw [← hu]
      simp [List.getD, show i < ss.length by omega]
end
end Go.Proofs.Ythhcfocmaiacoaa.Open
