/- Arguments opened: slices of ints, slices of slices of ints. -/
import Derived.Test.YtoomdjjjkolloabOpen
import Derived.Test.YtoomdjjjkolloabListsC
import Derived.Deep.Matrix
namespace Go.Proofs.Ytoomdjjjkolloab.Open
open Go.ChangeShapes Go.WideShapes Go.ChangeAt Go.RowKit Go.Deep
section
variable {H : Type} {enc : TypeId × Value → H} {W : World} {A : Option Addr} {len cap : Nat} {d : DataW H} {p : List MemPlace}
theorem rdI_of {a : Addr} {len cap : Nat} {zs : List Int} (hl : len ≤ cap) (hm : cap ≤ maxLen) (hz : zs.length = cap) (hcell : ∀ i, i < cap → W.cell? (a.add i) = some (.int .i64 (zs.getD i 0))) :
    RdI W W.heap.size (some a) len cap (zs.take len) := by
  refine ⟨hl, hm, by simp [ivs]; omega, fun hn => ?_⟩
  obtain ⟨b, off, spot⟩ := a
  have hc0 := hcell 0 (by omega)
  have hspot : spot = none := by simpa [Addr.add] using World.cell?_spot hc0
  subst hspot
  refine ⟨b, off, rfl, ?_, fun i u hu => ?_⟩
  · rw [add_plain] at hc0; exact World.block_lt_of_cell? W _ hc0
  · have hi : i < len := by
      have := (List.getElem?_eq_some_iff.1 hu).1
      simp [ivs] at this
      omega
    have hci := hcell i (by omega)
    rw [add_plain] at hci
    rw [hci]
    simp [ivs, iv, hi, show i < zs.length by omega] at hu
    rw [← hu]
    simp [List.getD, show i < zs.length by omega]
theorem ints (h : DataW.Trod enc Try.prog W 0 (fun _ => true) true 22 (.slice A len cap) d p) : ∃ l, RdI W W.heap.size A len cap l := by
  obtain ⟨fuel, hf⟩ := h
  rcases open_ints Try.underlying22 Try.underlying3 (by kernel_rfl) hf with ⟨hcs, _⟩ | ⟨x, l, c, zs, hcs, _, hl, hm, hz, hx, hcell, hwz⟩
  · simp [Value.cells] at hcs
    obtain ⟨rfl, rfl, rfl⟩ := hcs
    exact ⟨[], Rd.nil W _ 1 0 none (by unfold maxLen; omega)⟩
  · simp [Value.cells] at hcs
    obtain ⟨rfl, rfl, rfl⟩ := hcs
    have hz' : zs.length = cap := by simpa using hz
    exact ⟨_, rdI_of hl hm hz' (fun i hi => hcell i (by omega))⟩
theorem intss (h : DataW.Trod enc Try.prog W 0 (fun _ => true) true 25 (.slice A len cap) d p) : ∃ LL, RdII W W.heap.size A len cap LL := by
  obtain ⟨fuel, hf⟩ := h
  rcases open_int_rows Try.underlying25 Try.underlying22 Try.underlying3 (by kernel_rfl) (by kernel_rfl) hf with ⟨hcs, _⟩ | ⟨x, l, c, A', L, C, Z, hcs, _, hl, hm, hx, hrow⟩
  · simp [Value.cells] at hcs
    obtain ⟨rfl, rfl, rfl⟩ := hcs
    exact ⟨[], [], Rd.nil W _ 1 0 none (by unfold maxLen; omega), rfl, fun i l h => by simp at h⟩
  · simp [Value.cells] at hcs
    obtain ⟨rfl, rfl, rfl⟩ := hcs
    refine ⟨(List.range len).map fun r => (Z r).take (L r), (List.range len).map fun r => .slice (A' r) (L r) (C r), ⟨hl, hm, by simp, fun hn => ?_⟩, by simp, fun i l hi => ?_⟩
    · obtain ⟨b, off, spot⟩ := x
      have hc0 := (hrow 0 (by omega)).1
      have hspot : spot = none := by simpa [Addr.add] using World.cell?_spot hc0
      subst hspot
      refine ⟨b, off, rfl, ?_, fun i u hu => ?_⟩
      · rw [add_plain] at hc0; exact World.block_lt_of_cell? W _ hc0
      · have hi : i < len := by
          have := (List.getElem?_eq_some_iff.1 hu).1
          simp at this
          omega
        have hci := (hrow i (by omega)).1
        rw [add_plain] at hci
        rw [hci]
        simp [hi] at hu
        rw [hu]
    · have hil : i < len := by
        have := (List.getElem?_eq_some_iff.1 hi).1
        simpa using this
      obtain ⟨hc, hLC, hCm, hZ, _, hnone, hsome⟩ := hrow i (by omega)
      simp [hil] at hi
      subst hi
      refine ⟨A' i, L i, C i, by simp [hil], ?_⟩
      cases hA : A' i with
      | none =>
        have h0 := hnone hA
        have hL0 : L i = 0 := by omega
        rw [hL0, h0, List.take_zero]
        exact Rd.nil W _ 1 0 none (by unfold maxLen; omega)
      | some a' => exact rdI_of hLC hCm hZ (hsome a' hA).2
end
end Go.Proofs.Ytoomdjjjkolloab.Open
