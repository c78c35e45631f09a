/- Arguments opened: slices of bytes; the reach. -/
import Derived.Test.YthhcfocmaiacoaaOpen
import Derived.Test.YthhcfocmaiacoaaMemB
namespace Go.Proofs.Ythhcfocmaiacoaa.Open
open Go.ChangeShapes Go.WideShapes Go.ChangeAt Go.RowKit
section
variable {H : Type} {enc : TypeId × Value → H} {W : World} {A : Option Addr} {len cap : Nat} {d : DataW H} {p : List MemPlace}
theorem bytes (h : DataW.Trod enc Try.prog W 0 (fun _ => true) true 30 (.slice A len cap) d p) :
    (∃ l, RdB W W.heap.size A len cap l) ∧ (cap = 0 ∨ ∃ elems spare : List (DataW H), d = .slice elems spare ∧ elems.length + spare.length = cap) := by
  obtain ⟨fuel, hf⟩ := h
  rcases open_ints Try.underlying30 Try.underlying5 (by kernel_rfl) hf with ⟨hcs, _⟩ | ⟨x, l, c, zs, hcs, _, hl, hm, hz, hx, hcell, hwz⟩
  · simp [Value.cells] at hcs
    obtain ⟨rfl, rfl, rfl⟩ := hcs
    exact ⟨⟨[], Rd.nil W _ 1 0 none (by unfold maxLen; omega)⟩, .inl rfl⟩
  · simp [Value.cells] at hcs
    obtain ⟨rfl, rfl, rfl⟩ := hcs
    have hz' : zs.length = cap := by simpa using hz
    constructor
    · refine ⟨(zs.take len).map fun z => UInt8.ofNat z.toNat, hl, hm, by simp [bvs]; omega, fun hn => ?_⟩
      obtain ⟨b, off, spot⟩ := x
      have hc0 := hcell 0 (by omega)
      have hspot : spot = none := by simpa [Addr.add] using World.cell?_spot hc0
      subst hspot
      refine ⟨b, off, rfl, ?_, fun i u hu => ?_⟩
      · rw [add_plain] at hc0; exact World.block_lt_of_cell? W _ hc0
      · have hi : i < len := by
          have := (List.getElem?_eq_some_iff.1 hu).1
          simp [bvs] at this
          omega
        have hci := hcell i (by omega)
        rw [add_plain] at hci
        rw [hci]
        have hw := bounds_u8 (hwz (zs[i]'(by omega)) (List.getElem_mem _))
        simp [bvs, bv, hi, show i < zs.length by omega] at hu
        rw [← hu]
        simp [List.getD, show i < zs.length by omega]
        omega
    · right
      simp only [Prod.mk.injEq] at hx
      exact ⟨_, _, hx.1, by simp [lits]; omega⟩
theorem bytes_cap {ts : List TypeId} {ds : List (DataW H)} (hsz : (DataW.weightsEach Try.prog ts ds).all (· ≤ reachBytes) = true) {j : Nat} (ht : ts[j]? = some 30) (hd : ds[j]? = some d)
    (h : cap = 0 ∨ ∃ elems spare : List (DataW H), d = .slice elems spare ∧ elems.length + spare.length = cap) : cap ≤ 140737488351232 := by
  rcases h with h | ⟨elems, spare, rfl, h⟩
  · omega
  · have := sized_slice hsz ht hd Try.underlying30
    rw [show Try.prog.bytesOf 5 = 1 by kernel_rfl] at this
    simp only [reachBytes] at this
    omega
end
end Go.Proofs.Ythhcfocmaiacoaa.Open
