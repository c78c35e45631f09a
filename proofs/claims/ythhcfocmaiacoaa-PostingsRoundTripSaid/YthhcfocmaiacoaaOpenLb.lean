/- Arguments opened: slices of labels. -/
import Derived.Test.YthhcfocmaiacoaaOpenS
import Derived.Test.YthhcfocmaiacoaaMemL
import Derived.Lib.SmallJoins
import Derived.Deep.Slices
import Derived.Deep.Fields
namespace Go.Proofs.Ythhcfocmaiacoaa.Open
open Go.ChangeShapes Go.WideShapes Go.ChangeAt Go.RowKit Go.Joins
section
variable {H : Type} {enc : TypeId × Value → H} {W : World} {A : Option Addr} {len cap : Nat} {d : DataW H} {p : List MemPlace}
set_option maxRecDepth 100000 in
theorem labels (h : DataW.Trod enc Try.prog W 0 (fun _ => true) true 69 (.slice A len cap) d p) :
    ∃ L : List Lab, RdL W W.heap.size A len cap L ∧ ∀ x ∈ L, x.n.size ≤ maxLen ∧ x.v.size ≤ maxLen := by
  obtain ⟨fuel, hf⟩ := h
  have hC : Try.prog.cellsOf 67 = 2 := by kernel_rfl
  rcases Deep.open_slice Try.underlying69 hf with ⟨hcs, _⟩ | ⟨x, l, c, m, n, D, Pl, hcs, _, hl, hm, hmm, _, hi⟩
  · simp [Value.cells] at hcs
    obtain ⟨rfl, rfl, rfl⟩ := hcs
    exact ⟨[], Rd.nil W _ 2 0 none (by unfold maxLen; omega), by simp⟩
  · simp [Value.cells] at hcs
    obtain ⟨rfl, rfl, rfl⟩ := hcs
    have hmc : m = cap := by simpa using hmm
    subst hmc
    rw [hC] at hi
    have each : ∀ i, i < len → ∃ v : Lab, (v.n.size ≤ maxLen ∧ v.v.size ≤ maxLen) ∧ ∀ k, k < 2 → W.cell? (x.add (i * 2 + k)) = (lbc v)[k]? := by
      intro i hil
      obtain ⟨cs', hcs1, hcs2⟩ := hi i (by omega)
      obtain ⟨_, hlen, hat⟩ := World.cells?_some hcs1
      clear hcs1
      obtain ⟨y0, y1, n', _, _, t0, t1⟩ := trod_struct2 Try.underlying67 hcs2
      have z0 : Try.prog.cellsOf 9 = 1 := by kernel_rfl
      have t0 : DataW.trod enc Try.prog W 0 (fun _ => true) true n' 9 ((cs'.drop 0).take (Try.prog.cellsOf 9)) = some y0 := t0
      have t1 : DataW.trod enc Try.prog W 0 (fun _ => true) true n' 9 ((cs'.drop 1).take (Try.prog.cellsOf 9)) = some y1 := t1
      match cs', hlen with
      | [c0, c1], _ =>
        rw [z0] at t0 t1
        obtain ⟨s0, h0, _, w0⟩ := DataW.trod_string Try.underlying9 (show DataW.trod _ _ _ _ _ _ n' 9 [c0] = some y0 from t0)
        obtain ⟨s1, h1, _, w1⟩ := DataW.trod_string Try.underlying9 (show DataW.trod _ _ _ _ _ _ n' 9 [c1] = some y1 from t1)
        cases h0; cases h1
        refine ⟨⟨s0, s1⟩, ⟨w0, w1⟩, fun k hk => ?_⟩
        match k, hk with
        | 0, _ => rw [← Deep.add_add, hat 0 (by decide)]; rfl
        | 1, _ => rw [← Deep.add_add, hat 1 (by decide)]; rfl
    obtain ⟨V, hV⟩ := Deep.choose_lt each
    refine ⟨(List.range len).map V, ⟨hl, hm, by rw [lbs_length]; simp, fun hn => ?_⟩, fun v hv => ?_⟩
    · obtain ⟨b, off, spot⟩ := x
      obtain ⟨_, hc0⟩ := hV 0 hn
      have hc0 := hc0 0 (by omega)
      have hc0' : W.cell? ((⟨b, off, spot⟩ : Addr).add (0 * 2 + 0)) = some (.string (V 0).n) := hc0
      have hspot : spot = none := by simpa [Addr.add] using World.cell?_spot hc0'
      subst hspot
      refine ⟨b, off, rfl, ?_, fun i u hu => ?_⟩
      · rw [add_plain] at hc0'; exact World.block_lt_of_cell? W _ hc0'
      · have hlt := (List.getElem?_eq_some_iff.1 hu).1
        rw [lbs_length, List.length_map, List.length_range] at hlt
        have hii : i = i / 2 * 2 + i % 2 := by omega
        have hq : i / 2 < len := by omega
        rw [hii, lbs_get _ _ _ (by simpa using hq) (by omega)] at hu
        have := (hV (i / 2) hq).2 (i % 2) (by omega)
        rw [add_plain] at this
        rw [← hii] at this
        rw [this, ← hu]
        simp
    · obtain ⟨i, hi, rfl⟩ := List.mem_map.1 hv
      exact (hV i (by simpa using hi)).1
end
end Go.Proofs.Ythhcfocmaiacoaa.Open
