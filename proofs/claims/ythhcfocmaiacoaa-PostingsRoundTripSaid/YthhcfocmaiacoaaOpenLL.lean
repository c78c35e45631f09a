/- Arguments opened: slices of slices of labels; a label. -/
import Derived.Test.YthhcfocmaiacoaaOpenLb
import Derived.Test.YthhcfocmaiacoaaPostK
import Derived.Test.YthhcfocmaiacoaaSymL
namespace Go.Proofs.Ythhcfocmaiacoaa.Open
open Go.ChangeShapes Go.WideShapes Go.ChangeAt Go.RowKit Go.Joins Go.Deep
section
variable {H : Type} {enc : TypeId × Value → H} {W : World} {A : Option Addr} {len cap : Nat} {d : DataW H} {p : List MemPlace}
theorem labelsCell {m : Nat} {c0 : Value} {x : DataW H × List MemPlace} (h : DataW.trod enc Try.prog W 0 (fun _ => true) true m 69 [c0] = some x) : ∃ A n c l, c0 = .slice A n c ∧ RdL W W.heap.size A n c l ∧ Lb.Fit l := by
  have hf : ∃ A n c, c0 = .slice A n c := by
    rcases Deep.open_slice Try.underlying69 h with ⟨hcs, _⟩ | ⟨y, l, c, _, _, _, _, hcs, _⟩
    · exact ⟨none, 0, 0, by simpa using hcs⟩
    · exact ⟨some y, l, c, by simpa using hcs⟩
  obtain ⟨A, n, c, rfl⟩ := hf
  obtain ⟨l, hl, hf⟩ := labels (d := x.1) (p := x.2) ⟨m, h⟩
  exact ⟨A, n, c, l, rfl, hl, hf⟩
/-- an address, a length, a capacity, what is there -/
structure Hd (X : Type) where
  A : Option Addr
  n : Nat
  c : Nat
  l : X
instance {X : Type} [Inhabited X] : Inhabited (Hd X) := ⟨⟨none, 0, 0, default⟩⟩
set_option maxRecDepth 100000 in
theorem label {b0 : Nat} {v : Value} (hv : Value.okWide Try.prog W .any b0 67 v) (h : DataW.Trod enc Try.prog W 0 (fun _ => true) true 67 v d p) :
    ∃ x : Lab, v = lbv x ∧ Lb.Fit [x] := by
  obtain ⟨v0, v1, y0, y1, n, rfl, _, _, t0, t1⟩ := open_agg2 Try.underlying67 (by kernel_rfl) (by kernel_rfl) hv h
  obtain ⟨s0, h0, _, w0⟩ := DataW.trod_string Try.underlying9 t0
  obtain ⟨s1, h1, _, w1⟩ := DataW.trod_string Try.underlying9 t1
  cases h0; cases h1
  exact ⟨⟨s0, s1⟩, rfl, fun x hx => by rw [List.mem_singleton.1 hx]; exact ⟨w0, w1⟩⟩
set_option maxRecDepth 100000 in
theorem labelss (h : DataW.Trod enc Try.prog W 0 (fun _ => true) true 45 (.slice A len cap) d p) :
    ∃ LL : List (List Lab), RdLL W W.heap.size A len cap LL ∧ ∀ l ∈ LL, Lb.Fit l := by
  obtain ⟨fuel, hf⟩ := h
  have hC : Try.prog.cellsOf 69 = 1 := by kernel_rfl
  rcases Deep.open_slice Try.underlying45 hf with ⟨hcs, _⟩ | ⟨x, l, c, m, n, D, Pl, hcs, _, hl, hm, hmm, _, hi⟩
  · simp [Value.cells] at hcs
    obtain ⟨rfl, rfl, rfl⟩ := hcs
    exact ⟨[], ⟨[], Rd.nil W _ 1 0 none (by unfold maxLen; omega), rfl, fun i l h => by simp at h⟩, by simp⟩
  · simp [Value.cells] at hcs
    obtain ⟨rfl, rfl, rfl⟩ := hcs
    have hmc : m = cap := by simpa using hmm
    subst hmc
    rw [hC] at hi
    have each : ∀ i, i < len → ∃ v : Hd (List Lab), (RdL W W.heap.size v.A v.n v.c v.l ∧ Lb.Fit v.l) ∧ W.cell? (x.add i) = some (.slice v.A v.n v.c) := by
      intro i hil
      obtain ⟨cs', hcs1, hcs2⟩ := hi i (by omega)
      obtain ⟨_, hlen, hat⟩ := World.cells?_some hcs1
      clear hcs1
      match cs', hlen with
      | [c0], _ =>
        obtain ⟨A0, m0, k0, l0, h0, r0, w0⟩ := labelsCell hcs2
        subst h0
        refine ⟨⟨A0, m0, k0, l0⟩, ⟨r0, w0⟩, ?_⟩
        have := hat 0 (by decide)
        rw [Nat.mul_one, Deep.add_add, Nat.add_zero] at this
        rw [this]; rfl
    obtain ⟨V, hV⟩ := Deep.choose_lt each
    refine ⟨(List.range len).map fun i => (V i).l, ⟨(List.range len).map fun i => .slice (V i).A (V i).n (V i).c, ⟨hl, hm, by simp, fun hn => ?_⟩, by simp, fun i l hi => ?_⟩, fun v hv => ?_⟩
    · obtain ⟨b, off, spot⟩ := x
      obtain ⟨_, hc0⟩ := hV 0 hn
      have hspot : spot = none := by simpa [Addr.add] using World.cell?_spot hc0
      subst hspot
      refine ⟨b, off, rfl, ?_, fun i u hu => ?_⟩
      · rw [add_plain] at hc0; exact World.block_lt_of_cell? W _ hc0
      · have hlt := (List.getElem?_eq_some_iff.1 hu).1
        rw [List.length_map, List.length_range] at hlt
        obtain ⟨_, k0⟩ := hV i hlt
        rw [add_plain] at k0
        rw [k0, ← hu]
        simp [hlt]
    · have hil : i < len := by
        have := (List.getElem?_eq_some_iff.1 hi).1
        simpa using this
      obtain ⟨⟨q1, _⟩, _⟩ := hV i hil
      simp [hil] at hi
      subst hi
      exact ⟨(V i).A, (V i).n, (V i).c, by simp [hil], q1⟩
    · obtain ⟨i, hi, rfl⟩ := List.mem_map.1 hv
      exact (hV i (by simpa using hi)).1.2
end
end Go.Proofs.Ythhcfocmaiacoaa.Open
