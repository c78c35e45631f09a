/- Arguments opened: slices of records. -/
import Derived.Test.YtglnghdomoebfaaOpenLb
import Derived.Test.YtglnghdomoebfaaRecF
import Derived.Test.YtglnghdomoebfaaLarge
namespace Go.Proofs.Ytglnghdomoebfaa.Open
open Go.ChangeShapes Go.WideShapes Go.ChangeAt Go.RowKit Go.Joins Go.Deep
section
variable {H : Type} {enc : TypeId × Value → H} {W : World} {A : Option Addr} {len cap : Nat} {d : DataW H} {p : List MemPlace}
theorem rdI_of {a : Addr} {len cap : Nat} {zs : List Int} (hl : len ≤ cap) (hm : cap ≤ maxLen) (hz : zs.length = cap) (hcell : ∀ i, i < cap → W.cell? (a.add i) = some (.int .i64 (zs.getD i 0))) :
    RdI W W.heap.size (some a) len cap (zs.take len) := by
  refine ⟨hl, hm, by simp [ivs]; omega, fun hn => ?_⟩
  obtain ⟨b, off, spot⟩ := a
  have hc0 := hcell 0 (by omega)
  have hspot : spot = none := by simpa [Addr.add] using World.cell?_spot hc0
  subst hspot
  refine ⟨b, off, rfl, ?_, fun i u hu => ?_⟩
  · rw [add_plain] at hc0; exact World.block_lt_of_cell? W _ hc0
  · have hi : i < len := by
      have := (List.getElem?_eq_some_iff.1 hu).1
      simp [ivs] at this
      omega
    have hci := hcell i (by omega)
    rw [add_plain] at hci
    rw [hci]
    simp [ivs, iv, hi, show i < zs.length by omega] at hu
    rw [← hu]
    simp [List.getD, show i < zs.length by omega]
theorem ints_b (h : DataW.Trod enc Try.prog W 0 (fun _ => true) true 47 (.slice A len cap) d p) : ∃ l, RdI W W.heap.size A len cap l ∧ ∀ z ∈ l, z < 9223372036854775808 := by
  obtain ⟨fuel, hf⟩ := h
  rcases open_ints Try.underlying47 Try.underlying3 (by kernel_rfl) hf with ⟨hcs, _⟩ | ⟨x, l, c, zs, hcs, _, hl, hm, hz, hx, hcell, hwz⟩
  · simp [Value.cells] at hcs
    obtain ⟨rfl, rfl, rfl⟩ := hcs
    exact ⟨[], Rd.nil W _ 1 0 none (by unfold maxLen; omega), by simp⟩
  · simp [Value.cells] at hcs
    obtain ⟨rfl, rfl, rfl⟩ := hcs
    have hz' : zs.length = cap := by simpa using hz
    exact ⟨_, rdI_of hl hm hz' (fun i hi => hcell i (by omega)), fun z hz => by have := bounds_i64 (hwz z (List.mem_of_mem_take hz)); omega⟩
theorem labelsCell {m : Nat} {c0 : Value} {x : DataW H × List MemPlace} (h : DataW.trod enc Try.prog W 0 (fun _ => true) true m 46 [c0] = some x) : ∃ A n c l, c0 = .slice A n c ∧ RdL W W.heap.size A n c l ∧ Lb.Fit l := by
  have hf : ∃ A n c, c0 = .slice A n c := by
    rcases Deep.open_slice Try.underlying46 h with ⟨hcs, _⟩ | ⟨y, l, c, _, _, _, _, hcs, _⟩
    · exact ⟨none, 0, 0, by simpa using hcs⟩
    · exact ⟨some y, l, c, by simpa using hcs⟩
  obtain ⟨A, n, c, rfl⟩ := hf
  obtain ⟨l, hl, hf⟩ := labels (d := x.1) (p := x.2) ⟨m, h⟩
  exact ⟨A, n, c, l, rfl, hl, hf⟩
theorem intsCell {m : Nat} {c0 : Value} {x : DataW H × List MemPlace} (h : DataW.trod enc Try.prog W 0 (fun _ => true) true m 47 [c0] = some x) : ∃ A n c l, c0 = .slice A n c ∧ RdI W W.heap.size A n c l ∧ ∀ z ∈ l, z < 9223372036854775808 := by
  have hf : ∃ A n c, c0 = .slice A n c := by
    rcases open_ints Try.underlying47 Try.underlying3 (by kernel_rfl) h with ⟨hcs, _⟩ | ⟨y, l, c, zs, hcs, _⟩
    · exact ⟨none, 0, 0, by simpa using hcs⟩
    · exact ⟨some y, l, c, by simpa using hcs⟩
  obtain ⟨A, n, c, rfl⟩ := hf
  obtain ⟨l, hl, hf⟩ := ints_b (d := x.1) (p := x.2) ⟨m, h⟩
  exact ⟨A, n, c, l, rfl, hl, hf⟩
/-- an address, a length, a capacity, what is there: a slice as a part of a record -/
structure Hd (X : Type) where
  A : Option Addr
  n : Nat
  c : Nat
  l : X
instance {X : Type} [Inhabited X] : Inhabited (Hd X) := ⟨⟨none, 0, 0, default⟩⟩
set_option maxRecDepth 100000 in
theorem records (h : DataW.Trod enc Try.prog W 0 (fun _ => true) true 23 (.slice A len cap) d p) :
    ∃ rs : List RecV, RdR W W.heap.size A len cap rs ∧ ∀ r ∈ rs, Lb.Fit r.1 ∧ ∀ z ∈ r.2, z < 9223372036854775808 := by
  obtain ⟨fuel, hf⟩ := h
  have hC : Try.prog.cellsOf 49 = 2 := by kernel_rfl
  rcases Deep.open_slice Try.underlying23 hf with ⟨hcs, _⟩ | ⟨x, l, c, m, n, D, Pl, hcs, _, hl, hm, hmm, _, hi⟩
  · simp [Value.cells] at hcs
    obtain ⟨rfl, rfl, rfl⟩ := hcs
    exact ⟨[], ⟨[], Rd.nil W _ 2 0 none (by unfold maxLen; omega), rfl, fun i h => by simp at h⟩, by simp⟩
  · simp [Value.cells] at hcs
    obtain ⟨rfl, rfl, rfl⟩ := hcs
    have hmc : m = cap := by simpa using hmm
    subst hmc
    rw [hC] at hi
    have each : ∀ i, i < len → ∃ v : Hd (List Lab) × Hd (List Int), (RdL W W.heap.size v.1.A v.1.n v.1.c v.1.l ∧ RdI W W.heap.size v.2.A v.2.n v.2.c v.2.l ∧ Lb.Fit v.1.l ∧ ∀ z ∈ v.2.l, z < 9223372036854775808) ∧ W.cell? (x.add (i * 2 + 0)) = some (.slice v.1.A v.1.n v.1.c) ∧ W.cell? (x.add (i * 2 + 1)) = some (.slice v.2.A v.2.n v.2.c) := by
      intro i hil
      obtain ⟨cs', hcs1, hcs2⟩ := hi i (by omega)
      obtain ⟨_, hlen, hat⟩ := World.cells?_some hcs1
      clear hcs1
      obtain ⟨y0, y1, n', _, _, t0, t1⟩ := trod_struct2 Try.underlying49 hcs2
      have z0 : Try.prog.cellsOf 46 = 1 := by kernel_rfl
      have z1 : Try.prog.cellsOf 47 = 1 := by kernel_rfl
      have t0 : DataW.trod enc Try.prog W 0 (fun _ => true) true n' 46 ((cs'.drop 0).take (Try.prog.cellsOf 46)) = some y0 := t0
      have t1 : DataW.trod enc Try.prog W 0 (fun _ => true) true n' 47 ((cs'.drop 1).take (Try.prog.cellsOf 47)) = some y1 := t1
      match cs', hlen with
      | [c0, c1], _ =>
        rw [z0] at t0
        rw [z1] at t1
        obtain ⟨A0, m0, k0, l0, h0, r0, w0⟩ := labelsCell (show DataW.trod _ _ _ _ _ _ n' 46 [c0] = some y0 from t0)
        obtain ⟨A1, m1, k1, l1, h1, r1, w1⟩ := intsCell (show DataW.trod _ _ _ _ _ _ n' 47 [c1] = some y1 from t1)
        subst h0; subst h1
        exact ⟨(⟨A0, m0, k0, l0⟩, ⟨A1, m1, k1, l1⟩), ⟨r0, r1, w0, w1⟩, by rw [← Deep.add_add, hat 0 (by decide)]; rfl, by rw [← Deep.add_add, hat 1 (by decide)]; rfl⟩
    obtain ⟨V, hV⟩ := Deep.choose_lt each
    refine ⟨(List.range len).map fun i => ((V i).1.l, (V i).2.l), ⟨(List.range len).map fun i => (.slice (V i).1.A (V i).1.n (V i).1.c, .slice (V i).2.A (V i).2.n (V i).2.c), ⟨hl, hm, by rw [hflat_len]; simp, fun hn => ?_⟩, by simp, fun i h h' => ?_⟩, fun v hv => ?_⟩
    · obtain ⟨b, off, spot⟩ := x
      obtain ⟨_, hc0, _⟩ := hV 0 hn
      have hspot : spot = none := by simpa [Addr.add] using World.cell?_spot hc0
      subst hspot
      refine ⟨b, off, rfl, ?_, fun i u hu => ?_⟩
      · rw [add_plain] at hc0; exact World.block_lt_of_cell? W _ hc0
      · have hlt := (List.getElem?_eq_some_iff.1 hu).1
        rw [hflat_len, List.length_map, List.length_range] at hlt
        have hq : i / 2 < len := by omega
        obtain ⟨g1, g2⟩ := hflat_get ((List.range len).map fun i => (Value.slice (V i).1.A (V i).1.n (V i).1.c, Value.slice (V i).2.A (V i).2.n (V i).2.c)) (i / 2) (by simpa using hq)
        obtain ⟨_, k0, k1⟩ := hV (i / 2) hq
        rw [add_plain] at k0 k1
        rcases (show i % 2 = 0 ∨ i % 2 = 1 by omega) with e | e
        · have hii : i = i / 2 * 2 := by omega
          rw [hii] at hu ⊢
          rw [g1] at hu
          rw [Nat.add_zero] at k0
          have e2 : i / 2 * 2 / 2 = i / 2 := by omega
          rw [k0, ← hu]
          simp
        · have hii : i = i / 2 * 2 + 1 := by omega
          rw [hii] at hu ⊢
          rw [g2] at hu
          rw [k1, ← hu]
          simp
    · have hil : i < len := by simpa using h
      obtain ⟨⟨q1, q2, _⟩, _⟩ := hV i hil
      exact ⟨(V i).1.A, (V i).1.n, (V i).1.c, (V i).2.A, (V i).2.n, (V i).2.c, by simp, by simpa using q1, by simpa using q2⟩
    · obtain ⟨i, hi, rfl⟩ := List.mem_map.1 hv
      obtain ⟨⟨_, _, q3, q4⟩, _⟩ := hV i (by simpa using hi)
      exact ⟨q3, q4⟩
end
end Go.Proofs.Ytglnghdomoebfaa.Open
