/- Arguments opened: an array of four slices of bytes. -/
import Derived.Test.YtknfkbgnfjfpeaaDoorOpenB
import Derived.Test.YtknfkbgnfjfpeaaDoorLayC
namespace Go.Proofs.YtknfkbgnfjfpeaaDoor.Open
open Go.ChangeShapes Go.WideShapes Go.ChangeAt Go.RowKit
section
variable {H : Type} {enc : TypeId × Value → H} {W : World} {d : DataW H} {p : List MemPlace}
theorem bytesCell {m : Nat} {c0 : Value} {x : DataW H × List MemPlace} (h : DataW.trod enc Tryd.prog W 0 (fun _ => true) true m 22 [c0] = some x) : ∃ A n c l, c0 = .slice A n c ∧ RdB W W.heap.size A n c l ∧ (c = 0 ∨ c ∈ DataW.weights Tryd.prog 22 x.1) := by
  have hf : ∃ A n c, c0 = .slice A n c := by
    rcases open_ints Tryd.underlying22 Tryd.underlying5 (by kernel_rfl) h with ⟨hcs, _⟩ | ⟨y, l, c, zs, hcs, _⟩
    · exact ⟨none, 0, 0, by simpa using hcs⟩
    · exact ⟨some y, l, c, by simpa using hcs⟩
  obtain ⟨A, n, c, rfl⟩ := hf
  obtain ⟨⟨l, hl⟩, hc⟩ := bytes (d := x.1) (p := x.2) ⟨m, h⟩
  refine ⟨A, n, c, l, rfl, hl, ?_⟩
  rcases hc with hc | ⟨elems, spare, he, hc⟩
  · exact .inl hc
  · refine .inr ?_
    rw [he, DataW.weights, Tryd.underlying22]
    show c ∈ (elems.length + spare.length) * Tryd.prog.bytesOf 5 :: (DataW.weightsAll Tryd.prog 5 elems ++ DataW.weightsAll Tryd.prog 5 spare)
    rw [show Tryd.prog.bytesOf 5 = 1 by kernel_rfl, hc, Nat.mul_one]
    exact List.mem_cons_self
set_option maxRecDepth 100000 in
theorem arr4 {b0 : Nat} {v : Value} (hv : Value.okWide Tryd.prog W .any b0 62 v) (h : DataW.Trod enc Tryd.prog W 0 (fun _ => true) true 62 v d p) :
    ∃ V D, v = .agg (Ly.ar4 V) ∧ Four W W.heap.size V D ∧ (∀ i, i < 4 → (D i).length = 0 ∨ ∃ c ∈ DataW.weights Tryd.prog 62 d, (D i).length ≤ c) := by
  have hU := Tryd.underlying62
  have hC : Tryd.prog.cellsOf 62 = 4 := by kernel_rfl
  have hE : Tryd.prog.cellsOf 22 = 1 := by kernel_rfl
  simp only [Value.okWide, hU] at hv
  obtain ⟨cs, rfl, hs, _⟩ := hv
  rw [hC] at hs
  obtain ⟨l, rfl⟩ : ∃ l : List Value, cs = l.toArray := ⟨cs.toList, by simp⟩
  match l, hs with
  | [c0, c1, c2, c3], _ =>
    obtain ⟨fuel, hf⟩ := h
    obtain ⟨xs, m, _, hd, hl, hx, hel⟩ := DataW.trod_array hU hf
    rw [hE] at hel
    have e0 := hel 0 (by decide)
    have e1 := hel 1 (by decide)
    have e2 := hel 2 (by decide)
    have e3 := hel 3 (by decide)
    match xs, hx with
    | [x0, x1, x2, x3], _ =>
      obtain ⟨A0, n0, k0, l0, rfl, r0, w0⟩ := bytesCell (show DataW.trod enc Tryd.prog W 0 (fun _ => true) true m 22 [c0] = some x0 from e0)
      obtain ⟨A1, n1, k1, l1, rfl, r1, w1⟩ := bytesCell (show DataW.trod enc Tryd.prog W 0 (fun _ => true) true m 22 [c1] = some x1 from e1)
      obtain ⟨A2, n2, k2, l2, rfl, r2, w2⟩ := bytesCell (show DataW.trod enc Tryd.prog W 0 (fun _ => true) true m 22 [c2] = some x2 from e2)
      obtain ⟨A3, n3, k3, l3, rfl, r3, w3⟩ := bytesCell (show DataW.trod enc Tryd.prog W 0 (fun _ => true) true m 22 [c3] = some x3 from e3)
      have hd' : d = .agg [x0.1, x1.1, x2.1, x3.1] := by simpa using congrArg Prod.fst hd
      have hw : DataW.weights Tryd.prog 62 d = DataW.weights Tryd.prog 22 x0.1 ++ (DataW.weights Tryd.prog 22 x1.1 ++ (DataW.weights Tryd.prog 22 x2.1 ++ (DataW.weights Tryd.prog 22 x3.1 ++ []))) := by
        rw [hd', DataW.weights, hU]
        rfl
      refine ⟨fun i => match i with | 0 => .slice A0 n0 k0 | 1 => .slice A1 n1 k1 | 2 => .slice A2 n2 k2 | _ => .slice A3 n3 k3, fun i => match i with | 0 => l0 | 1 => l1 | 2 => l2 | _ => l3, rfl, fun i hi => ?_, fun i hi => ?_⟩
      · match i, hi with
        | 0, _ => exact ⟨A0, n0, k0, rfl, r0⟩
        | 1, _ => exact ⟨A1, n1, k1, rfl, r1⟩
        | 2, _ => exact ⟨A2, n2, k2, rfl, r2⟩
        | 3, _ => exact ⟨A3, n3, k3, rfl, r3⟩
      · rw [hw]
        have key : ∀ {A : Option Addr} {n c : Nat} {l : List UInt8} {ws : List Nat}, RdB W W.heap.size A n c l → (c = 0 ∨ c ∈ ws) → l.length = 0 ∨ ∃ c ∈ ws, l.length ≤ c := fun h1 h2 => by
          have h3 := h1.len
          have h4 := h1.1
          rcases h2 with h2 | h2
          · exact .inl (by omega)
          · exact .inr ⟨_, h2, by omega⟩
        match i, hi with
        | 0, _ => exact (key r0 w0).imp id fun ⟨c, hc, h⟩ => ⟨c, by simp [hc], h⟩
        | 1, _ => exact (key r1 w1).imp id fun ⟨c, hc, h⟩ => ⟨c, by simp [hc], h⟩
        | 2, _ => exact (key r2 w2).imp id fun ⟨c, hc, h⟩ => ⟨c, by simp [hc], h⟩
        | 3, _ => exact (key r3 w3).imp id fun ⟨c, hc, h⟩ => ⟨c, by simp [hc], h⟩
theorem arr4_cap {ts : List TypeId} {ds : List (DataW H)} (hsz : (DataW.weightsEach Tryd.prog ts ds).all (· ≤ reachBytes) = true) {j : Nat} (ht : ts[j]? = some 62) (hd : ds[j]? = some d) {D : Nat → List UInt8}
    (h : ∀ i, i < 4 → (D i).length = 0 ∨ ∃ c ∈ DataW.weights Tryd.prog 62 d, (D i).length ≤ c) : ∀ i, i < 4 → (D i).length ≤ 140737488351232 := fun i hi => by
  rcases h i hi with h | ⟨c, hc, h⟩
  · omega
  · have h1 := of_decide_eq_true (List.all_eq_true.1 hsz _ (DataW.weights_mem_each ht hd _ hc))
    simp only [reachBytes] at h1
    omega
end
end Go.Proofs.YtknfkbgnfjfpeaaDoor.Open
