/- Chapter 16: the reference's Same, the law's Large and alive. -/
import Derived.Test.YtknfkbgnfjfpeaaDoorLayK
namespace Go.Proofs.YtknfkbgnfjfpeaaDoor
open Go.RowKit Go.Shelf

theorem FourO.four {w : World} {base : Nat} {V : Nat → Value} {D : Nat → List UInt8} (h : FourO w base V D) : Four w w.heap.size V D := fun i hi => by
  obtain ⟨A, n, c, h1, h2⟩ := h i hi
  exact ⟨A, n, c, h1, h2.rd⟩
theorem Four.drewN {w : World} {B : Nat} {V : Nat → Value} {D : Nat → List UInt8} (h : Four w B V D) (j : Nat) : Four (w.drewN j) B V D := h
set_option maxRecDepth 100000 in
set_option maxHeartbeats 4000000 in
theorem same_true (V U : Nat → Value) (D E : Nat → List UInt8) (w : World) (hV : Four w w.heap.size V D) (hU : Four w w.heap.size U E) (hDE : ∀ i, i < 4 → D i = E i) :
    Calls Tryd.prog 43 #[.agg (Ly.ar4 V), .agg (Ly.ar4 U)] w fun r w' => r = .returned (.bool true) ∧ Below w.heap.size w w' := by
  obtain ⟨W1, hW1⟩ : ∃ W1, W1 = w.alloc (.cells #[V 0, V 1, V 2, V 3] 62) := ⟨_, rfl⟩
  obtain ⟨W2, hW2⟩ : ∃ W2, W2 = W1.alloc (.cells #[U 0, U 1, U 2, U 3] 62) := ⟨_, rfl⟩
  have hz1 : W1.heap.size = w.heap.size + 1 := by rw [hW1]; simp
  have hz2 : W2.heap.size = W1.heap.size + 1 := by rw [hW2]; simp
  have hb1 : Below w.heap.size w W1 := by rw [hW1]; exact (Below.refl _ w).alloc (Nat.le_refl _) _
  have hb2 : Below W1.heap.size W1 W2 := by rw [hW2]; exact (Below.refl _ W1).alloc (Nat.le_refl _) _
  have hc1 : Kept (∀ k, k < 4 → W2.cell? ⟨w.heap.size, k, none⟩ = some (V k)) := ⟨fun k hk => by
    rw [hb2.cell (p := ⟨w.heap.size, k, none⟩) (by show w.heap.size < _; omega), hW1]
    exact (World.cell?_alloc_mark w _ _ _ k).trans (Ly.ar4_get V k hk)⟩
  have hc2 : Kept (∀ k, k < 4 → W2.cell? ⟨w.heap.size + 1, k, none⟩ = some (U k)) := ⟨fun k hk => by
    rw [← hz1, hW2]
    exact (World.cell?_alloc_mark W1 _ _ _ k).trans (Ly.ar4_get U k hk)⟩
  have HW : Kept ((w.alloc (.cells #[V 0, V 1, V 2, V 3] 62)).alloc (.cells #[U 0, U 1, U 2, U 3] 62) = W2) := ⟨by rw [← hW1, ← hW2]⟩
  have B2 : Kept (Below w.heap.size w W2) := ⟨bl_next hb1 hb2⟩
  have HV := Kept.mk (hV.below B2.out)
  have HU := Kept.mk (hU.below B2.out)
  have HD := Kept.mk hDE
  clear hV hU hW1 hW2 hz1 hz2 hb1 hb2 hDE
  show Calls _ _ #[.agg #[V 0, V 1, V 2, V 3], .agg #[U 0, U 1, U 2, U 3]] _ _
  go_enter Tryd.func43, Tryd.ntmps43
  go_upto_region 1 with fail
  rw [HW.out]
  generalize hg1 : w.heap.size + 1 = g1 at *
  go_wp2
  go_loopw [5] (fun i wr => ∃ k : Nat, k ≤ 4 ∧ i = .int .i64 k ∧ Quiet W2 wr) (fun i _ => 4 - (intOf i).toNat)
  case atStart => exact ⟨0, by omega, rfl, ⟨0, rfl⟩⟩
  case round =>
    obtain ⟨k, hk, rfl, j, rfl⟩ := hrel
    by_cases hlt : k < 4
    · obtain ⟨A1, n1, c1, hv, hr1⟩ := HV.out k hlt
      obtain ⟨A2, n2, c2, hu, hr2⟩ := HU.out k hlt
      rw [← HD.out k hlt] at hr2
      have x1 := hc1.out k hlt
      have x2 := hc2.out k hlt
      rw [hv] at x1
      rw [hu] at x2
      have kc1 := fun j => run_bytes_str (W2.drewN j) _ A1 n1 c1 _ (hr1.drewN j)
      have kc2 := fun j => run_bytes_str (W2.drewN j) _ A2 n2 c2 _ (hr2.drewN j)
      generalize D k = d at *
      clear hr1 hr2 hv hu
      go_wp2
      go_quiet (fail)
      go_wp2
      go_roundw
      case rel => exact ⟨k + 1, by omega, by go_num, ⟨j + nq, by simp⟩⟩
      case measure => simp [intOf]; omega
    · obtain rfl : k = 4 := by omega
      go_wp2
      go_ret
      exact ⟨rfl, below_drewN B2.out _⟩
namespace Ly
def sm4 (D : Nat → List UInt8) : Nat → Nat
  | 0 => 0
  | k + 1 => sm4 D k + min (D k).length 5000
def large (D : Nat → List UInt8) : Int := if 5000 < sm4 D 4 then 1 else 0
theorem sm4_le (D : Nat → List UInt8) : ∀ k, sm4 D k ≤ 5000 * k
  | 0 => by simp [sm4]
  | k + 1 => by have := sm4_le D k; show sm4 D k + _ ≤ _; omega
theorem sm4_small (D : Nat → List UInt8) (h : sm4 D 4 ≤ 5000) (i : Nat) (hi : i < 4) : (D i).length ≤ 5000 ∨ sm4 D 4 = 5000 := by
  have h4 : sm4 D 4 = 0 + min (D 0).length 5000 + min (D 1).length 5000 + min (D 2).length 5000 + min (D 3).length 5000 := rfl
  match i, hi with
  | 0, _ => omega
  | 1, _ => omega
  | 2, _ => omega
  | 3, _ => omega
end Ly
set_option maxRecDepth 100000 in
set_option maxHeartbeats 4000000 in
theorem large_any (V : Nat → Value) (D : Nat → List UInt8) (w : World) (hV : Four w w.heap.size V D) :
    Calls Tryd.prog 36 #[.agg (Ly.ar4 V)] w fun r w' => r = .returned (.int .i64 (Ly.large D)) ∧ Below w.heap.size w w' := by
  obtain ⟨W1, hW1⟩ : ∃ W1, W1 = w.alloc (.cells #[V 0, V 1, V 2, V 3] 62) := ⟨_, rfl⟩
  have B1 : Kept (Below w.heap.size w W1) := ⟨by rw [hW1]; exact (Below.refl _ w).alloc (Nat.le_refl _) _⟩
  have hcl : ∀ k, k < 4 → W1.cell? ⟨w.heap.size, k, none⟩ = some (V k) := fun k hk => by rw [hW1]; exact (World.cell?_alloc_mark w _ _ _ k).trans (Ly.ar4_get V k hk)
  have k0 := hcl 0 (by omega)
  have k1 := hcl 1 (by omega)
  have k2 := hcl 2 (by omega)
  have k3 := hcl 3 (by omega)
  have HV := Kept.mk hV
  have HW := Kept.mk hW1.symm
  clear hcl hV hW1
  show Calls _ _ #[.agg #[V 0, V 1, V 2, V 3]] _ _
  go_enter Tryd.func36, Tryd.ntmps36
  go_upto_region 1 with fail
  rw [HW.out]
  go_wp2
  go_loop [3, 7] (fun s i => ∃ k t : Nat, k ≤ 4 ∧ i = .int .i64 k ∧ s = .int .i64 t ∧ t ≤ 5000 * k ∧ Kept (t = Ly.sm4 D k)) (fun _ i => 4 - (intOf i).toNat)
  case atStart => exact ⟨0, 0, by omega, rfl, rfl, by omega, ⟨rfl⟩⟩
  case round =>
    obtain ⟨k, t, hk, rfl, rfl, ht, hsm⟩ := hrel
    by_cases hlt : k < 4
    · obtain ⟨A1, n1, c1, hv, hr1⟩ := HV.out k hlt
      have hidx : ∀ W, (Instr.index 62 (.agg #[V 0, V 1, V 2, V 3]) (.int .i64 (k : Int))).run Tryd.prog W = .ok (.slice A1 n1 c1) W := fun W => by rw [← hv]; exact idx4 _ Tryd.underlying62 V k hlt W
      have hn1 := hr1.len
      have hst : Kept (t + min n1 5000 = Ly.sm4 D (k + 1)) := ⟨by rw [hsm.out, hn1]; rfl⟩
      clear hr1 hv hn1
      by_cases hx : n1 ≤ 5000
      · have hx1 : (n1 : Int) ≤ 5000 := by omega
        have hmn : min (n1 : Int) 5000 = (n1 : Int) := by omega
        go_wp2
        go_round
        case rel => exact ⟨k + 1, t + n1, by omega, by go_num, by go_num, by omega, ⟨by rw [← hst.out]; omega⟩⟩
        case measure => simp [intOf]; omega
      · have hx1 : (5000 : Int) < (n1 : Int) := by omega
        have hmn : min (n1 : Int) 5000 = 5000 := by omega
        go_wp2
        go_round
        case rel => exact ⟨k + 1, t + 5000, by omega, by go_num, by go_num, by omega, ⟨by rw [← hst.out]; omega⟩⟩
        case measure => simp [intOf]; omega
    · obtain rfl : k = 4 := by omega
      by_cases hb : 5000 < t
      · have hb1 : (5000 : Int) < (t : Int) := by omega
        have hf : Kept (Ly.large D = 1) := ⟨by unfold Ly.large; rw [if_pos (by rw [← hsm.out]; exact hb)]⟩
        go_wp2
        go_ret
        exact ⟨by rw [hf.out]; rfl, B1.out⟩
      · have hb1 : (t : Int) ≤ 5000 := by omega
        have hf : Kept (Ly.large D = 0) := ⟨by unfold Ly.large; rw [if_neg (by rw [← hsm.out]; exact hb)]⟩
        go_wp2
        go_ret
        exact ⟨by rw [hf.out]; rfl, B1.out⟩
end Go.Proofs.YtknfkbgnfjfpeaaDoor
