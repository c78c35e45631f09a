/- Chapter 13: the reference's Same at equal lists. -/
import Derived.Test.YtglnghdomoebfaaRecI
import Derived.Test.YtglnghdomoebfaaLabC
namespace Go.Proofs.Ytglnghdomoebfaa
open Go.RowKit Go.Shelf Go.Sort

set_option maxRecDepth 100000 in
set_option maxHeartbeats 8000000 in
theorem refSame_eq (A A2 : Option Addr) (n c n2 c2 : Nat) (rs : List RecV) (w : World) (hv : RdR w w.heap.size A n c rs) (hv2 : RdR w w.heap.size A2 n2 c2 rs) :
    Calls Try.prog 26 #[.slice A n c, .slice A2 n2 c2] w fun e w' => e = .returned (.bool true) ∧ Gr w w' := by
  have mixed : Try.prog.follows .mixedOrders = true := by kernel_rfl
  obtain ⟨hlc, hcm⟩ := hv.cap
  obtain ⟨hlc2, hcm2⟩ := hv2.cap
  unfold maxLen at hcm hcm2
  have hn := Kept.mk hv.len
  obtain rfl : n2 = n := by have := hv2.len; have := hn.out; omega
  have V := Kept.mk hv
  have V2 := Kept.mk hv2
  clear hv hv2
  go_enter Try.func26, Try.ntmps26
  go_wp2
  go_loopw [5] (fun i wr => ∃ k : Nat, k ≤ n2 ∧ i = .int .i64 k ∧ Gr w wr) (fun i _ => n2 - (intOf i).toNat)
  case atStart => exact ⟨0, by omega, rfl, Gr.refl w⟩
  case round =>
    obtain ⟨wo, rfl⟩ : ∃ wo : World, wo = wr := ⟨_, rfl⟩
    obtain ⟨k, hk, rfl, gr⟩ := hrel
    by_cases hlt : k < n2
    · have hkl : k < rs.length := by rw [← hn.out]; exact hlt
      obtain ⟨b, off, A3, n3, c3, A4, n4, c4, rfl, hL, hC, hc⟩ := V.out.cells (Nat.le_refl _) hkl
      obtain ⟨b2, off2, A5, n5, c5, A6, n6, c6, rfl, hL2, hC2, hc2⟩ := V2.out.cells (Nat.le_refl _) hkl
      have CC := Kept.mk hc
      have CC2 := Kept.mk hc2
      have hsz := gr.size
      have hb1 : b < w.heap.size := by
        obtain ⟨hs, h1, h2, _⟩ := V.out
        obtain ⟨b', off', e', hb', _⟩ := h1.2.2.2 (by omega)
        simp only [Option.some.injEq, Addr.mk.injEq, and_true] at e'
        rw [e'.1]; exact hb'
      have hb2 : b2 < w.heap.size := by
        obtain ⟨hs, h1, h2, _⟩ := V2.out
        obtain ⟨b', off', e', hb', _⟩ := h1.2.2.2 (by omega)
        simp only [Option.some.injEq, Addr.mk.injEq, and_true] at e'
        rw [e'.1]; exact hb'
      have x0 := cell_grown (w := wo) (show (⟨b, off + k * 2, none⟩ : Addr).block < wo.heap.size by show b < _; omega) (hc wo gr.below).1
      have x1 := cell_grown (w := wo) (show (⟨b, off + k * 2 + 1, none⟩ : Addr).block < wo.heap.size by show b < _; omega) (hc wo gr.below).2
      have y0 := cell_grown (w := wo) (show (⟨b2, off2 + k * 2, none⟩ : Addr).block < wo.heap.size by show b2 < _; omega) (hc2 wo gr.below).1
      have y1 := cell_grown (w := wo) (show (⟨b2, off2 + k * 2 + 1, none⟩ : Addr).block < wo.heap.size by show b2 < _; omega) (hc2 wo gr.below).2
      have hC4 := hC.len
      have hC6 := hC2.len
      obtain rfl : n6 = n4 := by omega
      have hc4 := hC.1
      have hm4 := hC.2.1
      have hc6 := hC2.1
      have hm6 := hC2.2.1
      unfold maxLen at hm4 hm6
      have HL := Kept.mk (fun W (g : Gr w W) => (hL.below g.below).more g.size)
      have HL2 := Kept.mk (fun W (g : Gr w W) => (hL2.below g.below).more g.size)
      have CM := Kept.mk (fun W (g : Gr w W) => refCompare_any A3 A5 n3 c3 n5 c5 rs[k].1 rs[k].1 W (HL.out W g) (HL2.out W g))
      rw [Lb.cmpL_zero.2 rfl] at CM
      have HC := Kept.mk hC
      have HC2 := Kept.mk hC2
      have H4 := Kept.mk hC4
      have G := Kept.mk gr
      clear hc hc2 hL hL2 hC hC2 gr hC4 hC6
      go_wp2_with fail
      go_quiet_grown (first | (go_at_call 37; refine Calls.grown_of (CM.out _ (G.out.trans ⟨_, _, rfl⟩))))
      have G2 : Kept (Gr w (grow (wo.drewN nq) osq)) := ⟨G.out.trans ⟨_, _, rfl⟩⟩
      generalize grow (wo.drewN nq) osq = wi at *
      go_wp2
      go_loopw [6] (fun j wr => ∃ i : Nat, i ≤ n6 ∧ j = .int .i64 i ∧ Gr w wr) (fun j _ => n6 - (intOf j).toNat)
      case atStart => exact ⟨0, by omega, rfl, G2.out⟩
      case round =>
        obtain ⟨i, hi, rfl, gr⟩ := hrel
        obtain ⟨p0, p1⟩ := CC.out wr gr.below
        obtain ⟨q0, q1⟩ := CC2.out wr gr.below
        by_cases hlt2 : i < n6
        · have hil : i < rs[k].2.length := by rw [← H4.out]; exact hlt2
          obtain ⟨b4, off4, rfl, -, z0⟩ := ((HC.out.below gr.below).more gr.size).at_ hil
          obtain ⟨b6, off6, rfl, -, z1⟩ := ((HC2.out.below gr.below).more gr.size).at_ hil
          have G3 := Kept.mk gr
          clear gr x0 x1 y0 y1
          generalize rs[k].2[i] = x at *
          go_wp2_with fail
          go_quiet (fail)
          go_wp2
          go_roundw
          case rel => exact ⟨i + 1, by omega, by go_num, G3.out.drewN _⟩
          case measure => simp [intOf]; omega
        · have G3 := Kept.mk gr
          clear gr x0 x1 y0 y1
          go_wp2
          go_roundw
          case rel => exact ⟨k + 1, by omega, by go_num, G3.out⟩
          case measure => simp [intOf]; omega
    · have G := Kept.mk gr
      clear gr
      go_wp2
      go_ret
      exact ⟨rfl, G.out⟩
end Go.Proofs.Ytglnghdomoebfaa
