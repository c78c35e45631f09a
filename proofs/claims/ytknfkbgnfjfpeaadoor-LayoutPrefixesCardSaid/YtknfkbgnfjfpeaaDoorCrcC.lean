/- The reference's Append and Check. -/
import Derived.Test.YtknfkbgnfjfpeaaDoorCrcB
import Derived.BigQuiet
import Derived.Deep.RegionWith
import Derived.Deep.DeepCutAuto
namespace Go.Proofs.YtknfkbgnfjfpeaaDoor
open Go.RowKit

set_option maxHeartbeats 400000 in
theorem refappend_any (A : Option Addr) (n c : Nat) (l : List UInt8) (w : World) (B : Nat) (hv : RdB w B A n c l) (hB : B ≤ w.heap.size) (hl : l.length ≤ 140737488355232) :
    Calls Tryd.prog 49 #[.slice A n c] w fun e w' => ∃ A2 n2 c2, e = .returned (.slice A2 n2 c2) ∧ OwnB w' w.heap.size A2 n2 c2 (Crc.app l) ∧ Below w.heap.size w w' := by
  obtain rfl := hv.len
  have hlc := hv.1
  have hcm := hv.2.1
  unfold maxLen at hcm
  have hS := Crc.sum_lt l
  have Ha := hide (show Crc.app l = l ++ Crc.four (Crc.sum l) from rfl)
  have hsum := hide (refsum_any A l.length c l w B hv)
  obtain ⟨s, hs⟩ : ∃ s, s = Crc.sum l := ⟨_, rfl⟩
  rw [← hs] at hS
  have Hs := hide hs
  obtain ⟨x0, h0⟩ : ∃ x : UInt8, x = UInt8.ofNat s := ⟨_, rfl⟩
  obtain ⟨x1, h1⟩ : ∃ x : UInt8, x = UInt8.ofNat (s / 256) := ⟨_, rfl⟩
  obtain ⟨x2, h2⟩ : ∃ x : UInt8, x = UInt8.ofNat (s / 65536) := ⟨_, rfl⟩
  obtain ⟨x3, h3⟩ : ∃ x : UInt8, x = UInt8.ofNat (s / 16777216) := ⟨_, rfl⟩
  have e0 : (s : Int) % 256 = (x0.toNat : Int) := by rw [h0, UInt8.toNat_ofNat']; simp
  have e1 : (s : Int) / 256 % 256 = (x1.toNat : Int) := by rw [h1, UInt8.toNat_ofNat']; simp
  have e2 : (s : Int) / 65536 % 256 = (x2.toNat : Int) := by rw [h2, UInt8.toNat_ofNat']; simp
  have e3 : (s : Int) / 16777216 = (x3.toNat : Int) := by rw [h3, UInt8.toNat_ofNat']; omega
  have Hf := hide (show Crc.four s = [x0, x1, x2, x3] by rw [h0, h1, h2, h3]; rfl)
  clear hs h0 h1 h2 h3
  go_enter Tryd.func49, Tryd.ntmps49
  go_wp2_with fail
  refine hsum.out.mono ?_
  rw [← Hs.out]
  rintro e w2 ⟨rfl, rfl⟩
  go_wp2_with (first
    | (at_builtin; refine wpList_appB rfl (.tmp 7) (.tmp 8) rfl w.heap.size _ _ _ [] rfl (OwnB.made w _ (Nat.le_refl _)) B _ _ _ l rfl (Rd.alloc hv hB _) (by omega) (by simp) ?_; intro A2 c2 w1 hown1 hgrow1 hat1; have hb1 : Below w.heap.size w w1 := ((Below.refl _ w).alloc (Nat.le_refl _) _).grown hgrow1 (by simp) (by simp [ab]); rw [List.nil_append, Nat.zero_add] at hown1; have hz1 := hb1.size)
    | (at_builtin; refine wpList_appB rfl (.tmp 10) (.tmp 22) rfl w.heap.size A2 _ c2 l rfl (World.ownsRow.alloc hown1 _) (w1.heap.size + 1) _ _ _ [x0, x1, x2, x3] rfl (RdB.lit w1 [x0, x1, x2, x3] (by simp)) (by omega) (by simp; omega) ?_; intro A3 c3 w3 hown3 hgrow3 hat3))
  go_ret
  refine ⟨A3, _, c3, rfl, ?_, (hb1.alloc hz1 _).grown hgrow3 (by simp; omega) (fun g hg => (own_lt hown1 g hg).1)⟩
  rw [Ha.out, ← Hs.out, Hf.out]
  exact hown3

set_option maxHeartbeats 2000000 in
theorem refcheck_any (A : Option Addr) (n c : Nat) (l : List UInt8) (w : World) (B : Nat) (hv : RdB w B A n c l) (hB : B ≤ w.heap.size) (hl : l.length ≤ 140737488355232) :
    Calls Tryd.prog 72 #[.slice A n c] w fun e w' => e = .returned (.bool (Crc.chk l)) ∧ Below w.heap.size w w' := by
  have hlc := hv.1
  have hcm := hv.2.1
  have hn := hide hv.len
  unfold maxLen at hcm
  by_cases h4 : 4 ≤ n
  · obtain ⟨b, off, rfl, hb, hcell⟩ := hv.2.2.2 (by omega)
    have hdrop := hide (show Crc.chk l = (Crc.app (l.take (l.length - 4)) == l) by have := hn.out; unfold Crc.chk; rw [decide_eq_true (by omega), Bool.true_and, Bool.beq_comm])
    obtain ⟨m, rfl⟩ : ∃ m, n = m + 4 := ⟨n - 4, by omega⟩
    rw [← hn.out, Nat.add_sub_cancel] at hdrop
    have htk : RdB w B (some ⟨b, off, none⟩) m c (l.take m) := hv.take (by omega)
    have hv' := hide hv
    have hlm : (l.take m).length ≤ 140737488355232 := by rw [List.length_take]; omega
    clear hv
    go_enter Tryd.func72, Tryd.ntmps72
    have hge : decide ((0 : Int) ≤ (m : Int)) = true := by simp
    go_wp2_with fail
    have k0 := run_bytes_str w.drew _ _ _ _ _ (Rd.drew hv'.out)
    have hmc : m ≤ c := by omega
    go_cut [2] (fun r wr => r = .bool (Crc.chk l) ∧ Below w.heap.size w wr)
    case first =>
      go_region_with (first | (go_at_call 49; refine (refappend_any _ _ _ (l.take m) w.drew B (Rd.drew htk) hB hlm).mono ?_; rintro e w2 ⟨A2, n2, c2, rfl, ho, hb2⟩; have hb3 : Below w.heap.size w w2 := (Below.drew (Below.refl _ w)).trans hb2; have k1 := run_bytes_str w2 _ A2 n2 c2 _ ho.rd; have k2 := run_bytes_str w2 _ _ _ _ _ (hv'.out.below (hb3.mono hB))))
      all_goals (go_wp2_with fail; go_meet; exact ⟨by rw [hdrop.out], hb3⟩)
    case rest =>
      obtain ⟨rfl, hbc⟩ := hcut
      go_wp2
      go_ret
      exact ⟨rfl, hbc⟩
  · have hs := Crc.chk_short l (by rw [← hn.out]; omega)
    rw [hs]
    have hge : decide ((4 : Int) ≤ (n : Int)) = false := by simp; omega
    go_enter Tryd.func72, Tryd.ntmps72
    go_wp2_with fail
    go_quiet (fail)
    go_wp2
    go_ret
    exact ⟨rfl, below_drewN (Below.refl _ _) _⟩
end Go.Proofs.YtknfkbgnfjfpeaaDoor
