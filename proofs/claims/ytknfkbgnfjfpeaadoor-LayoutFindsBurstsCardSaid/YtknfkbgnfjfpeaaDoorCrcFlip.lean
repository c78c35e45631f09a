/- The reference's Flip. -/
import Derived.Test.YtknfkbgnfjfpeaaDoorMemB
import Derived.Test.YtknfkbgnfjfpeaaDoorCrcMath
import Derived.Deep.DeepCutAuto
namespace Go.Proofs.YtknfkbgnfjfpeaaDoor
open Go.RowKit

set_option maxHeartbeats 200000 in
set_option maxRecDepth 100000 in
theorem flip_any (A : Option Addr) (n c : Nat) (l : List UInt8) (k p : Nat) (w : World) (B : Nat) (hv : RdB w B A n c l) (hB : B ≤ w.heap.size) (hl : n ≤ 140737488355232) (hk : k ≤ 1125899906842624) (hp : p < 4294967296) :
    Calls Tryd.prog 22 #[.slice A n c, .int .i64 (k : Int), .int .u32 (p : Int)] w fun e w' => ∃ A2 n2 c2, e = .returned (.slice A2 n2 c2) ∧ OwnB w' w.heap.size A2 n2 c2 (Crc.flipN l k 32 p) ∧ Below w.heap.size w w' := by
  have hlc := hv.1
  have hn := hide hv.len
  go_enter Tryd.func22, Tryd.ntmps22
  go_wp2_with (first
    | (at_builtin; refine wpList_appB rfl (.tmp 12) (.tmp 13) rfl w.heap.size _ _ _ [] rfl (OwnB.made w _ (Nat.le_refl _)) B _ _ _ l rfl (hv.alloc hB _) (by omega) (by simp) ?_; intro A2 c2 w1 hown1 hgrow1 hat1; have hb1 : Below w.heap.size w w1 := ((Below.refl _ w).alloc (Nat.le_refl _) _).grown hgrow1 (by simp) (by simp [ab]); rw [List.nil_append, Nat.zero_add] at hown1; have hz1 := hb1.size))
  have Hv := hide hv
  clear hv hgrow1 hat1
  go_loopw [2, 8] (fun q i wr => ∃ (j pj : Nat) (lj : List UInt8), j ≤ 32 ∧ i = .int .i64 j ∧ q = .int .u32 (pj : Int) ∧ pj < 4294967296 ∧ Hid (lj.length = n) ∧ Kept (Crc.flipN l k 32 p = Crc.flipN lj (k + j) (32 - j) pj) ∧ OwnB wr w.heap.size A2 n c2 lj ∧ Below w.heap.size w wr) (fun _ i _ => 32 - (intOf i).toNat)
  case atStart => exact ⟨0, p, l, Nat.zero_le _, rfl, rfl, hp, hn.out.symm, ⟨rfl⟩, hown1, hb1⟩
  case round =>
    obtain ⟨j, pj, lj, hj, rfl, rfl, hpj, hlj, hfl, ho, hb⟩ := hrel
    by_cases hlt : j < 32
    · obtain ⟨K, hK⟩ : ∃ K, K = k + j := ⟨_, rfl⟩
      rw [← hK] at hfl
      have eK : (k : Int) + (j : Int) = (K : Int) := by omega
      obtain ⟨m, hm⟩ : ∃ m, 32 - j = m + 1 := ⟨31 - j, by omega⟩
      have Hm : Hid (32 - (j + 1) = m) := by show _ = _; omega
      have HK : Hid (k + (j + 1) = K + 1) := by show _ = _; omega
      have hKb : K ≤ 1125899906842700 := by omega
      rw [hm] at hfl
      clear hm hK
      by_cases hin : K < 8 * n
      · have hin' : decide ((K : Int) < 8 * (n : Int)) = true := by simp; omega
        by_cases hodd : pj % 2 = 1
        · have hodd' : ((pj : Int) % 2 == 1) = true := by simp; omega
          have hf2 := Kept.mk (Crc.flipN_yes lj K m pj (by rw [hlj.out]; exact hin) hodd)
          obtain ⟨g, rfl, hg1, hg2⟩ := ho.pos (by omega)
          have hkq : K / 8 < lj.length := by rw [hlj.out]; omega
          obtain ⟨hc, hf⟩ := ho.at_ hkq
          have hget := hide (show lj.getD (K / 8) 0 = lj[K / 8] by simp [List.getD, hkq])
          generalize lj[K / 8] = y at *
          have hq1 : K / 8 < n := by omega
          obtain ⟨q, hq⟩ : ∃ q, q = K / 8 := ⟨_, rfl⟩
          obtain ⟨r, hr⟩ : ∃ r, r = K % 8 := ⟨_, rfl⟩
          have eq1 : (K : Int) / 8 = (q : Int) := by omega
          have er1 : (K : Int) % 8 = (r : Int) := by omega
          rw [← hq] at hc hf hget hq1 hf2
          rw [← hr] at hf2
          have hr8 : r < 8 := by omega
          clear hq hr hkq hodd hin
          have hy := y.toNat_lt
          go_wp2_with fail
          go_loop [10, 11] (fun wt i => ∃ t v : Nat, t ≤ r ∧ v ≤ 128 ∧ Kept (v = 2 ^ t) ∧ i = .int .i64 t ∧ wt = .int .i64 (v : Int)) (fun _ i => r - (intOf i).toNat)
          case atStart => exact ⟨0, 1, by omega, by omega, ⟨rfl⟩, rfl, rfl⟩
          case round =>
            obtain ⟨t, v, ht, hv128, hvt, rfl, rfl⟩ := hrel
            by_cases htr : t < r
            · have hv64 : v ≤ 64 := by
                have h6 : t ≤ 6 := by omega
                have := Nat.pow_le_pow_right (n := 2) (by decide) h6
                rw [hvt.out]; exact this
              have hvn : Kept (v * 2 = 2 ^ (t + 1)) := ⟨by rw [Nat.pow_succ, ← hvt.out]⟩
              clear hvt
              go_wp2
              go_round
              case rel => exact ⟨t + 1, v * 2, by omega, by omega, hvn, by go_num, by go_num⟩
              case measure => simp [intOf]; omega
            · obtain rfl : t = r := by omega
              obtain ⟨x, hx⟩ : ∃ x : UInt8, x = y ^^^ UInt8.ofNat (2 ^ t) := ⟨_, rfl⟩
              have hxv : bits .xor .u8 (y.toNat : Int) (v : Int) = (x.toNat : Int) := by
                rw [hx, UInt8.toNat_xor, UInt8.toNat_ofNat', ← hvt.out, Nat.mod_eq_of_lt (show v < 2 ^ 8 by omega)]
                exact u8_xor_nat _ _ hy (by omega)
              have hfl2 : Kept (Crc.flipN l k 32 p = Crc.flipN (lj.set q x) (K + 1) m (pj / 2)) := ⟨by rw [hfl.out, hf2.out, hget.out, hx]⟩
              have hlj2 : Hid ((lj.set q x).length = n) := by show _ = _; rw [List.length_set]; exact hlj.out
              have hset := ho.set q x
              have hb2 := hb.setCell (p := ⟨g, q, none⟩) hg1 (.int .u8 (x.toNat : Int))
              clear hx hvt hfl hf2 hget
              go_wp2
              go_roundw
              case rel => exact ⟨j + 1, pj / 2, lj.set q x, by omega, by go_num, by go_num, by omega, hlj2, ⟨by rw [hfl2.out, HK.out, Hm.out]⟩, hset, hb2⟩
              case measure => simp [intOf]; omega
        · have hodd' : ((pj : Int) % 2 == 1) = false := by simp; omega
          have hfl2 := Kept.mk (hfl.out.trans (Crc.flipN_no lj K m pj (by omega)))
          clear hodd
          go_wp2
          go_roundw
          case rel => exact ⟨j + 1, pj / 2, lj, by omega, by go_num, by go_num, by omega, hlj, ⟨by rw [hfl2.out, HK.out, Hm.out]⟩, ho, hb⟩
          case measure => simp [intOf]; omega
      · have hin' : decide ((K : Int) < 8 * (n : Int)) = false := by simp; omega
        have hfl2 := Kept.mk (hfl.out.trans (Crc.flipN_no lj K m pj (by rw [hlj.out]; omega)))
        clear hin
        go_wp2
        go_roundw
        case rel => exact ⟨j + 1, pj / 2, lj, by omega, by go_num, by go_num, by omega, hlj, ⟨by rw [hfl2.out, HK.out, Hm.out]⟩, ho, hb⟩
        case measure => simp [intOf]; omega
    · obtain rfl : j = 32 := by omega
      have hfin := Kept.mk (hfl.out.trans (show Crc.flipN lj (k + 32) (32 - 32) pj = lj from rfl))
      clear hfl
      go_wp2
      go_ret
      refine ⟨A2, n, c2, rfl, ?_, hb⟩
      rw [hfin.out]
      exact ho
end Go.Proofs.YtknfkbgnfjfpeaaDoor
