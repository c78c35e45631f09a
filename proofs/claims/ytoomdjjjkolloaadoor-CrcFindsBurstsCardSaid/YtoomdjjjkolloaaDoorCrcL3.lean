/- The walks of CrcRoundTrip, CrcMatchesReference, CrcFindsBursts. -/
import Derived.Test.YtoomdjjjkolloaaDoorCrcAlive
import Derived.Test.YtoomdjjjkolloaaDoorCrcC
import Derived.Test.YtoomdjjjkolloaaDoorCrcFlip
namespace Go.Proofs.YtoomdjjjkolloaaDoor
open Go.RowKit

set_option maxHeartbeats 2000000 in
theorem law_round (A : Option Addr) (n c : Nat) (l : List UInt8) (at_ : Nat) (x : UInt8) (w : World) (hv : RdB w w.heap.size A n c l) (_ha : at_ < 65536) (ht : Tab w) :
    Calls Tryd.prog 6 #[.slice A n c, .int .u16 (at_ : Int), .int .u8 (x.toNat : Int)] w fun e w' => e = .returned (.bool true) ∧ Below w.heap.size w w' := by
  have hlc := hv.1
  have hn := hide hv.len
  have ht0 := hide ht
  have v1 := hide hv
  clear ht hv
  by_cases h2 : 2000 < n
  · have h2' : decide ((2000 : Int) < (n : Int)) = true := by simp; omega
    go_enter Tryd.func6, Tryd.ntmps6
    go_wp2_with (go_at_call 9; refine (alive_any _ ht0.out).mono ?_; rintro e w1 ⟨rfl, hb1⟩)
    go_ret
    exact ⟨rfl, hb1⟩
  · have h2' : decide ((2000 : Int) < (n : Int)) = false := by simp; omega
    have hlen : Hid ((Crc.app l).length = n + 4) := by show _ = _; rw [Crc.app, List.length_append, Crc.four_len, ← hn.out]
    go_enter Tryd.func6, Tryd.ntmps6
    go_wp2_with fail
    refine (append_any A n c l _ _ v1.out ht0.out (Nat.le_refl _) (by rw [← hn.out]; omega)).mono ?_
    rintro e w1 ⟨A2, n2, c2, rfl, ho, hb1⟩
    obtain rfl : n2 = n + 4 := by rw [ho.len, hlen.out]
    obtain ⟨g, rfl, hg1, hg2⟩ := ho.pos (by omega)
    have t1 := hide (ht0.out.below hb1)
    have hz1 := hb1.size
    have hneq : ((n : Int) + 4 != (n : Int) + 4) = false := by simp
    go_wp2_with fail
    refine (check_any _ _ _ _ _ _ ho.rd t1.out).mono ?_
    rintro e w2 ⟨rfl, rfl⟩
    rw [Crc.chk_app]
    obtain ⟨q, hq⟩ : ∃ q, q = at_ % (n + 4) := ⟨_, rfl⟩
    have eq1 : (at_ : Int) % ((n : Int) + 4) = (q : Int) := by rw [hq]; simp
    have hqn : q < n + 4 := by rw [hq]; exact Nat.mod_lt _ (by omega)
    have hql : q < (Crc.app l).length := by rw [hlen.out]; exact hqn
    obtain ⟨hcq, hfq⟩ := ho.at_ hql
    have hch := Kept.mk (Crc.chk_set (Crc.app l) q x hql (Crc.chk_app l))
    clear hq
    generalize (Crc.app l)[q] = y at *
    obtain ⟨z, hz⟩ : ∃ z : UInt8, z = y ^^^ x := ⟨_, rfl⟩
    have ez : bits .xor .u8 (y.toNat : Int) (x.toNat : Int) = (z.toNat : Int) := by
      rw [hz, UInt8.toNat_xor]; exact u8_xor_nat _ _ y.toNat_lt x.toNat_lt
    rw [← hz] at hch
    have hset := ho.set q z
    have hb2 := hb1.setCell (p := ⟨g, q, none⟩) hg1 (.int .u8 (z.toNat : Int))
    clear hz
    go_wp2_with fail
    refine (alive_any _ (ht0.out.below hb2)).mono ?_
    rintro e w3 ⟨rfl, hb3⟩
    have hb4 := hb2.trans (hb3.mono (by simp; omega))
    go_wp2_with fail
    refine (check_any _ _ _ _ _ _ (hset.rd.below (by simp at hb3 ⊢; exact hb3)) (ht0.out.below hb4)).mono ?_
    rintro e w5 ⟨rfl, rfl⟩
    rw [hch.out]
    by_cases hx : x = 0
    · subst hx
      go_wp2
      go_ret
      exact ⟨rfl, hb4⟩
    · have hx2 : ((x.toNat : Int) == 0) = false := by
        rw [beq_eq_false_iff_ne]; intro h; exact hx (UInt8.toNat_inj.1 (by simpa using h))
      rw [decide_eq_false hx]
      go_wp2
      go_ret
      exact ⟨rfl, hb4⟩

set_option maxHeartbeats 2000000 in
theorem law_match (s : Nat) (A : Option Addr) (n c : Nat) (l : List UInt8) (w : World) (hs : s < 4294967296) (hv : RdB w w.heap.size A n c l) (ht : Tab w) :
    Calls Tryd.prog 7 #[.int .u32 (s : Int), .slice A n c] w fun e w' => e = .returned (.bool true) ∧ Below w.heap.size w w' := by
  have hlc := hv.1
  have hn := hide hv.len
  have ht0 := hide ht
  have v1 := hide hv
  clear ht hv
  by_cases h2 : 2000 < n
  · have h2' : decide ((2000 : Int) < (n : Int)) = true := by simp; omega
    go_enter Tryd.func7, Tryd.ntmps7
    go_wp2_with (go_at_call 9; refine (alive_any _ ht0.out).mono ?_; rintro e w1 ⟨rfl, hb1⟩)
    go_ret
    exact ⟨rfl, hb1⟩
  · have h2' : decide ((2000 : Int) < (n : Int)) = false := by simp; omega
    have hll : Hid (l.length ≤ 140737488355232) := by show _ ≤ _; rw [← hn.out]; omega
    go_enter Tryd.func7, Tryd.ntmps7
    go_wp2_with fail
    refine (alive_any _ ht0.out).mono ?_
    rintro e w1 ⟨rfl, hb1⟩
    have t1 := hide (ht0.out.below hb1)
    have u1 := hide (v1.out.below hb1)
    have hz1 := hb1.size
    go_wp2_with fail
    refine (upd_any s A n c l _ _ hs u1.out t1.out).mono ?_
    rintro e w2 ⟨rfl, rfl⟩
    go_wp2_with fail
    refine (refupd_any s A n c l _ _ hs u1.out).mono ?_
    rintro e w2 ⟨rfl, rfl⟩
    go_wp2_with fail
    refine (sum_any A n c l _ _ u1.out t1.out).mono ?_
    rintro e w2 ⟨rfl, rfl⟩
    go_wp2_with fail
    refine (refsum_any A n c l _ _ u1.out).mono ?_
    rintro e w2 ⟨rfl, rfl⟩
    go_wp2_with fail
    refine (append_any A n c l _ _ u1.out t1.out hz1 hll.out).mono ?_
    rintro e w2 ⟨A2, n2, c2, rfl, ho2, hb2⟩
    have hb3 := hb1.trans (hb2.mono hz1)
    have hz3 := hb3.size
    have t2 := hide (ht0.out.below hb3)
    have u2 := hide (v1.out.below hb3)
    go_wp2_with fail
    refine (refappend_any A n c l _ _ u2.out hz3 hll.out).mono ?_
    rintro e w4 ⟨A4, n4, c4, rfl, ho4, hb4⟩
    have hb5 := hb3.trans (hb4.mono hz3)
    have hz5 := hb5.size
    have t3 := hide (ht0.out.below hb5)
    have u3 := hide (v1.out.below hb5)
    go_wp2_with fail
    refine (equal_any A2 A4 n2 n4 c2 c4 _ _ _ _ _ (ho2.rd.below hb4) ho4.rd).mono ?_
    rintro e w6 ⟨rfl, rfl⟩
    rw [beq_self_eq_true]
    go_wp2_with fail
    refine (check_any A n c l _ _ u3.out t3.out).mono ?_
    rintro e w6 ⟨rfl, rfl⟩
    go_wp2_with fail
    refine (refcheck_any A n c l _ _ u3.out hz5 hll.out).mono ?_
    rintro e w6 ⟨rfl, hb6⟩
    go_wp2
    go_ret
    exact ⟨rfl, hb5.trans (hb6.mono hz5)⟩

set_option maxHeartbeats 2000000 in
theorem law_bursts (A : Option Addr) (n c : Nat) (l : List UInt8) (from_ p : Nat) (w : World) (hv : RdB w w.heap.size A n c l) (_hf : from_ < 65536) (hp : p < 4294967296) (ht : Tab w) :
    Calls Tryd.prog 8 #[.slice A n c, .int .u16 (from_ : Int), .int .u32 (p : Int)] w fun e w' => e = .returned (.bool true) ∧ Below w.heap.size w w' := by
  have hlc := hv.1
  have hn := hide hv.len
  have ht0 := hide ht
  have v1 := hide hv
  clear ht hv
  by_cases h2 : 2000 < n
  · have h2' : decide ((2000 : Int) < (n : Int)) = true := by simp; omega
    go_enter Tryd.func8, Tryd.ntmps8
    go_wp2_with (go_at_call 9; refine (alive_any _ ht0.out).mono ?_; rintro e w1 ⟨rfl, hb1⟩)
    go_ret
    exact ⟨rfl, hb1⟩
  · have h2' : decide ((2000 : Int) < (n : Int)) = false := by simp; omega
    have hlen : Hid ((Crc.app l).length = n + 4) := by show _ = _; rw [Crc.app, List.length_append, Crc.four_len, ← hn.out]
    have hll : Hid (l.length ≤ 140737488355232) := by show _ ≤ _; rw [← hn.out]; omega
    go_enter Tryd.func8, Tryd.ntmps8
    go_wp2_with fail
    refine (refappend_any A n c l _ _ v1.out (Nat.le_refl _) hll.out).mono ?_
    rintro e w1 ⟨A2, n2, c2, rfl, ho, hb1⟩
    obtain rfl : n2 = n + 4 := by rw [ho.len, hlen.out]
    have hz1 := hb1.size
    obtain ⟨k, hk⟩ : ∃ k, k = from_ % (8 * (n + 4)) := ⟨_, rfl⟩
    have ek : (from_ : Int) % (8 * ((n : Int) + 4)) = (k : Int) := by rw [hk]; simp
    have hkb : k ≤ 1125899906842624 := by have := Nat.mod_lt from_ (show 0 < 8 * (n + 4) by omega); omega
    clear hk
    go_wp2_with fail
    refine (flip_any A2 (n + 4) c2 (Crc.app l) k p _ _ ho.rd (Nat.le_refl _) (by omega) hkb hp).mono ?_
    rintro e w2 ⟨A3, n3, c3, rfl, ho3, hb2⟩
    have hb3 := hb1.trans (hb2.mono hz1)
    have hz3 := hb3.size
    have r2 := hide (ho.rd.below hb2)
    have hz2 := hb2.size
    go_wp2_with fail
    refine (alive_any _ (ht0.out.below hb3)).mono ?_
    rintro e w4 ⟨rfl, hb4⟩
    have hb5 := hb3.trans (hb4.mono hz3)
    have t5 := hide (ht0.out.below hb5)
    have r4 := hide (r2.out.below (hb4.mono hz2))
    have r5 := hide (ho3.rd.below hb4)
    have hch := Kept.mk (Crc.chk_flip (Crc.app l) k p (Crc.chk_app l))
    go_wp2_with fail
    refine (check_any _ _ _ _ _ _ r4.out t5.out).mono ?_
    rintro e w6 ⟨rfl, rfl⟩
    rw [Crc.chk_app]
    go_wp2_with fail
    refine (check_any _ _ _ _ _ _ r5.out t5.out).mono ?_
    rintro e w6 ⟨rfl, rfl⟩
    go_wp2_with fail
    refine (equal_any _ _ _ _ _ _ _ _ _ _ _ r4.out r5.out).mono ?_
    rintro e w6 ⟨rfl, rfl⟩
    have hee : (Crc.app l == Crc.flipN (Crc.app l) k 32 p) = Crc.chk (Crc.flipN (Crc.app l) k 32 p) := by
      rw [Bool.eq_iff_iff, beq_iff_eq]; exact hch.out.symm
    rw [hee]
    clear hee hch
    generalize Crc.chk (Crc.flipN (Crc.app l) k 32 p) = b at *
    go_wp2
    go_ret
    exact ⟨rfl, hb5⟩
end Go.Proofs.YtoomdjjjkolloaaDoor
