/- crc.Sum, and the reference's step, Update, Sum. -/
import Derived.Test.YtknfkbgnfjfpeaaDoorCrcUpd
namespace Go.Proofs.YtknfkbgnfjfpeaaDoor
open Go.RowKit

set_option maxHeartbeats 400000 in
theorem sum_any (A : Option Addr) (n c : Nat) (l : List UInt8) (w : World) (B : Nat) (hv : RdB w B A n c l) (ht : Tab w) :
    Calls Tryd.prog 75 #[.slice A n c] w fun e w' => e = .returned (.int .u32 ((Crc.sum l : Nat) : Int)) ∧ w = w' := by
  have hU := Crc.upd_lt l (s := 4294967295) (by decide)
  have hS : Hid (Crc.sum l = 4294967295 - Crc.upd 4294967295 l) := Crc.sum_sub l
  go_enter Tryd.func75, Tryd.ntmps75
  go_wp2_with (go_at_call 80; refine (upd_any 4294967295 _ _ _ l _ B (by decide) hv ht).mono ?_; rintro e w' ⟨rfl, rfl⟩)
  go_ret
  refine ⟨ret_int ?_, rfl⟩
  rw [hS.out, ← Crc.sub_eq_xor _ hU]
  exact u32_xor_nat 4294967295 _ (by decide) hU

set_option maxHeartbeats 400000 in
theorem refstep_any (s : Nat) (c : UInt8) (w : World) (hs : s < 4294967296) :
    Calls Tryd.prog 82 #[.int .u32 (s : Int), .int .u8 (c.toNat : Int)] w fun e w' => e = .returned (.int .u32 ((Crc.it 8 (s ^^^ c.toNat) : Nat) : Int)) ∧ w = w' := by
  have hC : c.toNat < 256 := c.toNat_lt
  obtain ⟨a, ha⟩ : ∃ a, a = s ^^^ c.toNat := ⟨_, rfl⟩
  have haU : a < 4294967296 := by rw [ha]; exact Nat.xor_lt_two_pow (n := 32) hs (by omega)
  have e1 : bits .xor .u32 (s : Int) (c.toNat : Int) = (a : Int) := by rw [ha]; exact u32_xor_nat _ _ hs (by omega)
  rw [← ha]
  clear ha
  go_enter Tryd.func82, Tryd.ntmps82
  go_wp2
  go_loop [5, 6] (fun t i => ∃ k : Nat, k ≤ 8 ∧ i = .int .i64 k ∧ t = .int .u32 ((Crc.it k a : Nat) : Int)) (fun _ i => 8 - (intOf i).toNat)
  case atStart => exact ⟨0, Nat.zero_le _, rfl, rfl⟩
  case round =>
    obtain ⟨k, hk, rfl, rfl⟩ := hrel
    have hU := Crc.it_lt k haU
    by_cases hlt : k < 8
    · have hst := Crc.it_succ k a
      generalize Crc.it k a = u at *
      obtain ⟨d, hd⟩ : ∃ d, d = Crc.st u := ⟨_, rfl⟩
      by_cases ho : u % 2 = 1
      · have e2 : bits .xor .u32 ((u : Int) / 2) 3988292384 = (d : Int) := by
          rw [hd, Crc.st, ho, ← u32_xor_nat (u / 2) (1 * 3988292384) (by omega) (by omega)]; rfl
        have ho' : ((u : Int) % 2 == 1) = true := by simp; omega
        have H : Hid (d = Crc.it (k + 1) a) := by show d = _; rw [hd, hst]
        clear hd hst ho
        go_wp2
        go_round
        case rel => exact ⟨k + 1, by omega, by go_num, by rw [H.out]⟩
        case measure => simp [intOf]; omega
      · have ho' : ((u : Int) % 2 == 1) = false := by simp; omega
        have H : Hid (u / 2 = Crc.it (k + 1) a) := by show u / 2 = _; rw [hst, Crc.st, show u % 2 = 0 by omega]; simp
        clear hd hst ho
        go_wp2
        go_round
        case rel => exact ⟨k + 1, by omega, by go_num, by rw [← H.out]; rfl⟩
        case measure => simp [intOf]; omega
    · obtain rfl : k = 8 := by omega
      go_wp2
      go_ret
      exact ⟨rfl, rfl⟩

set_option maxHeartbeats 400000 in
theorem refupd_any (s : Nat) (A : Option Addr) (n c : Nat) (l : List UInt8) (w : World) (B : Nat) (hs : s < 4294967296) (hv : RdB w B A n c l) :
    Calls Tryd.prog 81 #[.int .u32 (s : Int), .slice A n c] w fun e w' => e = .returned (.int .u32 ((Crc.upd s l : Nat) : Int)) ∧ w = w' := by
  obtain rfl := hv.len
  have hlc := hv.1
  have hcm := hv.2.1
  unfold maxLen at hcm
  go_enter Tryd.func81, Tryd.ntmps81
  go_wp2
  go_loop [0, 5] (fun t i => ∃ k : Nat, k ≤ l.length ∧ i = .int .i64 k ∧ t = .int .u32 ((Crc.upd s (l.take k) : Nat) : Int)) (fun _ i => l.length - (intOf i).toNat)
  case atStart => exact ⟨0, Nat.zero_le _, rfl, rfl⟩
  case round =>
    obtain ⟨k, hk, rfl, rfl⟩ := hrel
    by_cases hlt : k < l.length
    · obtain ⟨b, off, rfl, hb, hck⟩ := hv.at_ hlt
      have hU := Crc.upd_lt (l.take k) hs
      have hst : Hid (Crc.upd s (l.take (k + 1)) = _) := Crc.upd_take_succ s l k hlt
      generalize Crc.upd s (l.take k) = u at *
      generalize l[k] = x at *
      clear hv
      go_wp2_with (go_at_call 82; refine (refstep_any u x _ hU).mono ?_; rintro e w' ⟨rfl, rfl⟩)
      go_round
      case rel => exact ⟨k + 1, by omega, by go_num, by rw [hst.out]⟩
      case measure => simp [intOf]; omega
    · obtain rfl : k = l.length := by omega
      rw [List.take_length]
      go_wp2
      go_ret
      exact ⟨rfl, rfl⟩

set_option maxHeartbeats 400000 in
theorem refsum_any (A : Option Addr) (n c : Nat) (l : List UInt8) (w : World) (B : Nat) (hv : RdB w B A n c l) :
    Calls Tryd.prog 76 #[.slice A n c] w fun e w' => e = .returned (.int .u32 ((Crc.sum l : Nat) : Int)) ∧ w = w' := by
  have hU := Crc.upd_lt l (s := 4294967295) (by decide)
  have hS : Hid (Crc.sum l = 4294967295 - Crc.upd 4294967295 l) := Crc.sum_sub l
  go_enter Tryd.func76, Tryd.ntmps76
  go_wp2_with (go_at_call 81; refine (refupd_any 4294967295 _ _ _ l _ B (by decide) hv).mono ?_; rintro e w' ⟨rfl, rfl⟩)
  go_ret
  exact ⟨ret_int (by rw [hS.out]; omega), rfl⟩
end Go.Proofs.YtknfkbgnfjfpeaaDoor
