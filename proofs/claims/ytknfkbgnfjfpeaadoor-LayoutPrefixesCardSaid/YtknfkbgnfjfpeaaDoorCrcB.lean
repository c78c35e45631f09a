/- bytes.Equal; crc.Append, crc.Check; the reference's Append, Check, Flip. -/
import Derived.Test.YtknfkbgnfjfpeaaDoorCrcA
namespace Go.Proofs.YtknfkbgnfjfpeaaDoor
open Go.RowKit

set_option maxHeartbeats 400000 in
theorem equal_any (A1 A2 : Option Addr) (n1 n2 c1 c2 : Nat) (l1 l2 : List UInt8) (w : World) (B1 B2 : Nat) (h1 : RdB w B1 A1 n1 c1 l1) (h2 : RdB w B2 A2 n2 c2 l2) :
    Calls Tryd.prog 19 #[.slice A1 n1 c1, .slice A2 n2 c2] w fun e w' => e = .returned (.bool (l1 == l2)) ∧ w = w' := by
  have k1 := run_bytes_str w B1 A1 n1 c1 l1 h1
  have k2 := run_bytes_str w B2 A2 n2 c2 l2 h2
  go_enter Tryd.func19, Tryd.ntmps19
  go_wp2
  go_ret
  exact ⟨rfl, rfl⟩

set_option maxHeartbeats 400000 in
theorem append_any (A : Option Addr) (n c : Nat) (l : List UInt8) (w : World) (B : Nat) (hv : RdB w B A n c l) (ht : Tab w) (hB : B ≤ w.heap.size) (hl : l.length ≤ 140737488355232) :
    Calls Tryd.prog 47 #[.slice A n c] w fun e w' => ∃ A2 n2 c2, e = .returned (.slice A2 n2 c2) ∧ OwnB w' w.heap.size A2 n2 c2 (Crc.app l) ∧ Below w.heap.size w w' := by
  obtain rfl := hv.len
  have hlc := hv.1
  have hcm := hv.2.1
  have hsz := ht.lt
  unfold maxLen at hcm
  go_enter Tryd.func47, Tryd.ntmps47
  go_wp2_with (first
    | (at_builtin; refine wpList_appB rfl (.tmp 6) (.tmp 7) rfl w.heap.size _ _ _ [] rfl (OwnB.made w _ (Nat.le_refl _)) B _ _ _ l rfl (Rd.alloc hv hB _) (by omega) (by simp) ?_; intro A2 c2 w1 hown1 hgrow1 hat1; have hb1 : Below w.heap.size w w1 := ((Below.refl _ w).alloc (Nat.le_refl _) _).grown hgrow1 (by simp) (by simp [ab])))
  refine (sum_any _ _ _ l _ B (hv.below (hb1.mono hB)) (ht.below hb1)).mono ?_
  rintro e w2 ⟨rfl, rfl⟩
  go_wp2_with fail
  have hS := Crc.sum_lt l
  generalize hs : Crc.sum l = s at *
  have Hs := hide hs
  clear hs hgrow1 hat1
  go_loopw [3, 11] (fun v i wr => ∃ k : Nat, k ≤ 4 ∧ i = .int .i64 k ∧ ∃ A3 n3 c3, v = .slice A3 n3 c3 ∧ OwnB wr w.heap.size A3 n3 c3 (l ++ (Crc.four s).take k) ∧ Below w.heap.size w wr) (fun _ i _ => 4 - (intOf i).toNat)
  case atStart => exact ⟨0, Nat.zero_le _, rfl, A2, _, c2, rfl, by simpa using hown1, hb1⟩
  case round =>
    obtain ⟨k, hk, rfl, A3, n3, c3, rfl, ho, hb⟩ := hrel
    by_cases hlt : k < 4
    · obtain ⟨x, hx⟩ : ∃ x : UInt8, x = UInt8.ofNat (s / 2 ^ (8 * k)) := ⟨_, rfl⟩
      have e1 : (s : Int) / 2 ^ (8 * k) % 256 = (x.toNat : Int) := by rw [hx, UInt8.toNat_ofNat']; simp
      have Hx : Hid (l ++ (Crc.four s).take (k + 1) = l ++ (Crc.four s).take k ++ [x]) := by rw [hx]; exact Crc.four_take l s k hlt
      have Hn := ho.len
      have Hf := Crc.four_take_length s k (by omega)
      rw [List.length_append, Hf] at Hn
      have hn3 : n3 + 1 ≤ 140737488355328 := by omega
      have hz := hb.size
      clear hx Hn Hf
      go_wp2_with (first
        | (at_builtin; refine wpList_appB rfl (.tmp 14) (.tmp 20) rfl w.heap.size A3 n3 c3 _ rfl (World.ownsRow.alloc ho _) (wr.heap.size + 1) _ _ _ [x] rfl (RdB.one wr x) hn3 (by simp; omega) ?_; intro A4 c4 w4 hown4 hgrow4 hat4))
      go_roundw
      case rel =>
        refine ⟨k + 1, by omega, by go_num, A4, _, c4, rfl, ?_, ?_⟩
        · rw [Hx.out]; exact hown4
        · exact (hb.alloc hz _).grown hgrow4 (by simp; omega) (fun g hg => (own_lt ho g hg).1)
      case measure => simp [intOf]; omega
    · obtain rfl : k = 4 := by omega
      go_wp2
      go_ret
      refine ⟨A3, n3, c3, rfl, ?_, hb⟩
      unfold Crc.app
      rw [Hs.out]
      exact ho

set_option maxHeartbeats 400000 in
theorem check_any (A : Option Addr) (n c : Nat) (l : List UInt8) (w : World) (B : Nat) (hv : RdB w B A n c l) (ht : Tab w) :
    Calls Tryd.prog 55 #[.slice A n c] w fun e w' => e = .returned (.bool (Crc.chk l)) ∧ w = w' := by
  have hlc := hv.1
  have hcm := hv.2.1
  have hn := hide hv.len
  unfold maxLen at hcm
  by_cases h4 : 4 ≤ n
  · obtain ⟨b, off, rfl, hb, hcell⟩ := hv.2.2.2 (by omega)
    have hdrop := hide (Crc.chk_drop l (by rw [← hn.out]; exact h4))
    obtain ⟨m, rfl⟩ : ∃ m, n = m + 4 := ⟨n - 4, by omega⟩
    rw [← hn.out, Nat.add_sub_cancel] at hdrop
    have htk : RdB w B (some ⟨b, off, none⟩) m c (l.take m) := hv.take (by omega)
    clear hv
    go_enter Tryd.func55, Tryd.ntmps55
    go_wp2_with fail
    refine (sum_any _ _ _ (l.take m) _ B htk ht).mono ?_
    rintro e w2 ⟨rfl, rfl⟩
    go_wp2_with fail
    have hS := Crc.sum_lt (l.take m)
    generalize Crc.sum (l.take m) = s at *
    go_loop [20] (fun i => ∃ k : Nat, k ≤ 4 ∧ i = .int .i64 k ∧ Hid ((l.drop m).take k = (Crc.four s).take k)) (fun i => 4 - (intOf i).toNat)
    case atStart => exact ⟨0, Nat.zero_le _, rfl, rfl⟩
    case round =>
      obtain ⟨k, hk, rfl, heq⟩ := hrel
      by_cases hlt : k < 4
      · have hkl : m + k < l.length := by have := hn.out; omega
        have hck := hcell (m + k) (bv l[m + k]) (by simp [bvs, hkl])
        rw [← Nat.add_assoc] at hck
        unfold bv at hck
        obtain ⟨x, hx⟩ : ∃ x : UInt8, x = UInt8.ofNat (s / 2 ^ (8 * k)) := ⟨_, rfl⟩
        have e1 : (s : Int) / 2 ^ (8 * k) % 256 = (x.toNat : Int) := by rw [hx, UInt8.toNat_ofNat']; simp
        have hstep := hide (Crc.four_step l s m k hlt hkl x hx heq.out)
        clear hx
        generalize l[m + k] = y at *
        by_cases hxy : y = x
        · have ht : ((y.toNat : Int) != (x.toNat : Int)) = false := by rw [hxy]; simp
          go_wp2
          go_round
          case rel => exact ⟨k + 1, by omega, by go_num, hstep.out.1 hxy⟩
          case measure => simp [intOf]; omega
        · have ht : ((y.toNat : Int) != (x.toNat : Int)) = true := by
            rw [bne_iff_ne]; intro h; exact hxy (UInt8.toNat_inj.1 (by omega))
          go_wp2
          go_ret
          refine ⟨ret_bool ?_, rfl⟩
          rw [hdrop.out, hstep.out.2 hxy]
      · obtain rfl : k = 4 := by omega
        go_wp2
        go_ret
        refine ⟨ret_bool ?_, rfl⟩
        rw [hdrop.out]
        have := heq.out
        have hl4 : (l.drop m).length = 4 := by rw [List.length_drop]; have := hn.out; omega
        rw [List.take_of_length_le (by omega), List.take_of_length_le (by rw [Crc.four_len]; omega)] at this
        rw [this, beq_self_eq_true]
  · have hs := Crc.chk_short l (by rw [← hn.out]; omega)
    rw [hs]
    go_enter Tryd.func55, Tryd.ntmps55
    go_wp2
    go_ret
    exact ⟨rfl, rfl⟩
end Go.Proofs.YtknfkbgnfjfpeaaDoor
