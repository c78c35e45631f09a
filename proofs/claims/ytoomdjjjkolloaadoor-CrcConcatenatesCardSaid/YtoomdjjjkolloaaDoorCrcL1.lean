/- The walk of CrcConcatenates. -/
import Derived.Test.YtoomdjjjkolloaaDoorCrcAlive
import Derived.Deep.RegionHeld3
namespace Go.Proofs.YtoomdjjjkolloaaDoor
open Go.RowKit

set_option maxHeartbeats 2000000 in
theorem law_concat (s : Nat) (A : Option Addr) (n c : Nat) (l : List UInt8) (k : Nat) (w : World) (hs : s < 4294967296) (hv : RdB w w.heap.size A n c l) (hk : k < 65536) (ht : Tab w) :
    Calls Tryd.prog 3 #[.int .u32 (s : Int), .slice A n c, .int .u16 (k : Int)] w fun e w' => e = .returned (.bool true) ∧ Below w.heap.size w w' := by
  have hlc := hv.1
  have hcm := hv.2.1
  have hn := hide hv.len
  have ht0 := hide ht
  unfold maxLen at hcm
  clear ht
  by_cases h2 : 2000 < n
  · clear hv
    go_enter Tryd.func3, Tryd.ntmps3
    go_wp2_with (go_at_call 9; refine (alive_any _ ht0.out).mono ?_; rintro e w1 ⟨rfl, hb1⟩)
    go_ret
    exact ⟨rfl, hb1⟩
  · obtain ⟨i, hi⟩ : ∃ i, i = k % (n + 1) := ⟨_, rfl⟩
    have hin : i ≤ n := by have := Nat.mod_lt k (show 0 < n + 1 by omega); omega
    have ei : (k : Int) % ((n : Int) + 1) = (i : Int) := by rw [hi]; simp
    have hv0 := hide hv
    clear hv hi
    go_enter Tryd.func3, Tryd.ntmps3
    go_wp2_with fail
    rw [ei]
    have hic : i ≤ c := by omega
    have hcat : Hid (Crc.upd (Crc.upd s (l.take i)) (l.drop i) = Crc.upd s l) := by show _ = _; rw [← Crc.upd_append, List.take_append_drop]
    have Rt := hide (hv0.out.take hin)
    have rdd := hv0.out.drop hin
    have Rdd := hide rdd
    clear rdd
    have hU := Crc.upd_lt (l.take i) hs
    clear ei
    by_cases hci : c = i
    · obtain rfl : n = c := by omega
      obtain rfl : i = n := by omega
      have hd0 : l.drop i = [] := List.drop_eq_nil_of_le (by rw [← hn.out]; omega)
      rw [hd0] at hcat
      have Rdd := hide (show RdB w w.heap.size A 0 0 [] from Rd.nil _ _ _ _ _ (by unfold maxLen; omega))
      go_region_held3 (fun _ => True) (trivial)
        (first
          | (go_at_call 9; refine (alive_any _ (Tab.drew ht0.out)).mono ?_; rintro e w1 ⟨rfl, hb1⟩; have hb2 := below_drew_of hb1; have ht1 := hide (ht0.out.below hb2); have f1 := hide (hv0.out.below hb2); have f2 := hide (Rt.out.below hb2); have f3 := hide (Rdd.out.below hb2))
          | (go_at_call 10; (with_reducible refine (upd_any s A i i l _ w.heap.size hs f1.out ht1.out).mono ?_); clear f1; rintro e w2 ⟨rfl, rfl⟩)
          | (go_at_call 10; (with_reducible refine (upd_any s A i i (l.take i) _ w.heap.size hs f2.out ht1.out).mono ?_); clear f2; rintro e w2 ⟨rfl, rfl⟩)
          | (go_at_call 10; (with_reducible refine (upd_any (Crc.upd s (l.take i)) A 0 0 [] _ w.heap.size hU f3.out ht1.out).mono ?_); rintro e w2 ⟨rfl, rfl⟩; rw [hcat.out]))
      go_wp2
      go_ret
      exact ⟨rfl, hb2⟩
    · rw [if_neg hci] at Rdd
      go_region_held3 (fun _ => True) (trivial)
        (first
          | (go_at_call 9; refine (alive_any _ (Tab.drew ht0.out)).mono ?_; rintro e w1 ⟨rfl, hb1⟩; have hb2 := below_drew_of hb1; have ht1 := hide (ht0.out.below hb2); have f1 := hide (hv0.out.below hb2); have f2 := hide (Rt.out.below hb2); have f3 := hide (Rdd.out.below hb2))
          | (go_at_call 10; (with_reducible refine (upd_any s A n c l _ w.heap.size hs f1.out ht1.out).mono ?_); clear f1; rintro e w2 ⟨rfl, rfl⟩)
          | (go_at_call 10; (with_reducible refine (upd_any s A i c (l.take i) _ w.heap.size hs f2.out ht1.out).mono ?_); clear f2; rintro e w2 ⟨rfl, rfl⟩)
          | (go_at_call 10; (with_reducible refine (upd_any (Crc.upd s (l.take i)) _ (n - i) (c - i) (l.drop i) _ w.heap.size hU f3.out ht1.out).mono ?_); rintro e w2 ⟨rfl, rfl⟩; rw [hcat.out]))
      go_wp2
      go_ret
      exact ⟨rfl, hb2⟩
end Go.Proofs.YtoomdjjjkolloaaDoor
