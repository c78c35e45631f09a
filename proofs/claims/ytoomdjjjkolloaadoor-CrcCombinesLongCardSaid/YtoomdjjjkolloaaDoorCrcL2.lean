/- The walks of CrcCombines and CrcCombinesLong. -/
import Derived.Test.YtoomdjjjkolloaaDoorCrcAlive
namespace Go.Proofs.YtoomdjjjkolloaaDoor
open Go.RowKit

set_option maxHeartbeats 2000000 in
theorem law_combines (A1 : Option Addr) (n1 c1 : Nat) (l1 : List UInt8) (A2 : Option Addr) (n2 c2 : Nat) (l2 : List UInt8) (w : World) (hv1 : RdB w w.heap.size A1 n1 c1 l1) (hv2 : RdB w w.heap.size A2 n2 c2 l2)
    (hs1 : c1 ≤ 140737488351232) (hs2 : c2 ≤ 140737488351232) (ht : Tab w) :
    Calls Tryd.prog 4 #[.slice A1 n1 c1, .slice A2 n2 c2] w fun e w' => e = .returned (.bool true) ∧ Below w.heap.size w w' := by
  have hl1 := hv1.1
  have hl2 := hv2.1
  have hn1 := hide hv1.len
  have hn2 := hide hv2.len
  have ht0 := hide ht
  have v1 := hide hv1
  have v2 := hide hv2
  clear ht hv1 hv2
  by_cases h2 : 2000 < n1 + n2
  · have h2' : decide ((2000 : Int) < (n1 : Int) + (n2 : Int)) = true := by simp; omega
    go_enter Tryd.func4, Tryd.ntmps4
    go_wp2_with (go_at_call 9; refine (alive_any _ ht0.out).mono ?_; rintro e w1 ⟨rfl, hb1⟩)
    go_ret
    exact ⟨rfl, hb1⟩
  · have h2' : decide ((2000 : Int) < (n1 : Int) + (n2 : Int)) = false := by simp; omega
    have hC : Hid (Crc.it (8 * n2) (Crc.sum l1) ^^^ Crc.sum l2 = Crc.sum (l1 ++ l2)) := by show _ = _; rw [hn2.out]; exact Crc.combine l1 l2
    have hS1 := Crc.sum_lt l1
    have hS2 := Crc.sum_lt l2
    go_enter Tryd.func4, Tryd.ntmps4
    go_wp2_with fail
    refine (alive_any _ ht0.out).mono ?_
    rintro e w1 ⟨rfl, hb1⟩
    have t1 := hide (ht0.out.below hb1)
    go_wp2_with fail
    refine (refsum_any A1 n1 c1 l1 _ _ (v1.out.below hb1)).mono ?_
    rintro e w2 ⟨rfl, rfl⟩
    go_wp2_with fail
    refine (refsum_any A2 n2 c2 l2 _ _ (v2.out.below hb1)).mono ?_
    rintro e w2 ⟨rfl, rfl⟩
    go_wp2_with fail
    refine (combine_any (Crc.sum l1) (Crc.sum l2) n2 _ t1.out hS1 hS2 (by omega)).mono ?_
    rintro e w2 ⟨rfl, hb2⟩
    rw [hC.out]
    have hb3 : Below w.heap.size w w2 := hb1.trans (hb2.mono hb1.size)
    have hz3 := hb3.size
    have u1 := hide (v1.out.below hb3)
    have u2 := hide (v2.out.below hb3)
    go_wp2_with (first
      | (at_builtin; refine wpList_appB rfl (.tmp 21) (.tmp 22) rfl w2.heap.size _ _ _ [] rfl (OwnB.made w2 _ (Nat.le_refl _)) w.heap.size _ _ _ l1 rfl (u1.out.alloc hz3 _) (by omega) (by simp) ?_; intro A3 c3 w3 hown3 hgrow3 hat3; have hb4 : Below w2.heap.size w2 w3 := ((Below.refl _ w2).alloc (Nat.le_refl _) _).grown hgrow3 (by simp) (by simp [ab]); rw [List.nil_append, Nat.zero_add] at hown3; have hz4 := hb4.size)
      | (at_builtin; refine wpList_appB rfl (.tmp 23) (.tmp 24) rfl w2.heap.size A3 _ c3 l1 rfl hown3 w.heap.size _ _ _ l2 rfl (u2.out.below (hb4.mono hz3)) (by omega) hz4 ?_; intro A5 c5 w5 hown5 hgrow5 hat5; have hb5 : Below w2.heap.size w2 w5 := hb4.grown hgrow5 hz4 (fun g hg => (own_lt hown3 g hg).1)))
    refine (refsum_any A5 _ c5 (l1 ++ l2) _ _ hown5.rd).mono ?_
    rintro e w6 ⟨rfl, rfl⟩
    go_wp2
    go_ret
    exact ⟨rfl, hb3.trans (hb5.mono hz3)⟩

set_option maxHeartbeats 2000000 in
theorem law_long (a n m : Nat) (w : World) (ha : a < 4294967296) (hn : n < 4294967296) (hm : m < 4294967296) (ht : Tab w) :
    Calls Tryd.prog 5 #[.int .u32 (a : Int), .int .u32 (n : Int), .int .u32 (m : Int)] w fun e w' => e = .returned (.bool true) ∧ Below w.heap.size w w' := by
  have ht0 := hide ht
  clear ht
  have hA1 := Crc.it_lt (8 * n) ha
  have e1 : Hid (Crc.it (8 * n) a ^^^ 0 = Crc.it (8 * n) a) := Nat.xor_zero _
  have e2 : Hid (Crc.it (8 * m) (Crc.it (8 * n) a) ^^^ 0 = Crc.it (8 * (n + m)) a) := by show _ = _; rw [Nat.xor_zero, Nat.mul_add, Crc.it_add]
  have e3 : Hid (Crc.it (8 * (n + m)) a ^^^ 0 = Crc.it (8 * (n + m)) a) := Nat.xor_zero _
  go_enter Tryd.func5, Tryd.ntmps5
  go_wp2_with fail
  refine (combine_any a 0 n _ ht0.out ha (by omega) (by omega)).mono ?_
  rintro e w1 ⟨rfl, hb1⟩
  rw [e1.out]
  go_wp2_with fail
  refine (combine_any _ 0 m _ (ht0.out.below hb1) hA1 (by omega) (by omega)).mono ?_
  rintro e w2 ⟨rfl, hb2⟩
  rw [e2.out]
  have hb3 := hb1.trans (hb2.mono hb1.size)
  go_wp2_with fail
  refine (alive_any _ (ht0.out.below hb3)).mono ?_
  rintro e w3 ⟨rfl, hb4⟩
  have hb5 := hb3.trans (hb4.mono hb3.size)
  go_wp2_with fail
  refine (combine_any a 0 (n + m) _ (ht0.out.below hb5) ha (by omega) (by omega)).mono ?_
  rintro e w4 ⟨rfl, hb6⟩
  rw [e3.out]
  have hb7 := hb5.trans (hb6.mono hb5.size)
  go_wp2_with fail
  refine (combine_neg a a _ _ (by omega)).mono ?_
  rintro e w5 ⟨rfl, rfl⟩
  go_wp2
  go_ret
  exact ⟨rfl, hb7⟩
end Go.Proofs.YtoomdjjjkolloaaDoor
