/- alive: the examples of the chapter hold. -/
import Derived.Test.YtoomdjjjkolloaaDoorCrcB
import Derived.Test.YtoomdjjjkolloaaDoorCrcD
namespace Go.Proofs.YtoomdjjjkolloaaDoor
open Go.RowKit

theorem sum9 : Crc.sum [49, 50, 51, 52, 53, 54, 55, 56, 57] = 3421780262 := by decide +kernel
theorem sum0 : Crc.sum [] = 0 := by decide +kernel
theorem sum45 : Crc.it (8 * 5) (Crc.sum [49, 50, 51, 52]) ^^^ Crc.sum [53, 54, 55, 56, 57] = 3421780262 := by decide +kernel

set_option maxHeartbeats 1000000 in
theorem alive_any (w : World) (ht : Tab w) : Calls Tryd.prog 9 #[] w fun e w' => e = .returned (.bool true) ∧ Below w.heap.size w w' := by
  have H9 := hide sum9
  have H0 := hide sum0
  have H45 := hide sum45
  have ht0 := hide ht
  clear ht
  have kc := fun (w : World) (C : Array Value) (n c : Nat) => run_bytes_lit w C n c
  go_enter Tryd.func9, Tryd.ntmps9
  go_wp2_with fail
  obtain ⟨w1, hw1⟩ : ∃ wx : World, w.alloc (.cells (bvs [49, 50, 51, 52, 53, 54, 55, 56, 57]).toArray 5 (9, 10)) = wx := ⟨_, rfl⟩
  have r1 := RdB.litM w [49, 50, 51, 52, 53, 54, 55, 56, 57] (9, 10) (by simp)
  have b1 := (Below.refl w.heap.size w).alloc (Nat.le_refl _) (.cells (bvs [49, 50, 51, 52, 53, 54, 55, 56, 57]).toArray 5 (9, 10))
  refine (sum_any _ _ _ [49, 50, 51, 52, 53, 54, 55, 56, 57] _ _ r1 (ht0.out.below b1)).mono ?_
  rintro e w2 ⟨rfl, rfl⟩
  rw [hw1] at b1 ⊢
  clear hw1 r1
  rw [H9.out]
  go_wp2_with fail
  refine (sum_any _ _ _ [] _ _ (Rd.nil _ 0 1 0 none (by unfold maxLen; omega)) (ht0.out.below b1)).mono ?_
  rintro e w2 ⟨rfl, rfl⟩
  rw [H0.out]
  go_wp2_with fail
  obtain ⟨w2, hw2⟩ : ∃ wx : World, w1.alloc (.cells (bvs [49, 50, 51, 52]).toArray 5 (4, 5)) = wx := ⟨_, rfl⟩
  have r2 := RdB.litM w1 [49, 50, 51, 52] (4, 5) (by simp)
  have b2 := b1.alloc b1.size (.cells (bvs [49, 50, 51, 52]).toArray 5 (4, 5))
  refine (sum_any _ _ _ [49, 50, 51, 52] _ _ r2 (ht0.out.below b2)).mono ?_
  rintro e w3 ⟨rfl, rfl⟩
  rw [hw2] at b2 ⊢
  clear hw2 r2
  go_wp2_with fail
  obtain ⟨w3, hw3⟩ : ∃ wx : World, w2.alloc (.cells (bvs [53, 54, 55, 56, 57]).toArray 5 (5, 6)) = wx := ⟨_, rfl⟩
  have r3 := RdB.litM w2 [53, 54, 55, 56, 57] (5, 6) (by simp)
  have b3 := b2.alloc b2.size (.cells (bvs [53, 54, 55, 56, 57]).toArray 5 (5, 6))
  refine (sum_any _ _ _ [53, 54, 55, 56, 57] _ _ r3 (ht0.out.below b3)).mono ?_
  rintro e w4 ⟨rfl, rfl⟩
  rw [hw3] at b3 ⊢
  clear hw3 r3
  go_wp2_with fail
  refine (combine_any _ _ 5 _ (ht0.out.below b3) (Crc.sum_lt _) (Crc.sum_lt _) (by omega)).mono ?_
  rintro e w4 ⟨rfl, hb4⟩
  have b4 := b3.trans (hb4.mono b3.size)
  rw [H45.out]
  go_wp2_with fail
  obtain ⟨w5, hw5⟩ : ∃ wx : World, w4.alloc (.cells (bvs [7]).toArray 5) = wx := ⟨_, rfl⟩
  have r5 := RdB.lit w4 [7] (by simp)
  have b5 := b4.alloc b4.size (.cells (bvs [7]).toArray 5)
  refine (append_any _ _ _ [7] _ _ r5 (ht0.out.below b5) (by simp) (by simp)).mono ?_
  rintro e w6 ⟨A6, n6, c6, rfl, ho6, hb6⟩
  have b6 := b5.trans (hb6.mono b5.size)
  clear hw5 r5
  go_wp2_with fail
  refine (check_any _ _ _ _ _ _ ho6.rd (ht0.out.below b6)).mono ?_
  rintro e w7 ⟨rfl, rfl⟩
  rw [Crc.chk_app]
  go_wp2
  go_ret
  exact ⟨rfl, b6⟩
end Go.Proofs.YtoomdjjjkolloaaDoor
