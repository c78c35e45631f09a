/- The law ListsSorted. -/
import Derived.Test.YtoomdjjjkolloabListsH
namespace Go.Proofs.Ytoomdjjjkolloab
open Go.RowKit Go.Shelf

set_option maxHeartbeats 2000000 in
theorem law_sorted (A : Option Addr) (n c : Nat) (l : List Int) (w : World) (hv : RdI w w.heap.size A n c l) :
    Calls Try.prog 3 #[.slice A n c] w fun e w' => e = .returned (.bool true) ∧ Below w.heap.size w w' := by
  have Hv := hide hv
  clear hv
  obtain ⟨b, hb⟩ : ∃ b, Ls.srt l = b := ⟨_, rfl⟩
  have Hb := Kept.mk hb
  clear hb
  cases b <;>
  · go_enter Try.func3, Try.ntmps3
    go_wp2_with (first
      | (go_at_call 9; refine (alive_any _).mono ?_; rintro e w1 ⟨rfl, hb1⟩; have R1 := Kept.mk (Hv.out.below hb1))
      | (go_at_call 10; refine (isSorted_is _ _ _ l _ _ _ R1.out Hb.out).mono ?_; rintro e w2 ⟨rfl, q2⟩; have hb2 := hb1.trans (q2.below _); have R2 := Kept.mk (Hv.out.below hb2))
      | (go_at_call 11; refine (refIsSorted_is _ _ _ l _ _ _ R2.out Hb.out).mono ?_; rintro e w3 ⟨rfl, q3⟩; have hb3 := hb2.trans (q3.below _)))
    go_ret
    exact ⟨rfl, hb3⟩
end Go.Proofs.Ytoomdjjjkolloab
