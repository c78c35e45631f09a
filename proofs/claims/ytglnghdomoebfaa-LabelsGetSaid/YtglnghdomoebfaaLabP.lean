/- Chapter 11: the law Get. -/
import Derived.Test.YtglnghdomoebfaaLabN
namespace Go.Proofs.Ytglnghdomoebfaa
open Go.RowKit Go.Shelf

set_option maxRecDepth 100000 in
set_option maxHeartbeats 4000000 in
theorem law_get (A : Option Addr) (n c : Nat) (l : List Lab) (x : ByteArray) (w : World) (hv : RdL w w.heap.size A n c l) (hf : Lb.Fit l) :
    Calls Try.prog 12 #[.slice A n c, .string x] w fun r w' => r = .returned (.bool true) ∧ Below w.heap.size w w' := by
  have V := Kept.mk hv
  have F := Kept.mk hf
  have G1 := Kept.mk (fun W (h : RdL W W.heap.size A n c l) => get_any A n c l x W h)
  have G2 := Kept.mk (fun W (h : RdL W W.heap.size A n c l) => refGet_any A n c l x W h)
  generalize (Lb.get l x).getD ByteArray.empty = s at *
  generalize (Lb.get l x).isSome = b at *
  have hs := St.eq_iff s s
  rw [decide_eq_true rfl] at hs
  clear hv hf
  cases b
  all_goals
    go_enter Try.func12, Try.ntmps12
    go_wp2_with (first
      | (go_at_call 28; refine (large11_any A n c l w V.out F.out).mono ?_; rintro e w1 ⟨v, rfl, hv1, hv2, hb⟩; have B1 := Kept.mk hb; have H1 := Kept.mk hv2; clear hb hv2; rcases hv1 with rfl | rfl)
      | (go_at_call 29; refine (alive11_any w3).mono ?_; rintro e w4 ⟨rfl, hb⟩; have B4 := Kept.mk (bl2 B3.out hb); clear hb)
      | (go_at_call 29; refine (alive11_any w1).mono ?_; rintro e w9 ⟨rfl, hb⟩; have B9 := Kept.mk (bl2 B1.out hb); clear hb)
      | (go_at_call 38; refine (G1.out w1 ((V.out.below B1.out).more B1.out.size)).mono ?_; rintro e w2 ⟨rfl, hg⟩; have B2 := Kept.mk (bl2 B1.out hg.below); clear hg)
      | (go_at_call 39; refine (G2.out w2 ((V.out.below B2.out).more B2.out.size)).mono ?_; rintro e w3 ⟨rfl, hg⟩; have B3 := Kept.mk (bl2 B2.out hg.below); clear hg)
      | (go_at_call 41; refine (lstrings_any A n c l w4 ((V.out.below B4.out).more B4.out.size) (by have := H1.out (by simp); omega)).mono ?_; rintro e w5 ⟨A5, n5, c5, rfl, ho, hb⟩; have O5 := Kept.mk ho.rd; have B5 := Kept.mk (bl2 B4.out hb); clear ho hb)
      | (go_at_call 27; refine (refStrings_any A n c l w5 ((V.out.below B5.out).more B5.out.size) (by have := H1.out (by simp); omega)).mono ?_; rintro e w6 ⟨A6, n6, c6, rfl, ho, hb⟩; have O6 := Kept.mk ho.rd; have P6 := Kept.mk ((O5.out.below hb).more hb.size); have B6 := Kept.mk (bl2 B5.out hb); clear ho hb)
      | (go_at_call 40; refine (equalS_any A5 A6 n5 c5 n6 c6 w6.heap.size w6.heap.size (Lb.strs l) (Lb.strs l) w6 P6.out O6.out (Nat.le_refl _) (Nat.le_refl _)).mono ?_; rintro e w7 ⟨he, hg⟩; rw [decide_eq_true rfl] at he; subst he; have B7 := Kept.mk (bl2 B6.out hg.below); clear hg))
    all_goals
      go_ret
      first | exact ⟨rfl, B7.out⟩ | exact ⟨rfl, B9.out⟩
end Go.Proofs.Ytglnghdomoebfaa
