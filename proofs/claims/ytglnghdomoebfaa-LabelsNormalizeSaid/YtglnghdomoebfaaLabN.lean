/- Chapter 11: the laws Check, Compare, Transitive, Get. -/
import Derived.Test.YtglnghdomoebfaaLabM
namespace Go.Proofs.Ytglnghdomoebfaa
open Go.RowKit Go.Shelf

theorem bl2 {w w1 w2 : World} (h : Below w.heap.size w w1) (h2 : Below w1.heap.size w1 w2) : Below w.heap.size w w2 := h.trans (h2.mono h.size)
set_option maxRecDepth 100000 in
set_option maxHeartbeats 4000000 in
theorem law_check (A : Option Addr) (n c : Nat) (l : List Lab) (w : World) (hv : RdL w w.heap.size A n c l) (hf : Lb.Fit l) :
    Calls Try.prog 8 #[.slice A n c] w fun r w' => r = .returned (.bool true) ∧ Below w.heap.size w w' := by
  have V := Kept.mk hv
  have F := Kept.mk hf
  clear hv hf
  go_enter Try.func8, Try.ntmps8
  go_wp2_with (first
    | (go_at_call 28; refine (large11_any A n c l w V.out F.out).mono ?_; rintro e w1 ⟨v, rfl, hv1, hv2, hb⟩; have B1 := Kept.mk hb; clear hb hv2; rcases hv1 with rfl | rfl)
    | (go_at_call 29; refine (alive11_any w1).mono ?_; rintro e w2 ⟨rfl, hb⟩; have B2 := Kept.mk (bl2 B1.out hb); clear hb)
    | (go_at_call 30; refine (lcheck_any A n c w.heap.size l w2 (V.out.below B2.out) B2.out.size F.out).mono ?_; rintro e w3 ⟨rfl, hg⟩; have B3 := Kept.mk (bl2 B2.out hg.below); clear hg)
    | (go_at_call 31; refine (refCheck_any A n c w.heap.size l w3 (V.out.below B3.out) B3.out.size F.out).mono ?_; rintro e w4 ⟨rfl, hg⟩; have B4 := Kept.mk (bl2 B3.out hg.below); clear hg; generalize Lb.chk l = x at *))
  all_goals
    go_ret
    first | exact ⟨rfl, B4.out⟩ | exact ⟨rfl, B2.out⟩
set_option maxRecDepth 100000 in
set_option maxHeartbeats 4000000 in
theorem law_compare (A A2 : Option Addr) (n c n2 c2 : Nat) (l l2 : List Lab) (w : World) (hv : RdL w w.heap.size A n c l) (hf : Lb.Fit l) (hv2 : RdL w w.heap.size A2 n2 c2 l2) (hf2 : Lb.Fit l2) :
    Calls Try.prog 10 #[.slice A n c, .slice A2 n2 c2] w fun r w' => r = .returned (.bool true) ∧ Below w.heap.size w w' := by
  have V := Kept.mk hv
  have F := Kept.mk hf
  have V2 := Kept.mk hv2
  have F2 := Kept.mk hf2
  have hsw := Lb.cmpL_swap l l2
  have hself : Lb.cmpL l l = 0 := Lb.cmpL_zero.2 rfl
  obtain ⟨x, hx⟩ : ∃ x, x = Lb.cmpL l l2 := ⟨_, rfl⟩
  have hr : x = -1 ∨ x = 0 ∨ x = 1 := by
    rw [hx]; clear hx hsw hself hv hf hv2 hf2 V F V2 F2
    induction l generalizing l2 with
    | nil => cases l2 <;> simp [Lb.cmpL]
    | cons a l ih =>
      cases l2 with
      | nil => simp [Lb.cmpL]
      | cons b l2 =>
        simp only [Lb.cmpL]
        split
        · exact ih l2
        · exact Lb.cmpE_rng a b
  have C12 := Kept.mk (fun W (h1 : RdL W W.heap.size A n c l) (h2 : RdL W W.heap.size A2 n2 c2 l2) => lcompare_any A A2 n c n2 c2 l l2 W h1 h2)
  have R12 := Kept.mk (fun W (h1 : RdL W W.heap.size A n c l) (h2 : RdL W W.heap.size A2 n2 c2 l2) => refCompare_any A A2 n c n2 c2 l l2 W h1 h2)
  have C21 := Kept.mk (fun W (h1 : RdL W W.heap.size A n c l) (h2 : RdL W W.heap.size A2 n2 c2 l2) => lcompare_any A2 A n2 c2 n c l2 l W h2 h1)
  have C11 := Kept.mk (fun W (h1 : RdL W W.heap.size A n c l) => lcompare_any A A n c n c l l W h1 h1)
  rw [hsw] at C21
  rw [hself] at C11
  rw [← hx] at C12 R12 C21
  clear hv hf hv2 hf2 hsw hself hx
  rcases hr with rfl | rfl | rfl
  all_goals
    go_enter Try.func10, Try.ntmps10
    go_wp2_with (first
      | (go_at_call 28; refine (large11_any A n c l w V.out F.out).mono ?_; rintro e w1 ⟨v, rfl, hv1, hv2, hb⟩; have B1 := Kept.mk hb; clear hb hv2; rcases hv1 with rfl | rfl)
      | (go_at_call 28; refine (large11_any A2 n2 c2 l2 w1 ((V2.out.below B1.out).more B1.out.size) F2.out).mono ?_; rintro e w2 ⟨v, rfl, hv1, hv2, hb⟩; have B2 := Kept.mk (bl2 B1.out hb); clear hb hv2; rcases hv1 with rfl | rfl)
      | (go_at_call 29; refine (alive11_any w3).mono ?_; rintro e w4 ⟨rfl, hb⟩; have B4 := Kept.mk (bl2 B3.out hb); clear hb)
      | (go_at_call 29; refine (alive11_any w2).mono ?_; rintro e w9 ⟨rfl, hb⟩; have B9 := Kept.mk (bl2 B2.out hb); clear hb)
      | (go_at_call 29; refine (alive11_any w1).mono ?_; rintro e w9 ⟨rfl, hb⟩; have B9 := Kept.mk (bl2 B1.out hb); clear hb)
      | (go_at_call 36; refine (C12.out w2 ((V.out.below B2.out).more B2.out.size) ((V2.out.below B2.out).more B2.out.size)).mono ?_; rintro e w3 ⟨rfl, hg⟩; have B3 := Kept.mk (bl2 B2.out hg.below); clear hg C12)
      | (go_at_call 37; refine (R12.out w4 ((V.out.below B4.out).more B4.out.size) ((V2.out.below B4.out).more B4.out.size)).mono ?_; rintro e w5 ⟨rfl, hg⟩; have B5 := Kept.mk (bl2 B4.out hg.below); clear hg)
      | (go_at_call 36; refine (C21.out w5 ((V.out.below B5.out).more B5.out.size) ((V2.out.below B5.out).more B5.out.size)).mono ?_; rintro e w6 ⟨rfl, hg⟩; have B6 := Kept.mk (bl2 B5.out hg.below); clear hg C21)
      | (go_at_call 36; refine (C11.out w6 ((V.out.below B6.out).more B6.out.size)).mono ?_; rintro e w7 ⟨rfl, hg⟩; have B7 := Kept.mk (bl2 B6.out hg.below); clear hg))
    all_goals
      go_ret
      first | exact ⟨rfl, B7.out⟩ | exact ⟨rfl, B9.out⟩
end Go.Proofs.Ytglnghdomoebfaa
