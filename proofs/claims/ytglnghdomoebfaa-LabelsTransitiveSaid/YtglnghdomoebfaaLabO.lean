/- Chapter 11: the law Transitive. -/
import Derived.Test.YtglnghdomoebfaaLabN
namespace Go.Proofs.Ytglnghdomoebfaa
open Go.RowKit Go.Shelf

theorem cmpL_rng (l l2 : List Lab) : Lb.cmpL l l2 = -1 ∨ Lb.cmpL l l2 = 0 ∨ Lb.cmpL l l2 = 1 := by
  induction l generalizing l2 with
  | nil => cases l2 <;> simp [Lb.cmpL]
  | cons a l ih =>
    cases l2 with
    | nil => simp [Lb.cmpL]
    | cons b l2 =>
      simp only [Lb.cmpL]
      split
      · exact ih l2
      · exact Lb.cmpE_rng a b
set_option maxRecDepth 100000 in
set_option maxHeartbeats 8000000 in
theorem law_trans (A A2 A3 : Option Addr) (n c n2 c2 n3 c3 : Nat) (l l2 l3 : List Lab) (w : World) (hv : RdL w w.heap.size A n c l) (hf : Lb.Fit l) (hv2 : RdL w w.heap.size A2 n2 c2 l2) (hf2 : Lb.Fit l2) (hv3 : RdL w w.heap.size A3 n3 c3 l3) (hf3 : Lb.Fit l3) :
    Calls Try.prog 11 #[.slice A n c, .slice A2 n2 c2, .slice A3 n3 c3] w fun r w' => r = .returned (.bool true) ∧ Below w.heap.size w w' := by
  have V := Kept.mk hv
  have F := Kept.mk hf
  have V2 := Kept.mk hv2
  have F2 := Kept.mk hf2
  have V3 := Kept.mk hv3
  have F3 := Kept.mk hf3
  have hL := Kept.mk (Lb.cmpL_laws l l2 l3)
  have hx := cmpL_rng l l2
  have hy := cmpL_rng l2 l3
  have hz := cmpL_rng l l3
  have C1 := Kept.mk (fun W (h1 : RdL W W.heap.size A n c l) (h2 : RdL W W.heap.size A2 n2 c2 l2) => lcompare_any A A2 n c n2 c2 l l2 W h1 h2)
  have C2 := Kept.mk (fun W (h2 : RdL W W.heap.size A2 n2 c2 l2) (h3 : RdL W W.heap.size A3 n3 c3 l3) => lcompare_any A2 A3 n2 c2 n3 c3 l2 l3 W h2 h3)
  have C3 := Kept.mk (fun W (h1 : RdL W W.heap.size A n c l) (h3 : RdL W W.heap.size A3 n3 c3 l3) => lcompare_any A A3 n c n3 c3 l l3 W h1 h3)
  generalize Lb.cmpL l l2 = x at *
  generalize Lb.cmpL l2 l3 = y at *
  generalize Lb.cmpL l l3 = z at *
  clear hv hf hv2 hf2 hv3 hf3
  go_enter Try.func11, Try.ntmps11
  go_upto_region 4 with (first
      | (go_at_call 28; refine (large11_any A n c l w V.out F.out).mono ?_; rintro e w1 ⟨v, rfl, hv1, hv2, hb⟩; have B1 := Kept.mk hb; clear hb hv2; rcases hv1 with rfl | rfl)
      | (go_at_call 28; refine (large11_any A2 n2 c2 l2 w1 ((V2.out.below B1.out).more B1.out.size) F2.out).mono ?_; rintro e w2 ⟨v, rfl, hv1, hv2, hb⟩; have B2 := Kept.mk (bl2 B1.out hb); clear hb hv2; rcases hv1 with rfl | rfl)
      | (go_at_call 28; refine (large11_any A3 n3 c3 l3 w2 ((V3.out.below B2.out).more B2.out.size) F3.out).mono ?_; rintro e w3 ⟨v, rfl, hv1, hv2, hb⟩; have B3 := Kept.mk (bl2 B2.out hb); clear hb hv2; rcases hv1 with rfl | rfl)
      | (go_at_call 29; refine (alive11_any w3).mono ?_; rintro e w9 ⟨rfl, hb⟩; have B9 := Kept.mk (bl2 B3.out hb); clear hb)
      | (go_at_call 29; refine (alive11_any w2).mono ?_; rintro e w9 ⟨rfl, hb⟩; have B9 := Kept.mk (bl2 B2.out hb); clear hb)
      | (go_at_call 29; refine (alive11_any w1).mono ?_; rintro e w9 ⟨rfl, hb⟩; have B9 := Kept.mk (bl2 B1.out hb); clear hb)
      | (go_at_call 36; refine (C1.out w3 ((V.out.below B3.out).more B3.out.size) ((V2.out.below B3.out).more B3.out.size)).mono ?_; rintro e w4 ⟨rfl, hg⟩; have B4 := Kept.mk (bl2 B3.out hg.below); clear hg C1)
      | (go_at_call 36; refine (C2.out w4 ((V2.out.below B4.out).more B4.out.size) ((V3.out.below B4.out).more B4.out.size)).mono ?_; rintro e w5 ⟨rfl, hg⟩; have B5 := Kept.mk (bl2 B4.out hg.below); clear hg C2)
      | (go_at_call 36; refine (C3.out w5 ((V.out.below B5.out).more B5.out.size) ((V3.out.below B5.out).more B5.out.size)).mono ?_; rintro e w6 ⟨rfl, hg⟩; have B6 := Kept.mk (bl2 B5.out hg.below); clear hg C3))
  all_goals first
    | (go_ret; exact ⟨rfl, B9.out⟩)
    | (have hl := hL.out
       clear hL
       rcases hx with rfl | rfl | rfl <;> rcases hy with rfl | rfl | rfl <;> rcases hz with rfl | rfl | rfl <;> first
         | (exfalso; omega)
         | (clear hl
            go_wp2_with (go_at_call 29; refine (alive11_any w6).mono ?_; rintro e w7 ⟨rfl, hb⟩; have B7 := Kept.mk (bl2 B6.out hb); clear hb)
            go_ret
            exact ⟨rfl, B7.out⟩))
end Go.Proofs.Ytglnghdomoebfaa
