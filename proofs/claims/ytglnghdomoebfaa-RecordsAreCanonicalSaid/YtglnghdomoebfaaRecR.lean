/- Chapter 13: the law RecordsAreCanonical. -/
import Derived.Test.YtglnghdomoebfaaRecM
import Derived.Test.YtglnghdomoebfaaRecN
import Derived.Test.YtglnghdomoebfaaRecQ
namespace Go.Proofs.Ytglnghdomoebfaa
open Go.RowKit Go.Shelf

set_option maxRecDepth 100000 in
set_option maxHeartbeats 8000000 in
theorem law_rcanon (A A1 : Option Addr) (n c n1 c1 : Nat) (L : List ByteArray) (l : List UInt8) (w : World) (hv : RdS w w.heap.size A n c L) (hf : Sy.Fit L) (hv1 : RdB w w.heap.size A1 n1 c1 l) :
    Calls Try.prog 6 #[.slice A n c, .slice A1 n1 c1] w fun r w' => r = .returned (.bool true) ∧ Below w.heap.size w w' := by
  have V := Kept.mk hv
  have V1 := Kept.mk hv1
  have F := Kept.mk hf
  have HN := Kept.mk hv1.len
  have hlc := hv1.1
  have hcm := hv1.2.1
  unfold maxLen at hcm
  clear hv hf hv1
  by_cases h5 : n1 ≤ 5000
  · have h5' : ¬ (5000 : Int) < (n1 : Int) := by omega
    go_enter Try.func6, Try.ntmps6
    go_wp2_with (first
      | (go_at_call 23; refine (equal_is _ _ _ _ _ _ l l true _ _ _ V6.out O6.out (by simp)).mono ?_; rintro r w7 ⟨rfl, hw⟩; have B7 : Kept (Below w.heap.size w w7) := ⟨by rw [← hw]; exact B6.out⟩; clear hw)
      | (go_at_call 17; refine (alive13_any w5).mono ?_; rintro r w6 ⟨rfl, hb⟩; have O6 := Kept.mk ((O5.out.below hb).more hb.size); have B6 := Kept.mk (bl_next B5.out hb); have V6 := Kept.mk ((V1.out.below B6.out).more B6.out.size); clear hb)
      | (go_at_call 20; refine (encode_any A3 A4 n3 c3 n4 c4 T rs w4 ((T3.out.below hb4.out).more hb4.out.size) TB.out.1 R4.out (by have := h3; omega) (by have h1 := R4.out.len; have h2 := (DC2.out he).2.2.1; have h3 := HN.out; omega) (fun r hr => by have h1 := (DC2.out he).2.2.2 r hr; have h2 := HN.out; omega) (by rw [(DC2.out he).2.1]; have h2 := HN.out; omega)).mono ?_; rintro r w5 ⟨A5, n5, c5, rfl, ho, hb⟩; rw [(DC2.out he).1] at ho ⊢; have O5 := Kept.mk ho.rd; have B5 := Kept.mk (bl_next B4.out hb); clear ho hb)
      | (go_at_call 17; refine (alive13_any w4).mono ?_; rintro r w6 ⟨rfl, hb⟩; have B7 := Kept.mk (bl_next B4.out hb); clear hb)
      | (go_at_call 24; refine (decode_any A3 A1 n3 c3 n1 c1 T l w3 T3.out ((V1.out.below B3.out).more B3.out.size) (by omega)).mono ?_; rintro r w4 ⟨A4, n4, c4, rfl, ho, hb⟩; have R4 := Kept.mk ho; have hb4 := Kept.mk hb; have B4 := Kept.mk (bl_next B3.out hb); clear ho hb; have HB := Kept.mk (Rc.dec_bad (T := T) (l := l)); have DC := Kept.mk (fun (rs : List RecV) (h : Rc.dec T l = (rs, 0)) => Rc.dec_canon TB.out.1 HT.out h); generalize Rc.dec T l = D at *; obtain ⟨rs, e⟩ := D; have DC2 := Kept.mk (fun (he : e = 0) => DC.out rs (by rw [he])); have HZ := Kept.mk (fun (he : e ≠ 0) => (show n4 = 0 by have h1 := R4.out.len; rw [HB.out he] at h1; exact h1)); clear DC HB; by_cases he : e = 0)
      | (go_at_call 18; refine (table_any A n c L w2 ((V.out.below B2.out).more B2.out.size) (by have := (H1.out (by simp)).1; omega)).mono ?_; rintro r w3 ⟨A3, n3, c3, T, rfl, ht, ho, hb⟩; have TB := Kept.mk ht; have T3 := Kept.mk ho.rd; have h3 : n3 ≤ 500 := (by have h1 := ho.len; have h2 := ht.len; have h4 := V.out.len; have h6 := (H1.out (by simp)).1; omega); have HT : Kept (T.length ≤ Rc.mx) := ⟨by have h1 := ho.len; unfold Rc.mx; omega⟩; have B3 := Kept.mk (bl_next B2.out hb); clear ht ho hb)
      | (go_at_call 17; refine (alive13_any w2).mono ?_; rintro r w6 ⟨rfl, hb⟩; have B7 := Kept.mk (bl_next B2.out hb); clear hb)
      | (go_at_call 15; refine (long_any A n c w1.heap.size L w1 ((V.out.below B1.out).more B1.out.size) (Nat.le_refl _) F.out).mono ?_; rintro r w2 ⟨v2, rfl, hv1, hv2, hg⟩; have B2 := Kept.mk (bl_next B1.out hg.below); clear hg hv2; rcases hv1 with rfl | rfl)
      | (go_at_call 17; refine (alive13_any w1).mono ?_; rintro r w6 ⟨rfl, hb⟩; have B7 := Kept.mk (bl_next B1.out hb); clear hb)
      | (go_at_call 14; refine (large10_any A n c w.heap.size L w V.out (Nat.le_refl _) F.out).mono ?_; rintro r w1 ⟨v, rfl, hv1, hv2, hg⟩; have H1 := Kept.mk hv2; have B1 := Kept.mk hg.below; clear hg hv2; rcases hv1 with rfl | rfl))
    all_goals go_ret
    · exact ⟨rfl, B7.out⟩
    · exact ⟨by rw [HZ.out he]; rfl, B7.out⟩
    · exact ⟨rfl, B7.out⟩
    · exact ⟨rfl, B7.out⟩
  · have h5' : (5000 : Int) < (n1 : Int) := by omega
    go_enter Try.func6, Try.ntmps6
    go_wp2_with (first
      | (go_at_call 17; refine (alive13_any w2).mono ?_; rintro r w6 ⟨rfl, hb⟩; have B7 := Kept.mk (bl_next B2.out hb); clear hb)
      | (go_at_call 15; refine (long_any A n c w1.heap.size L w1 ((V.out.below B1.out).more B1.out.size) (Nat.le_refl _) F.out).mono ?_; rintro r w2 ⟨v2, rfl, hv1, hv2, hg⟩; have B2 := Kept.mk (bl_next B1.out hg.below); clear hg hv2; rcases hv1 with rfl | rfl)
      | (go_at_call 17; refine (alive13_any w1).mono ?_; rintro r w6 ⟨rfl, hb⟩; have B7 := Kept.mk (bl_next B1.out hb); clear hb)
      | (go_at_call 14; refine (large10_any A n c w.heap.size L w V.out (Nat.le_refl _) F.out).mono ?_; rintro r w1 ⟨v, rfl, hv1, hv2, hg⟩; have B1 := Kept.mk hg.below; clear hg hv2; rcases hv1 with rfl | rfl))
    all_goals go_ret
    all_goals exact ⟨rfl, B7.out⟩
end Go.Proofs.Ytglnghdomoebfaa
