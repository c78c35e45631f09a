/- Chapter 11: the law Normalize. -/
import Derived.Test.YtglnghdomoebfaaLabS
namespace Go.Proofs.Ytglnghdomoebfaa
open Go.RowKit Go.Shelf

theorem NormT_fit {l : List Lab} {e : Int} {out : List Lab} (h : Lb.Norm l e out) (hf : Lb.Fit l) : Lb.Fit out := by
  by_cases he : e = 0
  · exact Fit.perm hf (h.zero he).2.2
  · rw [h.nil he]; intro x hx; simp at hx
set_option maxRecDepth 100000 in
set_option maxHeartbeats 8000000 in
theorem law_normalize (A : Option Addr) (n c : Nat) (l : List Lab) (w : World) (hv : RdL w w.heap.size A n c l) (hf : Lb.Fit l) :
    Calls Try.prog 9 #[.slice A n c] w fun r w' => r = .returned (.bool true) ∧ Below w.heap.size w w' := by
  have V := Kept.mk hv
  have F := Kept.mk hf
  clear hv hf
  go_enter Try.func9, Try.ntmps9
  go_upto_region 6 with (first
    | (go_at_call 28; refine (large11_any A n c l w V.out F.out).mono ?_; rintro e w1 ⟨v, rfl, hv1, hv2, hb⟩; have B1 := Kept.mk hb; have H1 := Kept.mk hv2; clear hb hv2; rcases hv1 with rfl | rfl)
    | (go_at_call 29; refine (alive11_any w1).mono ?_; rintro e w9 ⟨rfl, hb⟩; have B9 := Kept.mk (bl2 B1.out hb); clear hb)
    | (go_at_call 32; refine (cloneL_any A n c w.heap.size l w1 (V.out.below B1.out) B1.out.size (by have := H1.out (by simp); omega)).mono ?_; rintro e w2 ⟨A2, c2, rfl, ho, hb⟩; have R2 := Kept.mk ho.rd; have B2 := Kept.mk (bl2 B1.out hb); clear ho hb)
    | (go_at_call 33; refine (lnormalize_any A n c w.heap.size l w2 (V.out.below B2.out) B2.out.size F.out (by have := H1.out (by simp); omega)).mono ?_; rintro r w3 ⟨e3, A3, n3, c3, out3, rfl, hm3, hr3, hb3⟩; have M3 := Kept.mk hm3; have R3 := Kept.mk hr3; have B3 := Kept.mk (bl2 B2.out hb3); have Q3 := Kept.mk ((R2.out.below hb3).more hb3.size); clear hm3 hr3 hb3)
    | (go_at_call 34; refine (refNormalize_any A n c l w3 ((V.out.below B3.out).more B3.out.size) F.out (by have := H1.out (by simp); omega)).mono ?_; rintro r w4 ⟨e4, A4, n4, c4, out4, rfl, hm4, hr4, hb4⟩; have M4 := Kept.mk hm4; have R4 := Kept.mk hr4; have P4 := Kept.mk ((R3.out.below hb4).more hb4.size); have Q4 := Kept.mk ((Q3.out.below hb4).more hb4.size); have B4 := Kept.mk (bl2 B3.out hb4); clear hm4 hr4 hb4))
  rotate_left 1
  · go_ret
    exact ⟨rfl, B9.out⟩
  · have hu := M3.out.uniq M4.out
    have R4' : Kept (RdL w4 w4.heap.size A4 n4 c4 out3) := ⟨by rw [hu.2]; exact R4.out⟩
    obtain rfl := hu.1
    have FO := Kept.mk (NormT_fit M3.out F.out)
    have hcase : (e3 = 0 ∧ Lb.chk out3 = 0) ∨ (e3 == 0) = false := by
      by_cases h : e3 = 0
      · exact .inl ⟨h, M3.out.chk h⟩
      · exact .inr (by simpa using h)
    clear hu M4 R4 R3 Q3 R2 M3
    rcases hcase with ⟨rfl, hck⟩ | hb3
    · have CK := Kept.mk hck
      clear hck
      go_wp2_with (first
        | (go_at_call 35; refine (equalL_any A A2 n c n c2 w.heap.size w6.heap.size l l w6 (V.out.below B6.out) Q6.out B6.out.size (Nat.le_refl _)).mono ?_; rintro r w7 ⟨he, hg⟩; rw [decide_eq_true rfl] at he; subst he; have B7 := Kept.mk (bl2 B6.out hg.below); have P7 := Kept.mk ((P6.out.below hg.below).more hg.size); clear hg)
        | (go_at_call 35; refine (equalL_any A3 A4 n3 c3 n4 c4 w5.heap.size w5.heap.size out3 out3 w5 P5.out R5.out (Nat.le_refl _) (Nat.le_refl _)).mono ?_; rintro r w6 ⟨he, hg⟩; rw [decide_eq_true rfl] at he; subst he; have B6 := Kept.mk (bl2 B5.out hg.below); have Q6 := Kept.mk ((Q5.out.below hg.below).more hg.size); have P6 := Kept.mk ((P5.out.below hg.below).more hg.size); clear hg)
        | (go_at_call 29; refine (alive11_any w4).mono ?_; rintro e w5 ⟨rfl, hb⟩; have B5 := Kept.mk (bl2 B4.out hb); have P5 := Kept.mk ((P4.out.below hb).more hb.size); have R5 := Kept.mk ((R4'.out.below hb).more hb.size); have Q5 := Kept.mk ((Q4.out.below hb).more hb.size); clear hb)
        | (go_at_call 30; refine (lcheck_any A3 n3 c3 _ out3 w7 P7.out (Nat.le_refl _) FO.out).mono ?_; rintro r w8 ⟨he, hg⟩; rw [CK.out] at he; subst he; have B8 := Kept.mk (bl2 B7.out hg.below); clear hg))
      go_ret
      exact ⟨rfl, B8.out⟩
    · have hne : ¬ e3 = 0 := by simpa using hb3
      go_wp2_with (first
        | (go_at_call 35; refine (equalL_any A A2 n c n c2 w.heap.size w6.heap.size l l w6 (V.out.below B6.out) Q6.out B6.out.size (Nat.le_refl _)).mono ?_; rintro r w7 ⟨he, hg⟩; rw [decide_eq_true rfl] at he; subst he; have B7 := Kept.mk (bl2 B6.out hg.below); clear hg)
        | (go_at_call 35; refine (equalL_any A3 A4 n3 c3 n4 c4 w5.heap.size w5.heap.size out3 out3 w5 P5.out R5.out (Nat.le_refl _) (Nat.le_refl _)).mono ?_; rintro r w6 ⟨he, hg⟩; rw [decide_eq_true rfl] at he; subst he; have B6 := Kept.mk (bl2 B5.out hg.below); have Q6 := Kept.mk ((Q5.out.below hg.below).more hg.size); clear hg)
        | (go_at_call 29; refine (alive11_any w4).mono ?_; rintro e w5 ⟨rfl, hb⟩; have B5 := Kept.mk (bl2 B4.out hb); have P5 := Kept.mk ((P4.out.below hb).more hb.size); have R5 := Kept.mk ((R4'.out.below hb).more hb.size); have Q5 := Kept.mk ((Q4.out.below hb).more hb.size); clear hb))
      go_ret
      exact ⟨rfl, B7.out⟩
end Go.Proofs.Ytglnghdomoebfaa
