/- Chapter 15: the law PostingsDecode. -/
import Derived.Test.YthhcfocmaiacoaaPostLE
import Derived.Test.YthhcfocmaiacoaaPostR
namespace Go.Proofs.Ythhcfocmaiacoaa
open Go.RowKit Go.Shelf Go.Sort

set_option maxRecDepth 100000 in
set_option maxHeartbeats 8000000 in
theorem law_pdecode (A0 A : Option Addr) (n0 c0 n c : Nat) (L : List ByteArray) (bn : Int) (l : List UInt8) (w : World) (hv0 : RdS w w.heap.size A0 n0 c0 L) (hf0 : Sy.Fit L) (hbn : bn < 9223372036854775808) (hv : RdB w w.heap.size A n c l) :
    Calls Try.prog 11 #[.slice A0 n0 c0, .int .i64 bn, .slice A n c] w fun r w' => r = .returned (.bool true) ∧ Below w.heap.size w w' := by
  have V0 := Kept.mk hv0
  have F0 := Kept.mk hf0
  have V := Kept.mk hv
  have HN := Kept.mk hv.len
  have HBN := Kept.mk hbn
  have LG := Kept.mk (large10_any A0 n0 c0 w.heap.size L w hv0 (Nat.le_refl _) hf0)
  clear hv0 hf0 hv hbn
  by_cases hbig : n ≤ 5000
  · have hsm : ¬ (5000 : Int) < (n : Int) := by omega
    have HSM := Kept.mk hbig
    clear hbig
    go_enter Try.func11, Try.ntmps11
    go_upto_region 4 with (first
      | (go_at_call 18; refine (table_any A0 n0 c0 L w2 ((V0.out.below B2.out).more B2.out.size) (by have := (H1.out (by simp)).1; omega)).mono ?_; rintro r w3 ⟨A3, n3, c3, T, rfl, ht, ho, hb⟩; have TB := Kept.mk ht; have T3 := Kept.mk ho.rd; have h3 : n3 ≤ 500 := (by have h1 := ho.len; have h2 := ht.len; have h5 := V0.out.len; have h6 := (H1.out (by simp)).1; omega); have B3 := Kept.mk (bl_next B2.out hb); clear ht ho hb)
      | (go_at_call 30; refine (alive15_any w2).mono ?_; rintro r w9 ⟨rfl, hb⟩; have BZ := Kept.mk (bl_next B2.out hb); clear hb)
      | (go_at_call 16; refine (long_any A0 n0 c0 w1.heap.size L w1 ((V0.out.below B1.out).more B1.out.size) (Nat.le_refl _) F0.out).mono ?_; rintro r w2 ⟨v2, rfl, hv1, hv2, hg⟩; have B2 := Kept.mk (bl_next B1.out hg.below); clear hg hv2; rcases hv1 with rfl | rfl)
      | (go_at_call 30; refine (alive15_any w1).mono ?_; rintro r w9 ⟨rfl, hb⟩; have BZ := Kept.mk (bl_next B1.out hb); clear hb)
      | (go_at_call 15; refine LG.out.mono ?_; rintro r w1 ⟨v, rfl, hv1, hv2, hg⟩; have H1 := Kept.mk hv2; have B1 := Kept.mk hg.below; clear hg hv2 LG; rcases hv1 with rfl | rfl))
    · have hTl : T.length ≤ 1000000 := by have := T3.out.len; omega
      have HTL := Kept.mk hTl
      have DC := Kept.mk (decodeP_any A3 A n3 c3 n c bn T l w3 T3.out ((V.out.below B3.out).more B3.out.size) (by have := HSM.out; omega) HBN.out)
      have RC := Kept.mk (fun W (h1 : RdS W W.heap.size A3 n3 c3 T) (h2 : RdB W W.heap.size A n c l) => refDecode15_any A3 A n3 c3 n c bn T l W h1 h2 (by have := HSM.out; omega) HBN.out)
      obtain ⟨D, hD⟩ : ∃ D, Pe.dec T bn l = D := ⟨_, rfl⟩
      have HDD := Kept.mk hD
      have hbad := Pe.dec_bad (T := T) (n := bn) (l := l)
      rw [hD] at DC RC hbad
      clear hD hTl
      obtain ⟨E, e⟩ := D
      simp only [] at DC RC hbad
      by_cases he : e = 0
      · subst he
        have CA := Kept.mk (Pe.canon_all TB.out HTL.out HBN.out (by have := HN.out; have := HSM.out; omega) HDD.out)
        have hb0 := CA.out.1
        obtain ⟨bnd, rfl⟩ := Int.eq_ofNat_of_zero_le hb0
        clear hb0 hbad
        go_wp2_with (first
          | (go_at_call 40; refine (is15_any A5 n5 c5 bnd E w8 R8.out CA.out.2.2.1 CA.out.2.2.2.1 (by have := CA.out.2.2.2.2.1; have := R8.out.len; omega)).mono ?_; rintro r w9 ⟨rfl, hg⟩; have BZ := Kept.mk (bl_next B8.out hg.below); clear hg)
          | (go_at_call 31; refine (same15_any A7 A5 n7 c7 n5 c5 E w7 O7.out R7.out (by have := CA.out.2.2.2.2.1; have := O7.out.len; omega) (fun e he => by have := (CA.out.2.2.2.2.2 e he).1; omega)).mono ?_; rintro r w8 ⟨rfl, hg⟩; have R8 := Kept.mk (R7.out.on hg.below); have B8 := Kept.mk (bl_next B7.out hg.below); clear hg)
          | (go_at_call 32; refine (reference15_any A4 n4 c4 E w6 R6.out (by have := CA.out.2.2.2.2.1; have := R6.out.len; omega)).mono ?_; rintro r w7 ⟨A7, n7, c7, rfl, ho, hb⟩; have O7 := Kept.mk ho.rd; have R7 := Kept.mk (Q6.out.on hb); have B7 := Kept.mk (bl_next B6.out hb); clear ho hb)
          | (go_at_call 30; refine (alive15_any w5).mono ?_; rintro r w6 ⟨rfl, hb⟩; have R6 := Kept.mk (R5.out.on hb); have Q6 := Kept.mk (Q5.out.on hb); have B6 := Kept.mk (bl_next B5.out hb); clear hb)
          | (go_at_call 39; refine (RC.out w4 T4.out ((V.out.below B4.out).more B4.out.size)).mono ?_; rintro r w5 ⟨A5, n5, c5, rfl, hr, hb⟩; have Q5 := Kept.mk hr; have R5 := Kept.mk (R4.out.on hb); have B5 := Kept.mk (bl_next B4.out hb); clear hr hb RC)
          | (go_at_call 38; refine DC.out.mono ?_; rintro r w4 ⟨A4, n4, c4, rfl, hr, hb⟩; have R4 := Kept.mk hr; have T4 := Kept.mk ((T3.out.below hb).more hb.size); have B4 := Kept.mk (bl_next B3.out hb); clear hr hb DC))
        go_ret
        exact ⟨rfl, BZ.out⟩
      · have heb : (e == 0) = false := by simpa using he
        have hE : E = [] := hbad he
        subst hE
        clear hbad
        go_wp2_with (first
          | (go_at_call 31; refine (same15_any A7 A5 n7 c7 n5 c5 [] w7 O7.out R7.out (by have := O7.out.len; simp at this; omega) (fun e he => absurd he (by simp))).mono ?_; rintro r w8 ⟨rfl, hg⟩; have BZ := Kept.mk (bl_next B7.out hg.below); clear hg)
          | (go_at_call 32; refine (reference15_any A4 n4 c4 [] w6 R6.out (by have := R6.out.len; simp at this; omega)).mono ?_; rintro r w7 ⟨A7, n7, c7, rfl, ho, hb⟩; have O7 := Kept.mk ho.rd; have R7 := Kept.mk (Q6.out.on hb); have B7 := Kept.mk (bl_next B6.out hb); clear ho hb)
          | (go_at_call 30; refine (alive15_any w5).mono ?_; rintro r w6 ⟨rfl, hb⟩; have R6 := Kept.mk (R5.out.on hb); have Q6 := Kept.mk (Q5.out.on hb); have B6 := Kept.mk (bl_next B5.out hb); clear hb)
          | (go_at_call 39; refine (RC.out w4 T4.out ((V.out.below B4.out).more B4.out.size)).mono ?_; rintro r w5 ⟨A5, n5, c5, rfl, hr, hb⟩; have Q5 := Kept.mk hr; have R5 := Kept.mk (R4.out.on hb); have B5 := Kept.mk (bl_next B4.out hb); clear hr hb RC)
          | (go_at_call 38; refine DC.out.mono ?_; rintro r w4 ⟨A4, n4, c4, rfl, hr, hb⟩; have R4 := Kept.mk hr; have T4 := Kept.mk ((T3.out.below hb).more hb.size); have B4 := Kept.mk (bl_next B3.out hb); clear hr hb DC))
        go_ret
        exact ⟨rfl, BZ.out⟩
    all_goals (go_ret; exact ⟨rfl, BZ.out⟩)
  · have hsm : (5000 : Int) < (n : Int) := by omega
    clear hbig
    go_enter Try.func11, Try.ntmps11
    go_wp2_with (first
      | (go_at_call 30; refine (alive15_any w2).mono ?_; rintro r w9 ⟨rfl, hb⟩; have BZ := Kept.mk (bl_next B2.out hb); clear hb)
      | (go_at_call 16; refine (long_any A0 n0 c0 w1.heap.size L w1 ((V0.out.below B1.out).more B1.out.size) (Nat.le_refl _) F0.out).mono ?_; rintro r w2 ⟨v2, rfl, hv1, hv2, hg⟩; have B2 := Kept.mk (bl_next B1.out hg.below); clear hg hv2; rcases hv1 with rfl | rfl)
      | (go_at_call 30; refine (alive15_any w1).mono ?_; rintro r w9 ⟨rfl, hb⟩; have BZ := Kept.mk (bl_next B1.out hb); clear hb)
      | (go_at_call 15; refine LG.out.mono ?_; rintro r w1 ⟨v, rfl, hv1, hv2, hg⟩; have H1 := Kept.mk hv2; have B1 := Kept.mk hg.below; clear hg hv2 LG; rcases hv1 with rfl | rfl))
    all_goals (go_ret; exact ⟨rfl, BZ.out⟩)
end Go.Proofs.Ythhcfocmaiacoaa
