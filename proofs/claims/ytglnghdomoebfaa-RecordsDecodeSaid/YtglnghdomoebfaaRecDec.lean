/- Chapter 13: the law RecordsDecode. -/
import Derived.Test.YtglnghdomoebfaaRecM
import Derived.Test.YtglnghdomoebfaaRecN
import Derived.Test.YtglnghdomoebfaaRecSa
import Derived.Test.YtglnghdomoebfaaRecU
import Derived.Test.YtglnghdomoebfaaRecZ
namespace Go.Proofs.Ytglnghdomoebfaa
open Go.RowKit Go.Shelf

theorem Rc.lst_len {X : Type} (rd : Nat → Int → X × Nat × Int) : ∀ (n : Nat) (acc : List X) (a : Nat) (e : Int), (Rc.lst rd n acc a e).1.length ≤ acc.length + n
  | 0, acc, a, e => by simp [Rc.lst]
  | n + 1, acc, a, e => by
    unfold Rc.lst
    simp only []
    split
    · simp
    · have := Rc.lst_len rd n (acc ++ [(rd a e).1]) (rd a e).2.1 (rd a e).2.2
      rw [List.length_append, List.length_singleton] at this
      omega
theorem Rc.dec_len (T : List ByteArray) (l : List UInt8) : (Rc.dec T l).1.length ≤ l.length := by
  have h1 := Rc.lst_len (Rc.rec T l) (Rc.cnt l 0 0).1 [] (Rc.cnt l 0 0).2.1 (Rc.cnt l 0 0).2.2
  have h2 := Rc.cnt_le2 l 0 0
  unfold Rc.dec
  simp only []
  split
  · simp
  · show ((Rc.recs T l 0 0).1.map Rc.toRec).length ≤ _
    rw [List.length_map]
    unfold Rc.recs
    simp at h1
    omega
set_option maxRecDepth 100000 in
set_option maxHeartbeats 8000000 in
theorem law_rdecode (A A1 : Option Addr) (n c n1 c1 : Nat) (L : List ByteArray) (l : List UInt8) (w : World) (hv : RdS w w.heap.size A n c L) (hf : Sy.Fit L) (hv1 : RdB w w.heap.size A1 n1 c1 l) :
    Calls Try.prog 4 #[.slice A n c, .slice A1 n1 c1] w fun r w' => r = .returned (.bool true) ∧ Below w.heap.size w w' := by
  have V := Kept.mk hv
  have V1 := Kept.mk hv1
  have F := Kept.mk hf
  have HN := Kept.mk hv1.len
  have hlc := hv1.1
  have hcm := hv1.2.1
  unfold maxLen at hcm
  clear hv hf hv1
  by_cases h5 : n1 ≤ 5000
  · have h5' : ¬ (5000 : Int) < (n1 : Int) := by omega
    go_enter Try.func4, Try.ntmps4
    go_wp2_with (first
      | (go_at_call 26; refine (refSame_eq A7 A5 n7 c7 n5 c5 rs w7 R7.out ((R6.out.below b67.out).more b67.out.size)).mono ?_; rintro r w8 ⟨rfl, hg⟩; have B8 := Kept.mk (bl_next B7.out hg.below); clear hg)
      | (go_at_call 22; refine (reference_any A4 n4 c4 rs w6 R4b.out (by have h1 := R4b.out.len; have h2 := DL.out; have h3 := HN.out; omega)).mono ?_; rintro r w7 ⟨A7, n7, c7, rfl, hr, hb⟩; have R7 := Kept.mk hr; have b67 := Kept.mk hb; have B7 := Kept.mk (bl_next B6.out hb); clear hr hb)
      | (go_at_call 17; refine (alive13_any w5).mono ?_; rintro r w6 ⟨rfl, hb⟩; have R6 := Kept.mk ((R5.out.below hb).more hb.size); have R4b := Kept.mk ((R4a.out.below hb).more hb.size); have B6 := Kept.mk (bl_next B5.out hb); clear hb)
      | (go_at_call 25; refine (refDecode13_any A3 A1 n3 c3 n1 c1 T l w4 ((T3.out.below hb4.out).more hb4.out.size) ((V1.out.below B4.out).more B4.out.size) (by omega)).mono ?_; rintro r w5 ⟨A5, n5, c5, rfl, ho, hb⟩; rw [HD.out] at ho ⊢; have R5 := Kept.mk ho; have R4a := Kept.mk ((R4.out.below hb).more hb.size); have B5 := Kept.mk (bl_next B4.out hb); clear ho hb)
      | (go_at_call 24; refine (decode_any A3 A1 n3 c3 n1 c1 T l w3 T3.out ((V1.out.below B3.out).more B3.out.size) (by omega)).mono ?_; rintro r w4 ⟨A4, n4, c4, rfl, ho, hb⟩; have R4 := Kept.mk ho; have hb4 := Kept.mk hb; have B4 := Kept.mk (bl_next B3.out hb); clear ho hb; obtain ⟨D, hD⟩ : ∃ D, D = Rc.dec T l := ⟨_, rfl⟩; have DL0 := Rc.dec_len T l; rw [← hD] at R4 DL0 ⊢; have HD := Kept.mk hD.symm; clear hD; obtain ⟨rs, e⟩ := D; have DL := Kept.mk DL0; clear DL0)
      | (go_at_call 18; refine (table_any A n c L w2 ((V.out.below B2.out).more B2.out.size) (by have := (H1.out (by simp)).1; omega)).mono ?_; rintro r w3 ⟨A3, n3, c3, T, rfl, ht, ho, hb⟩; have T3 := Kept.mk ho.rd; have B3 := Kept.mk (bl_next B2.out hb); clear ht ho hb)
      | (go_at_call 17; refine (alive13_any w2).mono ?_; rintro r w6 ⟨rfl, hb⟩; have B8 := Kept.mk (bl_next B2.out hb); clear hb)
      | (go_at_call 15; refine (long_any A n c w1.heap.size L w1 ((V.out.below B1.out).more B1.out.size) (Nat.le_refl _) F.out).mono ?_; rintro r w2 ⟨v2, rfl, hv1, hv2, hg⟩; have B2 := Kept.mk (bl_next B1.out hg.below); clear hg hv2; rcases hv1 with rfl | rfl)
      | (go_at_call 17; refine (alive13_any w1).mono ?_; rintro r w6 ⟨rfl, hb⟩; have B8 := Kept.mk (bl_next B1.out hb); clear hb)
      | (go_at_call 14; refine (large10_any A n c w.heap.size L w V.out (Nat.le_refl _) F.out).mono ?_; rintro r w1 ⟨v, rfl, hv1, hv2, hg⟩; have H1 := Kept.mk hv2; have B1 := Kept.mk hg.below; clear hg hv2; rcases hv1 with rfl | rfl))
    all_goals go_ret
    all_goals first | exact ⟨rfl, B8.out⟩ | exact ⟨by simp, B8.out⟩
  · have h5' : (5000 : Int) < (n1 : Int) := by omega
    go_enter Try.func4, Try.ntmps4
    go_wp2_with (first
      | (go_at_call 17; refine (alive13_any w2).mono ?_; rintro r w6 ⟨rfl, hb⟩; have B7 := Kept.mk (bl_next B2.out hb); clear hb)
      | (go_at_call 15; refine (long_any A n c w1.heap.size L w1 ((V.out.below B1.out).more B1.out.size) (Nat.le_refl _) F.out).mono ?_; rintro r w2 ⟨v2, rfl, hv1, hv2, hg⟩; have B2 := Kept.mk (bl_next B1.out hg.below); clear hg hv2; rcases hv1 with rfl | rfl)
      | (go_at_call 17; refine (alive13_any w1).mono ?_; rintro r w6 ⟨rfl, hb⟩; have B7 := Kept.mk (bl_next B1.out hb); clear hb)
      | (go_at_call 14; refine (large10_any A n c w.heap.size L w V.out (Nat.le_refl _) F.out).mono ?_; rintro r w1 ⟨v, rfl, hv1, hv2, hg⟩; have B1 := Kept.mk hg.below; clear hg hv2; rcases hv1 with rfl | rfl))
    all_goals go_ret
    all_goals exact ⟨rfl, B7.out⟩
end Go.Proofs.Ytglnghdomoebfaa
