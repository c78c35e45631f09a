/- Chapter 13: the law RecordsRoundTrip. -/
import Derived.Test.YtglnghdomoebfaaRecM
import Derived.Test.YtglnghdomoebfaaRecN
import Derived.Test.YtglnghdomoebfaaRecSa
import Derived.Test.YtglnghdomoebfaaRecU
import Derived.Test.YtglnghdomoebfaaRecOk
namespace Go.Proofs.Ytglnghdomoebfaa
open Go.RowKit Go.Shelf

set_option maxRecDepth 100000 in
set_option maxHeartbeats 16000000 in
theorem law_rround (A A1 : Option Addr) (n c n1 c1 : Nat) (L : List ByteArray) (rs : List RecV) (w : World) (hv : RdS w w.heap.size A n c L) (hf : Sy.Fit L) (hv1 : RdR w w.heap.size A1 n1 c1 rs) (hf1 : FitR rs) :
    Calls Try.prog 5 #[.slice A n c, .slice A1 n1 c1] w fun r w' => r = .returned (.bool true) ∧ Below w.heap.size w w' := by
  have V := Kept.mk hv
  have V1 := Kept.mk hv1
  have F := Kept.mk hf
  have F1 := Kept.mk hf1
  have HN := Kept.mk hv1.len
  obtain ⟨hlc1, hcm1⟩ := hv1.cap
  unfold maxLen at hcm1
  clear hv hf hv1 hf1
  go_enter Try.func5, Try.ntmps5
  go_wp2_with (first
    | (at_builtin; refine wpList_appS rfl (.tmp 28) (.tmp 29) rfl w.heap.size _ 0 0 [] rfl (OwnS.made w3 _ B3.out.size) w3.heap.size _ _ _ L rfl (Rd.alloc ((V.out.below B3.out).more B3.out.size) (Nat.le_refl _) _) (by have := (H1.out (by simp)).1; omega) (by have := B3.out.size; simp; omega) ?_; intro A4 c4 w4 hown4 hgrow4 hat4; rw [List.nil_append] at hown4; have O4 := Kept.mk hown4; have B4 : Kept (Below w.heap.size w w4) := ⟨(B3.out.alloc B3.out.size _).grown hgrow4 (by have := B3.out.size; simp; omega) (fun g e => (own_lt (OwnS.made w3 _ B3.out.size) g e).1)⟩; clear hown4 hgrow4 hat4)
    | (go_at_call 17; refine (alive13_any w3).mono ?_; rintro r w8 ⟨rfl, hb⟩; have B9 := Kept.mk (bl_next B3.out hb); clear hb)
    | (go_at_call 16; refine (large13_any A1 n1 c1 rs w2 ((V1.out.below B2.out).more B2.out.size) F1.out).mono ?_; rintro r w3 ⟨v3, rfl, hv1, hv2, hb⟩; have SH := Kept.mk hv2; have B3 := Kept.mk (bl_next B2.out hb); clear hb hv2; rcases hv1 with rfl | rfl)
    | (go_at_call 17; refine (alive13_any w2).mono ?_; rintro r w8 ⟨rfl, hb⟩; have B9 := Kept.mk (bl_next B2.out hb); clear hb)
    | (go_at_call 15; refine (long_any A n c w1.heap.size L w1 ((V.out.below B1.out).more B1.out.size) (Nat.le_refl _) F.out).mono ?_; rintro r w2 ⟨v2, rfl, hv1, hv2, hg⟩; have B2 := Kept.mk (bl_next B1.out hg.below); clear hg hv2; rcases hv1 with rfl | rfl)
    | (go_at_call 17; refine (alive13_any w1).mono ?_; rintro r w8 ⟨rfl, hb⟩; have B9 := Kept.mk (bl_next B1.out hb); clear hb)
    | (go_at_call 14; refine (large10_any A n c w.heap.size L w V.out (Nat.le_refl _) F.out).mono ?_; rintro r w1 ⟨v, rfl, hv1, hv2, hg⟩; have H1 := Kept.mk hv2; have B1 := Kept.mk hg.below; clear hg hv2; rcases hv1 with rfl | rfl))
  any_goals (go_ret; exact ⟨rfl, B9.out⟩)
  have hsh := SH.out (by simp)
  have hn500 : n ≤ 500 := (H1.out (by simp)).1
  have hn300 : n1 ≤ 300 := hsh.1
  have HSH := Kept.mk hsh
  clear hsh H1 SH B1 B2
  go_loopw [5, 33] (fun o i wr => ∃ k : Nat, k ≤ n1 ∧ i = .int .i64 k ∧ ∃ A2 n2 c2, o = .slice A2 n2 c2 ∧ OwnS wr w.heap.size A2 n2 c2 (L ++ Rc.strsOf (rs.take k)) ∧ n2 ≤ 500 + 400 * k ∧ Below w.heap.size w wr) (fun _ i _ => n1 - (intOf i).toNat)
  case atStart => exact ⟨0, by omega, rfl, A4, _, c4, rfl, by simpa [Rc.strsOf] using O4.out, by omega, B4.out⟩
  case round =>
    clear O4 B4 B3
    obtain ⟨k, hk, rfl, A2, n2, c2, rfl, ho, hn2, hb⟩ := hrel
    by_cases hlt : k < n1
    · have hkl : k < rs.length := by rw [← HN.out]; exact hlt
      obtain ⟨b, off, A3, n3, c3, A5, n5, c5, rfl, hL, hC, hc⟩ := V1.out.cells (Nat.le_refl _) hkl
      obtain ⟨r0, r1⟩ := hc wr hb
      have h3 := (HSH.out.2 _ (List.getElem_mem hkl)).1
      have hl3 := hL.len
      have hn3 : n3 ≤ 200 := by omega
      have hst := Rc.strsOf_take rs k hkl
      have hzb := hb.size
      have OO : Kept (OwnS (wr.alloc (.cells #[.slice A3 n3 c3, .slice A5 n5 c5] 49)) w.heap.size A2 n2 c2 (L ++ Rc.strsOf (rs.take k))) := ⟨World.ownsRow.alloc ho _⟩
      have BB := Kept.mk (hb.alloc hzb (.cells #[.slice A3 n3 c3, .slice A5 n5 c5] 49))
      have RL := Kept.mk ((hL.below BB.out).more BB.out.size)
      have HST := Kept.mk hst
      have H3 := Kept.mk hl3
      clear ho hb hL hC hc hl3 h3 hst
      generalize rs[k].1 = lk at *
      go_wp2_with (first
        | (go_at_call 27; refine (refStrings_any A3 n3 c3 lk _ RL.out (by omega)).mono ?_; rintro e w6 ⟨A6, n6, c6, rfl, ho6, hb6⟩; have O6 := Kept.mk ho6.rd; have B6 := Kept.mk (bl_next BB.out hb6); have P6 : Kept (OwnS w6 w.heap.size A2 n2 c2 (L ++ Rc.strsOf (rs.take k))) := ⟨own_below OO.out hb6 (fun g e => (own_lt OO.out g e).2)⟩; have hn6 : n6 ≤ 400 := (by have h1 := ho6.len; rw [Lb.strs_length] at h1; have := H3.out; omega); clear ho6 hb6)
        | (at_builtin; refine wpList_appS rfl (.tmp 37) (.tmp 40) rfl w.heap.size A2 n2 c2 _ rfl P6.out _ _ _ _ _ rfl O6.out (by omega) B6.out.size ?_; intro A7 c7 w7 hown7 hgrow7 hat7; have O7 := Kept.mk hown7; have B7 : Kept (Below w.heap.size w w7) := ⟨B6.out.grown hgrow7 B6.out.size (fun g e => (own_lt P6.out g e).1)⟩; clear hown7 hgrow7 hat7))
      go_roundw
      case rel => exact ⟨k + 1, by omega, by go_num, A7, n2 + n6, c7, rfl, by rw [HST.out, ← List.append_assoc]; exact O7.out, by omega, B7.out⟩
      case measure => simp [intOf]; omega
    · have ht : rs.take k = rs := List.take_of_length_le (by have := HN.out; omega)
      rw [ht] at ho
      have hn2b : n2 ≤ 200000 := by omega
      obtain ⟨ALL, hALL⟩ : ∃ ALL, ALL = L ++ Rc.strsOf rs := ⟨_, rfl⟩
      rw [← hALL] at ho
      have FA : Kept (Sy.Fit ALL) := ⟨by
        rw [hALL]
        intro s hs
        rcases List.mem_append.1 hs with hs | hs
        · exact F.out s hs
        · exact Rc.strsOf_fit F1.out s hs⟩
      have IN : Kept (∀ s ∈ Rc.strsOf rs, s ∈ ALL) := ⟨fun s hs => by rw [hALL]; exact List.mem_append.2 (.inr hs)⟩
      have O := Kept.mk ho
      have B0 := Kept.mk hb
      clear ho hb ht hALL hn2
      go_wp2_with (first
        | (go_at_call 26; refine (refSame_eq A12 A13 n12 c12 n13 c13 rs w13 ((R12.out.below b23.out).more b23.out.size) R13.out).mono ?_; rintro r w14 ⟨rfl, hg⟩; have B15 := Kept.mk (bl_next B13.out hg.below); clear hg)
        | (go_at_call 22; refine (reference_any A8 n8 c8 rs w12 ((R8.out.below b812.out).more b812.out.size) (by have h1 := R8.out.len; have h2 := HN.out; omega)).mono ?_; rintro r w13 ⟨A13, n13, c13, rfl, hr, hb⟩; have R13 := Kept.mk hr; have b23 := Kept.mk hb; have B13 := Kept.mk (bl_next B12.out hb); clear hr hb R8)
        | (go_at_call 22; refine (reference_any A10 n10 c10 rs w11 R11.out (by have h1 := R11.out.len; have h2 := HN.out; omega)).mono ?_; rintro r w12 ⟨A12, n12, c12, rfl, hr, hb⟩; have R12 := Kept.mk hr; have b812 := Kept.mk (bl_next b811.out hb); have B12 := Kept.mk (bl_next B11.out hb); clear hr hb R11)
        | (go_at_call 17; refine (alive13_any w10).mono ?_; rintro r w11 ⟨rfl, hb⟩; have R11 := Kept.mk ((R10.out.below hb).more hb.size); have b811 := Kept.mk (bl_next b810.out hb); have B11 := Kept.mk (bl_next B10.out hb); clear hb R10)
        | (go_at_call 24; refine (decode_any A7 A9 n7 c7 n9 c9 T (Rc.encB T rs) w9 ((T8.out.below b89.out).more b89.out.size) O9.out (by have h1 := O9.out.len; have h2 := LE.out; omega)).mono ?_; rintro r w10 ⟨A10, n10, c10, rfl, ho, hb⟩; rw [hdec.out] at ho ⊢; have R10 := Kept.mk ho; have b810 := Kept.mk (bl_next b89.out hb); have B10 := Kept.mk (bl_next B9.out hb); clear ho hb hdec)
        | (go_at_call 17; refine (alive13_any w9).mono ?_; rintro r w11 ⟨rfl, hb⟩; have B15 := Kept.mk (bl_next B9.out hb); clear hb)
        | (go_at_call 20; refine (encode_any A7 A8 n7 c7 n8 c8 T rs w8 T8.out TB.out.1 R8.out (by omega) (by have h1 := R8.out.len; have h2 := HN.out; omega) (Rc.short_rec HSH.out) (Rc.encB_le (by have := HT.out; omega) HN.out HSH.out F1.out)).mono ?_; rintro r w9 ⟨A9, n9, c9, rfl, ho, hb⟩; obtain ⟨E, hE⟩ : ∃ E, E = Rc.enc T rs := ⟨_, rfl⟩; rw [← hE] at ho ⊢; have RN : E = ([], 23) ∨ (E = (Rc.encB T rs, 0) ∧ Kept (Rc.dec T (Rc.encB T rs) = (rs, 0))) := (by rw [hE]; exact (Rc.round TB.out (by have := HT.out; omega) HN.out IN.out HSH.out).imp id fun h => ⟨h.1, ⟨h.2⟩⟩); have O9 := Kept.mk ho.rd; have H9 := Kept.mk ho.len; have b89 := Kept.mk hb; have B9 := Kept.mk (bl_next B8.out hb); clear ho hb hE; rcases RN with rfl | ⟨rfl, hdec⟩)
        | (go_at_call 19; refine (program_any A1 n1 c1 rs w7 ((V1.out.below B7.out).more B7.out.size) (by omega)).mono ?_; rintro r w8 ⟨A8, n8, c8, rfl, hr, hb⟩; have R8 := Kept.mk hr; have T8 := Kept.mk ((T7.out.below hb).more hb.size); have B8 := Kept.mk (bl_next B7.out hb); clear hr hb)
        | (go_at_call 18; refine (table_any A2 n2 c2 ALL w6 ((O.out.rd.below b6.out).more b6.out.size) (by omega)).mono ?_; rintro r w7 ⟨A7, n7, c7, T, rfl, ht, ho, hb⟩; have TB := Kept.mk ht; have T7 := Kept.mk ho.rd; have h7 : n7 ≤ 500 := (by have h1 := ho.len; have h2 := ht.len; have h4 := O.out.len; have h6 := (H5.out (by simp)).1; omega); have HT : Kept (T.length ≤ 500) := ⟨by have h1 := ho.len; omega⟩; have LE := Kept.mk (Rc.encB_le2 (T := T) (by have := HT.out; omega) HN.out HSH.out F1.out); have B7 := Kept.mk (bl_next B6.out hb); clear ht ho hb)
        | (go_at_call 17; refine (alive13_any w6).mono ?_; rintro r w8 ⟨rfl, hb⟩; have B15 := Kept.mk (bl_next B6.out hb); clear hb)
        | (go_at_call 15; refine (long_any A2 n2 c2 w5.heap.size ALL w5 ((O.out.rd.below b5.out).more b5.out.size) (Nat.le_refl _) FA.out).mono ?_; rintro r w6 ⟨v6, rfl, hv1, hv2, hg⟩; have b6 := Kept.mk (bl_next b5.out hg.below); have B6 := Kept.mk (bl_next B5.out hg.below); clear hg hv2; rcases hv1 with rfl | rfl)
        | (go_at_call 17; refine (alive13_any w5).mono ?_; rintro r w8 ⟨rfl, hb⟩; have B15 := Kept.mk (bl_next B5.out hb); clear hb)
        | (go_at_call 14; refine (large10_any A2 n2 c2 wr.heap.size ALL wr O.out.rd (Nat.le_refl _) FA.out).mono ?_; rintro r w5 ⟨v5, rfl, hv1, hv2, hg⟩; have H5 := Kept.mk hv2; have b5 := Kept.mk hg.below; have B5 := Kept.mk (bl_next B0.out hg.below); clear hg hv2; rcases hv1 with rfl | rfl))

      all_goals go_ret
      all_goals first | exact ⟨rfl, B15.out⟩ | exact ⟨by rw [show n9 = 0 from H9.out]; rfl, B15.out⟩
end Go.Proofs.Ytglnghdomoebfaa
