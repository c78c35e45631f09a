/- Chapter 13: the law RecordsPrefixes. -/
import Derived.Test.YtglnghdomoebfaaRecM
import Derived.Test.YtglnghdomoebfaaRecN
import Derived.Test.YtglnghdomoebfaaRecT
import Derived.Test.YtglnghdomoebfaaRecU
import Derived.Test.YtglnghdomoebfaaRecV
import Derived.Test.YtglnghdomoebfaaRecOk
namespace Go.Proofs.Ytglnghdomoebfaa
open Go.RowKit Go.Shelf

/-- what RecordsPrefixes needs -/
theorem Rc.prefixes {T : List ByteArray} {n : Nat} {rs : List RecV} (hT : Sy.Srt T) (hl : T.length ≤ 1000000) (hn : n = rs.length) (h : Short n rs) :
    (∃ B, enc T rs = (B, 0) ∧ (∀ k, k < B.length → dec T (B.take k) = ([], 3)) ∧ ∀ c, dec T (B ++ [c]) = ([], 4)) ∨ ∃ e, enc T rs = ([], e) ∧ e ≠ 0 := by
  by_cases h0 : err T rs = 0
  · obtain ⟨rsN, e1, e2⟩ := err_ok (short_mx h) h0
    have hm : T.length ≤ mx := by unfold mx; omega
    have hln : rsN.length ≤ mx := by rw [e1, List.length_map] at hn; have := h.1; unfold mx; omega
    refine .inl ⟨encB T rs, by unfold enc; rw [if_pos h0], fun k hk => ?_, fun c => ?_⟩
    · rw [e1] at hk ⊢; exact dec_pre hT hm hln e2 k hk
    · rw [e1]; exact dec_more hT hm hln e2 c
  · exact .inr ⟨err T rs, by unfold enc; rw [if_neg h0], h0⟩
theorem Rc.prefixes2 {T : List ByteArray} {n n8 : Nat} {rs : List RecV} {E : List UInt8 × Int} (hT : Sy.Srt T) (hl : T.length ≤ 1000000) (hn : n = rs.length) (h : Short n rs) (hE : E = enc T rs) :
    (∃ B, E = (B, 0) ∧ Kept ((∀ k, k < B.length → Rc.dec T (B.take k) = ([], 3)) ∧ ∀ c, Rc.dec T (B ++ [c]) = ([], 4)) ∧ ¬ (1000 : Int) < (n8 : Int) ∧ n8 ≤ 1000) ∨ (∃ B, E = (B, 0) ∧ (1000 : Int) < (n8 : Int)) ∨ ∃ e, E = ([], e) ∧ (e == 0) = false ∧ ¬ e = 0 := by
  rw [hE]
  rcases Rc.prefixes hT hl hn h with ⟨B, h1, h2⟩ | ⟨e, h1, h2⟩
  · rcases Nat.lt_or_ge 1000 n8 with h3 | h3
    · exact .inr (.inl ⟨B, h1, by omega⟩)
    · exact .inl ⟨B, h1, ⟨h2⟩, by omega, h3⟩
  · exact .inr (.inr ⟨e, h1, by simpa using h2, h2⟩)
set_option maxRecDepth 100000 in
set_option maxHeartbeats 16000000 in
theorem law_rprefixes (A1 : Option Addr) (n1 c1 : Nat) (rs : List RecV) (x : UInt8) (w : World) (hv1 : RdR w w.heap.size A1 n1 c1 rs) (hf1 : FitR rs) :
    Calls Try.prog 7 #[.slice A1 n1 c1, .int .u8 (x.toNat : Int)] w fun r w' => r = .returned (.bool true) ∧ Below w.heap.size w w' := by
  have V1 := Kept.mk hv1
  have F1 := Kept.mk hf1
  have HN := Kept.mk hv1.len
  obtain ⟨hlc1, hcm1⟩ := hv1.cap
  unfold maxLen at hcm1
  clear hv1 hf1
  by_cases hn10 : 10 < n1
  · have hn10' : (10 : Int) < (n1 : Int) := by omega
    go_enter Try.func7, Try.ntmps7
    go_wp2_with (first
      | (go_at_call 17; refine (alive13_any w3).mono ?_; rintro r w8 ⟨rfl, hb⟩; have B9 := Kept.mk (bl_next B3.out hb); clear hb)
      | (go_at_call 16; refine (large13_any A1 n1 c1 rs w V1.out F1.out).mono ?_; rintro r w3 ⟨v3, rfl, hv1, hv2, hb⟩; have B3 := Kept.mk hb; clear hb hv2; rcases hv1 with rfl | rfl))
    all_goals go_ret
    all_goals exact ⟨rfl, B9.out⟩
  have hn10' : ¬ (10 : Int) < (n1 : Int) := by omega
  go_enter Try.func7, Try.ntmps7
  go_wp2_with (first
    | (go_at_call 17; refine (alive13_any w3).mono ?_; rintro r w8 ⟨rfl, hb⟩; have B9 := Kept.mk (bl_next B3.out hb); clear hb)
    | (go_at_call 16; refine (large13_any A1 n1 c1 rs w V1.out F1.out).mono ?_; rintro r w3 ⟨v3, rfl, hv1, hv2, hb⟩; have SH := Kept.mk hv2; have B3 := Kept.mk hb; clear hb hv2; rcases hv1 with rfl | rfl))
  any_goals (go_ret; exact ⟨rfl, B9.out⟩)
  have hsh := SH.out (by simp)
  have hn300 : n1 ≤ 10 := by omega
  have HSH := Kept.mk hsh
  clear hsh SH
  go_loopw [5, 27] (fun o i wr => ∃ k : Nat, k ≤ n1 ∧ i = .int .i64 k ∧ ∃ A2 n2 c2, o = .slice A2 n2 c2 ∧ OwnS wr w.heap.size A2 n2 c2 (Rc.strsOf (rs.take k)) ∧ n2 ≤ 400 * k ∧ Below w.heap.size w wr) (fun _ i _ => n1 - (intOf i).toNat)
  case atStart => exact ⟨0, by omega, rfl, none, 0, 0, rfl, OwnS.nil _ _, by omega, B3.out⟩
  case round =>
    clear B3
    obtain ⟨k, hk, rfl, A2, n2, c2, rfl, ho, hn2, hb⟩ := hrel
    by_cases hlt : k < n1
    · have hkl : k < rs.length := by rw [← HN.out]; exact hlt
      obtain ⟨b, off, A3, n3, c3, A5, n5, c5, rfl, hL, hC, hc⟩ := V1.out.cells (Nat.le_refl _) hkl
      obtain ⟨r0, r1⟩ := hc wr hb
      have h3 := (HSH.out.2 _ (List.getElem_mem hkl)).1
      have hl3 := hL.len
      have hn3 : n3 ≤ 200 := by omega
      have hst := Rc.strsOf_take rs k hkl
      have hzb := hb.size
      have OO : Kept (OwnS (wr.alloc (.cells #[.slice A3 n3 c3, .slice A5 n5 c5] 49)) w.heap.size A2 n2 c2 (Rc.strsOf (rs.take k))) := ⟨World.ownsRow.alloc ho _⟩
      have BB := Kept.mk (hb.alloc hzb (.cells #[.slice A3 n3 c3, .slice A5 n5 c5] 49))
      have RL := Kept.mk ((hL.below BB.out).more BB.out.size)
      have HST := Kept.mk hst
      have H3 := Kept.mk hl3
      clear ho hb hL hC hc hl3 h3 hst
      generalize rs[k].1 = lk at *
      go_wp2_with (first
        | (go_at_call 27; refine (refStrings_any A3 n3 c3 lk _ RL.out (by omega)).mono ?_; rintro e w6 ⟨A6, n6, c6, rfl, ho6, hb6⟩; have O6 := Kept.mk ho6.rd; have B6 := Kept.mk (bl_next BB.out hb6); have P6 : Kept (OwnS w6 w.heap.size A2 n2 c2 (Rc.strsOf (rs.take k))) := ⟨own_below OO.out hb6 (fun g e => (own_lt OO.out g e).2)⟩; have hn6 : n6 ≤ 400 := (by have h1 := ho6.len; rw [Lb.strs_length] at h1; have := H3.out; omega); clear ho6 hb6)
        | (at_builtin; refine wpList_appS rfl (.tmp 31) (.tmp 34) rfl w.heap.size A2 n2 c2 _ rfl P6.out _ _ _ _ _ rfl O6.out (by omega) B6.out.size ?_; intro A7 c7 w7 hown7 hgrow7 hat7; have O7 := Kept.mk hown7; have B7 : Kept (Below w.heap.size w w7) := ⟨B6.out.grown hgrow7 B6.out.size (fun g e => (own_lt P6.out g e).1)⟩; clear hown7 hgrow7 hat7))
      go_roundw
      case rel => exact ⟨k + 1, by omega, by go_num, A7, n2 + n6, c7, rfl, by rw [HST.out]; exact O7.out, by omega, B7.out⟩
      case measure => simp [intOf]; omega
    · have ht : rs.take k = rs := List.take_of_length_le (by have := HN.out; omega)
      rw [ht] at ho
      have hn2b : n2 ≤ 4000 := by omega
      have FA : Kept (Sy.Fit (Rc.strsOf rs)) := ⟨Rc.strsOf_fit F1.out⟩
      generalize Rc.strsOf rs = ALL at *
      have O := Kept.mk ho
      have B0 := Kept.mk hb
      clear ho hb ht hn2
      go_wp2_with (first
        | (go_at_call 15; refine (long_any A2 n2 c2 w8.heap.size ALL w8 ((O.out.rd.below b8.out).more b8.out.size) (Nat.le_refl _) FA.out).mono ?_; rintro r w9 ⟨v9, rfl, hv1, hv2, hg⟩; have B9 := Kept.mk (bl_next B8.out hg.below); have O9 := Kept.mk (OwnB.keep O8.out hg.below); have T9 := Kept.mk (((T5.out.below b58.out).more b58.out.size).below hg.below |>.more hg.size); have b79 := Kept.mk (bl_next b78.out hg.below); clear hg hv2; rcases hv1 with rfl | rfl)
        | (go_at_call 17; refine (alive13_any w9).mono ?_; rintro r w11 ⟨rfl, hb⟩; have B15 := Kept.mk (bl_next B9.out hb); clear hb)
        | (go_at_call 17; refine (alive13_any w8).mono ?_; rintro r w11 ⟨rfl, hb⟩; have B15 := Kept.mk (bl_next B8.out hb); clear hb)
        | (go_at_call 21; refine (refEncode13_any A5 A7 n5 c5 n7 c7 T rs w7 ((T5.out.below b57.out).more b57.out.size) R7.out (by omega) (by have h1 := R7.out.len; have h2 := HN.out; omega) (Rc.short_rec HSH.out) (Rc.encB_le (by have := HT.out; omega) HN.out HSH.out F1.out)).mono ?_; rintro r w8 ⟨A8, n8, c8, rfl, ho, hb⟩; obtain ⟨E, hE⟩ : ∃ E, E = Rc.enc T rs := ⟨_, rfl⟩; rw [← hE] at ho ⊢; have H8 := ho.len; have RN := Rc.prefixes2 TB.out.1 (by have := HT.out; omega) HN.out HSH.out (n8 := n8) hE; have H8k := Kept.mk H8; have O8 := Kept.mk ho; have b58 := Kept.mk (bl_next b57.out hb); have b78 := Kept.mk hb; have b8 := Kept.mk (bl_next b7.out hb); have B8 := Kept.mk (bl_next B7.out hb); clear ho hb hE H8; rcases RN with ⟨B, rfl, HD, hk1, hk2⟩ | ⟨B, rfl, hk1⟩ | ⟨e, rfl, he, he2⟩)
        | (go_at_call 22; refine (reference_any A6 n6 c6 rs w6 R6.out (by have h1 := R6.out.len; have h2 := HN.out; omega)).mono ?_; rintro r w7 ⟨A7, n7, c7, rfl, hr, hb⟩; have R7 := Kept.mk hr; have b57 := Kept.mk (bl_next b56.out hb); have T7 := Kept.mk ((T5.out.below (bl_next b56.out hb)).more (bl_next b56.out hb).size); have b7 := Kept.mk (bl_next b6.out hb); have B7 := Kept.mk (bl_next B6.out hb); clear hr hb)
        | (go_at_call 19; refine (program_any A1 n1 c1 rs w5 ((V1.out.below B5.out).more B5.out.size) (by omega)).mono ?_; rintro r w6 ⟨A6, n6, c6, rfl, hr, hb⟩; have R6 := Kept.mk hr; have b56 := Kept.mk hb; have b6 := Kept.mk (bl_next b5.out hb); have B6 := Kept.mk (bl_next B5.out hb); clear hr hb)
        | (go_at_call 18; refine (table_any A2 n2 c2 ALL wr O.out.rd (by omega)).mono ?_; rintro r w5 ⟨A5, n5, c5, T, rfl, ht, ho, hb⟩; have TB := Kept.mk ht; have T5 := Kept.mk ho.rd; have h5 : n5 ≤ 4000 := (by have h1 := ho.len; have h2 := ht.len; have h4 := O.out.len; omega); have HT : Kept (T.length ≤ 4000) := ⟨by have h1 := ho.len; omega⟩; have b5 := Kept.mk hb; have B5 := Kept.mk (bl_next B0.out hb); clear ht ho hb))
      any_goals (go_ret; exact ⟨rfl, B15.out⟩)
      have HN8 : Kept (n8 = B.length) := ⟨H8k.out⟩
      have hrd := O9.out.rd
      have hlc8 := hrd.1
      have hcm8 := hrd.2.1
      unfold maxLen at hcm8
      clear hrd H8k O8 b58 b78 b8 B8 b57 b7 R7 b56 b6 B6 R6 b5 B5 T5
      go_loopw [62] (fun i wr => ∃ k : Nat, k ≤ n8 ∧ i = .int .i64 k ∧ Below w9.heap.size w9 wr) (fun i _ => n8 - (intOf i).toNat)
      case atStart => exact ⟨0, by omega, rfl, Below.refl _ _⟩
      case round =>
        obtain ⟨j, hj, rfl, hb⟩ := hrel
        by_cases hlt2 : j < n8
        · have hd := Kept.mk (HD.out.1 j (by have := HN8.out; omega))
          have RB : Kept (RdB wr wr.heap.size A8 j c8 (B.take j)) := ⟨((O9.out.rd.below hb).more hb.size).take hj⟩
          have RT := Kept.mk ((T9.out.below hb).more hb.size)
          have BB := Kept.mk hb
          have hj2 : j ≤ c8 := by omega
          clear hb
          go_wp2_with (go_at_call 24; refine (decode_any A5 A8 n5 c5 j c8 T (B.take j) wr RT.out RB.out (by omega)).mono ?_; rintro r w10 ⟨A10, n10, c10, rfl, ho, hb⟩; rw [hd.out] at ho ⊢; have B10 := Kept.mk (bl_next BB.out hb); clear ho hb)
          go_roundw
          case rel => exact ⟨j + 1, by omega, by go_num, B10.out⟩
          case measure => simp [intOf]; omega
        · have hd := Kept.mk (HD.out.2 x)
          have RT := Kept.mk ((T9.out.below hb).more hb.size)
          have OB := Kept.mk (OwnB.keep O9.out hb)
          have BB := Kept.mk hb
          have b7r : Kept (Below w7.heap.size w7 wr) := ⟨b79.out.trans (hb.mono b79.out.size)⟩
          clear hb
          go_wp2_with (first
            | (at_builtin; refine wpList_appB rfl (.tmp 78) (.tmp 80) rfl w7.heap.size A8 n8 c8 B rfl (World.ownsRow.alloc OB.out _) _ _ _ _ _ rfl (RdB.one wr x) (by omega) (by have := b7r.out.size; simp; omega) ?_; intro A12 c12 w12 hown12 hgrow12 hat12; have O12 := Kept.mk hown12.rd; have b712 : Kept (Below w7.heap.size w7 w12) := ⟨(b7r.out.alloc b7r.out.size _).grown hgrow12 (by have := b7r.out.size; simp; omega) (fun g e => (own_lt OB.out g e).1)⟩; clear hown12 hgrow12 hat12)
            | (go_at_call 17; refine (alive13_any w13).mono ?_; rintro r w14 ⟨rfl, hb⟩; have B15 := Kept.mk (bl_next B13.out hb); clear hb)
            | (go_at_call 24; refine (decode_any A5 A12 n5 c5 (n8 + 1) c12 T (B ++ [x]) w12 ((T7.out.below b712.out).more b712.out.size) O12.out (by omega)).mono ?_; rintro r w13 ⟨A13, n13, c13, rfl, ho, hb⟩; rw [hd.out] at ho ⊢; have B13 := Kept.mk (bl_next (bl_next B7.out b712.out) hb); clear ho hb))
          all_goals go_ret
          all_goals exact ⟨rfl, B15.out⟩
end Go.Proofs.Ytglnghdomoebfaa
