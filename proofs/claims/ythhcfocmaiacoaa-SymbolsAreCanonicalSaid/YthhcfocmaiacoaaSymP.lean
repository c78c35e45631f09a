/- Chapter 10: the laws. -/
import Derived.Test.YthhcfocmaiacoaaSymK
namespace Go.Proofs.Ythhcfocmaiacoaa
open Go.RowKit Go.Shelf

theorem find_any (A : Option Addr) (n c : Nat) (T : List ByteArray) (s : ByteArray) (w : World) (hv : RdS w w.heap.size A n c T) (hS : Sy.Srt T) (hn : n ≤ 1000000) :
    Calls Try.prog 19 #[.slice A n c, .string s] w fun e w' => ∃ (v : Int) (b : Bool), e = .returned (.tuple #[.int .i64 v, .bool b]) ∧ ((b = true ∧ 0 ≤ v ∧ Sy.idxI T s = v) ∨ (b = false ∧ v = 0 ∧ Sy.idxI T s = -1)) ∧ Below w.heap.size w w' :=
  (sindex_any A n c T s w hv hS hn).mono fun e w' ⟨h1, q, h2⟩ => ⟨_, _, h1, by
    unfold Sy.idxI
    cases h : Sy.idx T s with
    | none => exact .inr ⟨rfl, rfl, rfl⟩
    | some k => exact .inl ⟨rfl, by simp, rfl⟩, by rw [h2]; exact below_drewN (Below.refl _ _) q⟩
theorem Sy.dec_enc_canon {l : List UInt8} (h : (Sy.dec l).2 = 0) : Sy.enc (Sy.dec l).1 = (l, 0) ∧ (Sy.dec l).1.length ≤ l.length ∧ ∀ s ∈ (Sy.dec l).1, s.size ≤ 65535 := by
  obtain ⟨h1, h2, h3, h4⟩ := Sy.dec_canon (T := (Sy.dec l).1) (Prod.ext rfl h)
  refine ⟨?_, h3, h4⟩
  unfold Sy.enc
  rw [if_neg (by rw [Sy.hasLong_no.2 h4]; simp), if_pos (Sy.ascB_iff.2 h1), h2]
set_option maxRecDepth 100000 in
set_option maxHeartbeats 8000000 in
theorem law_finds (A : Option Addr) (n c : Nat) (L : List ByteArray) (s : ByteArray) (w : World) (hv : RdS w w.heap.size A n c L) (hf : Sy.Fit L) :
    Calls Try.prog 3 #[.slice A n c, .string s] w fun r w' => r = .returned (.bool true) ∧ Below w.heap.size w w' := by
  have V := Kept.mk hv
  have F := Kept.mk hf
  clear hv hf
  go_enter Try.func3, Try.ntmps3
  go_wp2_with (first
    | (go_at_call 17; refine (alive10_any w5).mono ?_; rintro r w8 ⟨rfl, hb⟩; have B9 := Kept.mk (bl_next B5.out hb); clear hb)
    | (go_at_call 20; refine (refIndex_any A3 n3 c3 T s w4 ((T3.out.below b4.out).more b4.out.size)).mono ?_; rintro r w5 ⟨rfl, hw⟩; rw [HI.out]; have B5 : Kept (Below w.heap.size w w5) := ⟨by rw [hw]; exact B4.out⟩; clear hw)
    | (go_at_call 19; refine (find_any A3 n3 c3 T s w3 T3.out TB.out.1 (by omega)).mono ?_; rintro r w4 ⟨v, b, rfl, hc, hb⟩; have b4 := Kept.mk hb; have B4 := Kept.mk (bl_next B3.out hb); clear hb; rcases hc with ⟨rfl, hv0, hi⟩ | ⟨rfl, rfl, hi⟩ <;> have HI := Kept.mk hi <;> clear hi)
    | (go_at_call 18; refine (table_any A n c L w2 ((V.out.below B2.out).more B2.out.size) (by have := (H1.out (by simp)).1; omega)).mono ?_; rintro r w3 ⟨A3, n3, c3, T, rfl, ht, ho, hb⟩; have TB := Kept.mk ht; have T3 := Kept.mk ho.rd; have h3 : n3 ≤ 500 := (by have h1 := ho.len; have h2 := ht.len; have h4 := V.out.len; have h6 := (H1.out (by simp)).1; omega); have B3 := Kept.mk (bl_next B2.out hb); clear ht ho hb)
    | (go_at_call 17; refine (alive10_any w2).mono ?_; rintro r w6 ⟨rfl, hb⟩; have B9 := Kept.mk (bl_next B2.out hb); clear hb)
    | (go_at_call 16; refine (long_any A n c w1.heap.size L w1 ((V.out.below B1.out).more B1.out.size) (Nat.le_refl _) F.out).mono ?_; rintro r w2 ⟨v2, rfl, hv1, hv2, hg⟩; have B2 := Kept.mk (bl_next B1.out hg.below); clear hg hv2; rcases hv1 with rfl | rfl)
    | (go_at_call 17; refine (alive10_any w1).mono ?_; rintro r w6 ⟨rfl, hb⟩; have B9 := Kept.mk (bl_next B1.out hb); clear hb)
    | (go_at_call 15; refine (large10_any A n c w.heap.size L w V.out (Nat.le_refl _) F.out).mono ?_; rintro r w1 ⟨v, rfl, hv1, hv2, hg⟩; have H1 := Kept.mk hv2; have B1 := Kept.mk hg.below; clear hg hv2; rcases hv1 with rfl | rfl))
  all_goals go_ret
  all_goals first | exact ⟨rfl, B9.out⟩ | exact ⟨by simp; omega, B9.out⟩
set_option maxRecDepth 100000 in
set_option maxHeartbeats 8000000 in
theorem law_encodes (A : Option Addr) (n c : Nat) (L : List ByteArray) (w : World) (hv : RdS w w.heap.size A n c L) (hf : Sy.Fit L) :
    Calls Try.prog 4 #[.slice A n c] w fun r w' => r = .returned (.bool true) ∧ Below w.heap.size w w' := by
  have V := Kept.mk hv
  have F := Kept.mk hf
  clear hv hf
  go_enter Try.func4, Try.ntmps4
  go_wp2_with (first
    | (go_at_call 23; refine (equal_is _ _ _ _ _ _ E.1 E.1 true _ _ _ P4.out O4.out (by simp)).mono ?_; rintro r w5 ⟨rfl, hw⟩; have B9 : Kept (Below w.heap.size w w5) := ⟨by rw [← hw]; exact B4.out⟩; clear hw)
    | (go_at_call 17; refine (alive10_any w3).mono ?_; rintro r w4 ⟨rfl, hb⟩; have B4 := Kept.mk (bl_next B3.out hb); have O4 := Kept.mk ((O3.out.below hb).more hb.size); have P4 := Kept.mk ((P3.out.below hb).more hb.size); clear hb)
    | (go_at_call 22; refine (refEncode10_any A n c L w2 ((V.out.below B2.out).more B2.out.size) F.out (by have := (H1.out (by simp)).1; omega)).mono ?_; rintro r w3 ⟨A3, n3, c3, rfl, ho, hb⟩; rw [← HE.out] at ho ⊢; have O3 := Kept.mk ho.rd; have P3 := Kept.mk ((P2.out.below hb).more hb.size); have B3 := Kept.mk (bl_next B2.out hb); clear ho hb)
    | (go_at_call 21; refine (encodeS_any A n c L w1 ((V.out.below B1.out).more B1.out.size) F.out (by have := (H1.out (by simp)).1; omega)).mono ?_; rintro r w2 ⟨A2, n2, c2, rfl, ho, hb⟩; obtain ⟨E, hE⟩ : ∃ E, E = Sy.enc L := ⟨_, rfl⟩; have HE := Kept.mk hE; rw [← hE] at ho ⊢; clear hE; have P2 := Kept.mk ho.rd; have B2 := Kept.mk (bl_next B1.out hb); clear ho hb)
    | (go_at_call 17; refine (alive10_any w1).mono ?_; rintro r w6 ⟨rfl, hb⟩; have B9 := Kept.mk (bl_next B1.out hb); clear hb)
    | (go_at_call 15; refine (large10_any A n c w.heap.size L w V.out (Nat.le_refl _) F.out).mono ?_; rintro r w1 ⟨v, rfl, hv1, hv2, hg⟩; have H1 := Kept.mk hv2; have B1 := Kept.mk hg.below; clear hg hv2; rcases hv1 with rfl | rfl))
  all_goals go_ret
  all_goals first | exact ⟨rfl, B9.out⟩ | exact ⟨by simp, B9.out⟩
set_option maxRecDepth 100000 in
set_option maxHeartbeats 8000000 in
theorem law_tables (A : Option Addr) (n c : Nat) (L : List ByteArray) (w : World) (hv : RdS w w.heap.size A n c L) (hf : Sy.Fit L) :
    Calls Try.prog 5 #[.slice A n c] w fun r w' => r = .returned (.bool true) ∧ Below w.heap.size w w' := by
  have V := Kept.mk hv
  have F := Kept.mk hf
  clear hv hf
  go_enter Try.func5, Try.ntmps5
  go_wp2_with (first
    | (go_at_call 25; refine (eqS_any A A2 n n c c2 w6.heap.size w2.heap.size L w6 ((V.out.below B6.out).more B6.out.size) ((M2.out.below b26.out))).mono ?_; rintro r w7 ⟨rfl, q7, hq7⟩; have B9 : Kept (Below w.heap.size w w7) := ⟨by rw [hq7]; exact below_drewN B6.out q7⟩; clear hq7)
    | (go_at_call 25; refine (eqS_any A4 A5 n4 n5 c4 c5 w5.heap.size w5.heap.size T w5 ((T4.out.below b45.out).more b45.out.size) T5.out).mono ?_; rintro r w6 ⟨rfl, q6, hq6⟩; have B6 : Kept (Below w.heap.size w w6) := ⟨by rw [hq6]; exact below_drewN B5.out q6⟩; have b26 : Kept (Below w2.heap.size w2 w6) := ⟨by rw [hq6]; exact below_drewN b25.out q6⟩; clear hq6 T4 T5)
    | (go_at_call 18; refine (table_any A n c L w4 ((V.out.below B4.out).more B4.out.size) (by have := (H1.out (by simp)).1; omega)).mono ?_; rintro r w5 ⟨A5, n5, c5, T', rfl, ht, ho, hb⟩; obtain rfl := TB.out.uniq ht; have T5 := Kept.mk ho.rd; have b45 := Kept.mk hb; have b25 := Kept.mk (bl_next b24.out hb); have B5 := Kept.mk (bl_next B4.out hb); clear ht ho hb)
    | (go_at_call 26; refine (stable_any A n c L w3 ((V.out.below B3.out).more B3.out.size) (by have := (H1.out (by simp)).1; omega)).mono ?_; rintro r w4 ⟨A4, n4, c4, T, rfl, ht, hr, hb⟩; have TB := Kept.mk ht; have T4 := Kept.mk hr; have b24 := Kept.mk (bl_next b23.out hb); have B4 := Kept.mk (bl_next B3.out hb); clear ht hr hb)
    | (go_at_call 17; refine (alive10_any w2).mono ?_; rintro r w3 ⟨rfl, hb⟩; have b23 := Kept.mk hb; have B3 := Kept.mk (bl_next B2.out hb); clear hb)
    | (go_at_call 24; refine (cloneS_any A n c w1.heap.size L w1 ((V.out.below B1.out).more B1.out.size) (Nat.le_refl _) (by have := (H1.out (by simp)).1; omega)).mono ?_; rintro r w2 ⟨A2, c2, rfl, ho, hb⟩; have M2 := Kept.mk ho.rd; have B2 := Kept.mk (bl_next B1.out hb); clear ho hb)
    | (go_at_call 17; refine (alive10_any w1).mono ?_; rintro r w6 ⟨rfl, hb⟩; have B9 := Kept.mk (bl_next B1.out hb); clear hb)
    | (go_at_call 15; refine (large10_any A n c w.heap.size L w V.out (Nat.le_refl _) F.out).mono ?_; rintro r w1 ⟨v, rfl, hv1, hv2, hg⟩; have H1 := Kept.mk hv2; have B1 := Kept.mk hg.below; clear hg hv2; rcases hv1 with rfl | rfl))
  all_goals go_ret
  all_goals first | exact ⟨rfl, B9.out⟩ | exact ⟨by simp, B9.out⟩
set_option maxRecDepth 100000 in
set_option maxHeartbeats 8000000 in
theorem law_decodes (A : Option Addr) (n c : Nat) (l : List UInt8) (w : World) (hv : RdB w w.heap.size A n c l) :
    Calls Try.prog 6 #[.slice A n c] w fun r w' => r = .returned (.bool true) ∧ Below w.heap.size w w' := by
  have V := Kept.mk hv
  have hlc := hv.1
  have hcm := hv.2.1
  unfold maxLen at hcm
  clear hv
  by_cases h5 : n ≤ 200000
  · have h5' : ¬ (200000 : Int) < (n : Int) := by omega
    go_enter Try.func6, Try.ntmps6
    go_wp2_with (first
      | (go_at_call 25; refine (eqS_any A1 A2 n1 n2 c1 c2 w3.heap.size w3.heap.size D.1 w3 R3.out S3.out).mono ?_; rintro r w7 ⟨rfl, q7, hq7⟩; have B9 : Kept (Below w.heap.size w w7) := ⟨by rw [hq7]; exact below_drewN B3.out q7⟩; clear hq7)
      | (go_at_call 17; refine (alive10_any w2).mono ?_; rintro r w3 ⟨rfl, hb⟩; have R3 := Kept.mk ((R2.out.below hb).more hb.size); have S3 := Kept.mk ((S2.out.below hb).more hb.size); have B3 := Kept.mk (bl_next B2.out hb); clear hb)
      | (go_at_call 28; refine (refDecode10_any A n c l w1 ((V.out.below B1.out).more B1.out.size) (by omega)).mono ?_; rintro r w2 ⟨A2, n2, c2, rfl, ho, hb⟩; rw [← HD.out] at ho ⊢; have S2 := Kept.mk ho; have R2 := Kept.mk ((R1.out.below hb).more hb.size); have B2 := Kept.mk (bl_next B1.out hb); clear ho hb)
      | (go_at_call 27; refine (decodeS_any A n c l w V.out (by omega)).mono ?_; rintro r w1 ⟨A1, n1, c1, rfl, ho, hb⟩; obtain ⟨D, hD⟩ : ∃ D, D = Sy.dec l := ⟨_, rfl⟩; have HD := Kept.mk hD; rw [← hD] at ho ⊢; clear hD; have R1 := Kept.mk ho; have B1 := Kept.mk hb; clear ho hb))
    all_goals go_ret
    all_goals first | exact ⟨rfl, B9.out⟩ | exact ⟨by simp, B9.out⟩
  · have h5' : (200000 : Int) < (n : Int) := by omega
    go_enter Try.func6, Try.ntmps6
    go_wp2_with (go_at_call 17; refine (alive10_any w).mono ?_; rintro r w6 ⟨rfl, hb⟩; have B9 := Kept.mk hb; clear hb)
    go_ret
    exact ⟨rfl, B9.out⟩
set_option maxRecDepth 100000 in
set_option maxHeartbeats 8000000 in
theorem law_canonical (A : Option Addr) (n c : Nat) (l : List UInt8) (w : World) (hv : RdB w w.heap.size A n c l) :
    Calls Try.prog 8 #[.slice A n c] w fun r w' => r = .returned (.bool true) ∧ Below w.heap.size w w' := by
  have V := Kept.mk hv
  have HN := Kept.mk hv.len
  have hlc := hv.1
  have hcm := hv.2.1
  unfold maxLen at hcm
  clear hv
  by_cases h5 : n ≤ 200000
  · have h5' : ¬ (200000 : Int) < (n : Int) := by omega
    go_enter Try.func8, Try.ntmps8
    go_wp2_with (first
      | (go_at_call 23; refine (equal_is _ _ _ _ _ _ l l true _ _ _ ((V.out.below B4.out).more B4.out.size) O4.out (by simp)).mono ?_; rintro r w5 ⟨rfl, hw⟩; have B9 : Kept (Below w.heap.size w w5) := ⟨by rw [← hw]; exact B4.out⟩; clear hw)
      | (go_at_call 17; refine (alive10_any w3).mono ?_; rintro r w4 ⟨rfl, hb⟩; have O4 := Kept.mk ((O3.out.below hb).more hb.size); have B4 := Kept.mk (bl_next B3.out hb); clear hb)
      | (go_at_call 21; refine (encodeS_any A1 n1 c1 T w1 R1.out (by intro s hs; have := (CN.out.1 he).2.2 s hs; unfold maxLen; omega) (by have h1 := R1.out.len; have h2 := (CN.out.1 he).2.1; have h3 := HN.out; omega)).mono ?_; rintro r w3 ⟨A3, n3, c3, rfl, ho, hb⟩; rw [(CN.out.1 he).1] at ho ⊢; have O3 := Kept.mk ho.rd; have B3 := Kept.mk (bl_next B1.out hb); clear ho hb)
      | (go_at_call 17; refine (alive10_any w1).mono ?_; rintro r w4 ⟨rfl, hb⟩; have B9 := Kept.mk (bl_next B1.out hb); clear hb)
      | (go_at_call 27; refine (decodeS_any A n c l w V.out (by omega)).mono ?_; rintro r w1 ⟨A1, n1, c1, rfl, ho, hb⟩; have CN0 : (Sy.dec l).2 = 0 → Sy.enc (Sy.dec l).1 = (l, 0) ∧ (Sy.dec l).1.length ≤ l.length ∧ ∀ s ∈ (Sy.dec l).1, s.size ≤ 65535 := (fun h => Sy.dec_enc_canon h); have CN1 : (Sy.dec l).2 ≠ 0 → n1 = 0 := (fun h => by have h1 := ho.len; rw [Sy.dec_bad h] at h1; exact h1); have CN := Kept.mk (And.intro CN0 CN1); clear CN0 CN1; generalize Sy.dec l = D at *; obtain ⟨T, e⟩ := D; have R1 := Kept.mk ho; have B1 := Kept.mk hb; clear ho hb; by_cases he : e = 0))
    all_goals go_ret
    all_goals first | exact ⟨rfl, B9.out⟩ | exact ⟨by rw [CN.out.2 he]; rfl, B9.out⟩
  · have h5' : (200000 : Int) < (n : Int) := by omega
    go_enter Try.func8, Try.ntmps8
    go_wp2_with (go_at_call 17; refine (alive10_any w).mono ?_; rintro r w6 ⟨rfl, hb⟩; have B9 := Kept.mk hb; clear hb)
    go_ret
    exact ⟨rfl, B9.out⟩
theorem Sy.long_tab {L T : List ByteArray} (h : Sy.Tab L T) : Sy.hasLong T = Sy.hasLong L := by
  cases hL : Sy.hasLong L with
  | false => exact Sy.hasLong_no.2 fun s hs => Sy.hasLong_no.1 hL s ((h.2 s).1 hs)
  | true =>
    cases hT : Sy.hasLong T with
    | true => rfl
    | false =>
      have : Sy.hasLong L = false := Sy.hasLong_no.2 fun s hs => Sy.hasLong_no.1 hT s ((h.2 s).2 hs)
      rw [hL] at this; cases this
set_option maxRecDepth 100000 in
set_option maxHeartbeats 8000000 in
theorem law_sround (A : Option Addr) (n c : Nat) (L : List ByteArray) (w : World) (hv : RdS w w.heap.size A n c L) (hf : Sy.Fit L) :
    Calls Try.prog 7 #[.slice A n c] w fun r w' => r = .returned (.bool true) ∧ Below w.heap.size w w' := by
  have V := Kept.mk hv
  have F := Kept.mk hf
  have HN := Kept.mk hv.len
  have hlc := hv.1
  have hcm := hv.2.1
  unfold maxLen at hcm
  have FT : Kept (∀ T, Sy.Tab L T → ∀ s ∈ T, s.size ≤ maxLen) := ⟨fun T ht s hs => hf s ((ht.2 s).1 hs)⟩
  have fin : ∀ T, Sy.Tab L T → (Sy.hasLong L = true → Sy.enc T = ([], 7)) ∧ (Sy.hasLong L = false → Sy.enc T = (Sy.encB T, 0)) := fun T ht => by
    refine ⟨fun h => ?_, fun h => ?_⟩
    · unfold Sy.enc; rw [if_pos (by rw [Sy.long_tab ht]; exact h)]
    · unfold Sy.enc; rw [if_neg (by rw [Sy.long_tab ht, h]; simp), if_pos (Sy.ascB_iff.2 ht.1)]
  have FIN := Kept.mk fin
  clear hv hf fin
  cases hlong : Sy.hasLong L with
  | true =>
    have HL := Kept.mk hlong
    clear hlong
    go_enter Try.func7, Try.ntmps7
    go_wp2_with (first
      | (go_at_call 27; refine (decodeS_any A3 n3 c3 [] w3 O3.out (by have h1 := O3.out.len; rw [h1]; decide)).mono ?_; rintro r w4 ⟨A4, n4, c4, rfl, ho, hb⟩; generalize (Sy.dec []).2 = d; have B4 := Kept.mk (bl_next B3.out hb); clear ho hb)
      | (go_at_call 21; refine (encodeS_any A2 n2 c2 T w2 R2.out (FT.out T TB.out) (by omega)).mono ?_; rintro r w3 ⟨A3, n3, c3, rfl, ho, hb⟩; rw [(FIN.out T TB.out).1 HL.out] at ho ⊢; have O3 := Kept.mk ho.rd; have B3 := Kept.mk (bl_next B2.out hb); clear ho hb)
      | (go_at_call 26; refine (stable_any A n c L w1 ((V.out.below B1.out).more B1.out.size) (by have := (H1.out (by simp)).1; omega)).mono ?_; rintro r w2 ⟨A2, n2, c2, T, rfl, ht, hr, hb⟩; have hn2 : n2 ≤ 500 := (by have h1 := hr.len; have h2 := ht.len; have h3 := HN.out; have h4 := (H1.out (by simp)).1; omega); have TB := Kept.mk ht; have R2 := Kept.mk hr; have B2 := Kept.mk (bl_next B1.out hb); clear ht hr hb)
      | (go_at_call 17; refine (alive10_any w1).mono ?_; rintro r w6 ⟨rfl, hb⟩; have B9 := Kept.mk (bl_next B1.out hb); clear hb)
      | (go_at_call 15; refine (large10_any A n c w.heap.size L w V.out (Nat.le_refl _) F.out).mono ?_; rintro r w1 ⟨v, rfl, hv1, hv2, hg⟩; have H1 := Kept.mk hv2; have B1 := Kept.mk hg.below; clear hg hv2; rcases hv1 with rfl | rfl))
    any_goals (go_ret; exact ⟨rfl, B9.out⟩)
    clear H1 B1 B2 B3 R2 O3
    go_loopw [28] (fun i wr => ∃ k : Nat, k ≤ n ∧ i = .int .i64 k ∧ Kept (∀ s ∈ L.take k, s.size ≤ 65535) ∧ wr = w4) (fun i _ => n - (intOf i).toNat)
    case atStart => exact ⟨0, by omega, rfl, ⟨by simp⟩, rfl⟩
    case round =>
      obtain ⟨k, hk, rfl, hd, hw⟩ := hrel
      have hw := hw.symm
      subst hw
      by_cases hlt : k < n
      · have hkl : k < L.length := by rw [← HN.out]; exact hlt
        obtain ⟨b, off, rfl, -, c0⟩ := (V.out.below B4.out).at_ hkl
        have hs := F.out _ (List.getElem_mem hkl)
        have HN2 : Kept (L[k].size ≤ 65535 → ∀ s ∈ L.take (k + 1), s.size ≤ 65535) := ⟨fun h => by
          rw [List.take_succ_eq_append_getElem hkl]
          intro s hs
          rcases List.mem_append.1 hs with hs | hs
          · exact hd.out s hs
          · rw [List.mem_singleton.1 hs]; exact h⟩
        unfold maxLen at hs
        clear hd
        generalize L[k] = x at *
        by_cases hx : 65535 < x.size
        · have hx' : (65535 : Int) < (x.size : Int) := by omega
          clear hx
          go_wp2_with (go_at_call 17; refine (alive10_any w4).mono ?_; rintro r w6 ⟨rfl, hb⟩; have B9 := Kept.mk (bl_next B4.out hb); clear hb)
          go_ret
          exact ⟨rfl, B9.out⟩
        · have hN := Kept.mk (HN2.out (by omega))
          have hx' : ¬ (65535 : Int) < (x.size : Int) := by omega
          clear hx
          go_wp2
          go_roundw
          case rel => exact ⟨k + 1, by omega, by go_num, hN, by simp⟩
          case measure => simp [intOf]; omega
      · exfalso
        have h1 : ∀ s ∈ L, s.size ≤ 65535 := by have := hd.out; rwa [List.take_of_length_le (by have := HN.out; omega)] at this
        have h2 := Sy.hasLong_no.2 h1
        rw [HL.out] at h2
        cases h2
  | false =>
    have HL := Kept.mk hlong
    have SZ := Kept.mk (Sy.hasLong_no.1 hlong)
    clear hlong
    go_enter Try.func7, Try.ntmps7
    go_wp2_with (first
      | (go_at_call 27; refine (decodeS_any A3 n3 c3 (Sy.encB T) w3 O3.out (by have h1 := O3.out.len; have h2 := LE.out; omega)).mono ?_; rintro r w4 ⟨A4, n4, c4, rfl, ho, hb⟩; rw [DE.out] at ho ⊢; have R4 := Kept.mk ho; have T4 := Kept.mk ((R2.out.below (bl_next b23.out hb)).more (bl_next b23.out hb).size); have B4 := Kept.mk (bl_next B3.out hb); clear ho hb)
      | (go_at_call 21; refine (encodeS_any A2 n2 c2 T w2 R2.out (FT.out T TB.out) (by omega)).mono ?_; rintro r w3 ⟨A3, n3, c3, rfl, ho, hb⟩; rw [(FIN.out T TB.out).2 HL.out] at ho ⊢; have O3 := Kept.mk ho.rd; have b23 := Kept.mk hb; have B3 := Kept.mk (bl_next B2.out hb); clear ho hb)
      | (go_at_call 26; refine (stable_any A n c L w1 ((V.out.below B1.out).more B1.out.size) (by have := (H1.out (by simp)).1; omega)).mono ?_; rintro r w2 ⟨A2, n2, c2, T, rfl, ht, hr, hb⟩; have hn2 : n2 ≤ 500 := (by have h1 := hr.len; have h2 := ht.len; have h3 := HN.out; have h4 := (H1.out (by simp)).1; omega); have LE := Kept.mk (Sy.encB_le (T := T) (fun s hs => SZ.out s ((ht.2 s).1 hs)) (by have h1 := hr.len; omega)); have DE := Kept.mk (Sy.dec_enc (T := T) ht.1 (by have h1 := hr.len; unfold Rc.mx; omega) (fun s hs => SZ.out s ((ht.2 s).1 hs))); have TB := Kept.mk ht; have R2 := Kept.mk hr; have B2 := Kept.mk (bl_next B1.out hb); clear ht hr hb)
      | (go_at_call 17; refine (alive10_any w1).mono ?_; rintro r w6 ⟨rfl, hb⟩; have B9 := Kept.mk (bl_next B1.out hb); clear hb)
      | (go_at_call 15; refine (large10_any A n c w.heap.size L w V.out (Nat.le_refl _) F.out).mono ?_; rintro r w1 ⟨v, rfl, hv1, hv2, hg⟩; have H1 := Kept.mk hv2; have B1 := Kept.mk hg.below; clear hg hv2; rcases hv1 with rfl | rfl))
    any_goals (go_ret; exact ⟨rfl, B9.out⟩)
    clear H1 B1 B2 B3 b23 R2 O3
    go_loopw [28] (fun i wr => ∃ k : Nat, k ≤ n ∧ i = .int .i64 k ∧ wr = w4) (fun i _ => n - (intOf i).toNat)
    case atStart => exact ⟨0, by omega, rfl, rfl⟩
    case round =>
      obtain ⟨k, hk, rfl, hw⟩ := hrel
      have hw := hw.symm
      subst hw
      by_cases hlt : k < n
      · have hkl : k < L.length := by rw [← HN.out]; exact hlt
        obtain ⟨b, off, rfl, -, c0⟩ := (V.out.below B4.out).at_ hkl
        have hs := SZ.out _ (List.getElem_mem hkl)
        generalize L[k] = x at *
        have hx' : ¬ (65535 : Int) < (x.size : Int) := by omega
        go_wp2
        go_roundw
        case rel => exact ⟨k + 1, by omega, by go_num, by simp⟩
        case measure => simp [intOf]; omega
      · go_wp2_with (first
          | (go_at_call 17; refine (alive10_any w4).mono ?_; rintro r w6 ⟨rfl, hb⟩; have R6 := Kept.mk ((R4.out.below hb).more hb.size); have T6 := Kept.mk ((T4.out.below hb).more hb.size); have B6 := Kept.mk (bl_next B4.out hb); clear hb)
          | (go_at_call 25; refine (eqS_any A2 A4 n2 n4 c2 c4 w6.heap.size w6.heap.size T w6 T6.out R6.out).mono ?_; rintro r w7 ⟨rfl, q7, hq7⟩; have B9 : Kept (Below w.heap.size w w7) := ⟨by rw [hq7]; exact below_drewN B6.out q7⟩; clear hq7))
        go_ret
        exact ⟨rfl, B9.out⟩
end Go.Proofs.Ythhcfocmaiacoaa
