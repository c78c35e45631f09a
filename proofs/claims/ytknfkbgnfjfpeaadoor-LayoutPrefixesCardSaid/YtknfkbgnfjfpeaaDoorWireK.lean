/- alive of chapter 4; the law WireWrites. -/
import Derived.Test.YtknfkbgnfjfpeaaDoorWireJ
import Derived.Test.YtknfkbgnfjfpeaaDoorWireL0
namespace Go.Proofs.YtknfkbgnfjfpeaaDoor
open Go.RowKit Go.Shelf

theorem Wr.alive0 : Wr.str (⟨#[97, 98]⟩ : ByteArray).data.toList = [2, 97, 98] := by
  show Vi.enc 2 ++ [97, 98] = _
  rw [Vi.enc_lt (by omega)]; rfl
theorem Wr.alive1 : Wr.string [1, 97, 5] 0 0 1 = ([97], 2, 0) := by decide
theorem Wr.alive2 : Wr.fin [1, 97, 5] 2 0 = 4 := by decide
theorem Wr.alive3 : Wr.byte [1, 97, 5] 2 0 = (5, 3, 0) := by decide
theorem Wr.alive4 : Wr.fin [1, 97, 5] 3 0 = 0 := by decide
theorem grown_below {w w' : World} {p B : Nat} (h : w.grownBy w' (some p)) (hp : B ≤ p) (hB : B ≤ w.heap.size) : Below B w w' := (Below.refl _ w).grown h hB (fun g e => by cases e; exact hp)
theorem equal_is (A1 A2 : Option Addr) (n1 n2 c1 c2 : Nat) (l1 l2 : List UInt8) (b : Bool) (w : World) (B1 B2 : Nat) (h1 : RdB w B1 A1 n1 c1 l1) (h2 : RdB w B2 A2 n2 c2 l2) (hb : (l1 == l2) = b) :
    Calls Tryd.prog 19 #[.slice A1 n1 c1, .slice A2 n2 c2] w fun e w' => e = .returned (.bool b) ∧ w = w' := by
  have h := equal_any A1 A2 n1 n2 c1 c2 l1 l2 w B1 B2 h1 h2
  rw [hb] at h; exact h

set_option maxRecDepth 100000 in
set_option maxHeartbeats 2000000 in
theorem alive_any (w : World) : Calls Tryd.prog 15 #[] w fun e w' => e = .returned (.bool true) ∧ Below w.heap.size w w' := by
  have L := RdB.lit w [1, 97, 5] (by simp)
  have hb0 : Below w.heap.size w (w.alloc (.cells #[.int .u8 1, .int .u8 97, .int .u8 5] 5)) := (Below.refl _ w).alloc (Nat.le_refl _) _
  have R0 : Kept (RdB (w.alloc (.cells #[.int .u8 1, .int .u8 97, .int .u8 5] 5)) (w.heap.size + 1) (some ⟨w.heap.size, 0, none⟩) 3 3 [1, 97, 5]) := ⟨L⟩
  have B0 := Kept.mk hb0
  have HL : Kept (∀ W : World, RdB (W.alloc (.cells #[.int .u8 2, .int .u8 97, .int .u8 98] 5)) (W.heap.size + 1) (some ⟨W.heap.size, 0, none⟩) 3 3 [2, 97, 98]) := ⟨fun W => RdB.lit W [2, 97, 98] (by simp)⟩
  clear L hb0
  go_enter Tryd.func15, Tryd.ntmps15
  go_wp2_with (first
    | (go_at_call 23; refine (newReader_any _ _ _ _ [1, 97, 5] _ R0.out (by simp) (by omega)).mono ?_; rintro r w1 ⟨p, rfl, hp, hp1, hr, hb1⟩; have b1 := Kept.mk (bl_next B0.out hb1); have r1 := Kept.mk hr; have hp' : w.heap.size ≤ p := (by simp at hp; omega); clear hr hb1 hp)
    | (go_at_call 16; refine (appendBytes_any _ _ _ w1.heap.size [] ⟨#[97, 98]⟩ _ (OwnB.nil _ _) (Nat.le_refl _) (by decide)).mono ?_; rintro r w2 ⟨A2, n2, c2, rfl, ho2, hb2⟩; rw [Wr.alive0, List.nil_append] at ho2; have b2 := Kept.mk (bl_next b1.out hb2); have r2 := Kept.mk (r1.out.below hb2 hp1); have q2 := Kept.mk (ho2.rd.alloc (Nat.le_refl _) (.cells #[.int .u8 2, .int .u8 97, .int .u8 98] 5)); have l2 := Kept.mk (HL.out w2); clear ho2 hb2)
    | (go_at_call 19; refine (equal_is _ _ _ _ _ _ [2, 97, 98] [2, 97, 98] true _ _ _ q2.out l2.out (by decide)).mono ?_; rintro r w3 ⟨rfl, hw3⟩; have b3 : Kept (Below w.heap.size w w3) := ⟨by rw [← hw3]; exact b2.out.alloc b2.out.size _⟩; have r3 : Kept (Rdr w3 p [1, 97, 5] 0 0) := ⟨by rw [← hw3]; exact r2.out.box _⟩; clear q2 l2 hw3)
    | (go_at_call 28; refine (string_any p 0 [1, 97, 5] 0 1 w3 r3.out (by omega)).mono ?_; rintro r w4 ⟨rfl, hr4, hg4⟩; rw [Wr.alive1] at hr4 ⊢; have b4 := Kept.mk (b3.out.trans (grown_below hg4 hp' b3.out.size)); have r4 := Kept.mk hr4; clear hr4 hg4)
    | (go_at_call 26; refine (at_any p 2 [1, 97, 5] 0 _ r4.out).mono ?_; rintro r w5 ⟨rfl, rfl⟩)
    | (go_at_call 29; refine (end_any p 2 [1, 97, 5] 0 _ r4.out).mono ?_; rintro r w5 ⟨rfl, rfl⟩; rw [Wr.alive2])
    | (go_at_call 32; refine (byte_any p 2 [1, 97, 5] 0 w4 r4.out).mono ?_; rintro r w6 ⟨rfl, hr6, hg6⟩; rw [Wr.alive3] at hr6 ⊢; have b6 := Kept.mk (b4.out.trans (grown_below hg6 hp' b4.out.size)); have r6 := Kept.mk hr6; clear hr6 hg6 r4)
    | (go_at_call 29; refine (end_any p 3 [1, 97, 5] 0 _ r6.out).mono ?_; rintro r w7 ⟨rfl, rfl⟩; rw [Wr.alive4]))
  go_ret
  exact ⟨rfl, b6.out⟩

set_option maxRecDepth 100000 in
set_option maxHeartbeats 4000000 in
theorem law_writes (A : Option Addr) (n c : Nat) (l : List UInt8) (s : ByteArray) (id : UInt8) (w : World) (hv : RdB w w.heap.size A n c l) (hnb : c ≤ 140737488351232) (hs : s.size ≤ 140737488351232) (ht : Tab w) :
    Calls Tryd.prog 3 #[.slice A n c, .string s, .int .u8 (id.toNat : Int)] w fun e w' => e = .returned (.bool true) ∧ Below w.heap.size w w' := by
  have hlc := hv.1
  have hcm := hv.2.1
  unfold maxLen at hcm
  by_cases hbig : (2000 : Int) < (n : Int) + (s.size : Int)
  · clear hv ht
    go_enter Tryd.func3, Tryd.ntmps3
    go_wp2_with (go_at_call 15; refine (alive_any _).mono ?_; rintro e w1 ⟨rfl, hb1⟩)
    go_ret
    exact ⟨rfl, hb1⟩
  · have hsm : (n : Int) + (s.size : Int) ≤ 2000 := by omega
    have hsn : s.size ≤ 2000 := by omega
    have hnn : n ≤ 2000 := by omega
    have Hv := Kept.mk hv
    have HT := Kept.mk ht
    clear hv ht hbig
    go_enter Tryd.func3, Tryd.ntmps3
    have T1 := Hv
    have fr1 : Kept (l ++ Wr.str s.data.toList = l ++ Wr.str s.data.toList) := ⟨rfl⟩
    have hsd : s.data.toList.length ≤ 2000 := by rw [Array.length_toList]; exact hsn
    have hsl := Kept.mk (Wr.str_len s.data.toList (by omega))
    have hfl := Kept.mk (Wr.frame_len id s.data.toList (by omega))
    generalize hF : Wr.frame id s.data.toList = F at *
    have HF := Kept.mk hF
    clear hF
    go_upto_region 5 with (first
      | (go_at_call 17; refine (clone_any _ _ _ w.heap.size l _ T1.out (Nat.le_refl _) (by omega)).mono ?_; rintro r w1 ⟨A1, c1, rfl, ho1, hb1⟩; clear T1; have o1 := Kept.mk ho1; have b1 := Kept.mk hb1; clear ho1 hb1)
      | (go_at_call 16; refine (appendBytes_any _ _ _ w.heap.size l s _ o1.out b1.out.size (by omega)).mono ?_; rintro r w2 ⟨A2, n2, c2, rfl, ho2, hb2⟩; have p2 := Kept.mk ho2.rd; have b2 := Kept.mk (b1.out.trans hb2); clear ho2 hb2 o1 b1; have T2 := Kept.mk (Hv.out.below b2.out))
      | (go_at_call 17; refine (clone_any _ _ _ w.heap.size l _ T2.out b2.out.size (by omega)).mono ?_; rintro r w3 ⟨A3, c3, rfl, ho3, hb3⟩; clear T2; have o3 := Kept.mk ho3; have b3 := Kept.mk hb3; clear ho3 hb3)
      | (refine wpList_convS rfl (.tmp 23) rfl s rfl (by omega) ?_; intro c4 w4 hr4 hb4 hz4; have r4 := Kept.mk hr4; have o4 := Kept.mk (OwnB.keep o3.out hb4); have b4 := Kept.mk (bl_next b3.out hb4); have z4 : w3.heap.size + 1 ≤ w4.heap.size := (by omega); have T4 : Kept (Tab w4) := ⟨HT.out.below (bl_next b2.out b4.out)⟩; clear hr4 hb4 hz4 o3 b3)
      | (go_at_call 18; refine (appendSection_any _ _ _ _ _ _ w2.heap.size (w3.heap.size + 1) l s.data.toList id w4 o4.out r4.out z4 T4.out b4.out.size (by omega)).mono ?_; rintro r w5 ⟨A5, n5, c5, rfl, ho5, hb5⟩; rw [HF.out] at ho5; have y5 := Kept.mk ho5.rd; have b5 := Kept.mk (b4.out.trans hb5); have x5 := Kept.mk (p2.out.below b5.out); have e5 := Kept.mk (bl_next b2.out b5.out); clear ho5 hb5 o4 r4 b4 T4 p2))
    have z5 := b5.out.size
    go_wp2_with (first
      | (go_at_call 15; refine (alive_any _).mono ?_; rintro r w6 ⟨rfl, hb6⟩; have b6 := Kept.mk hb6; have T6 := Kept.mk (Hv.out.below (bl_next e5.out hb6)); have z6 := (bl_next e5.out hb6).size; clear hb6)
      | (go_at_call 17; refine (clone_any _ _ _ w.heap.size l _ T6.out z6 (by omega)).mono ?_; rintro r w7 ⟨A7, c7, rfl, ho7, hb7⟩; clear T6; have o7 := Kept.mk ho7; have b7 := Kept.mk (bl_next b6.out hb7); have z7 := hb7.size; clear ho7 hb7)
      | (go_at_call 20; refine (refBytes_any s _ (by omega)).mono ?_; rintro r w8 ⟨A8, n8, c8, rfl, ho8, hb8⟩; have hn8 : n8 ≤ 2010 := (by have h1 := ho8.len; have h2 := hsl.out; omega); have r8 := Kept.mk ho8.rd; have o8 := Kept.mk (OwnB.keep o7.out hb8); have b8 := Kept.mk (bl_next b7.out hb8); have z8 := hb8.size; clear ho8 hb8 o7 b7)
      | (at_builtin; refine wpList_appB rfl (.tmp 31) (.tmp 33) rfl w6.heap.size _ _ _ _ rfl o8.out _ _ _ _ _ rfl r8.out (by omega) (by omega) ?_; intro A9 c9 w9 hown9 hgrow9 hat9; have r9 := Kept.mk hown9.rd; have b9 := Kept.mk (b8.out.trans ((own_grown_below o8.out (by omega) hgrow9).mono b6.out.size)); have x9 := Kept.mk (x5.out.below (b9.out.mono z5)); clear hown9 hgrow9 hat9 o8 r8 b8)
      | (go_at_call 19; refine (equal_is _ _ _ _ _ _ (l ++ Wr.str s.data.toList) (l ++ Wr.str s.data.toList) true _ _ _ x9.out r9.out (by simp)).mono ?_; rintro r w10 ⟨rfl, rfl⟩; clear x9 r9; have T10 := Kept.mk (Hv.out.below (bl_next e5.out b9.out)); have z10 := (bl_next e5.out b9.out).size)
      | (go_at_call 17; refine (clone_any _ _ _ w.heap.size l _ T10.out z10 (by omega)).mono ?_; rintro r w11 ⟨A11, c11, rfl, ho11, hb11⟩; clear T10; have o11 := Kept.mk ho11; have b11 := Kept.mk (bl_next b9.out hb11); have z11 := hb11.size; clear ho11 hb11)
      | (refine wpList_convS rfl (.tmp 42) rfl s rfl (by omega) ?_; intro c12 w12 hr12 hb12 hz12; have r12 := Kept.mk hr12; have o12 := Kept.mk (OwnB.keep o11.out hb12); have b12 := Kept.mk (bl_next b11.out hb12); have z12 : w11.heap.size + 1 ≤ w12.heap.size := (by omega); clear hr12 hb12 hz12 o11 b11)
      | (go_at_call 21; refine (refFrame_any _ _ _ _ s.data.toList id w12 r12.out z12 (by omega)).mono ?_; rintro r w13 ⟨A13, n13, c13, rfl, ho13, hb13⟩; rw [HF.out] at ho13; have hn13 : n13 ≤ 2020 := (by have h1 := ho13.len; have h2 := hfl.out; omega); have r13 := Kept.mk ho13.rd; have o13 := Kept.mk (OwnB.keep o12.out hb13); have b13 := Kept.mk (bl_next b12.out hb13); have z13 := hb13.size; clear ho13 hb13 o12 r12 b12)
      | (at_builtin; refine wpList_appB rfl (.tmp 40) (.tmp 44) rfl w9.heap.size _ _ _ _ rfl o13.out _ _ _ _ _ rfl r13.out (by omega) (by omega) ?_; intro A14 c14 w14 hown14 hgrow14 hat14; have r14 := Kept.mk hown14.rd; have b14 := Kept.mk (b13.out.trans ((own_grown_below o13.out (by omega) hgrow14).mono b9.out.size)); have y14 := Kept.mk (y5.out.below b14.out); clear hown14 hgrow14 hat14 o13 r13 b13)
      | (go_at_call 19; refine (equal_is _ _ _ _ _ _ (l ++ F) (l ++ F) true _ _ _ y14.out r14.out (by simp)).mono ?_; rintro r w15 ⟨rfl, rfl⟩; clear y14 r14))
    go_ret
    exact ⟨rfl, bl_next e5.out b14.out⟩
end Go.Proofs.YtknfkbgnfjfpeaaDoor
