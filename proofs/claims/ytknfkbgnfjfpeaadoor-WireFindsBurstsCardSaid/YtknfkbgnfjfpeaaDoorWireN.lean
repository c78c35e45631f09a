/- The law WireFindsBursts. -/
import Derived.Test.YtknfkbgnfjfpeaaDoorWireK
import Derived.Test.YtknfkbgnfjfpeaaDoorWireM
import Derived.Test.YtknfkbgnfjfpeaaDoorCrcFlip
namespace Go.Proofs.YtknfkbgnfjfpeaaDoor
open Go.RowKit Go.Shelf

set_option maxRecDepth 100000 in
set_option maxHeartbeats 4000000 in
theorem law_wbursts (id : UInt8) (A : Option Addr) (n c : Nat) (l : List UInt8) (from_ p : Nat) (w : World) (hv : RdB w w.heap.size A n c l) (hf : from_ < 4294967296) (hp : p < 4294967296) (ht : Tab w) :
    Calls Tryd.prog 4 #[.int .u8 (id.toNat : Int), .slice A n c, .agg #[.int .u32 (from_ : Int), .int .u32 (p : Int)]] w fun e w' => e = .returned (.bool true) ∧ Below w.heap.size w w' := by
  have hlc := hv.1
  have hcm := hv.2.1
  unfold maxLen at hcm
  have hnl := Kept.mk hv.len
  have hb0 : Below w.heap.size w (w.alloc (.cells #[.int .u32 (from_ : Int), .int .u32 (p : Int)] 34)) := (Below.refl _ w).alloc (Nat.le_refl _) _
  have hk0 := World.cell?_alloc_mark w #[.int .u32 (from_ : Int), .int .u32 (p : Int)] 34 (0, 0) 0
  have hk1 := World.cell?_alloc_mark w #[.int .u32 (from_ : Int), .int .u32 (p : Int)] 34 (0, 0) 1
  have hz0 : w.heap.size < (w.alloc (.cells #[.int .u32 (from_ : Int), .int .u32 (p : Int)] 34)).heap.size := by simp
  have hv0 := Kept.mk hv
  have ht0 := Kept.mk ht
  have V0 := Kept.mk (hv.below hb0)
  have T0 := Kept.mk (ht.below hb0)
  have B0 := Kept.mk hb0
  by_cases hbig : (2000 : Int) < (n : Int)
  · clear hv ht hb0 hk0 hk1
    go_enter Tryd.func4, Tryd.ntmps4
    go_wp2_with (go_at_call 15; refine (alive_any _).mono ?_; rintro e w1 ⟨rfl, hb1⟩)
    go_ret
    exact ⟨rfl, bl_next B0.out hb1⟩
  · have hnn : n ≤ 2000 := by omega
    have hsm : (n : Int) ≤ 2000 := by omega
    have hfl := Kept.mk (Wr.frame_len_eq id l)
    have hel := Kept.mk (Vi.enc_len l.length (by have := hnl.out; omega))
    have hep := Kept.mk (Vi.enc_pos l.length)
    have hch := Kept.mk (fun k => Crc.chk_flip (Wr.frame id l) k p (Crc.chk_app _))
    have hsf := Kept.mk (Wr.sect_frame [] [] l id (by have := hnl.out; omega))
    have hF0 : Kept ((Wr.frame id l)[0]? = some id) := ⟨by obtain ⟨q, hq, _⟩ := Wr.frame_split id l; rw [hq]; rfl⟩
    clear hv ht hb0 hbig
    generalize hF : Wr.frame id l = F at *
    have HF := Kept.mk hF
    clear hF
    have hlF : Kept (F.length ≤ 2015 ∧ 6 ≤ F.length) := ⟨by have h1 := hfl.out; have h2 := hel.out; have h3 := hep.out; have h4 := hnl.out; omega⟩
    go_enter Tryd.func4, Tryd.ntmps4
    go_upto_region 4 with (go_at_call 21; refine (refFrame_any _ _ _ w.heap.size l id _ V0.out (by simp) (by omega)).mono ?_; rintro r w1 ⟨A1, n1, c1, rfl, ho1, hb1⟩; rw [HF.out] at ho1; have r1 := Kept.mk ho1.rd; have nl1 := Kept.mk ho1.len; have b1 := Kept.mk (bl_next B0.out hb1); have c10 := (hb1.cell (p := ⟨w.heap.size, 0, none⟩) hz0).trans hk0; have c11 := (hb1.cell (p := ⟨w.heap.size, 1, none⟩) hz0).trans hk1; clear ho1 hb1)
    clear hk0 hk1
    have hn1 : n1 ≤ 2015 := by have h1 := nl1.out; have h2 := hlF.out; omega
    have hn6 : 6 ≤ n1 := by have h1 := nl1.out; have h2 := hlF.out; omega
    obtain ⟨k, hk⟩ : ∃ k, k = from_ % (8 * n1) := ⟨_, rfl⟩
    have ek : (from_ : Int) % (8 * (n1 : Int)) = (k : Int) := by rw [hk]; simp
    have hkb : k ≤ 1125899906842624 := by have := Nat.mod_lt from_ (show 0 < 8 * n1 by omega); omega
    clear hk
    have hpos : ((8 * (n1 : Int)) == 0) = false := by simp; omega
    have hwr : IntKind.i64.wrap (8 * (n1 : Int)) = 8 * (n1 : Int) := by rw [IntKind.wrap_i64]; omega
    have htm : (from_ : Int).tmod (8 * (n1 : Int)) = (k : Int) := by rw [Int.tmod_eq_emod_of_nonneg (by omega)]; exact ek
    have hn10 : ((n1 : Int) == 0) = false := by simp; omega
    have hn8' : ¬ 8 * (n1 : Int) = 0 := by omega
    have hwf : IntKind.i64.wrap (from_ : Int) = (from_ : Int) := by rw [IntKind.wrap_i64]; omega
    go_cut [8] (fun q w2 => ∃ A2 c2, q = .slice A2 n1 c2 ∧ Below w1.heap.size w1 w2 ∧ RdB w2 w2.heap.size A2 n1 c2 (Crc.flipN F k 32 p))
    case first =>
      go_region_held3 (fun w' => w'.cell? ⟨w.heap.size, 0, none⟩ = some (.int .u32 (from_ : Int)) ∧ w'.cell? ⟨w.heap.size, 1, none⟩ = some (.int .u32 (p : Int))) (first | exact ⟨c10, c11⟩ | exact k2.out)
        ((go_at_call 22; refine (flip_any _ _ _ F k p _ w1.heap.size (by exact r1.out) (by exact Nat.le_refl _) (by omega) hkb hp).mono ?_; rintro r w2 ⟨A2, n2, c2, rfl, ho2, hb2⟩; have O2 := Kept.mk ho2; have B2 := Kept.mk hb2; clear ho2 hb2;
          have hz1 : w.heap.size < w1.heap.size := World.block_lt_of_cell? w1 _ c10;
          have k2 : Kept (w2.cell? ⟨w.heap.size, 0, none⟩ = some (.int .u32 (from_ : Int)) ∧ w2.cell? ⟨w.heap.size, 1, none⟩ = some (.int .u32 (p : Int))) := ⟨(B2.out.cell (p := ⟨w.heap.size, 0, none⟩) hz1).trans c10, (B2.out.cell (p := ⟨w.heap.size, 1, none⟩) hz1).trans c11⟩;
          have hn2 : Kept (n2 = n1) := ⟨by rw [O2.out.len, Crc.flipN_length]; exact nl1.out.symm⟩))
      go_wp2
      go_meet
      refine ⟨A2, c2, by rw [← hn2.out], below_drew_of B2.out, ?_⟩
      rw [← hn2.out]
      exact O2.out.rd
    case rest =>
      rename World => w2
      obtain ⟨A2, c2, rfl, hb2, hr2⟩ := hcut
      have hlC : Kept ((Crc.flipN F k 32 p).length = n1) := ⟨by rw [Crc.flipN_length]; exact nl1.out.symm⟩
      have hcap := hr2.1
      have hcap2 := hr2.2.1
      unfold maxLen at hcap2
      have r12 := Kept.mk (r1.out.below hb2)
      have b2 := Kept.mk (bl_next b1.out hb2)
      have R2 := Kept.mk hr2
      have hiff := Kept.mk (hch.out k)
      have heq : Kept (F = Crc.flipN F k 32 p → (Crc.flipN F k 32 p)[0]? = some id) := ⟨fun h => by rw [← h]; exact hF0.out⟩
      obtain ⟨b, off, rfl, hbb, hcell⟩ := hr2.at_ (k := 0) (by rw [hlC.out]; omega)
      rw [Nat.add_zero] at hcell
      have hx0 : Kept ((Crc.flipN F k 32 p)[0]? = some ((Crc.flipN F k 32 p)[0]'(by rw [hlC.out]; omega))) := ⟨List.getElem?_eq_getElem _⟩
      have T2 := Kept.mk (ht0.out.below b2.out)
      have V2 := Kept.mk (hv0.out.below b2.out)
      clear hr2 hch c10 c11
      generalize (Crc.flipN F k 32 p)[0]'(by rw [hlC.out]; omega) = x at *
      generalize Crc.flipN F k 32 p = C at *
      by_cases hFC : F = C
      · have hbe : Kept ((F == C) = true) := ⟨by rw [beq_iff_eq]; exact hFC⟩
        obtain rfl : x = id := by
          have h1 := hx0.out
          rw [heq.out hFC] at h1
          exact (Option.some.inj h1).symm
        have hs : Kept (Wr.sect C 0 0 x = (l, n1, 0)) := ⟨by
          have h1 := hsf.out
          simp only [List.nil_append, List.append_nil, List.length_nil, Nat.zero_add] at h1
          rw [← hFC, h1, ← nl1.out]⟩
        clear hFC heq hiff hx0 hsf
        go_wp2_with (first
          | (go_at_call 23; refine (newReader_any _ _ _ w2.heap.size C _ R2.out (Nat.le_refl _) (by omega)).mono ?_; rintro r w3 ⟨pr, rfl, hp1, hp2, hr3, hb3⟩; have r3 := Kept.mk hr3; have b3 := Kept.mk hb3; have hc3 := (hb3.cell (p := ⟨b, off, none⟩) hbb).trans hcell; clear hr3 hb3)
          | (go_at_call 24; refine (section_any pr 0 C 0 x w3 r3.out (T2.out.below b3.out)).mono ?_; rintro r w4 ⟨A4, n4, c4, rfl, ho4, hr4, hg4⟩; rw [hs.out] at ho4 hr4; have b4 := Kept.mk (b3.out.trans (grown_below hg4 hp1 b3.out.size)); have o4 := Kept.mk ho4; have r4 := Kept.mk hr4; have q4 := Kept.mk (r12.out.below (b4.out.mono hb2.size)); have s4 := Kept.mk (R2.out.below b4.out); have hp4 := r4.out.lt; clear ho4 hr4 hg4 hc3)
          | (go_at_call 19; refine (equal_is _ _ _ _ _ _ F C true _ _ _ q4.out s4.out hbe.out).mono ?_; rintro r w5 ⟨rfl, rfl⟩; clear q4 s4)
          | (go_at_call 15; refine (alive_any _).mono ?_; rintro r w6 ⟨rfl, hb6⟩; have b6 := Kept.mk (bl_next b2.out (bl_next b4.out hb6)); have r6 := Kept.mk (r4.out.below hb6 hp4); have o6 := Kept.mk (OwnB.keep o4.out hb6).rd; have v6 := Kept.mk (V2.out.below ((bl_next b4.out hb6).mono b2.out.size)); clear hb6)
          | (go_at_call 25; refine (err_any _ _ _ _ _ r6.out).mono ?_; rintro r w7 ⟨rfl, rfl⟩)
          | (go_at_call 19; refine (equal_is _ _ _ _ _ _ l l true _ _ _ o6.out v6.out (by simp)).mono ?_; rintro r w8 ⟨rfl, rfl⟩))
        go_ret
        exact ⟨rfl, b6.out⟩
      · have hbe : Kept ((F == C) = false) := ⟨by simpa using hFC⟩
        obtain ⟨s, hs0⟩ : ∃ s, Wr.sect C 0 0 x = s := ⟨_, rfl⟩
        have hs := Kept.mk hs0
        have hne : Kept (s.2.2 = 0 → s.2.1 ≠ n1) := ⟨fun h1 h2 => by
          have hc := Wr.sect_full C x (by rw [hs0]; exact h1) (by rw [hs0, h2]; exact hlC.out.symm)
          exact hFC (hiff.out.1 hc)⟩
        obtain ⟨S, at4, e4⟩ := s
        simp only at hne
        have hfin : ((e4 == 0) = false ∧ (e4 != 0) = true) ∨ (e4 = 0 ∧ ((at4 : Int) == (n1 : Int)) = false ∧ ((at4 : Int) != (n1 : Int)) = true) := by
          by_cases h : e4 = 0
          · have := hne.out h
            exact .inr ⟨h, by simp; omega, by simp; omega⟩
          · exact .inl ⟨by simpa using h, by simpa using h⟩
        clear hFC heq hiff hx0 hsf hne hs0
        rcases hfin with ⟨f1, f2⟩ | ⟨rfl, f1, f2⟩
        all_goals
          go_wp2_with (first
            | (go_at_call 23; refine (newReader_any _ _ _ w2.heap.size C _ R2.out (Nat.le_refl _) (by omega)).mono ?_; rintro r w3 ⟨pr, rfl, hp1, hp2, hr3, hb3⟩; have r3 := Kept.mk hr3; have b3 := Kept.mk hb3; have hc3 := (hb3.cell (p := ⟨b, off, none⟩) hbb).trans hcell; clear hr3 hb3)
            | (go_at_call 24; refine (section_any pr 0 C 0 x w3 r3.out (T2.out.below b3.out)).mono ?_; rintro r w4 ⟨A4, n4, c4, rfl, ho4, hr4, hg4⟩; rw [hs.out] at ho4 hr4; have b4 := Kept.mk (b3.out.trans (grown_below hg4 hp1 b3.out.size)); have o4 := Kept.mk ho4; have r4 := Kept.mk hr4; have q4 := Kept.mk (r12.out.below (b4.out.mono hb2.size)); have s4 := Kept.mk (R2.out.below b4.out); have hp4 := r4.out.lt; clear ho4 hr4 hg4 hc3)
            | (go_at_call 19; refine (equal_is _ _ _ _ _ _ F C false _ _ _ q4.out s4.out hbe.out).mono ?_; rintro r w5 ⟨rfl, rfl⟩; clear q4 s4)
            | (go_at_call 15; refine (alive_any _).mono ?_; rintro r w6 ⟨rfl, hb6⟩; have b6 := Kept.mk (bl_next b2.out (bl_next b4.out hb6)); have r6 := Kept.mk (r4.out.below hb6 hp4); clear hb6)
            | (go_at_call 25; refine (err_any _ _ _ _ _ r6.out).mono ?_; rintro r w7 ⟨rfl, rfl⟩)
            | (go_at_call 26; refine (at_any _ _ _ _ _ r6.out).mono ?_; rintro r w7 ⟨rfl, rfl⟩))
          go_ret
          exact ⟨rfl, b6.out⟩
end Go.Proofs.YtknfkbgnfjfpeaaDoor
