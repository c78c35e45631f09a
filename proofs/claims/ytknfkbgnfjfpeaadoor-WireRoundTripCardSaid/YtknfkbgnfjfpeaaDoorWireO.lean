/- The law WireStays. -/
import Derived.Test.YtknfkbgnfjfpeaaDoorWireK
namespace Go.Proofs.YtknfkbgnfjfpeaaDoor
open Go.RowKit Go.Shelf

theorem Wr.byte_err {l : List UInt8} {a : Nat} {e : Int} (h : e ≠ 0) : Wr.byte l a e = (0, a, e) := by unfold Wr.byte; rw [if_pos h]
theorem Wr.uint_err {l : List UInt8} {a m : Nat} {e : Int} (h : e ≠ 0) : Wr.uint l a e m = (0, a, e) := by unfold Wr.uint; rw [if_pos h]
theorem Wr.take_err {l : List UInt8} {a : Nat} {e n : Int} (h : e ≠ 0) : Wr.take l a e n = ([], a, e) := by unfold Wr.take; rw [if_pos h]
theorem Wr.string_err {l : List UInt8} {a : Nat} {e m : Int} (h : e ≠ 0) : Wr.string l a e m = ([], a, e) := by unfold Wr.string; rw [if_pos h]
theorem Wr.sect_err {l : List UInt8} {a : Nat} {e : Int} {id : UInt8} (h : e ≠ 0) : Wr.sect l a e id = ([], a, e) := by unfold Wr.sect; rw [if_pos h]
theorem Wr.fin_err {l : List UInt8} {a : Nat} {e : Int} (h : e ≠ 0) : Wr.fin l a e = e := by unfold Wr.fin; rw [if_pos h]
theorem Wr.byte_at {l : List UInt8} (h : 0 < l.length) : ∃ v, Wr.byte l 0 0 = (v, 1, 0) := ⟨_, by unfold Wr.byte; rw [if_neg (by simp), dif_pos h]⟩
/-- the cells of a boxed step -/
def ActAt (W : World) (g : Nat) (kd nn : Int) (u : Nat) (id : UInt8) : Prop := W.cell? ⟨g, 0, none⟩ = some (.int .i64 kd) ∧ W.cell? ⟨g, 1, none⟩ = some (.int .i64 nn) ∧ W.cell? ⟨g, 2, none⟩ = some (.int .u64 (u : Int)) ∧ W.cell? ⟨g, 3, none⟩ = some (.int .u8 (id.toNat : Int))
theorem ActAt.new (w : World) (kd nn : Int) (u : Nat) (id : UInt8) : ActAt (w.alloc (.cells #[.int .i64 kd, .int .i64 nn, .int .u64 (u : Int), .int .u8 (id.toNat : Int)] 53)) w.heap.size kd nn u id :=
  ⟨World.cell?_alloc_mark w _ _ _ 0, World.cell?_alloc_mark w _ _ _ 1, World.cell?_alloc_mark w _ _ _ 2, World.cell?_alloc_mark w _ _ _ 3⟩
theorem ActAt.below {w w' : World} {g : Nat} {kd nn : Int} {u : Nat} {id : UInt8} (h : ActAt w g kd nn u id) {B : Nat} (hb : Below B w w') (hg : g < B) : ActAt w' g kd nn u id :=
  ⟨(hb.cell (p := ⟨g, 0, none⟩) hg).trans h.1, (hb.cell (p := ⟨g, 1, none⟩) hg).trans h.2.1, (hb.cell (p := ⟨g, 2, none⟩) hg).trans h.2.2.1, (hb.cell (p := ⟨g, 3, none⟩) hg).trans h.2.2.2⟩

set_option maxRecDepth 100000 in
set_option maxHeartbeats 4000000 in
theorem law_stays (A : Option Addr) (n c : Nat) (l : List UInt8) (e : Int) (kd nn : Int) (u : Nat) (id : UInt8) (w : World) (hv : RdB w w.heap.size A n c l) (n0 : -9223372036854775808 ≤ nn) (n1 : nn ≤ 9223372036854775807) (ht : Tab w) :
    Calls Tryd.prog 7 #[.slice A n c, .int .i64 e, .agg #[.int .i64 kd, .int .i64 nn, .int .u64 (u : Int), .int .u8 (id.toNat : Int)]] w fun r w' => r = .returned (.bool true) ∧ Below w.heap.size w w' := by
  have hlc := hv.1
  have hcm := hv.2.1
  unfold maxLen at hcm
  have hnl := Kept.mk hv.len
  obtain ⟨W1, hW1⟩ : ∃ W1, W1 = w.alloc (.cells #[.int .i64 kd, .int .i64 nn, .int .u64 (u : Int), .int .u8 (id.toNat : Int)] 53) := ⟨_, rfl⟩
  have hb0 : Below w.heap.size w W1 := by rw [hW1]; exact (Below.refl _ w).alloc (Nat.le_refl _) _
  have ha0 : ActAt W1 w.heap.size kd nn u id := by rw [hW1]; exact ActAt.new w kd nn u id
  have hz0 : w.heap.size < W1.heap.size := by rw [hW1]; simp
  have V0 := Kept.mk ((hv.below hb0).more (B' := W1.heap.size) (by omega))
  have T0 := Kept.mk (ht.below hb0)
  have B0 := Kept.mk hb0
  have A0 := Kept.mk ha0
  have HW1 := Kept.mk hW1.symm
  clear hv ht hb0 ha0 hW1
  by_cases hbig : (2000 : Int) < (n : Int)
  · go_enter Tryd.func7, Tryd.ntmps7
    go_wp2_with (go_at_call 15; rw [HW1.out]; refine (alive_any _).mono ?_; rintro e w1 ⟨rfl, hb1⟩)
    go_ret
    exact ⟨rfl, bl_next B0.out hb1⟩
  · have hsm : (n : Int) ≤ 2000 := by omega
    by_cases he : e = 0
    · subst he
      clear hbig
      go_enter Tryd.func7, Tryd.ntmps7
      go_wp2_with (go_at_call 15; rw [HW1.out]; refine (alive_any _).mono ?_; rintro e w1 ⟨rfl, hb1⟩)
      go_ret
      exact ⟨rfl, bl_next B0.out hb1⟩
    · have heb : (e == 0) = false := by simpa using he
      have hen : (e != 0) = true := by simpa using he
      have eB := Kept.mk (@Wr.byte_err l 1 e he)
      have eU := Kept.mk (@Wr.uint_err l 1 u e he)
      have eT := Kept.mk (@Wr.take_err l 1 e nn he)
      have eS := Kept.mk (@Wr.string_err l 1 e nn he)
      have eX := Kept.mk (@Wr.sect_err l 1 e id he)
      have eF := Kept.mk (@Wr.fin_err l 1 e he)
      have eif : ∀ f : Int, Kept ((if e = 0 then f else e) = e) := fun f => ⟨if_neg he⟩
      have eif12 := eif 12
      clear hbig he eif
      by_cases hn0 : n = 0
      · have hl0 : Kept (l = []) := ⟨List.eq_nil_of_length_eq_zero (by rw [← hnl.out]; exact hn0)⟩
        have hm : Kept (Wr.byte l 0 0 = (0, 0, 3)) := ⟨by rw [hl0.out]; rfl⟩
        subst hn0
        go_enter Tryd.func7, Tryd.ntmps7
        go_wp2_with (first
          | (go_at_call 23; rw [HW1.out]; refine (newReader_any _ _ _ _ l W1 V0.out (Nat.le_refl _) (by omega)).mono ?_; rintro r w3 ⟨pr, rfl, hp1, hp2, hr3, hb3⟩; have r3 := Kept.mk hr3; have b3 := Kept.mk hb3; clear hr3 hb3)
          | (go_at_call 32; refine (byte_any pr 0 l 0 w3 r3.out).mono ?_; rintro r w4 ⟨rfl, hr4, hg4⟩; rw [hm.out] at hr4 ⊢; have r4 := Kept.mk hr4; have b4 := Kept.mk (b3.out.trans (grown_below hg4 hp1 b3.out.size)); clear hr4 hg4)
          | (go_at_call 26; refine (at_any _ _ _ _ _ r4.out).mono ?_; rintro r w5 ⟨rfl, rfl⟩)
          | (go_at_call 15; refine (alive_any _).mono ?_; rintro r w6 ⟨rfl, hb6⟩; have b6 := Kept.mk (bl_next B0.out (bl_next b4.out hb6)); have r6 := Kept.mk (r4.out.below hb6 r4.out.lt); clear hb6)
          | (go_at_call 25; refine (err_any _ _ _ _ _ r6.out).mono ?_; rintro r w7 ⟨rfl, rfl⟩))
        go_ret
        exact ⟨rfl, b6.out⟩
      · have hnb : ((n : Int) == 0) = false := by simp; omega
        obtain ⟨v, hv⟩ := Wr.byte_at (l := l) (by rw [← hnl.out]; omega)
        have hm := Kept.mk hv
        clear hv hn0
        go_enter Tryd.func7, Tryd.ntmps7
        go_wp2_with (first
          | (go_at_call 23; rw [HW1.out]; refine (newReader_any _ _ _ _ l W1 V0.out (Nat.le_refl _) (by omega)).mono ?_; rintro r w3 ⟨pr, rfl, hp1, hp2, hr3, hb3⟩; have r3 := Kept.mk hr3; have b3 := Kept.mk hb3; clear hr3 hb3)
          | (go_at_call 32; refine (byte_any pr 0 l 0 w3 r3.out).mono ?_; rintro r w4 ⟨rfl, hr4, hg4⟩; rw [hm.out] at hr4 ⊢; have r4 := Kept.mk hr4; have b4 := Kept.mk (b3.out.trans (grown_below hg4 hp1 b3.out.size)); clear hr4 hg4 r3 hm)
          | (go_at_call 26; refine (at_any _ 1 _ 0 w4 r4.out).mono ?_; rintro r w5 ⟨rfl, rfl⟩)
          | (go_at_call 33; refine (fail_any pr 1 l 0 0 w4 r4.out).mono ?_; rintro r w5 ⟨rfl, hr5, hg5⟩; rw [if_pos rfl] at hr5; have r5 := Kept.mk hr5; have b5 := Kept.mk (b4.out.trans (grown_below hg5 hp1 b4.out.size)); clear hr5 hg5 r4)
          | (go_at_call 25; refine (err_any pr 1 l 0 w5 r5.out).mono ?_; rintro r w6 ⟨rfl, rfl⟩; have r5' := r5; clear r5)
          | (go_at_call 33; refine (fail_any pr 1 l 0 e w5 r5'.out).mono ?_; rintro r w7 ⟨rfl, hr7, hg7⟩; rw [if_pos rfl] at hr7; have r7 := Kept.mk hr7; have b7 := Kept.mk (b5.out.trans (grown_below hg7 hp1 b5.out.size)); clear hr7 hg7 r5')
          | (go_at_call 33; refine (fail_any pr 1 l e 12 w7 r7.out).mono ?_; rintro r w8 ⟨rfl, hr8, hg8⟩; rw [eif12.out] at hr8; have r8 := Kept.mk hr8; have b8 := Kept.mk (b7.out.trans (grown_below hg8 hp1 b7.out.size)); clear hr8 hg8 r7)
          | (go_at_call 32; refine (byte_any pr 1 l e w8 r8.out).mono ?_; rintro r w9 ⟨rfl, hr9, hg9⟩; rw [eB.out] at hr9 ⊢; have r9 := Kept.mk hr9; have b9 := Kept.mk (b8.out.trans (grown_below hg9 hp1 b8.out.size)); clear hr9 hg9 r8; obtain ⟨c0, c1, c2, c3⟩ := A0.out.below b9.out hz0)
          | (go_at_call 34; refine (uint_any pr 1 u l e w9 r9.out).mono ?_; rintro r w10 ⟨rfl, hr10, hg10⟩; rw [eU.out] at hr10 ⊢; have r10 := Kept.mk hr10; have b10 := Kept.mk (b9.out.trans (grown_below hg10 hp1 b9.out.size)); clear hr10 hg10 r9 c0 c1 c2 c3; obtain ⟨c0, c1, c2, c3⟩ := A0.out.below b10.out hz0)
          | (go_at_call 35; refine (take_any pr 1 l e nn w10 r10.out n0 n1).mono ?_; rintro r w11 ⟨A3, n3, c3', rfl, ho3, hr11, hg11⟩; rw [eT.out] at hr11 ho3; obtain rfl : n3 = 0 := ho3.len; have r11 := Kept.mk hr11; have b11 := Kept.mk (b10.out.trans (grown_below hg11 hp1 b10.out.size)); clear hr11 hg11 r10 c0 c1 c2 c3 ho3; obtain ⟨c0, c1, c2, c3⟩ := A0.out.below b11.out hz0)
          | (go_at_call 28; refine (string_any pr 1 l e nn w11 r11.out n1).mono ?_; rintro r w12 ⟨rfl, hr12, hg12⟩; rw [eS.out] at hr12 ⊢; have r12 := Kept.mk hr12; have b12 := Kept.mk (b11.out.trans (grown_below hg12 hp1 b11.out.size)); clear hr12 hg12 r11 c0 c1 c2 c3; obtain ⟨c0, c1, c2, c3⟩ := A0.out.below b12.out hz0)
          | (go_at_call 24; refine (section_any pr 1 l e id w12 r12.out (T0.out.below b12.out)).mono ?_; rintro r w13 ⟨A4, n4, c4', rfl, ho4, hr13, hg13⟩; rw [eX.out] at hr13 ho4; obtain rfl : n4 = 0 := ho4.len; have r13 := Kept.mk hr13; have b13 := Kept.mk (b12.out.trans (grown_below hg13 hp1 b12.out.size)); clear hr13 hg13 r12 c0 c1 c2 c3 ho4)
          | (go_at_call 15; refine (alive_any _).mono ?_; rintro r w14 ⟨rfl, hb14⟩; have b14 := Kept.mk (bl_next B0.out (bl_next b13.out hb14)); have r14 := Kept.mk (r13.out.below hb14 r13.out.lt); clear hb14)
          | (go_at_call 26; refine (at_any pr 1 l e w14 r14.out).mono ?_; rintro r w15 ⟨rfl, rfl⟩)
          | (go_at_call 25; refine (err_any pr 1 l e w14 r14.out).mono ?_; rintro r w15 ⟨rfl, rfl⟩)
          | (go_at_call 29; refine (end_any pr 1 l e w14 r14.out).mono ?_; rintro r w15 ⟨rfl, rfl⟩; rw [eF.out]))
        go_ret
        exact ⟨rfl, b14.out⟩
end Go.Proofs.YtknfkbgnfjfpeaaDoor
