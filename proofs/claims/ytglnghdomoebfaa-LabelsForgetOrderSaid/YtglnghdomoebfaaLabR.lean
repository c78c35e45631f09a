/- Chapter 11: slices.Reverse at labels; the law ForgetOrder. -/
import Derived.Test.YtglnghdomoebfaaLabQ
import Derived.Test.YtglnghdomoebfaaShelfR
namespace Go.Proofs.Ytglnghdomoebfaa
open Go.RowKit Go.Shelf

theorem revL_own (A : Option Addr) (n c base : Nat) (l : List Lab) (w : World) (ho : OwnL w base A n c l) (hb : base ≤ w.heap.size) (hn : n ≤ 1000) :
    Calls Try.prog 43 #[.slice A n c] w fun e w' => e = .returned (.tuple #[]) ∧ RdL w' w.heap.size A n c l.reverse ∧ Below base w w' := by
  rcases Nat.eq_zero_or_pos n with h0 | h0
  · subst h0
    have hl : l = [] := List.eq_nil_of_length_eq_zero ho.len.symm
    subst hl
    have hm := ho.rd.2.1
    refine (AnyQ.slices_Reverse_empty Try.revL A c w).mono fun e w' ⟨h1, h2⟩ => ⟨h1, Rd.nil _ _ 2 c A hm, by rw [h2]; exact Below.refl _ _⟩
  · obtain ⟨g, rfl, h1, h2⟩ := ho.pos h0
    have hrd := ho.rd
    have hlen := ho.len
    have hH := Lb.holds_own ho
    have con := AnyQ.slices_Reverse Try.revL 2 Try.isAgg57 Try.sizeOf57 lbc Lb.lbc_len Lb.lbc_one g 0 c l.toArray w hH (by simp; omega)
    change Calls Try.prog 43 _ _ _ at con
    rw [show l.toArray.size = n by simp [hlen]] at con
    refine con.mono fun e w' ⟨e1, m, e2⟩ => ?_
    have e3 : w' = sortWorldK lbc 2 w g 0 m l.toArray.reverse #[] := by rw [e2]; unfold sortWorldK; rw [Sort.grow_empty]
    refine ⟨e1, ?_, by rw [e3]; exact sortWorld_below h1 hb⟩
    rw [e3]
    have := Lb.rd_holds (B := w.heap.size) (d := l.toArray.reverse) h2 hrd.1 hrd.2.1 (by simp [hlen]) (holdsK_sortWorldK_c lbc 2 w g 0 l.toArray l.toArray.reverse m #[] hH h2 (by simp))
    rwa [show l.toArray.reverse.toList = l.reverse by simp] at this
theorem own_base' {w : World} {b1 b2 sz n c : Nat} {A : Option Addr} {xs : List Value} {e : TypeId} (h : w.ownsRow b1 e sz (.slice A n c) n xs) (hb : b2 ≤ b1) : w.ownsRow b2 e sz (.slice A n c) n xs :=
  ⟨h.1, h.2.imp id fun ⟨g, cap, cur, h1, h2, h3⟩ => ⟨g, cap, cur, h1, by omega, h3⟩⟩
theorem rot_perm (l : List Lab) (j : Nat) : ((l.drop j ++ l.take j).reverse).Perm l := by
  refine (List.reverse_perm _).trans (List.perm_append_comm.trans ?_)
  rw [List.take_append_drop]
theorem Norm_len {l : List Lab} {e : Int} {out : List Lab} (h : Lb.Norm l e out) : out.length ≤ l.length := by
  by_cases he : e = 0
  · exact Nat.le_of_eq (h.zero he).2.2.length_eq
  · rw [h.nil he]; exact Nat.zero_le _
theorem Norm_srt {l : List Lab} {e : Int} {out : List Lab} (h : Lb.Norm l e out) : Lb.Srt out ∧ Lb.ones out = 0 := by
  by_cases he : e = 0
  · exact ⟨(h.zero he).2.1, h.out_ones he⟩
  · rw [h.nil he]; exact ⟨List.Pairwise.nil, rfl⟩
theorem Norm_fit {l : List Lab} {e : Int} {out : List Lab} (h : Lb.Norm l e out) (hf : Lb.Fit l) : Lb.Fit out := by
  by_cases he : e = 0
  · exact Fit.perm hf (h.zero he).2.2
  · rw [h.nil he]; intro x hx; simp at hx
set_option maxRecDepth 100000 in
set_option maxHeartbeats 8000000 in
theorem law_forget (A : Option Addr) (n c : Nat) (l : List Lab) (x : UInt8) (w : World) (hv : RdL w w.heap.size A n c l) (hf : Lb.Fit l) :
    Calls Try.prog 13 #[.slice A n c, .int .u8 (x.toNat : Int)] w fun r w' => r = .returned (.bool true) ∧ Below w.heap.size w w' := by
  have hlc := hv.1
  have hcm := hv.2.1
  unfold maxLen at hcm
  have V := Kept.mk hv
  have F := Kept.mk hf
  have HL := Kept.mk hv.len
  clear hv hf
  by_cases hn0 : n = 0
  · subst hn0
    go_enter Try.func13, Try.ntmps13
    go_wp2_with (first
      | (go_at_call 28; refine (large11_any A 0 c l w V.out F.out).mono ?_; rintro e w1 ⟨v, rfl, hv1, hv2, hb⟩; have B1 := Kept.mk hb; clear hb hv2; rcases hv1 with rfl | rfl)
      | (go_at_call 29; refine (alive11_any w1).mono ?_; rintro e w9 ⟨rfl, hb⟩; have B9 := Kept.mk (bl2 B1.out hb); clear hb))
    all_goals
      go_ret
      exact ⟨rfl, B9.out⟩
  · have hn1 : (0 : Int) < (n : Int) := by omega
    have hnb : ((n : Int) == 0) = false := by simp; omega
    have hwf : wrap64 (x.toNat : Int) = (x.toNat : Int) := by
      have := x.toNat_lt
      unfold wrap64
      omega
    have htm : (x.toNat : Int).tmod (n : Int) = ((x.toNat % n : Nat) : Int) := by rw [Int.tmod_eq_emod_of_nonneg (by omega)]; simp
    have hjn : x.toNat % n < n := Nat.mod_lt _ (by omega)
    generalize x.toNat % n = j at *
    go_enter Try.func13, Try.ntmps13
    go_upto_region 4 with (first
      | (go_at_call 28; refine (large11_any A n c l w V.out F.out).mono ?_; rintro e w1 ⟨v, rfl, hv1, hv2, hb⟩; have B1 := Kept.mk hb; have H1 := Kept.mk hv2; clear hb hv2; rcases hv1 with rfl | rfl)
      | (go_at_call 29; refine (alive11_any w1).mono ?_; rintro e w9 ⟨rfl, hb⟩; have B9 := Kept.mk (bl2 B1.out hb); clear hb))
    rotate_left 1
    · go_ret
      exact ⟨rfl, B9.out⟩
    · have hn200 : n ≤ 200 := H1.out (by simp)
      clear H1 hwf htm
      obtain ⟨b, off, rfl, -⟩ := V.out.2.2.2 (by omega)
      go_cut [6] (fun m wy => ∃ A6 n6 c6, m = .slice A6 n6 c6 ∧ OwnL wy w1.heap.size A6 n6 c6 (l.drop j ++ l.take j) ∧ Below w1.heap.size w1 wy)
      case first =>
        have j1 : (0 : Int) ≤ (j : Int) := by omega
        have j2 : (j : Int) ≤ (n : Int) := by omega
        have j3 : (j : Int) ≤ (c : Int) := by omega
        have j4 : (n : Int) ≤ (c : Int) := by omega
        have j5 : ¬ c = j := by omega
        have V1 := (V.out.below B1.out).more (B' := w1.heap.size) B1.out.size
        have d1 := RdL.drop (k := j) V1 (by omega)
        have d2 := RdL.take (k := j) V1 (by omega)
        rw [if_neg j5] at d1
        simp only [Option.map_some, add_plain] at d1 d2
        have hL : Below w1.heap.size w1 (w1.alloc (.cells #[.slice (some ⟨b, off + j * 2, none⟩) (n - j) (c - j), .slice (some ⟨b, off, none⟩) j c] 46)) := (Below.refl _ w1).alloc (Nat.le_refl _) _
        have e0 := World.cell?_alloc_mark w1 #[Value.slice (some ⟨b, off + j * 2, none⟩) (n - j) (c - j), Value.slice (some ⟨b, off, none⟩) j c] 46 (0, 0) 0
        have e1 := World.cell?_alloc_mark w1 #[Value.slice (some ⟨b, off + j * 2, none⟩) (n - j) (c - j), Value.slice (some ⟨b, off, none⟩) j c] 46 (0, 0) 1
        have D1 := Kept.mk ((d1.below hL).more (B' := w1.heap.size + 1) (by omega))
        have D2 := Kept.mk ((d2.below hL).more (B' := w1.heap.size + 1) (by omega))
        have E0 := Kept.mk e0
        have E1 := Kept.mk e1
        have HLl := Kept.mk hL
        clear d1 d2 e0 e1 hL V1
        go_region_with (go_at_call 42; refine (concatL_any (some ⟨b, off + j * 2, none⟩) (some ⟨b, off, none⟩) (n - j) (c - j) j c w1.heap.size (w1.heap.size + 1) (lbs (l.drop j)) (lbs (l.take j)) _ (by omega) (by exact E0.out) (by exact E1.out) (by exact D1.out) (by exact D2.out) (lbs_one _) (lbs_one _) (by simp) (by omega)).mono ?_; rintro e w2 ⟨A6, n6, c6, rfl, hn6, ho6, hb6⟩; rw [← lbs_append] at ho6; have O6 := Kept.mk ho6; have B6 := Kept.mk hb6; clear hn6 ho6 hb6)
        go_wp2
        go_meet
        exact ⟨A6, n6, c6, rfl, own_base' O6.out HLl.out.size, (HLl.out.drew).trans (B6.out.mono HLl.out.size)⟩
      case rest =>
        rename World => wy
        obtain ⟨A6, n6, c6, rfl, ho6, hby⟩ := hcut
        have hl6 := ho6.len
        have hn6 : n6 ≤ 400 := by have := HL.out; rw [List.length_append, List.length_drop, List.length_take] at hl6; omega
        have O6 := Kept.mk ho6
        have BY := Kept.mk (bl2 B1.out hby)
        have hz1 := B1.out.size
        have hzy := hby.size
        have hpm := Kept.mk (rot_perm l j)
        have FM : Kept (Lb.Fit ((l.drop j ++ l.take j).reverse)) := ⟨Fit.perm F.out hpm.out⟩
        clear ho6 hby hl6
        generalize l.drop j ++ l.take j = m at *
        go_upto_region 8 with (first
          | (go_at_call 43; refine (revL_own A6 n6 c6 w1.heap.size m wy O6.out hzy (by omega)).mono ?_; rintro e w2 ⟨rfl, hr, hb⟩; have R2 := Kept.mk (hr.more hb.size) ; have B2 := Kept.mk (BY.out.trans (hb.mono hz1)); clear hr hb)
          | (go_at_call 33; refine (lnormalize_any A6 n6 c6 w3.heap.size m.reverse w3 Q2.out (Nat.le_refl _) FM.out (by omega)).mono ?_; rintro r w4 ⟨e4, A4, n4, c4, out4, rfl, hm4, hr4, hb4⟩; have M4 := Kept.mk hm4; have R4 := Kept.mk hr4; have P4 := Kept.mk ((R3.out.below hb4).more hb4.size); have B4 := Kept.mk (bl2 B3.out hb4); clear hm4 hr4 hb4)
          | (go_at_call 33; refine (lnormalize_any (some ⟨b, off, none⟩) n c w.heap.size l w2 (V.out.below B2.out) B2.out.size F.out (by omega)).mono ?_; rintro r w3 ⟨e3, A3, n3, c3, out3, rfl, hm3, hr3, hb3⟩; have M3 := Kept.mk hm3; have R3 := Kept.mk hr3; have B3 := Kept.mk (bl2 B2.out hb3); have Q2 := Kept.mk ((R2.out.below hb3).more hb3.size); clear hm3 hr3 hb3))
        obtain ⟨hiff, heq⟩ := M3.out.perm M4.out hpm.out
        have R4' : Kept (RdL w4 w4.heap.size A4 n4 c4 out3) := ⟨by rw [heq]; exact R4.out⟩
        have S3 := Kept.mk (Norm_srt M3.out)
        have F3 := Kept.mk (Norm_fit M3.out F.out)
        have hn3 : n3 ≤ 200 := by have h1 := R3.out.len; have h2 := Norm_len M3.out; have h3 := HL.out; omega
        have hcase : (e3 = 0 ∧ e4 = 0) ∨ ((e3 == 0) = false ∧ (e4 == 0) = false) := by
          by_cases h : e3 = 0
          · exact .inl ⟨h, hiff.1 h⟩
          · exact .inr ⟨by simpa using h, by simpa using fun h2 => h (hiff.2 h2)⟩
        clear hiff heq M3 M4 R3 Q2 R2 R4
        rcases hcase with ⟨rfl, rfl⟩ | ⟨hb3, hb4⟩
        all_goals
          go_wp2_with (first
            | (go_at_call 35; refine (equalL_any A3 A6' n3 c3 n6' c6' w7.heap.size w7.heap.size out3 out3 w7 P7.out R7.out (Nat.le_refl _) (Nat.le_refl _)).mono ?_; rintro r w8 ⟨he, hg⟩; rw [decide_eq_true rfl] at he; subst he; have B8 := Kept.mk (bl2 B7.out hg.below); clear hg)
            | (go_at_call 35; refine (equalL_any A3 A4 n3 c3 n4 c4 w4.heap.size w4.heap.size out3 out3 w4 P4.out R4'.out (Nat.le_refl _) (Nat.le_refl _)).mono ?_; rintro r w5 ⟨he, hg⟩; rw [decide_eq_true rfl] at he; subst he; have B5 := Kept.mk (bl2 B4.out hg.below); have P5 := Kept.mk ((P4.out.below hg.below).more hg.size); clear hg)
            | (go_at_call 33; refine (lnormalize_any A3 n3 c3 w5.heap.size out3 w5 P5.out (Nat.le_refl _) F3.out (by omega)).mono ?_; rintro r w6 ⟨e6, A6', n6', c6', out6, rfl, hm6, hr6, hb6⟩; have hq := Lb.Norm.self S3.out.1 S3.out.2 hm6; have R6 : Kept (RdL w6 w6.heap.size A6' n6' c6' out3) := ⟨by rw [← hq.2]; exact hr6⟩; obtain rfl := hq.1; clear hq; have P6 := Kept.mk ((P5.out.below hb6).more hb6.size); have B6 := Kept.mk (bl2 B5.out hb6); clear hm6 hr6 hb6)
            | (go_at_call 29; refine (alive11_any w6).mono ?_; rintro e w7 ⟨rfl, hb⟩; have B7 := Kept.mk (bl2 B6.out hb); have P7 := Kept.mk ((P6.out.below hb).more hb.size); have R7 := Kept.mk ((R6.out.below hb).more hb.size); clear hb))
          go_ret
          exact ⟨rfl, B8.out⟩
end Go.Proofs.Ytglnghdomoebfaa
