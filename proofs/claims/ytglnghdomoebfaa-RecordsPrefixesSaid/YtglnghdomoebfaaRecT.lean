/- Chapter 13: the reference's Encode, walked. -/
import Derived.Test.YtglnghdomoebfaaRecS
namespace Go.Proofs.Ytglnghdomoebfaa
open Go.RowKit Go.Shelf

set_option maxRecDepth 100000 in
set_option maxHeartbeats 8000000 in
theorem refEncode13_any (TA A : Option Addr) (tn tc n c : Nat) (T : List ByteArray) (rs : List RecV) (w : World) (hT : RdS w w.heap.size TA tn tc T) (hv : RdR w w.heap.size A n c rs) (htn : tn ≤ 1000000)
    (hn : n ≤ 1000000) (hr : ∀ r ∈ rs, r.1.length ≤ 1000000 ∧ r.2.length ≤ 1000000) (hsz : (Rc.encB T rs).length ≤ 1000000000) :
    Calls Try.prog 21 #[.slice TA tn tc, .slice A n c] w fun e w' => ∃ A3 n3 c3, e = .returned (.tuple #[.slice A3 n3 c3, .int .i64 (Rc.enc T rs).2]) ∧ OwnB w' w.heap.size A3 n3 c3 (Rc.enc T rs).1 ∧ Below w.heap.size w w' := by
  obtain ⟨hlc, hcm⟩ := hv.cap
  unfold maxLen at hcm
  have HN := Kept.mk hv.len
  have V := Kept.mk hv
  have VT := Kept.mk hT
  have HR := Kept.mk hr
  obtain ⟨M, hM⟩ : ∃ M, M = Rc.enc T rs := ⟨_, rfl⟩
  rw [← hM]
  obtain ⟨E, hE⟩ : ∃ E, E = Rc.encB T rs := ⟨_, rfl⟩
  rw [← hE] at hsz
  have HE := Kept.mk hE
  have HM : Kept (M = if Rc.err T rs = 0 then (E, 0) else ([], Rc.err T rs)) := ⟨by rw [hM, hE]; rfl⟩
  have SZ := Kept.mk hsz
  clear hv hT hr hM hE hsz
  go_enter Try.func21, Try.ntmps21
  go_upto_region 3 with (go_at_call 48; refine (number_any none 0 0 w.heap.size n [] _ (OwnB.nil _ _) (Nat.le_refl _) (by omega) (by omega)).mono ?_; rintro e w1 ⟨A1, n1, c1, rfl, ho1, hg1⟩; have O1 := Kept.mk ho1; have B1 := Kept.mk (own_grown_below (OwnB.nil w w.heap.size) (Nat.le_refl _) hg1); clear ho1 hg1)
  go_loopw [6, 7] (fun b i wr => ∃ k : Nat, k ≤ n ∧ i = .int .i64 k ∧ ∃ A2 n2 c2 bl, b = .slice A2 n2 c2 ∧ OwnB wr w.heap.size A2 n2 c2 bl ∧ Below w.heap.size w wr ∧ Kept (bl ++ (rs.drop k).flatMap (Rc.recE T) = E ∧ Rc.err T rs = Rc.err T (rs.drop k))) (fun _ i _ => n - (intOf i).toNat)
  case atStart => exact ⟨0, by omega, rfl, A1, n1, c1, _, rfl, O1.out, B1.out, ⟨by rw [HE.out, Rc.encB, HN.out]; simp, rfl⟩⟩
  case round =>
    clear O1 B1
    obtain ⟨k, hk, rfl, A2, n2, c2, bl, rfl, ho, hb, hd⟩ := hrel
    by_cases hlt : k < n
    · have hkl : k < rs.length := by rw [← HN.out]; exact hlt
      obtain ⟨b, off, A3, n3, c3, A4, n4, c4, rfl, hL, hC, hc⟩ := V.out.cells (Nat.le_refl _) hkl
      obtain ⟨r0, r1⟩ := hc wr hb
      have CELLS := Kept.mk hc
      obtain ⟨h6a, h6b⟩ := HR.out _ (List.getElem_mem hkl)
      have hdg := Rc.drop_get rs k hkl
      have hd1 := hd.out.1
      have hd2 := hd.out.2
      rw [hdg] at hd1 hd2
      rw [List.flatMap_cons] at hd1
      rw [Rc.err] at hd2
      unfold Rc.recE at hd1
      clear hd hdg hc
      obtain ⟨R, hRR⟩ : ∃ R, R = (rs.drop (k + 1)).flatMap (Rc.recE T) := ⟨_, rfl⟩
      have HRR := Kept.mk hRR
      unfold Rc.recE at hRR
      rw [← hRR] at hd1
      clear hRR
      generalize rs[k] = rk at *
      obtain ⟨L, C⟩ := rk
      simp only [] at hL hC h6a h6b hd1 hd2
      have hl3 := hL.len
      have hl4 := hC.len
      have hc3 := hL.1
      have hm3 := hL.2.1
      have hc4 := hC.1
      have hm4 := hC.2.1
      unfold maxLen at hm3 hm4
      have h36 : n3 ≤ 1000000 := by omega
      have h46 : n4 ≤ 1000000 := by omega
      have H3 := Kept.mk hl3
      have H4 := Kept.mk hl4
      obtain ⟨TL, hTL⟩ : ∃ TL, TL = Vi.enc C.length ++ (C.flatMap Rc.chE ++ R) := ⟨_, rfl⟩
      have D1 : Kept (bl ++ Vi.enc n3 ++ ((Lb.strs L).flatMap (Rc.symE T) ++ TL) = E) := ⟨by rw [← hd1, hTL, hl3]; simp⟩
      have HTL := Kept.mk hTL
      have D2 := Kept.mk hd2
      have hn2 : n2 ≤ 1000000000 := by
        have h1 := ho.len
        have h2 := SZ.out
        rw [← D1.out] at h2
        simp at h2
        omega
      have HL := Kept.mk hL
      have HC := Kept.mk hC
      have O0 := Kept.mk ho
      have B0 := Kept.mk hb
      clear hd1 hd2 hl3 hl4 hTL hL hC ho hb h6a h6b
      go_upto_region 8 with (first
        | (go_at_call 48; refine (bq_app X2.out (by omega) (by omega)).mono ?_; rintro e w4 ⟨A5, n5, c5, rfl, hx⟩; have X3 := Kept.mk hx; clear hx X2 q0 q1)
        | (go_at_call 27; refine (refStrings_any A3 n3 c3 L wr ((HL.out.below B0.out).more B0.out.size) (by omega)).mono ?_; rintro e w3 ⟨A6, n6, c6, rfl, ho, hb⟩; have B3 := Kept.mk (B0.out.trans (hb.mono B0.out.size)); have X2 : Kept (Bq w w3 A2 n2 c2 bl A6 n6 c6 (Lb.strs L)) := ⟨⟨O0.out.keep hb, B3.out, own_rebase ho B0.out.size⟩⟩; obtain ⟨q0, q1⟩ := CELLS.out w3 B3.out; clear ho hb B3 O0 B0 r0 r1))
      rename World => wq
      have hn6 := X3.out.strs.len
      have hss := Lb.strs_length L
      have H6 := Kept.mk hn6
      have h66 : n6 ≤ 2000000 := by rw [hn6, hss]; have := H3.out; omega
      clear hn6 hss
      go_loopw [6, 9] (fun b j wi => ∃ i : Nat, i ≤ n6 ∧ j = .int .i64 i ∧ ∃ A7 n7 c7 bm, b = .slice A7 n7 c7 ∧ Bq w wi A7 n7 c7 bm A6 n6 c6 (Lb.strs L) ∧ Kept (bm ++ (((Lb.strs L).drop i).flatMap (Rc.symE T) ++ TL) = E ∧ Rc.symErr T C (Lb.strs L) = Rc.symErr T C ((Lb.strs L).drop i))) (fun _ j _ => n6 - (intOf j).toNat)
      case atStart => exact ⟨0, by omega, rfl, A5, n5, c5, _, rfl, X3.out, ⟨D1.out, rfl⟩⟩
      case round =>
        clear X3
        obtain ⟨i, hi, rfl, A7, n7, c7, bm, rfl, hx, hd⟩ := hrel
        by_cases hlt2 : i < n6
        · have hil : i < (Lb.strs L).length := by rw [← H6.out]; exact hlt2
          obtain ⟨b6, off6, rfl, hc⟩ := hx.strs.rd.cells (Nat.le_refl _) hil
          have z0 := hc wr (Below.refl _ _)
          have hd1 := hd.out.1
          have hd2 := hd.out.2
          rw [Rc.drop_get _ i hil] at hd1 hd2
          rw [List.flatMap_cons] at hd1
          rw [Rc.symErr] at hd2
          have hn7 : n7 ≤ 1000000000 := by
            have h1 := hx.len
            have h2 := SZ.out
            rw [← hd.out.1] at h2
            simp at h2
            omega
          clear hc hd
          have X := Kept.mk hx
          have SI := fun s => Kept.mk (refIndex_any TA tn tc T s wr ((VT.out.below hx.below).more hx.below.size))
          have hsT : Rc.symE T (Lb.strs L)[i] = Vi.enc ((Sy.idx T (Lb.strs L)[i]).getD 0) := rfl
          rw [hsT] at hd1
          have SI1 := SI (Lb.strs L)[i]
          have hIX := fun k (h : Sy.idx T (Lb.strs L)[i] = some k) => Sy.idx_some h
          unfold Sy.idxI at SI1
          clear hx SI hsT
          generalize (Lb.strs L)[i] = s at *
          generalize Sy.idx T s = o at *
          cases o with
          | none =>
            simp only [] at SI1
            rw [if_pos rfl] at hd2
            have HM2 : Kept (M = ([], 14)) := ⟨by rw [HM.out, D2.out, hd2]; rfl⟩
            clear hd1 hd2 hIX
            go_wp2_with (go_at_call 49; refine SI1.out.mono ?_; rintro e w4 ⟨rfl, hw⟩; have X4 : Kept (Below w.heap.size w w4) := ⟨by rw [hw]; exact X.out.below⟩; clear hw)
            go_ret2
            refine ⟨none, 0, 0, ?_, ?_, X4.out⟩
            · rw [HM2.out]; rfl
            · rw [HM2.out]; exact OwnB.nil _ _
          | some k2 =>
            obtain ⟨hk2, -, -⟩ := hIX k2 rfl
            have hk3 : k2 ≤ 1000000 := by have := VT.out.len; omega
            have hk0 : ¬ (k2 : Int) < 0 := by omega
            simp only [Option.getD_some] at SI1 hd1
            rw [if_neg (by simp)] at hd2
            have HD : Kept (bm ++ Vi.enc k2 ++ (((Lb.strs L).drop (i + 1)).flatMap (Rc.symE T) ++ TL) = E ∧ Rc.symErr T C (Lb.strs L) = Rc.symErr T C ((Lb.strs L).drop (i + 1))) := ⟨by rw [← hd1]; simp, hd2⟩
            clear hd1 hd2 hIX hk2
            go_wp2_with (first
              | (go_at_call 49; refine SI1.out.mono ?_; rintro e w4 ⟨rfl, hw⟩; have X4 := Kept.mk X.out; rw [← hw] at X4; clear hw)
              | (go_at_call 48; refine (bq_app X4.out (by omega) (by omega)).mono ?_; rintro e w5 ⟨A8, n8, c8, rfl, hx⟩; have X5 := Kept.mk hx; clear hx))
            go_roundw
            case rel => exact ⟨i + 1, by omega, by go_num, A8, n8, c8, _, rfl, X5.out, HD⟩
            case measure => simp [intOf]; omega
        · have hd1 := hd.out.1
          have hd2 := hd.out.2
          rw [List.drop_eq_nil_of_le (by have := H6.out; omega)] at hd1 hd2
          rw [Rc.symErr] at hd2
          rw [List.flatMap_nil, List.nil_append, HTL.out] at hd1
          rw [hd2] at D2
          obtain ⟨y0, y1⟩ := CELLS.out wr hx.below
          have X := Kept.mk hx
          have hn7 : n7 ≤ 1000000000 := by
            have h1 := hx.own.len
            have h2 := SZ.out
            rw [← hd1] at h2
            simp at h2
            omega
          clear hd hx
          by_cases h0 : n4 = 0
          · have hC0 : C = [] := List.eq_nil_of_length_eq_zero (by have := H4.out; omega)
            rw [if_pos hC0] at D2
            have HM2 : Kept (M = ([], 23)) := ⟨by rw [HM.out, D2.out]; rfl⟩
            have h0' : (n4 : Int) = 0 := by omega
            clear hd1 hd2 D2
            go_wp2
            go_ret2
            refine ⟨none, 0, 0, ?_, ?_, X.out.below⟩
            · rw [HM2.out]; rfl
            · rw [HM2.out]; exact OwnB.nil _ _
          · have hC0 : C ≠ [] := fun h => h0 (by have := H4.out; rw [h] at this; simpa using this)
            rw [if_neg hC0] at D2
            have h0' : ¬ (n4 : Int) = 0 := by omega
            have h0'' : ((n4 : Int) == 0) = false := by simpa using h0'
            have D3 : Kept (bm ++ Vi.enc n4 ++ (C.flatMap Rc.chE ++ R) = E) := ⟨by rw [← hd1, H4.out]; simp⟩
            clear hd1 hd2 hC0
            go_upto_region 18 with (go_at_call 48; refine (bq_app X.out (by omega) (by omega)).mono ?_; rintro e w5 ⟨A8, n8, c8, rfl, hx⟩; have X5 := Kept.mk hx; clear hx X)
            clear y0 y1
            go_loopw [6, 11] (fun b j wi => ∃ i : Nat, i ≤ n4 ∧ j = .int .i64 i ∧ ∃ A7 n7 c7 bm, b = .slice A7 n7 c7 ∧ Bq w wi A7 n7 c7 bm A6 n6 c6 (Lb.strs L) ∧ Kept (bm ++ ((C.drop i).flatMap Rc.chE ++ R) = E ∧ Rc.chErr C = Rc.chErr (C.drop i))) (fun _ j _ => n4 - (intOf j).toNat)
            case atStart => exact ⟨0, by omega, rfl, A8, n8, c8, _, rfl, X5.out, ⟨D3.out, rfl⟩⟩
            case round =>
              clear X5 D3 hn7
              obtain ⟨i2, hi2, rfl, A7, n7, c7, bm, rfl, hx, hd⟩ := hrel
              have hd1 := hd.out.1
              have hd2 := hd.out.2
              have hn7 : n7 ≤ 1000000000 := by
                have h1 := hx.own.len
                have h2 := SZ.out
                rw [← hd1] at h2
                simp at h2
                omega
              clear hd
              obtain ⟨y0, y1⟩ := CELLS.out wr hx.below
              by_cases hlt3 : i2 < n4
              · have hil : i2 < C.length := by rw [← H4.out]; exact hlt3
                obtain ⟨b4, off4, rfl, -, z0⟩ := ((HC.out.below hx.below).more hx.below.size).at_ hil
                rw [Rc.drop_get _ i2 hil] at hd1 hd2
                rw [List.flatMap_cons] at hd1
                rw [Rc.chErr] at hd2
                have X := Kept.mk hx
                clear hx
                generalize C[i2] = x at *
                rcases Int.lt_or_le x 1 with h1 | h1
                · rw [if_pos (.inl h1)] at hd2
                  have HM2 : Kept (M = ([], 23)) := ⟨by rw [HM.out, D2.out, hd2]; rfl⟩
                  clear hd1 hd2
                  go_wp2
                  go_ret2
                  refine ⟨none, 0, 0, ?_, ?_, X.out.below⟩
                  · rw [HM2.out]; rfl
                  · rw [HM2.out]; exact OwnB.nil _ _
                · have h1' : ¬ x < 1 := by omega
                  rcases Int.lt_or_le 2147483647 x with h2 | h2
                  · rw [if_pos (.inr h2)] at hd2
                    have HM2 : Kept (M = ([], 23)) := ⟨by rw [HM.out, D2.out, hd2]; rfl⟩
                    clear hd1 hd2
                    go_wp2
                    go_ret2
                    refine ⟨none, 0, 0, ?_, ?_, X.out.below⟩
                    · rw [HM2.out]; rfl
                    · rw [HM2.out]; exact OwnB.nil _ _
                  · have h2' : ¬ 2147483647 < x := by omega
                    rw [if_neg (by omega)] at hd2
                    obtain ⟨m, rfl⟩ := Int.eq_ofNat_of_zero_le (show 0 ≤ x by omega)
                    have HD : Kept (bm ++ Vi.enc m ++ ((C.drop (i2 + 1)).flatMap Rc.chE ++ R) = E ∧ Rc.chErr C = Rc.chErr (C.drop (i2 + 1))) := ⟨by rw [← hd1]; simp [Rc.chE], hd2⟩
                    clear hd1 hd2
                    go_wp2_with (go_at_call 48; refine (bq_app X.out (by omega) (by omega)).mono ?_; rintro e w5 ⟨A8, n8, c8, rfl, hx⟩; have X5 := Kept.mk hx; clear hx)
                    go_roundw
                    case rel => exact ⟨i2 + 1, by omega, by go_num, A8, n8, c8, _, rfl, X5.out, HD⟩
                    case measure => simp [intOf]; omega
              · rw [List.drop_eq_nil_of_le (by have := H4.out; omega)] at hd1 hd2
                rw [Rc.chErr] at hd2
                rw [List.flatMap_nil, List.nil_append] at hd1
                rw [hd2] at D2
                have HD : Kept (bm ++ (rs.drop (k + 1)).flatMap (Rc.recE T) = E ∧ Rc.err T rs = Rc.err T (rs.drop (k + 1))) := ⟨by rw [← hd1, HRR.out], by rw [D2.out]; rfl⟩
                have X := Kept.mk hx
                clear hd1 hd2 hx D2
                go_wp2
                go_roundw
                case rel => exact ⟨k + 1, by omega, by go_num, A7, n7, c7, bm, rfl, X.out.own, X.out.below, HD⟩
                case measure => simp [intOf]; omega
    · have hd1 := hd.out.1
      have hd2 := hd.out.2
      rw [List.drop_eq_nil_of_le (by have := HN.out; omega)] at hd1 hd2
      rw [Rc.err] at hd2
      rw [List.flatMap_nil, List.append_nil] at hd1
      have HM2 : Kept (M = (bl, 0)) := ⟨by rw [HM.out, hd2, hd1]; rfl⟩
      have O := Kept.mk ho
      have B := Kept.mk hb
      clear hd hd1 hd2 ho hb
      go_wp2
      go_ret2
      refine ⟨A2, n2, c2, ?_, ?_, B.out⟩
      · rw [HM2.out]; rfl
      · rw [HM2.out]; exact O.out
end Go.Proofs.Ytglnghdomoebfaa
