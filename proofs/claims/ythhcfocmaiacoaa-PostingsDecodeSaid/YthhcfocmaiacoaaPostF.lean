/- Chapter 15: the reference's Encode. -/
import Derived.Test.YthhcfocmaiacoaaPostE
import Derived.Test.YthhcfocmaiacoaaSymN
import Derived.Test.YthhcfocmaiacoaaVarD
namespace Go.Proofs.Ythhcfocmaiacoaa
open Go.RowKit Go.Shelf

theorem Sy.idxI_of (T : List ByteArray) (s : ByteArray) : Sy.idxI T s = ((Sy.idx T s).map fun k => (k : Int)).getD (-1) := by
  unfold Sy.idxI
  cases Sy.idx T s <;> rfl
set_option maxRecDepth 100000 in
set_option maxHeartbeats 8000000 in
theorem refEncode15_any (TA A : Option Addr) (tn tc n c : Nat) (T : List ByteArray) (es : List EntV) (w : World) (hT : RdS w w.heap.size TA tn tc T) (hv : RdEn w w.heap.size A n c es) (htn : tn ≤ 1000000)
    (hn : n ≤ 1000000) (hr : ∀ e ∈ es, e.2.length ≤ 1000000 ∧ Pe.Up 0 e.2) (hsz : (Pe.encB T es).length ≤ 1000000000) :
    Calls Try.prog 37 #[.slice TA tn tc, .slice A n c] w fun e w' => ∃ A3 n3 c3, e = .returned (.tuple #[.slice A3 n3 c3, .int .i64 (Pe.enc T es).2]) ∧ OwnB w' w.heap.size A3 n3 c3 (Pe.enc T es).1 ∧ Below w.heap.size w w' := by
  obtain ⟨hlc, hcm⟩ := hv.cap
  unfold maxLen at hcm
  have HN := Kept.mk hv.len
  have V := Kept.mk hv
  have VT := Kept.mk hT
  have HR := Kept.mk hr
  obtain ⟨M, hM⟩ : ∃ M, M = Pe.enc T es := ⟨_, rfl⟩
  rw [← hM]
  obtain ⟨E, hE⟩ : ∃ E, E = Pe.encB T es := ⟨_, rfl⟩
  rw [← hE] at hsz
  have HE := Kept.mk hE
  have HM : Kept (M = if es.all (Pe.okE T) = true then (E, 0) else ([], 14)) := ⟨by rw [hM, hE]; rfl⟩
  have SZ := Kept.mk hsz
  have hwn := wrap_u64 (n : Int) (by omega) (by omega)
  clear hv hT hr hM hE hsz
  go_enter Try.func37, Try.ntmps37
  go_upto_region 3 with (go_at_call 54; refine (refEncode_any n _ (by omega)).mono ?_; rintro e w1 ⟨A1, n1, c1, rfl, ho1, hb1⟩; have O1 := Kept.mk ho1; have B1 := Kept.mk hb1; clear ho1 hb1)
  go_loopw [6, 7] (fun b i wr => ∃ k : Nat, k ≤ n ∧ i = .int .i64 k ∧ ∃ (A2 : Option Addr) (n2 c2 : Nat) (bl : List UInt8), b = .slice A2 n2 c2 ∧ OwnB wr w.heap.size A2 n2 c2 bl ∧ Below w.heap.size w wr ∧ Kept (bl ++ (es.drop k).flatMap (Pe.entE T) = E ∧ es.all (Pe.okE T) = (es.drop k).all (Pe.okE T))) (fun _ i _ => n - (intOf i).toNat)
  case atStart => exact ⟨0, by omega, rfl, A1, n1, c1, _, rfl, O1.out, B1.out, ⟨by rw [HE.out, Pe.encB, HN.out]; simp, rfl⟩⟩
  case round =>
    clear O1 B1
    obtain ⟨k, hk, rfl, A2, n2, c2, bl, rfl, ho, hb, hd⟩ := hrel
    by_cases hlt : k < n
    · have hkl : k < es.length := by rw [← HN.out]; exact hlt
      obtain ⟨b, off, A3, n3, c3, rfl, hbB, hL, hc⟩ := V.out.cells (Nat.le_refl _) hkl
      obtain ⟨r0, r1, r2⟩ := hc wr hb
      have CELLS := Kept.mk hc
      obtain ⟨h6a, h6b⟩ := HR.out _ (List.getElem_mem hkl)
      have hdg := Rc.drop_get es k hkl
      have hd1 := hd.out.1
      have hd2 := hd.out.2
      rw [hdg] at hd1 hd2
      rw [List.flatMap_cons] at hd1
      rw [List.all_cons] at hd2
      unfold Pe.entE at hd1
      clear hd hdg hc
      obtain ⟨R, hRR⟩ : ∃ R, R = (es.drop (k + 1)).flatMap (Pe.entE T) := ⟨_, rfl⟩
      have HRR := Kept.mk hRR
      unfold Pe.entE at hRR
      rw [← hRR] at hd1
      clear hRR
      generalize es[k] = ek at *
      obtain ⟨⟨xn, xv⟩, s⟩ := ek
      simp only [] at hL h6a h6b hd1 hd2 r0 r1 r2 CELLS
      have HL := Kept.mk hL
      have hl3 := OwnI.len hL
      have hc3 := (OwnI.rd hL).1
      have hm3 := (OwnI.rd hL).2.1
      unfold maxLen at hm3
      have h36 : n3 ≤ 1000000 := by omega
      have hw3 := wrap_u64 (n3 : Int) (by omega) (by omega)
      have H3 := Kept.mk hl3
      have UP := Kept.mk h6b
      have O0 := Kept.mk ho
      have B0 := Kept.mk hb
      have SI := fun s => Kept.mk (refIndex_any TA tn tc T s wr ((VT.out.below hb).more hb.size))
      have S1 := SI xn
      have S2 := SI xv
      have hI1 := fun k (h : Sy.idx T xn = some k) => Sy.idx_some h
      have hI2 := fun k (h : Sy.idx T xv = some k) => Sy.idx_some h
      have hok : Pe.okE T ((⟨xn, xv⟩, s) : EntV) = ((Sy.idx T xn).isSome && (Sy.idx T xv).isSome) := rfl
      rw [hok] at hd2
      unfold Rc.symE at hd1
      rw [Sy.idxI_of] at S1 S2
      rw [← hl3] at hd1
      have hbz := hb.size
      clear SI hL hl3 ho hb h6a h6b hok
      generalize Sy.idx T xn = o1 at *
      generalize Sy.idx T xv = o2 at *
      cases o1 with
      | none =>
        have HM2 : Kept (M = ([], 14)) := ⟨by rw [HM.out, hd2]; simp⟩
        try simp only [Option.map_none, Option.getD_none] at S1
        generalize (o2.map fun k => (k : Int)).getD (-1) = v2 at *
        clear hd1 hd2 hI1 hI2
        go_upto_region 6 with (go_at_call 20; refine S1.out.mono ?_; rintro e w4 ⟨rfl, hw⟩; obtain rfl := hw.symm)
        go_upto_region 7 with (go_at_call 20; refine S2.out.mono ?_; rintro e w4 ⟨rfl, hw⟩; obtain rfl := hw.symm)
        go_wp2
        go_ret2
        refine ⟨none, 0, 0, ?_, ?_, B0.out⟩
        · rw [HM2.out]; rfl
        · rw [HM2.out]; exact OwnB.nil _ _
      | some k1 =>
        cases o2 with
        | none =>
          have HM2 : Kept (M = ([], 14)) := ⟨by rw [HM.out, hd2]; simp⟩
          try simp only [Option.map_none, Option.getD_none, Option.map_some, Option.getD_some] at S1 S2
          have hk0 : ¬ (k1 : Int) < 0 := by omega
          clear hd1 hd2 hI1 hI2
          go_upto_region 6 with (go_at_call 20; refine S1.out.mono ?_; rintro e w4 ⟨rfl, hw⟩; obtain rfl := hw.symm)
          go_upto_region 7 with (go_at_call 20; refine S2.out.mono ?_; rintro e w4 ⟨rfl, hw⟩; obtain rfl := hw.symm)
          go_wp2
          go_ret2
          refine ⟨none, 0, 0, ?_, ?_, B0.out⟩
          · rw [HM2.out]; rfl
          · rw [HM2.out]; exact OwnB.nil _ _
        | some k2 =>
          obtain ⟨hk1, -, -⟩ := hI1 k1 rfl
          obtain ⟨hk2, -, -⟩ := hI2 k2 rfl
          have hT1 := VT.out.len
          have hk1' : k1 ≤ 1000000 := by omega
          have hk2' : k2 ≤ 1000000 := by omega
          have hk0 : ¬ (k1 : Int) < 0 := by omega
          have hk0' : ¬ (k2 : Int) < 0 := by omega
          have hwk1 := wrap_u64 (k1 : Int) (by omega) (by omega)
          have hwk2 := wrap_u64 (k2 : Int) (by omega) (by omega)
          simp only [Option.getD_some, Option.isSome_some, Bool.true_and, Bool.and_true] at S1 S2 hd1 hd2
          have D4 : Kept (es.all (Pe.okE T) = (es.drop (k + 1)).all (Pe.okE T)) := ⟨hd2⟩
          have D1 : Kept (bl ++ Vi.enc k1 ++ Vi.enc k2 ++ Vi.enc n3 ++ (Pe.gap 0 s ++ R) = E) := ⟨by rw [← hd1]; simp⟩
          have hsum : n2 + (Vi.enc k1).length + (Vi.enc k2).length + (Vi.enc n3).length ≤ 1000000000 := by
            have h1 := O0.out.len
            have h2 := SZ.out
            rw [← D1.out] at h2
            simp only [List.length_append] at h2
            omega
          clear hd1 hd2 hI1 hI2 hk1 hk2 hT1
          go_upto_region 6 with (go_at_call 20; refine S1.out.mono ?_; rintro e w4 ⟨rfl, hw⟩; obtain rfl := hw.symm)
          go_upto_region 7 with (go_at_call 20; refine S2.out.mono ?_; rintro e w4 ⟨rfl, hw⟩; obtain rfl := hw.symm)
          go_upto_region 10 with (first
            | (at_builtin; refine wpList_appB rfl (.tmp 44) (.tmp 47) rfl w.heap.size A2 n2 c2 bl rfl P3.out _ _ _ _ _ rfl O3.out (by have := h5.out; omega) B3.out.size ?_; intro A4 c4 w4 hown4 hgrow4 hat4; have O4 := Kept.mk hown4; have B4 := Kept.mk (B3.out.trans (own_grown_below P3.out B3.out.size hgrow4)); clear hown4 hgrow4 hat4)
            | (go_at_call 54; refine (refEncode_any k1 _ (by omega)).mono ?_; rintro e w3 ⟨A5, n5, c5, rfl, ho, hb⟩; have h5 := Kept.mk ho.len; have O3 := Kept.mk ho.rd; have P3 := Kept.mk (O0.out.keep hb); have B3 := Kept.mk (B0.out.trans (hb.mono B0.out.size)); clear ho hb))
          go_upto_region 11 with (first
            | (at_builtin; refine wpList_appB rfl (.tmp 49) (.tmp 52) rfl w.heap.size A4 _ c4 _ rfl P6.out _ _ _ _ _ rfl O6.out (by have := h5.out; have := h6.out; omega) B6.out.size ?_; intro A7 c7 w7 hown4 hgrow4 hat4; have O7 := Kept.mk hown4; have B7 := Kept.mk (B6.out.trans (own_grown_below P6.out B6.out.size hgrow4)); obtain ⟨u0, u1, u2⟩ := CELLS.out w7 B7.out; clear hown4 hgrow4 hat4)
            | (go_at_call 54; refine (refEncode_any k2 _ (by omega)).mono ?_; rintro e w6 ⟨A6, n6, c6, rfl, ho, hb⟩; have h6 := Kept.mk ho.len; have O6 := Kept.mk ho.rd; have P6 := Kept.mk (O4.out.keep hb); have B6 := Kept.mk (B4.out.trans (hb.mono B4.out.size)); clear ho hb))
          go_upto_region 14 with (first
            | (at_builtin; refine wpList_appB rfl (.tmp 54) (.tmp 62) rfl w.heap.size A7 _ c7 _ rfl P8.out _ _ _ _ _ rfl O8.out (by have := h5.out; have := h6.out; have := h8.out; omega) B8.out.size ?_; intro A9 c9 w9 hown4 hgrow4 hat4; have O9 := Kept.mk hown4; have B9 := Kept.mk (B8.out.trans (own_grown_below P8.out B8.out.size hgrow4)); clear hown4 hgrow4 hat4)
            | (go_at_call 54; refine (refEncode_any n3 _ (by omega)).mono ?_; rintro e w8 ⟨A8, n8, c8, rfl, ho, hb⟩; have h8 := Kept.mk ho.len; have O8 := Kept.mk ho.rd; have P8 := Kept.mk (O7.out.keep hb); have B8 := Kept.mk (B7.out.trans (hb.mono B7.out.size)); clear ho hb))
          clear r0 r1 r2 u0 u1 u2
          go_loopw [6, 10, 11] (fun b la j wi => ∃ i : Nat, i ≤ n3 ∧ j = .int .i64 i ∧ ∃ (a : Int) (A7 : Option Addr) (n7 c7 : Nat) (bm : List UInt8), la = .int .i64 a ∧ b = .slice A7 n7 c7 ∧ OwnB wi w.heap.size A7 n7 c7 bm ∧ Below w.heap.size w wi ∧ Kept ((0 :: s)[i]? = some a ∧ bm ++ (Pe.gap a (s.drop i) ++ R) = E)) (fun _ _ j _ => n3 - (intOf j).toNat)
          case atStart => exact ⟨0, by omega, rfl, 0, A9, _, c9, _, rfl, rfl, O9.out, B9.out, ⟨rfl, D1.out⟩⟩
          case round =>
            clear O9 B9 O8 P8 B8 O7 B7 O6 P6 B6 O4 B4 O3 P3 B3 D1
            obtain ⟨i2, hi2, rfl, a, A7, n7, c7, bm, rfl, rfl, ho, hb, hd⟩ := hrel
            have hd1 := hd.out.2
            have hda := hd.out.1
            have hnb := ho.len
            obtain ⟨u0, u1, u2⟩ := CELLS.out wr hb
            have O1 := Kept.mk ho
            have B1 := Kept.mk hb
            clear hd
            by_cases hlt3 : i2 < n3
            · have hil : i2 < s.length := by rw [← H3.out]; exact hlt3
              have HS2 := Kept.mk (fun W (h : Below w.heap.size w W) => OwnI.rd (own_keepI' HL.out h))
              obtain ⟨b4, off4, rfl, -, z0⟩ := (HS2.out wr hb).at_ hil
              have hila : i2 < (0 :: s).length := by simp; omega
              have haa : (0 :: s)[i2] = a := by rw [List.getElem?_eq_getElem hila] at hda; exact Option.some.inj hda
              have hup := Pe.Up.get UP.out hil
              have hnn := Pe.Up.nn UP.out (Int.le_refl 0) (k := i2) (by omega)
              have hga := Pe.gap_at (a := 0) hil
              rw [haa] at hup hnn hga
              rw [hga] at hd1
              have hnx : (0 :: s)[i2 + 1]? = some s[i2] := by simp [hil]
              rw [List.getElem_cons_succ] at hd1
              have ZZ : Kept (∀ W, Below w.heap.size w W → W.cell? ⟨b4, off4 + i2, none⟩ = some (.int .i64 s[i2])) := ⟨fun W hW => by
                obtain ⟨b5, off5, e, -, z⟩ := (HS2.out W hW).at_ hil
                cases e
                exact z⟩
              clear ho hb hga haa hda
              generalize s[i2] = x at *
              obtain ⟨g, hg, hs1, hs2, hs3⟩ := Up_step hnn hup.1 hup.2
              rw [hg] at hd1
              have hsum2 : n7 + (Vi.enc g).length ≤ 1000000000 := by
                have h2 := SZ.out
                rw [← hd1] at h2
                simp only [List.length_append] at h2
                omega
              have HD : Kept ((0 :: s)[i2 + 1]? = some x ∧ bm ++ Vi.enc g ++ (Pe.gap x (s.drop (i2 + 1)) ++ R) = E) := ⟨hnx, by rw [← hd1]; simp⟩
              clear hg hd1 hnx hup hnn hnb
              go_upto_region 17 with (first
                | (at_builtin; refine wpList_appB rfl (.tmp 74) (.tmp 86) rfl w.heap.size A7 n7 c7 bm rfl P3.out _ _ _ _ _ rfl O3.out (by have := h5.out; omega) B3.out.size ?_; intro A4 c4 w4 hown4 hgrow4 hat4; have O4 := Kept.mk hown4; have B4 := Kept.mk (B3.out.trans (own_grown_below P3.out B3.out.size hgrow4)); obtain ⟨t0, t1, t2⟩ := CELLS.out w4 B4.out; have z4 := ZZ.out w4 B4.out; clear hown4 hgrow4 hat4)
                | (go_at_call 54; refine (refEncode_any g _ hs3).mono ?_; rintro e w3 ⟨A5, n5, c5, rfl, ho, hb⟩; have h5 := Kept.mk ho.len; have O3 := Kept.mk ho.rd; have P3 := Kept.mk (O1.out.keep hb); have B3 := Kept.mk (B1.out.trans (hb.mono B1.out.size)); clear ho hb))
              go_wp2
              go_roundw
              case rel => exact ⟨i2 + 1, by omega, by go_num, x, A4, _, c4, _, rfl, rfl, O4.out, B4.out, HD⟩
              case measure => simp [intOf]; omega
            · obtain rfl : i2 = n3 := by omega
              rw [List.drop_eq_nil_of_le (by have := H3.out; omega), Pe.gap, List.nil_append, HRR.out] at hd1
              have D5 : Kept (bm ++ (es.drop (k + 1)).flatMap (Pe.entE T) = E ∧ es.all (Pe.okE T) = (es.drop (k + 1)).all (Pe.okE T)) := ⟨hd1, D4.out⟩
              clear ho hb hda hd1 hnb
              go_wp2
              go_roundw
              case rel => exact ⟨k + 1, by omega, by go_num, A7, n7, c7, bm, rfl, O1.out, B1.out, D5⟩
              case measure => simp [intOf]; omega
    · obtain rfl : k = n := by omega
      have hd1 := hd.out.1
      have hd2 := hd.out.2
      rw [List.drop_eq_nil_of_le (by have := HN.out; omega)] at hd1 hd2
      rw [List.flatMap_nil, List.append_nil] at hd1
      have HM2 : Kept (M = (E, 0)) := ⟨by rw [HM.out, hd2]; rfl⟩
      have O := Kept.mk ho
      have HB := Kept.mk hb
      have HD1 := Kept.mk hd1
      clear ho hb hd hd1 hd2
      go_wp2
      go_ret2
      refine ⟨A2, n2, c2, ?_, ?_, HB.out⟩
      · rw [HM2.out]; rfl
      · rw [HM2.out]; show OwnB _ _ _ _ _ E; rw [← HD1.out]; exact O.out
end Go.Proofs.Ythhcfocmaiacoaa
