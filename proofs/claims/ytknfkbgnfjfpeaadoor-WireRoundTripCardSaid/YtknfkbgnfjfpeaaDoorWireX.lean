/- The law WireRoundTrip. -/
import Derived.Test.YtknfkbgnfjfpeaaDoorWireW
namespace Go.Proofs.YtknfkbgnfjfpeaaDoor
open Go.RowKit Go.Shelf

theorem svs_at {w : World} {B n c k : Nat} {A : Option Addr} {L : List ByteArray} (h : Rd w B 1 A n c (svs L)) (hk : k < L.length) : ∃ b off, A = some ⟨b, off, none⟩ ∧ b < B ∧ w.cell? ⟨b, off + k, none⟩ = some (.string L[k]) := by
  have hl := h.2.2.1
  have hsv : (svs L).length = L.length := by simp [svs]
  obtain ⟨b, off, u, h1, h2, h3, h4⟩ := h.at_ (k := k) (by omega)
  refine ⟨b, off, h1, h2, ?_⟩
  rw [h4, ← h3]
  simp [svs, List.getElem?_eq_getElem hk]
set_option maxRecDepth 100000 in
set_option maxHeartbeats 4000000 in
theorem law_wround (A : Option Addr) (n c : Nat) (L : List ByteArray) (A' : Option Addr) (n' c' : Nat) (ids : List UInt8) (w : World) (hv : Rd w w.heap.size 1 A n c (svs L)) (hi : RdB w w.heap.size A' n' c' ids) (ht : Tab w) :
    Calls Tryd.prog 5 #[.slice A n c, .slice A' n' c'] w fun r w' => r = .returned (.bool true) ∧ Below w.heap.size w w' := by
  have hlc := hv.1
  have hcm := hv.2.1
  have hlc' := hi.1
  have hcm' := hi.2.1
  unfold maxLen at hcm hcm'
  have hnl : Kept (n = L.length) := ⟨by have := hv.2.2.1; simp [svs] at this; omega⟩
  obtain ⟨W1, hW1⟩ : ∃ W1, W1 = w.alloc (.cells #[.slice A' n' c'] 22) := ⟨_, rfl⟩
  have hb0 : Below w.heap.size w W1 := by rw [hW1]; exact (Below.refl _ w).alloc (Nat.le_refl _) _
  have hz0 : w.heap.size < W1.heap.size := by rw [hW1]; simp
  have hbx : W1.cell? ⟨w.heap.size, 0, none⟩ = some (.slice A' n' c') := by rw [hW1]; exact World.cell?_alloc_mark w _ _ _ 0
  have V0 := Kept.mk ((hv.below hb0).more (B' := W1.heap.size) (by omega))
  have I0 := Kept.mk ((hi.below hb0).more (B' := W1.heap.size) (by omega))
  have T0 := Kept.mk (ht.below hb0)
  have B0 := Kept.mk hb0
  have HW1 := Kept.mk hW1.symm
  have HBX := Kept.mk hbx
  have HID : Kept (∀ W, Below W1.heap.size W1 W → ∀ i : Nat, Calls Tryd.prog 27 #[.int .i64 (i : Int), .pointer (some ⟨w.heap.size, 0, none⟩)] W fun r w' => r = .returned (.int .u8 ((RT.id ids i).toNat : Int)) ∧ W = w') :=
    ⟨fun W h i => rtid_any w.heap.size i A' n' c' W1.heap.size ids W ((h.cell (p := ⟨w.heap.size, 0, none⟩) hz0).trans hbx) (I0.out.below h)⟩
  clear hv hi ht hb0 hW1 hbx
  go_enter Tryd.func5, Tryd.ntmps5
  go_upto_region 2 with fail
  rw [HW1.out]
  go_wp2
  go_loop [5, 17] (fun m i => ∃ k s : Nat, k ≤ n ∧ i = .int .i64 k ∧ m = .int .i64 s ∧ s ≤ 2000 ∧ Kept (s = RT.sm L k)) (fun _ i => n - (intOf i).toNat)
  case atStart => exact ⟨0, 0, Nat.zero_le _, rfl, rfl, by omega, ⟨rfl⟩⟩
  case round =>
    obtain ⟨k, s, hk, rfl, rfl, hs, hsm⟩ := hrel
    by_cases hlt : k < n
    · have hkl : k < L.length := by rw [← hnl.out]; exact hlt
      obtain ⟨b, off, rfl, hbb, hcell⟩ := svs_at V0.out hkl
      have hsz : Kept (L[k].size = (RT.dat L k).length) := ⟨by rw [← RT.dat_eq hkl, Array.length_toList]; rfl⟩
      generalize L[k] = x at *
      have hstep : Kept (RT.sm L (k + 1) = RT.sm L k + (1 + min (RT.dat L k).length 2000)) := ⟨rfl⟩
      by_cases hx : x.size ≤ 2000
      · have hx1 : (x.size : Int) ≤ 2000 := by omega
        have hmn : min (x.size : Int) 2000 = (x.size : Int) := by omega
        have hst : Kept (RT.sm L (k + 1) = s + (1 + x.size)) := ⟨by rw [hstep.out, hsm.out, ← hsz.out]; omega⟩
        by_cases hbig : (2000 : Int) < (s : Int) + (1 + (x.size : Int))
        · go_wp2_with (go_at_call 15; refine (alive_any _).mono ?_; rintro e w1 ⟨rfl, hb1⟩)
          go_ret
          exact ⟨rfl, bl_next B0.out hb1⟩
        · have hsm2 : (s : Int) + (1 + (x.size : Int)) ≤ 2000 := by omega
          clear hbig
          go_wp2
          go_round
          case rel => exact ⟨k + 1, s + (1 + x.size), by omega, by go_num, by go_num, by omega, ⟨hst.out.symm⟩⟩
          case measure => simp [intOf]; omega
      · have hx1 : (2000 : Int) < (x.size : Int) := by omega
        have hmn : min (x.size : Int) 2000 = 2000 := by omega
        have hbig : (2000 : Int) < (s : Int) + (1 + 2000) := by omega
        clear hx
        go_wp2_with (go_at_call 15; refine (alive_any _).mono ?_; rintro e w1 ⟨rfl, hb1⟩)
        go_ret
        exact ⟨rfl, bl_next B0.out hb1⟩
    · obtain rfl : k = n := by omega
      have hS : Kept (RT.sm L k ≤ 2000) := ⟨by rw [← hsm.out]; exact hs⟩
      have hPL : Kept (∀ j, j ≤ k → (RT.pre ids L j).length ≤ 54000) := ⟨fun j hj => by have h1 := RT.pre_len ids L k hS.out j hj; have h2 := RT.sm_mono L j k hj; have := hS.out; omega⟩
      have hDL : Kept (∀ j, j < k → (RT.dat L j).length < 2000) := ⟨fun j hj => RT.dat_le L j k hj hS.out⟩
      clear hsm hs
      go_upto_region 11 with fail
      go_wp2
      go_loopw [8, 34] (fun o i wr => ∃ j : Nat, j ≤ k ∧ i = .int .i64 j ∧ ∃ A3 n3 c3, o = .slice A3 n3 c3 ∧ OwnB wr W1.heap.size A3 n3 c3 (RT.pre ids L j) ∧ Below W1.heap.size W1 wr) (fun _ i _ => k - (intOf i).toNat)
      case atStart => exact ⟨0, Nat.zero_le _, rfl, none, 0, 0, rfl, OwnB.nil _ _, Below.refl _ _⟩
      case round =>
        obtain ⟨j, hj, rfl, A3, n3, c3, rfl, ho, hb⟩ := hrel
        by_cases hlt : j < k
        · have hkl : j < L.length := by rw [← hnl.out]; exact hlt
          obtain ⟨b, off, rfl, hbb, hcell⟩ := svs_at V0.out hkl
          have hlive := (hb.cell (p := ⟨b, off + j, none⟩) hbb).trans hcell
          have hdd : Kept (L[j].data.toList = RT.dat L j) := ⟨RT.dat_eq hkl⟩
          have hxs : L[j].size < 2000 := by have h1 := hDL.out j hlt; rw [← RT.dat_eq hkl, Array.length_toList] at h1; exact h1
          have hn3 : n3 ≤ 54000 := by rw [ho.len]; exact hPL.out j hj
          have O3 := Kept.mk ho
          have B3 := Kept.mk hb
          have hps := Kept.mk (RT.pre_succ ids L j)
          have hsl := Kept.mk (Wr.str_len (RT.dat L j) (by have := hDL.out j hlt; omega))
          have hz3 := hb.size
          clear ho hb hcell
          generalize L[j] = x at *
          go_wp2_with (first
            | (go_at_call 16; refine (appendBytes_any _ _ _ W1.heap.size _ x wr O3.out hz3 (by omega)).mono ?_; rintro r w4 ⟨A4, n4, c4, rfl, ho4, hb4⟩; rw [hdd.out] at ho4; have o4 := Kept.mk ho4; have b4 := Kept.mk (B3.out.trans hb4); have z4 := b4.out.size; have hn4 : n4 ≤ 60000 := (by have h1 := ho4.len; rw [List.length_append] at h1; have h2 := hsl.out; have h3 := hPL.out j hj; have h4 := hDL.out j hlt; omega); clear ho4 hb4)
            | (go_at_call 27; refine (HID.out w4 b4.out j).mono ?_; rintro r w5 ⟨rfl, rfl⟩)
            | (refine wpList_convS rfl (.tmp 46) rfl x rfl (by omega) ?_; intro c6 w6 hr6 hb6 hz6; rw [hdd.out] at hr6; have r6 := Kept.mk hr6; have o6 := Kept.mk (OwnB.keep o4.out hb6); have b6 := Kept.mk (bl_next b4.out hb6); have z6 : w4.heap.size + 1 ≤ w6.heap.size := (by omega); have t6 := Kept.mk (T0.out.below b6.out); clear hr6 hb6 hz6)
            | (go_at_call 18; refine (appendSection_any _ _ _ _ _ _ W1.heap.size (w4.heap.size + 1) _ (RT.dat L j) (RT.id ids j) w6 o6.out r6.out z6 t6.out b6.out.size (by omega)).mono ?_; rintro r w7 ⟨A7, n7, c7, rfl, ho7, hb7⟩; rw [← hps.out] at ho7; have o7 := Kept.mk ho7; have b7 := Kept.mk (b6.out.trans hb7); clear ho7 hb7))
          go_roundw
          case rel => exact ⟨j + 1, by omega, by go_num, A7, n7, c7, rfl, o7.out, b7.out⟩
          case measure => simp [intOf]; omega
        · obtain rfl : j = k := by omega
          have hn3 : n3 ≤ 54000 := by rw [ho.len]; exact hPL.out j hj
          have O3 := Kept.mk ho
          have B3 := Kept.mk hb
          have N3 : Kept (n3 = (RT.pre ids L j).length) := ⟨ho.len⟩
          have hz3 := hb.size
          have hlc3 := ho.rd.1
          have hSp : Kept (∀ i, i ≤ j → ∃ R, RT.pre ids L j = RT.pre ids L i ++ R) := ⟨fun i hi => RT.pre_split ids L i j hi⟩
          have hE : Kept (Wr.fin (RT.pre ids L j) n3 0 = 0) := ⟨by unfold Wr.fin; rw [if_neg (by simp), if_neg (by rw [N3.out]; omega)]⟩
          clear ho hb
          obtain ⟨tot, htot⟩ : ∃ t, RT.pre ids L j = t := ⟨_, rfl⟩
          rw [htot] at O3 N3 hE hSp
          have hTot := Kept.mk htot
          clear htot
          go_upto_region 20 with (go_at_call 23; refine (newReader_any _ _ _ wr.heap.size tot wr O3.out.rd (Nat.le_refl _) (by omega)).mono ?_; rintro r w4 ⟨p, rfl, hp1, hp2, hr4, hb4⟩; have r4 := Kept.mk hr4; have b4 := Kept.mk (bl_next B3.out hb4); have z4 := hb4.size; clear hr4 hb4)
          have hpB : W1.heap.size ≤ p := by omega
          clear O3 B3
          go_wp2
          go_loopw [57] (fun i wq => ∃ m : Nat, m ≤ j ∧ i = .int .i64 m ∧ Rdr wq p tot (RT.pre ids L m).length 0 ∧ Below W1.heap.size W1 wq) (fun i _ => j - (intOf i).toNat)
          case atStart => exact ⟨0, Nat.zero_le _, rfl, r4.out, b4.out⟩
          case round =>
            clear r4 b4
            obtain ⟨m, hm, rfl, hr, hb⟩ := hrel
            by_cases hlt : m < j
            · have hkl : m < L.length := by rw [← hnl.out]; exact hlt
              obtain ⟨b, off, rfl, hbb, hcell⟩ := svs_at V0.out hkl
              have hlive := (hb.cell (p := ⟨b, off + m, none⟩) hbb).trans hcell
              have hdl := hDL.out m hlt
              obtain ⟨R, hR⟩ := hSp.out (m + 1) hlt
              have hback : Kept ((⟨(RT.dat L m).toArray⟩ : ByteArray) = L[m]) := ⟨RT.back hkl⟩
              have hps := RT.pre_succ ids L m
              have hs1 : Kept (Wr.string tot (RT.pre ids L m).length 0 2000 = (RT.dat L m, (RT.pre ids L m ++ Wr.str (RT.dat L m)).length, 0)) := ⟨by
                have h := Wr.string_str (RT.pre ids L m) (Wr.frame (RT.id ids m) (RT.dat L m) ++ R) (RT.dat L m) 2000 (by omega) (by omega)
                rw [hR, hps, List.length_append]
                rw [show RT.pre ids L m ++ Wr.str (RT.dat L m) ++ Wr.frame (RT.id ids m) (RT.dat L m) ++ R = RT.pre ids L m ++ Wr.str (RT.dat L m) ++ (Wr.frame (RT.id ids m) (RT.dat L m) ++ R) by simp]
                exact h⟩
              have hs2 : Kept (Wr.sect tot (RT.pre ids L m ++ Wr.str (RT.dat L m)).length 0 (RT.id ids m) = (RT.dat L m, (RT.pre ids L (m + 1)).length, 0)) := ⟨by
                have h := Wr.sect_frame (RT.pre ids L m ++ Wr.str (RT.dat L m)) R (RT.dat L m) (RT.id ids m) (by omega)
                rw [hR, hps, List.length_append (bs := Wr.frame _ _)]
                exact h⟩
              have Hr := Kept.mk hr
              have Hb := Kept.mk hb
              have hz := hb.size
              clear hr hb hcell hR hps
              generalize L[m] = x at *
              generalize RT.dat L m = d at *
              generalize (RT.pre ids L m ++ Wr.str d).length = a2 at *
              generalize hq : RT.pre ids L (m + 1) = P2 at *
              have Hq := Kept.mk hq
              clear hq
              go_wp2_with (first
                | (go_at_call 28; refine (string_any p _ tot 0 2000 wr Hr.out (by omega)).mono ?_; rintro r w5 ⟨rfl, hr5, hg5⟩; rw [hs1.out] at hr5 ⊢; have r5 := Kept.mk hr5; have b5 := Kept.mk (Hb.out.trans (grown_below hg5 hpB hz)); have t5 := Kept.mk (T0.out.below b5.out); clear hr5 hg5; rw [hback.out])
                | (go_at_call 27; refine (HID.out w5 b5.out m).mono ?_; rintro r w6 ⟨rfl, rfl⟩)
                | (go_at_call 24; refine (section_any p a2 tot 0 (RT.id ids m) w5 r5.out t5.out).mono ?_; rintro r w7 ⟨A7, n7, c7, rfl, ho7, hr7, hg7⟩; rw [hs2.out] at ho7 hr7; have r7 := Kept.mk hr7; have b7 := Kept.mk (b5.out.trans (grown_below hg7 hpB b5.out.size)); have kc := run_bytes_str w7 w7.heap.size A7 n7 c7 d ho7.rd; rw [hback.out] at kc; clear hr7 hg7 ho7))
              go_roundw
              case rel => exact ⟨m + 1, by omega, by go_num, by rw [Hq.out]; exact r7.out, b7.out⟩
              case measure => simp [intOf]; omega
            · obtain rfl : m = j := by omega
              have hr' : Rdr wr p tot n3 0 := by rw [hTot.out, ← N3.out] at hr; exact hr
              have Hr := Kept.mk hr'
              have Hb := Kept.mk hb
              clear hr hr' hb
              go_wp2_with (first
                | (go_at_call 15; refine (alive_any _).mono ?_; rintro r w8 ⟨rfl, hb8⟩; have r8 := Kept.mk (Hr.out.below hb8 Hr.out.lt); have b8 := Kept.mk (bl_next Hb.out hb8); clear hb8)
                | (go_at_call 29; refine (end_any p n3 tot 0 w8 r8.out).mono ?_; rintro r w9 ⟨rfl, rfl⟩; rw [hE.out])
                | (go_at_call 26; refine (at_any p n3 tot 0 w8 r8.out).mono ?_; rintro r w9 ⟨rfl, rfl⟩))
              go_ret
              exact ⟨rfl, B0.out.trans (b8.out.mono (by omega))⟩
end Go.Proofs.YtknfkbgnfjfpeaaDoor
