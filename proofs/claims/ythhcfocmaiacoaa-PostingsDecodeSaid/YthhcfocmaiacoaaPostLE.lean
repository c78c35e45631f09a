/- Chapter 15: the reference's Is; the law PostingsAreCanonical. -/
import Derived.Test.YthhcfocmaiacoaaPostLC
namespace Go.Proofs.Ythhcfocmaiacoaa
open Go.RowKit Go.Shelf Go.Sort

namespace Pe
theorem asc_props {bnd : Nat} : ∀ {s : List Int} {a : Int} {f : Bool}, Asc bnd a f s → Ls.S s ∧ ∀ y ∈ s, (if f = true then a ≤ y else a < y) ∧ y < (bnd : Int)
  | [], _, _, _ => ⟨List.Pairwise.nil, by simp⟩
  | y :: r, a, f, h => by
    obtain ⟨h1, h2⟩ := asc_props h.2.2
    refine ⟨List.pairwise_cons.2 ⟨fun z hz => ?_, h1⟩, fun z hz => ?_⟩
    · have := (h2 z hz).1
      simpa using this
    · rcases List.mem_cons.1 hz with rfl | hz
      · exact ⟨h.1, h.2.1⟩
      · have h3 := (h2 z hz).1
        have h4 := h.1
        rw [if_neg (by simp)] at h3
        refine ⟨?_, (h2 z hz).2⟩
        split at h4 <;> split <;> omega
end Pe
set_option maxRecDepth 100000 in
set_option maxHeartbeats 8000000 in
theorem is15_any (A : Option Addr) (n c bnd : Nat) (E : List EntV) (w : World) (hv : RdEn w w.heap.size A n c E) (hp : Lb.PSrt (E.map (·.1))) (hs : ∀ e ∈ E, Pe.okS bnd e.2) (hn : n ≤ 1000000) :
    Calls Try.prog 40 #[.slice A n c, .int .i64 (bnd : Int)] w fun r w' => r = .returned (.bool true) ∧ Gr w w' := by
  have hcc := hv.cap
  have hlc := hcc.1
  have hcm := hcc.2
  unfold maxLen at hcm
  have mixed : Try.prog.follows .mixedOrders = true := by kernel_rfl
  have V := Kept.mk hv
  have HN := Kept.mk hv.len
  have HS := Kept.mk hs
  have HP := Kept.mk hp
  have HB9 := Kept.mk hn
  have hnI : (n : Int) ≤ 1000000 := by omega
  clear hv hs hp hcc hn
  go_enter Try.func40, Try.ntmps40
  go_wp2
  go_loopw [5] (fun i wr => ∃ k : Nat, k ≤ n ∧ i = .int .i64 k ∧ Gr w wr) (fun i _ => n - (intOf i).toNat)
  case atStart => exact ⟨0, by omega, rfl, Gr.refl _⟩
  case round =>
    obtain ⟨k, hk, rfl, gr⟩ := hrel
    have G := Kept.mk gr
    by_cases hlt : k < n
    · have hkl : k < E.length := by rw [← HN.out]; exact hlt
      obtain ⟨b, off, A1, n1, c1, rfl, hbB, hS, hc⟩ := V.out.cells (Nat.le_refl _) hkl
      obtain ⟨c0, c1', c2'⟩ := hc wr gr.below
      obtain ⟨ho1, ho2⟩ := HS.out _ (List.getElem_mem hkl)
      obtain ⟨ha1, ha2⟩ := Pe.asc_props ho2
      have hS2 := OwnI.rd (own_keepI hS gr.below)
      have hnl := OwnI.len hS
      have hn1 : 0 < n1 := by
        rw [hnl]
        exact List.length_pos_iff.2 ho1
      have hi0 : 0 < E[k].2.length := by omega
      have hi1 : n1 - 1 < E[k].2.length := by omega
      obtain ⟨b4, off4, rfl, -, z0⟩ := hS2.at_ hi0
      obtain ⟨b5, off5, e5, -, z1⟩ := hS2.at_ hi1
      cases e5
      have hx0 := (ha2 _ (List.getElem_mem hi0)).1
      rw [if_pos rfl] at hx0
      have hx1 := (ha2 _ (List.getElem_mem hi1)).2
      have IS := Kept.mk (refIsSorted_any (some ⟨b4, off4, none⟩) n1 c1 E[k].2 wr _ hS2)
      rw [show Ls.srt E[k].2 = true from decide_eq_true ha1] at IS
      have hcp1 := hS2.1
      have hcp2 := hS2.2.1
      unfold maxLen at hcp2
      have hq0 : ((n1 : Int) == 0) = false := by simp; omega
      have hq0' : ¬ (n1 : Int) = 0 := by omega
      have ek : (n1 : Int) - 1 = ((n1 - 1 : Nat) : Int) := by omega
      have ek2 : ((n1 - 1 : Nat) : Int) < (n1 : Int) := by omega
      have ew : IntKind.i64.wrap ((n1 - 1 : Nat) : Int) = ((n1 - 1 : Nat) : Int) := by rw [IntKind.wrap_i64]; omega
      have ek0 : (0 : Int) < (n1 : Int) := by omega
      have hx0' : ¬ E[k].2[0] < 0 := by omega
      have hx1' : ¬ (bnd : Int) ≤ E[k].2[n1 - 1] := by omega
      have HC := Kept.mk hc
      have HO : Kept (∀ (h : k - 1 < E.length), k ≠ 0 → Lb.pc E[k - 1].1 E[k].1 < 0) := ⟨fun h h0 => by
        have := (List.pairwise_iff_getElem.1 (show (E.map (·.1)).Pairwise _ from HP.out)) (k - 1) k (by simpa using h) (by simpa using hkl) (by omega)
        simp only [List.getElem_map] at this
        unfold Lb.plt at this
        simpa using this⟩
      rw [Nat.add_zero] at z0
      clear hc hS ho1 ho2 ha1 ha2 hS2 hnl gr hx0 hx1
      generalize E[k].2[0] = y0 at *
      generalize E[k].2[n1 - 1] = y1 at *
      clear hi0 hi1
      go_upto_region 7 with (go_at_call 82; refine IS.out.mono ?_; rintro r w2 ⟨rfl, hq⟩; have G2 : Kept (Gr w w2) := ⟨by obtain ⟨q, rfl⟩ := hq; exact G.out.drewN q⟩; have y0' : w2.cell? ⟨b4, off4, none⟩ = some (.int .i64 y0) := (by obtain ⟨q, rfl⟩ := hq; exact z0); have y1' : w2.cell? ⟨b4, off4 + (n1 - 1), none⟩ = some (.int .i64 y1) := (by obtain ⟨q, rfl⟩ := hq; exact z1); clear hq IS)
      clear c0 c1' c2' z0 z1 y0' y1' hx0' hx1'
      by_cases hk0 : k = 0
      · subst hk0
        go_quiet (fail)
        go_wp2
        go_roundw
        case rel => exact ⟨1, by omega, rfl, G2.out.drewN _⟩
        case measure => simp [intOf]; omega
      · have hk1 : k - 1 < E.length := by omega
        obtain ⟨b', off', A3, n3, c3, e3, hbB', -, hc'⟩ := V.out.cells (Nat.le_refl _) hk1
        cases e3
        have hpc := HO.out hk1 hk0
        have hsz := G2.out.size
        have x0 := cell_grown (w := w2) (show (⟨b, off + k * 3, none⟩ : Addr).block < w2.heap.size by show b < _; omega) (HC.out w2 G2.out.below).1
        have x1 := cell_grown (w := w2) (show (⟨b, off + k * 3 + 1, none⟩ : Addr).block < w2.heap.size by show b < _; omega) (HC.out w2 G2.out.below).2.1
        have p0 := cell_grown (w := w2) (show (⟨b, off + (k - 1) * 3, none⟩ : Addr).block < w2.heap.size by show b < _; omega) (hc' w2 G2.out.below).1
        have p1 := cell_grown (w := w2) (show (⟨b, off + (k - 1) * 3 + 1, none⟩ : Addr).block < w2.heap.size by show b < _; omega) (hc' w2 G2.out.below).2.1
        have fk : (k : Int) - 1 = ((k - 1 : Nat) : Int) := by omega
        have fk2 : ((k - 1 : Nat) : Int) < (n : Int) := by omega
        have fw : IntKind.i64.wrap ((k - 1 : Nat) : Int) = ((k - 1 : Nat) : Int) := by rw [IntKind.wrap_i64]; omega
        have fk0 : (0 : Int) < (k : Int) := by omega
        have fk1 : 0 < k := by omega
        have CP := fun W => compare15_any E[k - 1].1 E[k].1 W
        unfold lbv at CP
        have hpc' : ¬ 0 ≤ Lb.pc E[k - 1].1 E[k].1 := by omega
        clear hc'
        generalize Lb.pc E[k - 1].1 E[k].1 = pq at *
        generalize E[k - 1].1 = xp at *
        generalize E[k].1 = xc at *
        go_quiet_grown (first | (go_at_call 80; refine Calls.grown_of (CP _)))
        go_wp2
        go_roundw
        case rel => exact ⟨k + 1, by omega, by go_num, G2.out.trans ⟨_, _, rfl⟩⟩
        case measure => simp [intOf]; omega
    · go_wp2
      go_ret
      exact ⟨rfl, G.out⟩
/-- what Decode accepts -/
theorem Pe.canon_all {T : List ByteArray} {L : List ByteArray} (ht : Sy.Tab L T) (hT : T.length ≤ 1000000) {n : Int} (hn : n < 9223372036854775808) {l : List UInt8} (hl : l.length ≤ 5000) {E : List EntV} (h : Pe.dec T n l = (E, 0)) :
    0 ≤ n ∧ Pe.enc T E = (l, 0) ∧ Lb.PSrt (E.map (·.1)) ∧ (∀ e ∈ E, Pe.okS n.toNat e.2) ∧ E.length ≤ 5000 ∧ (∀ e ∈ E, e.2.length ≤ 5000 ∧ Pe.Up 0 e.2) := by
  obtain ⟨h1, h2, h3, h4⟩ := Pe.dec_canon ht.1 (by unfold Rc.mx; omega) h
  have hlen : (E.flatMap (Pe.entE T)).length ≤ 5000 := by
    have := congrArg List.length h2
    unfold Pe.encB at this
    rw [List.length_append] at this
    omega
  refine ⟨h1, ?_, h4, fun e he => (h3 e he).2, ?_, fun e he => ⟨?_, Pe.asc_up (by omega) (h3 e he).2.2⟩⟩
  · rw [Pe.enc, if_pos (List.all_eq_true.2 fun e he => (h3 e he).1), h2]
  · have := Pe.flat_len T E
    omega
  · have hsub : ∀ (L : List EntV), e ∈ L → (Pe.entE T e).length ≤ (L.flatMap (Pe.entE T)).length := by
      intro L
      induction L with
      | nil => intro h; cases h
      | cons z L ih =>
        intro hm
        rw [List.flatMap_cons, List.length_append]
        rcases List.mem_cons.1 hm with rfl | hm
        · omega
        · have := ih hm; omega
    have h5 := hsub E he
    have h6 := Pe.gap_len e.2 0
    have h7 : (Pe.gap 0 e.2).length ≤ (Pe.entE T e).length := by
      unfold Pe.entE
      simp only [List.length_append]
      omega
    omega
set_option maxRecDepth 100000 in
set_option maxHeartbeats 8000000 in
theorem law_pcanon (A0 A : Option Addr) (n0 c0 n c : Nat) (L : List ByteArray) (bn : Int) (l : List UInt8) (w : World) (hv0 : RdS w w.heap.size A0 n0 c0 L) (hf0 : Sy.Fit L) (hbn : bn < 9223372036854775808) (hv : RdB w w.heap.size A n c l) :
    Calls Try.prog 13 #[.slice A0 n0 c0, .int .i64 bn, .slice A n c] w fun r w' => r = .returned (.bool true) ∧ Below w.heap.size w w' := by
  have V0 := Kept.mk hv0
  have F0 := Kept.mk hf0
  have V := Kept.mk hv
  have HN := Kept.mk hv.len
  have HBN := Kept.mk hbn
  have LG := Kept.mk (large10_any A0 n0 c0 w.heap.size L w hv0 (Nat.le_refl _) hf0)
  clear hv0 hf0 hv hbn
  by_cases hbig : n ≤ 5000
  · have hsm : ¬ (5000 : Int) < (n : Int) := by omega
    have HSM := Kept.mk hbig
    clear hbig
    go_enter Try.func13, Try.ntmps13
    go_upto_region 4 with (first
      | (go_at_call 18; refine (table_any A0 n0 c0 L w2 ((V0.out.below B2.out).more B2.out.size) (by have := (H1.out (by simp)).1; omega)).mono ?_; rintro r w3 ⟨A3, n3, c3, T, rfl, ht, ho, hb⟩; have TB := Kept.mk ht; have T3 := Kept.mk ho.rd; have h3 : n3 ≤ 500 := (by have h1 := ho.len; have h2 := ht.len; have h5 := V0.out.len; have h6 := (H1.out (by simp)).1; omega); have B3 := Kept.mk (bl_next B2.out hb); clear ht ho hb)
      | (go_at_call 30; refine (alive15_any w2).mono ?_; rintro r w9 ⟨rfl, hb⟩; have BZ := Kept.mk (bl_next B2.out hb); clear hb)
      | (go_at_call 16; refine (long_any A0 n0 c0 w1.heap.size L w1 ((V0.out.below B1.out).more B1.out.size) (Nat.le_refl _) F0.out).mono ?_; rintro r w2 ⟨v2, rfl, hv1, hv2, hg⟩; have B2 := Kept.mk (bl_next B1.out hg.below); clear hg hv2; rcases hv1 with rfl | rfl)
      | (go_at_call 30; refine (alive15_any w1).mono ?_; rintro r w9 ⟨rfl, hb⟩; have BZ := Kept.mk (bl_next B1.out hb); clear hb)
      | (go_at_call 15; refine LG.out.mono ?_; rintro r w1 ⟨v, rfl, hv1, hv2, hg⟩; have H1 := Kept.mk hv2; have B1 := Kept.mk hg.below; clear hg hv2 LG; rcases hv1 with rfl | rfl))
    · have hTl : T.length ≤ 1000000 := by have := T3.out.len; omega
      have HTL := Kept.mk hTl
      have DC := Kept.mk (decodeP_any A3 A n3 c3 n c bn T l w3 T3.out ((V.out.below B3.out).more B3.out.size) (by have := HSM.out; omega) HBN.out)
      obtain ⟨D, hD⟩ : ∃ D, Pe.dec T bn l = D := ⟨_, rfl⟩
      have HDD := Kept.mk hD
      have hbad := Pe.dec_bad (T := T) (n := bn) (l := l)
      rw [hD] at DC hbad
      clear hD hTl
      obtain ⟨E, e⟩ := D
      simp only [] at DC hbad
      by_cases he : e = 0
      · subst he
        have CA := Kept.mk (Pe.canon_all TB.out HTL.out HBN.out (by have := HN.out; have := HSM.out; omega) HDD.out)
        have hb0 := CA.out.1
        obtain ⟨bnd, rfl⟩ := Int.eq_ofNat_of_zero_le hb0
        have EBN := Kept.mk (Pe.encB_le HTL.out CA.out.2.2.2.2.1 CA.out.2.2.2.2.2)
        clear hb0 hbad
        go_wp2_with (first
          | (go_at_call 23; refine (equalP_is _ _ _ _ _ _ l l true w8 _ _ ((V.out.below B8.out).more B8.out.size) O8.out (by simp)).mono ?_; rintro r w9 ⟨rfl, hw⟩; have BZ : Kept (Below w.heap.size w w9) := ⟨by rw [← hw]; exact B8.out⟩; clear hw)
          | (go_at_call 30; refine (alive15_any w7).mono ?_; rintro r w8 ⟨rfl, hb⟩; have O8 := Kept.mk ((O7.out.below hb).more hb.size); have B8 := Kept.mk (bl_next B7.out hb); clear hb)
          | (go_at_call 35; refine (encodeP_any A3 A4 n3 c3 n4 c4 T E w6 T6.out TB.out.1 R6.out (by omega) (by have := CA.out.2.2.2.2.1; have := R6.out.len; omega) (fun e he => ⟨by have := (CA.out.2.2.2.2.2 e he).1; omega, (CA.out.2.2.2.2.2 e he).2⟩) EBN.out).mono ?_; rintro r w7 ⟨A7, n7, c7, rfl, ho, hb⟩; rw [CA.out.2.1] at ho ⊢; have O7 := Kept.mk ho.rd; have B7 := Kept.mk (bl_next B6.out hb); clear ho hb)
          | (go_at_call 40; refine (is15_any A5 n5 c5 bnd E w5 O5.out CA.out.2.2.1 CA.out.2.2.2.1 (by have := CA.out.2.2.2.2.1; have := O5.out.len; omega)).mono ?_; rintro r w6 ⟨rfl, hg⟩; have R6 := Kept.mk (R5.out.on hg.below); have T6 := Kept.mk ((T5.out.below hg.below).more hg.below.size); have B6 := Kept.mk (bl_next B5.out hg.below); clear hg)
          | (go_at_call 32; refine (reference15_any A4 n4 c4 E w4 R4.out (by have := CA.out.2.2.2.2.1; have := R4.out.len; omega)).mono ?_; rintro r w5 ⟨A5, n5, c5, rfl, ho, hb⟩; have O5 := Kept.mk ho.rd; have R5 := Kept.mk (R4.out.on hb); have T5 := Kept.mk ((T4.out.below hb).more hb.size); have B5 := Kept.mk (bl_next B4.out hb); clear ho hb)
          | (go_at_call 38; refine DC.out.mono ?_; rintro r w4 ⟨A4, n4, c4, rfl, hr, hb⟩; have R4 := Kept.mk hr; have T4 := Kept.mk ((T3.out.below hb).more hb.size); have B4 := Kept.mk (bl_next B3.out hb); clear hr hb DC))
        go_ret
        exact ⟨rfl, BZ.out⟩
      · have heb : (e == 0) = false := by simpa using he
        have hE : E = [] := hbad he
        subst hE
        clear hbad
        go_wp2_with (first
          | (go_at_call 30; refine (alive15_any w4).mono ?_; rintro r w9 ⟨rfl, hb⟩; have BZ := Kept.mk (bl_next B4.out hb); clear hb)
          | (go_at_call 38; refine DC.out.mono ?_; rintro r w4 ⟨A4, n4, c4, rfl, hr, hb⟩; have h4 : n4 = 0 := hr.len; subst h4; have B4 := Kept.mk (bl_next B3.out hb); clear hr hb DC))
        go_ret
        exact ⟨rfl, BZ.out⟩
    all_goals (go_ret; exact ⟨rfl, BZ.out⟩)
  · have hsm : (5000 : Int) < (n : Int) := by omega
    clear hbig
    go_enter Try.func13, Try.ntmps13
    go_wp2_with (first
      | (go_at_call 30; refine (alive15_any w2).mono ?_; rintro r w9 ⟨rfl, hb⟩; have BZ := Kept.mk (bl_next B2.out hb); clear hb)
      | (go_at_call 16; refine (long_any A0 n0 c0 w1.heap.size L w1 ((V0.out.below B1.out).more B1.out.size) (Nat.le_refl _) F0.out).mono ?_; rintro r w2 ⟨v2, rfl, hv1, hv2, hg⟩; have B2 := Kept.mk (bl_next B1.out hg.below); clear hg hv2; rcases hv1 with rfl | rfl)
      | (go_at_call 30; refine (alive15_any w1).mono ?_; rintro r w9 ⟨rfl, hb⟩; have BZ := Kept.mk (bl_next B1.out hb); clear hb)
      | (go_at_call 15; refine LG.out.mono ?_; rintro r w1 ⟨v, rfl, hv1, hv2, hg⟩; have H1 := Kept.mk hv2; have B1 := Kept.mk hg.below; clear hg hv2 LG; rcases hv1 with rfl | rfl))
    all_goals (go_ret; exact ⟨rfl, BZ.out⟩)
end Go.Proofs.Ythhcfocmaiacoaa
