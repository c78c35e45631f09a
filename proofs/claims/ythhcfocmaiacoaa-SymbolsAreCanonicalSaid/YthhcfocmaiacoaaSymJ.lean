/- Chapter 10: the reference's Decode. (Printed by gen_symj.py.) -/
import Derived.Test.YthhcfocmaiacoaaSymI
import Derived.Test.YthhcfocmaiacoaaVarC
import Derived.BigQuiet
namespace Go.Proofs.Ythhcfocmaiacoaa
open Go.RowKit Go.Shelf

theorem RdrQ.errc {w : World} {p a : Nat} {l : List UInt8} {e : Int} (h : RdrQ w p l a e) : w.cell? ⟨p, 2, none⟩ = some (.int .i64 e) := by obtain ⟨A, n, c, c0, c1, c2, _⟩ := h.cells; exact c2
theorem Sy.decT_at {l : List UInt8} {q : Nat} (hq : q ≤ l.length) (x : Nat) : Sy.decT (l.drop q) x = if Wr.fin l (Sy.dl (Sy.strR l) x [] q).2.1 (Sy.dl (Sy.strR l) x [] q).2.2 ≠ 0 then ([], Wr.fin l (Sy.dl (Sy.strR l) x [] q).2.1 (Sy.dl (Sy.strR l) x [] q).2.2) else ((Sy.dl (Sy.strR l) x [] q).1, 0) := by
  have h := Sy.dl_drop l q x [] 0 (by omega) hq
  rw [Nat.add_zero] at h
  rw [h]
  unfold Sy.decT
  have hf : Wr.fin l (q + (Sy.dl (Sy.strR (l.drop q)) x [] 0).2.1) (Sy.dl (Sy.strR (l.drop q)) x [] 0).2.2 = Wr.fin (l.drop q) (Sy.dl (Sy.strR (l.drop q)) x [] 0).2.1 (Sy.dl (Sy.strR (l.drop q)) x [] 0).2.2 := by
    generalize Sy.dl (Sy.strR (l.drop q)) x [] 0 = X
    unfold Wr.fin
    rw [List.length_drop]
    by_cases h1 : X.2.2 ≠ 0
    · rw [if_pos h1, if_pos h1]
    · rw [if_neg h1, if_neg h1]
      by_cases h2 : q + X.2.1 < l.length
      · rw [if_pos h2, if_pos (by omega)]
      · rw [if_neg h2, if_neg (by omega)]
  simp only [hf]
set_option maxRecDepth 100000 in
set_option maxHeartbeats 16000000 in
theorem refDecode10_any (A : Option Addr) (n c : Nat) (l : List UInt8) (w : World) (hv : RdB w w.heap.size A n c l) (hl : n ≤ 80000000000) :
    Calls Try.prog 28 #[.slice A n c] w fun r w' => ∃ A2 n2 c2, r = .returned (.tuple #[.slice A2 n2 c2, .int .i64 (Sy.dec l).2]) ∧ RdS w' w'.heap.size A2 n2 c2 (Sy.dec l).1 ∧ Below w.heap.size w w' := by
  have hlc := hv.1
  have hcm := hv.2.1
  unfold maxLen at hcm
  have HN := Kept.mk hv.len
  obtain ⟨M, hM⟩ : ∃ M, M = Sy.dec l := ⟨_, rfl⟩
  rw [← hM]
  obtain ⟨G, hG⟩ : ∃ G, Vi.get l (0 : Int) = G := ⟨_, rfl⟩
  have GA := Kept.mk (refget_any A n c w.heap.size l 0 w hv (by omega) (by omega) (by omega))
  have hbd := Vi.get_bd l 0
  have hto := fun x t (h : G = (x, t, 0)) => Vi.get_to (a := 0) (hG.trans h)
  rw [hG] at GA hbd
  obtain ⟨x, t, e⟩ := G
  have HM := Kept.mk (hM.trans (Sy.dec_get hG))
  unfold getV at GA
  simp only [] at GA hbd
  clear hM hG
  by_cases he : e = 0
  · subst he
    have ht := hto x t rfl
    have ht1 : 0 < t := by omega
    have ht2 : t ≤ (n : Int) := by have := HN.out; omega
    have HM := Kept.mk (HM.out.trans (if_neg (by simp)))
    clear hto ht
    obtain ⟨q, rfl⟩ := Int.eq_ofNat_of_zero_le (show 0 ≤ t by omega)
    have hq1 : 0 < q := by omega
    have hq2 : q ≤ n := by omega
    have hwu : IntKind.u64.wrap ((n : Int) - (q : Int)) = (n : Int) - (q : Int) := by simp [IntKind.wrap, IntKind.bits, IntKind.signed]; omega
    by_cases hx : (n : Int) - (q : Int) < (x : Int)
    · have HM2 : Kept (M = ([], 3)) := ⟨by rw [HM.out, if_pos (by rw [← HN.out]; exact hx)]⟩
      clear hbd hv
      go_enter Try.func28, Try.ntmps28
      go_wp2_with (go_at_call 65; refine GA.out.mono ?_; rintro r w1 ⟨rfl, rfl⟩)
      go_ret2
      refine ⟨none, 0, 0, ?_, ?_, Below.refl _ _⟩
      · rw [HM2.out]; rfl
      · rw [HM2.out]; exact RdS.nil _ _
    · have hxn : x ≤ n := by omega
      obtain ⟨X, hX⟩ : ∃ X, X = Sy.dl (Sy.strR l) x [] q := ⟨_, rfl⟩
      have HM3 : Kept (M = if Wr.fin l X.2.1 X.2.2 ≠ 0 then ([], Wr.fin l X.2.1 X.2.2) else (X.1, 0)) := ⟨by rw [HM.out, if_neg (by rw [← HN.out]; exact hx), Int.toNat_natCast, Sy.decT_at (by rw [← HN.out]; exact hq2), hX]⟩
      have HX := Kept.mk hX
      have hxx : IntKind.i64.wrap (x : Int) = (x : Int) := by rw [IntKind.wrap_i64]; omega
      obtain ⟨W1, hW1⟩ : ∃ W1, W1 = w.alloc (.cells #[.slice A n c, .int .i64 (q : Int), .int .i64 0] 103) := ⟨_, rfl⟩
      have D1 : Kept (RdrQ W1 w.heap.size l q 0) := ⟨by rw [hW1]; exact ⟨A, n, c, heap_alloc_new w _, Rd.alloc hv (Nat.le_refl _) _, by omega, hq2⟩⟩
      have BW : Kept (Below w.heap.size w W1) := ⟨by rw [hW1]; exact (Below.refl _ _).alloc (Nat.le_refl _) _⟩
      have zW : w.heap.size < W1.heap.size := by rw [hW1]; simp
      have HW := Kept.mk hW1.symm
      clear hbd hX HM hv hW1
      go_enter Try.func28, Try.ntmps28
      go_upto_region 7 with (go_at_call 65; refine GA.out.mono ?_; rintro r w1 ⟨rfl, rfl⟩)
      rw [HW.out]
      go_wp2_with fail
      go_loopw [8, 9] (fun o i wr => ∃ k : Nat, k ≤ x ∧ i = .int .i64 k ∧ ∃ A2 m c2 acc a2, o = .slice A2 m c2 ∧ OwnS wr W1.heap.size A2 m c2 acc ∧ RdrQ wr w.heap.size l a2 0 ∧ Kept (m = k ∧ X = Sy.dl (Sy.strR l) (x - k) acc a2) ∧ W1.grownBy wr (some w.heap.size)) (fun _ i _ => x - (intOf i).toNat)
      case atStart => exact ⟨0, by omega, rfl, none, 0, 0, [], q, rfl, OwnS.nil _ _, D1.out, ⟨rfl, HX.out⟩, World.grownBy.refl _ _⟩
      case round =>
        clear D1
        obtain ⟨k, hk, rfl, A2, m, c2, acc, a2, rfl, ho, hd, hm, hg⟩ := hrel
        have hm1 := hm.out.1
        have hm2 := hm.out.2
        have hacc := ho.len
        have hz := hg.size
        by_cases hlt : k < x
        · have ST : Kept (Calls Try.prog 66 #[.pointer (some ⟨w.heap.size, 0, none⟩), .int .i64 65535] wr fun r w' => r = .returned (.string (Sy.strR l a2 0).1) ∧ RdrQ w' w.heap.size l (Sy.strR l a2 0).2.1 (Sy.strR l a2 0).2.2 ∧ wr.grownBy w' (some w.heap.size)) := ⟨stringq_any w.heap.size a2 l 0 65535 wr hd (by omega)⟩
          have hbad := Kept.mk (fun h => hm2.trans (Sy.dl_bad (rd := Sy.strR l) (x - k) acc a2 (by omega) h))
          have hord := Kept.mk (fun h h' => hm2.trans (Sy.dl_ord (rd := Sy.strR l) (x - k) acc a2 (by omega) h h'))
          have hok := Kept.mk (fun h h' => hm2.trans (Sy.dl_ok (rd := Sy.strR l) (x - k) acc a2 (by omega) h h'))
          generalize Sy.strR l a2 0 = Y at *
          obtain ⟨s, a3, e3⟩ := Y
          simp only [] at ST hbad hord hok
          have O := Kept.mk ho
          have Gr0 := Kept.mk hg
          have HM1 := Kept.mk hm1
          have hm6 : m ≤ 80000000000 := by omega
          by_cases he3 : e3 = 0
          · subst he3
            rcases Nat.eq_zero_or_pos k with h0 | h0
            · have hnil : acc = [] := List.eq_nil_of_length_eq_zero (by omega)
              have NX := Kept.mk (hok.out rfl (by rw [hnil]; rfl))
              subst h0
              clear hbad hord hok ho hd hm hg hm1 hm2 hacc hnil
              go_wp2_with (first
                | (go_at_call 66; refine ST.out.mono ?_; rintro r w2 ⟨rfl, hr, hg⟩; have y2 := hr.errc; have D2 := Kept.mk hr; have O2 := Kept.mk (OwnS.past O.out hg zW); have G2 := Kept.mk (Gr0.out.trans hg); clear hr hg ST)
                | (at_builtin; refine wpList_appS rfl (.tmp 68) (.tmp 70) rfl W1.heap.size A2 m c2 acc rfl (World.ownsRow.alloc O2.out _) (w2.heap.size + 1) _ _ _ [s] rfl (RdS.one w2 s) (by omega) (by have := G2.out.size; simp; omega) ?_; intro A4 c4 w4 hown4 hgrow4 hat4; have O4 := Kept.mk hown4; have B4 : Kept (Below W1.heap.size w2 w4) := ⟨((Below.refl W1.heap.size w2).alloc G2.out.size _).grown hgrow4 (by have := G2.out.size; simp; omega) (fun g e => (own_lt O2.out g e).1)⟩; have D4 := Kept.mk (D2.out.below B4.out zW); have G4 := Kept.mk (grown_then G2.out B4.out); clear hown4 hgrow4 hat4))
              go_roundw
              case rel => exact ⟨0 + 1, by omega, by go_num, A4, _, c4, _, a3, rfl, O4.out, D4.out, ⟨by rw [HM1.out], by rw [NX.out, Nat.sub_sub]⟩, G4.out⟩
              case measure => simp [intOf]; omega
            · have hk1 : k - 1 < acc.length := by omega
              obtain ⟨g, rfl, hg1, hg2⟩ := ho.pos (by omega)
              have hoB : Sy.ordB acc s = St.lt acc[k - 1] s := Sy.ordB_at (by omega) hk1
              have ek : (k : Int) - 1 = ((k - 1 : Nat) : Int) := by omega
              have ek2 : ((k - 1 : Nat) : Int) < (m : Int) := by omega
              have ew : IntKind.i64.wrap ((k - 1 : Nat) : Int) = ((k - 1 : Nat) : Int) := by rw [IntKind.wrap_i64]; omega
              have hkp : (0 : Int) < (k : Int) := by omega
              have hltb : Op.bytesLess acc[k - 1].toList s.toList = St.lt acc[k - 1] s := rfl
              by_cases hxy : St.lt acc[k - 1] s = true
              · have NX := Kept.mk (hok.out rfl (by rw [hoB]; exact hxy))
                rw [hxy] at hltb
                clear hbad hord hok ho hd hm hg hm1 hm2 hacc hoB hxy
                go_wp2_with (first
                  | (go_at_call 66; refine ST.out.mono ?_; rintro r w2 ⟨rfl, hr, hg⟩; have y2 := hr.errc; have D2 := Kept.mk hr; have O2 := Kept.mk (OwnS.past O.out hg zW); have G2 := Kept.mk (Gr0.out.trans hg); obtain ⟨y0, -⟩ := OwnS.at_ O2.out hk1; clear hr hg ST)
                  | (at_builtin; refine wpList_appS rfl (.tmp 68) (.tmp 70) rfl W1.heap.size (some ⟨g, 0, none⟩) m c2 acc rfl (World.ownsRow.alloc O2.out _) (w2.heap.size + 1) _ _ _ [s] rfl (RdS.one w2 s) (by omega) (by have := G2.out.size; simp; omega) ?_; intro A4 c4 w4 hown4 hgrow4 hat4; have O4 := Kept.mk hown4; have B4 : Kept (Below W1.heap.size w2 w4) := ⟨((Below.refl W1.heap.size w2).alloc G2.out.size _).grown hgrow4 (by have := G2.out.size; simp; omega) (fun g e => (own_lt O2.out g e).1)⟩; have D4 := Kept.mk (D2.out.below B4.out zW); have G4 := Kept.mk (grown_then G2.out B4.out); clear hown4 hgrow4 hat4))
                go_roundw
                case rel => exact ⟨k + 1, by omega, by go_num, A4, _, c4, _, a3, rfl, O4.out, D4.out, ⟨by rw [HM1.out], by rw [NX.out, Nat.sub_sub]⟩, G4.out⟩
                case measure => simp [intOf]; omega
              · have hxy' : St.lt acc[k - 1] s = false := by simpa using hxy
                have HM4 : Kept (M = ([], 16)) := ⟨by rw [HM3.out, hord.out rfl (by rw [hoB]; exact hxy')]; rfl⟩
                rw [hxy'] at hltb
                clear hbad hord hok ho hd hm hg hm1 hm2 hacc hoB hxy hxy'
                go_wp2_with (first
                  | (go_at_call 66; refine ST.out.mono ?_; rintro r w2 ⟨rfl, hr, hg⟩; have y2 := hr.errc; have D2 := Kept.mk hr; have O2 := Kept.mk (OwnS.past O.out hg zW); have G2 := Kept.mk (Gr0.out.trans hg); obtain ⟨y0, -⟩ := OwnS.at_ O2.out hk1; clear hr hg ST)
                  | (go_at_call 67; refine (failq_any w.heap.size a3 l 0 16 _ D2.out).mono ?_; rintro r w3 ⟨rfl, hw⟩; rw [if_pos rfl] at hw; have D3 : Kept (RdrQ w3 w.heap.size l a3 16) := ⟨by rw [hw]; exact D2.out.fail 16⟩; have G3 : Kept (W1.grownBy w3 (some w.heap.size)) := ⟨by rw [hw]; exact G2.out.trans (grown_set _ ⟨w.heap.size, 2, none⟩ _)⟩; clear hw; have y3 := D3.out.errc))
                go_quiet (fail)
                go_wp2
                go_ret2
                refine ⟨none, 0, 0, ?_, ?_, below_drewN (grown_below0 BW.out G3.out (Nat.le_refl _) zW) _⟩
                · rw [HM4.out]; rfl
                · rw [HM4.out]; exact RdS.nil _ _
          · have HM4 : Kept (M = ([], e3)) := ⟨by rw [HM3.out, hbad.out he3]; unfold Wr.fin; simp [he3]⟩
            have heb : (e3 == 0) = false := by simpa using he3
            clear hbad hord hok ho hd hm hg hm1 hm2 hacc
            go_wp2_with (go_at_call 66; refine ST.out.mono ?_; rintro r w2 ⟨rfl, hr, hg⟩; have y2 := hr.errc; have D2 := Kept.mk hr; have O2 := Kept.mk (OwnS.past O.out hg zW); have G2 := Kept.mk (Gr0.out.trans hg); clear hr hg ST)
            go_quiet (fail)
            go_wp2
            go_ret2
            refine ⟨none, 0, 0, ?_, ?_, below_drewN (grown_below0 BW.out G2.out (Nat.le_refl _) zW) _⟩
            · rw [HM4.out]; rfl
            · rw [HM4.out]; exact RdS.nil _ _
        · have hX2 : X = (acc, a2, 0) := by rw [hm2, show x - k = 0 by omega]; rfl
          have HM4 : Kept (M = if Wr.fin l a2 0 ≠ 0 then ([], Wr.fin l a2 0) else (acc, 0)) := ⟨by rw [HM3.out, hX2]⟩
          have EN := Kept.mk (fun W (d : RdrQ W w.heap.size l a2 0) => endq_any w.heap.size a2 l 0 W d)
          have O := Kept.mk ho
          have D := Kept.mk hd
          have BB := Kept.mk (grown_below0 BW.out hg (Nat.le_refl _) zW)
          generalize Wr.fin l a2 0 = f at *
          clear hX2 ho hd hm hg hm1 hm2 hacc
          by_cases hf : f = 0
          · have HM5 : Kept (M = (acc, 0)) := ⟨by rw [HM4.out, if_neg (by simpa using hf)]⟩
            subst hf
            clear HM4
            go_wp2_with (go_at_call 68; refine (EN.out _ D.out).mono ?_; rintro r w5 ⟨rfl, q5, rfl⟩)
            go_ret2
            refine ⟨A2, m, c2, ?_, ?_, below_drewN BB.out q5⟩
            · rw [HM5.out]; rfl
            · rw [HM5.out]; exact O.out.rd
          · have HM5 : Kept (M = ([], f)) := ⟨by rw [HM4.out, if_pos hf]⟩
            have hfb : (f == 0) = false := by simpa using hf
            clear HM4
            go_wp2_with (first
              | (go_at_call 68; refine (EN.out w5 D5.out).mono ?_; rintro r w6 ⟨rfl, q6, rfl⟩)
              | (go_at_call 68; refine (EN.out wr D.out).mono ?_; rintro r w5 ⟨rfl, q5, hq5⟩; have D5 : Kept (RdrQ w5 w.heap.size l a2 0) := ⟨by rw [hq5]; exact D.out⟩; have B5 : Kept (Below w.heap.size w w5) := ⟨by rw [hq5]; exact below_drewN BB.out q5⟩; clear hq5))
            go_ret2
            refine ⟨none, 0, 0, ?_, ?_, below_drewN B5.out q6⟩
            · rw [HM5.out]; rfl
            · rw [HM5.out]; exact RdS.nil _ _
  · have heb : ((e : Int) == 0) = false := by simp; omega
    have he2 : ¬ (e : Int) = 0 := by omega
    have HM2 : Kept (M = ([], (e : Int))) := ⟨by rw [HM.out, if_pos he]⟩
    clear hto hbd hv
    go_enter Try.func28, Try.ntmps28
    go_wp2_with (go_at_call 65; refine GA.out.mono ?_; rintro r w1 ⟨rfl, rfl⟩)
    go_ret2
    refine ⟨none, 0, 0, ?_, ?_, Below.refl _ _⟩
    · rw [HM2.out]; rfl
    · rw [HM2.out]; exact RdS.nil _ _
end Go.Proofs.Ythhcfocmaiacoaa
