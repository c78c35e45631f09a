/- Chapter 10: the program's Decode. -/
import Derived.Test.YthhcfocmaiacoaaSymF2
import Derived.Test.YthhcfocmaiacoaaVarB
namespace Go.Proofs.Ythhcfocmaiacoaa
open Go.RowKit Go.Shelf

theorem Vi.get1_bd : ∀ (l : List UInt8) (i x : Nat), i ≤ 9 → x < 128 ^ i → (Vi.get1 l i x).1 < 18446744073709551616
  | [], _, _, _, _ => by simp [Vi.get1]
  | c :: l, i, x, hi, hx => by
    rw [Vi.get1_cons]
    have hc := c.toNat_lt
    split
    · simp
    · rename_i h1
      split
      · simp
      · split
        · rename_i h3
          show x + c.toNat % 128 * 128 ^ i < _
          rw [Nat.mod_eq_of_lt h3]
          by_cases h9 : i = 9
          · subst h9
            have : c.toNat ≤ 1 := by omega
            have e : (128 : Nat) ^ 9 = 9223372036854775808 := by decide
            rw [e] at hx ⊢
            have : c.toNat * 9223372036854775808 ≤ 1 * 9223372036854775808 := Nat.mul_le_mul_right _ this
            omega
          · have h8 : i + 1 ≤ 9 := by omega
            have e1 : (128 : Nat) ^ (i + 1) ≤ 128 ^ 9 := Nat.pow_le_pow_right (by decide) h8
            have e2 : (128 : Nat) ^ 9 = 9223372036854775808 := by decide
            have e3 : c.toNat * 128 ^ i ≤ 127 * 128 ^ i := Nat.mul_le_mul_right _ (by omega)
            rw [Nat.pow_succ] at e1
            omega
        · rename_i h3
          have h8 : i + 1 ≤ 9 := by
            have : i ≠ 9 := fun e => by omega
            omega
          refine Vi.get1_bd l (i + 1) _ h8 ?_
          have e3 : c.toNat % 128 * 128 ^ i ≤ 127 * 128 ^ i := Nat.mul_le_mul_right _ (by omega)
          rw [Nat.pow_succ]
          omega
theorem Vi.get_bd (l : List UInt8) (a : Int) : (Vi.get l a).1 < 18446744073709551616 := by
  unfold Vi.get
  split
  · simp
  · simp only []
    split
    · exact Vi.get1_bd _ 0 0 (by omega) (by simp)
    · simp
namespace Sy
/-- what is read behind the number of strings -/
def decT (l : List UInt8) (n : Nat) : List ByteArray × Int :=
  if Wr.fin l (dl (strR l) n [] 0).2.1 (dl (strR l) n [] 0).2.2 ≠ 0 then ([], Wr.fin l (dl (strR l) n [] 0).2.1 (dl (strR l) n [] 0).2.2) else ((dl (strR l) n [] 0).1, 0)
theorem dec_get {l : List UInt8} {x e : Nat} {t : Int} (hg : Vi.get l (0 : Int) = (x, t, e)) :
    dec l = if e ≠ 0 then ([], (e : Int)) else if (l.length : Int) - t < (x : Int) then ([], 3) else decT (l.drop t.toNat) x := by
  have hb := Vi.get_bd l 0
  have hu : Wr.uint l 0 0 Rc.mx = if e ≠ 0 then (0, 0, (e : Int)) else (x, t.toNat, 0) := by
    unfold Wr.uint
    rw [if_neg (by simp)]
    have : Vi.get l ((0 : Nat) : Int) = (x, t, e) := hg
    rw [this]
    simp only []
    by_cases he : e = 0
    · have hm : ¬ Rc.mx < x := by rw [hg] at hb; unfold Rc.mx; simp only [] at hb; omega
      subst he
      simp [hm]
    · rw [if_pos he, if_pos he]
  by_cases he : e = 0
  · subst he
    have hto : (0 : Int) < t ∧ t ≤ l.length := by have := Vi.get_to (a := 0) hg; omega
    rw [if_neg (by simp)] at hu ⊢
    have hc : Rc.cnt l 0 0 = if l.length - t.toNat < x then (0, t.toNat, 3) else (x, t.toNat, 0) := by
      unfold Rc.cnt
      rw [hu]
      simp
    by_cases hx : l.length - t.toNat < x
    · rw [if_pos hx] at hc
      rw [if_pos (by omega)]
      unfold dec
      rw [hc]
      simp
    · rw [if_neg hx] at hc
      rw [if_neg (by omega)]
      unfold dec decT Wr.fin
      rw [hc]
      generalize l.drop t.toNat = l2
      simp only [ne_eq, not_true_eq_false, if_false]
      by_cases h2 : (dl (strR l2) x [] 0).2.2 = 0
      · simp only [h2, not_true_eq_false, if_false]
        by_cases h3 : (dl (strR l2) x [] 0).2.1 < l2.length
        · simp [h3]
        · simp [h3]
      · simp [h2]
  · rw [if_pos he] at hu ⊢
    have hc : Rc.cnt l 0 0 = (0, 0, (e : Int)) := by
      unfold Rc.cnt
      rw [hu]
      simp [he]
    unfold dec
    rw [hc]
    simp [he]
end Sy
theorem OwnS.past {w w' : World} {base n c p : Nat} {A : Option Addr} {l : List ByteArray} (h : OwnS w base A n c l) (hg : w.grownBy w' (some p)) (hp : p < base) : OwnS w' base A n c l :=
  own_grown h hg (by
    rcases hA : ab A with _ | g
    · exact .inl rfl
    · refine .inr fun e => ?_
      have := (own_lt h g hA).1
      have := Option.some.inj e
      omega)
theorem OwnS.nil (w : World) (base : Nat) : OwnS w base none 0 0 [] := World.ownsRow_nil _ _ _ _
theorem RdS.nil (w : World) (B : Nat) : RdS w B none 0 0 [] := Rd.nil w B 1 0 none (by unfold maxLen; omega)
theorem Sy.ordB_at {acc : List ByteArray} {s : ByteArray} {k : Nat} (h : k = acc.length) (hk : k - 1 < acc.length) : Sy.ordB acc s = St.lt acc[k - 1] s := by
  subst h
  unfold Sy.ordB
  rw [List.getLast?_eq_getElem?, List.getElem?_eq_getElem hk]
theorem grown_then {w w1 w' : World} {row : Option Nat} (h : w.grownBy w1 row) (b : Below w.heap.size w1 w') : w.grownBy w' row :=
  ⟨b.os.trans h.os, b.tape.trans h.tape, b.output.trans h.output, Nat.le_trans h.size b.size, fun k hk hne => (b.block k hk).trans (h.block k hk hne)⟩
theorem grown_below0 {B p : Nat} {w w1 w' : World} (h : Below B w w1) (hg : w1.grownBy w' (some p)) (hp : B ≤ p) (hp2 : p < w1.heap.size) : Below B w w' :=
  h.grown hg (by omega) (fun g e => by have := Option.some.inj e; omega)
set_option maxRecDepth 100000 in
set_option maxHeartbeats 16000000 in
theorem decodeS_any (A : Option Addr) (n c : Nat) (l : List UInt8) (w : World) (hv : RdB w w.heap.size A n c l) (hl : n ≤ 80000000000) :
    Calls Try.prog 27 #[.slice A n c] w fun r w' => ∃ A2 n2 c2, r = .returned (.tuple #[.slice A2 n2 c2, .int .i64 (Sy.dec l).2]) ∧ RdS w' w'.heap.size A2 n2 c2 (Sy.dec l).1 ∧ Below w.heap.size w w' := by
  have hlc := hv.1
  have hcm := hv.2.1
  unfold maxLen at hcm
  have HN := Kept.mk hv.len
  have V := Kept.mk hv
  obtain ⟨M, hM⟩ : ∃ M, M = Sy.dec l := ⟨_, rfl⟩
  rw [← hM]
  obtain ⟨G, hG⟩ : ∃ G, Vi.get l (0 : Int) = G := ⟨_, rfl⟩
  have GA := Kept.mk (get_any A n c w.heap.size l 0 w hv (by omega) (by omega))
  have hbd := Vi.get_bd l 0
  have hto := fun x t (h : G = (x, t, 0)) => Vi.get_to (a := 0) (hG.trans h)
  rw [hG] at GA hbd
  obtain ⟨x, t, e⟩ := G
  have HM := Kept.mk (hM.trans (Sy.dec_get hG))
  unfold getV at GA
  simp only [] at GA hbd
  clear hv hM hG
  by_cases he : e = 0
  · subst he
    have ht := hto x t rfl
    have ht1 : 0 < t := by omega
    have ht2 : t ≤ (n : Int) := by have := HN.out; omega
    have HM := Kept.mk (HM.out.trans (if_neg (by simp)))
    clear hto ht
    obtain ⟨q, rfl⟩ := Int.eq_ofNat_of_zero_le (show 0 ≤ t by omega)
    have hq1 : 0 < q := by omega
    have hq2 : q ≤ n := by omega
    have hwu : IntKind.u64.wrap ((n : Int) - (q : Int)) = (n : Int) - (q : Int) := by simp [IntKind.wrap, IntKind.bits, IntKind.signed]; omega
    by_cases hx : (n : Int) - (q : Int) < (x : Int)
    · have HM2 : Kept (M = ([], 3)) := ⟨by rw [HM.out, if_pos (by rw [← HN.out]; exact hx)]⟩
      clear hbd
      go_enter Try.func27, Try.ntmps27
      go_wp2_with (go_at_call 59; refine GA.out.mono ?_; rintro r w1 ⟨rfl, rfl⟩)
      go_ret2
      refine ⟨none, 0, 0, ?_, ?_, Below.refl _ _⟩
      · rw [HM2.out]; rfl
      · rw [HM2.out]; exact RdS.nil _ _
    · have hxn : x ≤ n := by omega
      have HM2 : Kept (M = Sy.decT (l.drop q) x) := ⟨by rw [HM.out, if_neg (by rw [← HN.out]; exact hx), Int.toNat_natCast]⟩
      have hll : Kept ((l.drop q).length = n - q) := ⟨by rw [List.length_drop, HN.out]⟩
      have RD := Kept.mk (V.out.drop hq2)
      generalize l.drop q = l2 at *
      obtain ⟨X, hX⟩ : ∃ X, X = Sy.dl (Sy.strR l2) x [] 0 := ⟨_, rfl⟩
      have HM3 : Kept (M = if Wr.fin l2 X.2.1 X.2.2 ≠ 0 then ([], Wr.fin l2 X.2.1 X.2.2) else (X.1, 0)) := ⟨by rw [HM2.out, Sy.decT, hX]⟩
      have HX := Kept.mk hX
      have hxx : IntKind.i64.wrap (x : Int) = (x : Int) := by rw [IntKind.wrap_i64]; omega
      clear hbd hX HM HM2
      by_cases hc : c = q
      · have RD2 := Kept.mk RD.out
        rw [if_pos hc] at RD2
        subst hc
        simp only [Nat.sub_self, show n - c = 0 by omega] at RD2
        clear RD
        go_enter Try.func27, Try.ntmps27
        go_upto_region 9 with (first
          | (go_at_call 59; refine GA.out.mono ?_; rintro r w1 ⟨rfl, rfl⟩)
          | (go_at_call 60; refine (newReader_any _ _ _ w.heap.size l2 w RD2.out (Nat.le_refl _) (by omega)).mono ?_; rintro r w1 ⟨p, rfl, hp1, hp2, hr1, hb1⟩; have D1 := Kept.mk hr1; have B1 := Kept.mk hb1; clear hr1 hb1))
        go_loopw [8, 37] (fun o i wr => ∃ k : Nat, k ≤ x ∧ i = .int .i64 k ∧ ∃ A2 m c2 acc a2, o = .slice A2 m c2 ∧ OwnS wr w1.heap.size A2 m c2 acc ∧ Rdr wr p l2 a2 0 ∧ Kept (m = k ∧ X = Sy.dl (Sy.strR l2) (x - k) acc a2) ∧ w1.grownBy wr (some p)) (fun _ i _ => x - (intOf i).toNat)
        case atStart => exact ⟨0, by omega, rfl, none, 0, 0, [], 0, rfl, OwnS.nil _ _, D1.out, ⟨rfl, HX.out⟩, World.grownBy.refl _ _⟩
        case round =>
          clear D1
          obtain ⟨k, hk, rfl, A2, m, c2, acc, a2, rfl, ho, hd, hm, hg⟩ := hrel
          have hm1 := hm.out.1
          have hm2 := hm.out.2
          have hacc := ho.len
          have hz := hg.size
          by_cases hlt : k < x
          · exact absurd hlt (by omega)
          · have hX2 : X = (acc, a2, 0) := by rw [hm2, show x - k = 0 by omega]; rfl
            have HM4 : Kept (M = if Wr.fin l2 a2 0 ≠ 0 then ([], Wr.fin l2 a2 0) else (acc, 0)) := ⟨by rw [HM3.out, hX2]⟩
            have EN := Kept.mk (end_any p a2 l2 0 wr hd)
            have O := Kept.mk ho
            have BB := Kept.mk (grown_below0 B1.out hg hp1 hp2)
            generalize Wr.fin l2 a2 0 = f at *
            clear hX2 ho hd hm hg hm1 hm2 hacc
            by_cases hf : f = 0
            · have HM5 : Kept (M = (acc, 0)) := ⟨by rw [HM4.out, if_neg (by simpa using hf)]⟩
              subst hf
              clear HM4
              go_wp2_with (go_at_call 64; refine EN.out.mono ?_; rintro r w5 ⟨rfl, rfl⟩)
              go_ret2
              refine ⟨A2, m, c2, ?_, ?_, BB.out⟩
              · rw [HM5.out]; rfl
              · rw [HM5.out]; exact O.out.rd
            · have HM5 : Kept (M = ([], f)) := ⟨by rw [HM4.out, if_pos hf]⟩
              have hfb : (f == 0) = false := by simpa using hf
              clear HM4
              go_wp2_with (go_at_call 64; refine EN.out.mono ?_; rintro r w5 ⟨rfl, rfl⟩)
              go_ret2
              refine ⟨none, 0, 0, ?_, ?_, BB.out⟩
              · rw [HM5.out]; rfl
              · rw [HM5.out]; exact RdS.nil _ _
      · have RD2 := Kept.mk RD.out
        rw [if_neg hc] at RD2
        clear RD
        go_enter Try.func27, Try.ntmps27
        go_upto_region 9 with (first
          | (go_at_call 59; refine GA.out.mono ?_; rintro r w1 ⟨rfl, rfl⟩)
          | (go_at_call 60; refine (newReader_any _ _ _ w.heap.size l2 w RD2.out (Nat.le_refl _) (by omega)).mono ?_; rintro r w1 ⟨p, rfl, hp1, hp2, hr1, hb1⟩; have D1 := Kept.mk hr1; have B1 := Kept.mk hb1; clear hr1 hb1))
        go_loopw [8, 37] (fun o i wr => ∃ k : Nat, k ≤ x ∧ i = .int .i64 k ∧ ∃ A2 m c2 acc a2, o = .slice A2 m c2 ∧ OwnS wr w1.heap.size A2 m c2 acc ∧ Rdr wr p l2 a2 0 ∧ Kept (m = k ∧ X = Sy.dl (Sy.strR l2) (x - k) acc a2) ∧ w1.grownBy wr (some p)) (fun _ i _ => x - (intOf i).toNat)
        case atStart => exact ⟨0, by omega, rfl, none, 0, 0, [], 0, rfl, OwnS.nil _ _, D1.out, ⟨rfl, HX.out⟩, World.grownBy.refl _ _⟩
        case round =>
          clear D1
          obtain ⟨k, hk, rfl, A2, m, c2, acc, a2, rfl, ho, hd, hm, hg⟩ := hrel
          have hm1 := hm.out.1
          have hm2 := hm.out.2
          have hacc := ho.len
          have hz := hg.size
          by_cases hlt : k < x
          · have ST : Kept (Calls Try.prog 61 #[.pointer (some ⟨p, 0, none⟩), .int .i64 65535] wr fun r w' => r = .returned (.string (Sy.strR l2 a2 0).1) ∧ Rdr w' p l2 (Sy.strR l2 a2 0).2.1 (Sy.strR l2 a2 0).2.2 ∧ wr.grownBy w' (some p)) := ⟨string_any p a2 l2 0 65535 wr hd (by omega)⟩
            have hbad := Kept.mk (fun h => hm2.trans (Sy.dl_bad (rd := Sy.strR l2) (x - k) acc a2 (by omega) h))
            have hord := Kept.mk (fun h h' => hm2.trans (Sy.dl_ord (rd := Sy.strR l2) (x - k) acc a2 (by omega) h h'))
            have hok := Kept.mk (fun h h' => hm2.trans (Sy.dl_ok (rd := Sy.strR l2) (x - k) acc a2 (by omega) h h'))
            generalize Sy.strR l2 a2 0 = Y at *
            obtain ⟨s, a3, e3⟩ := Y
            simp only [] at ST hbad hord hok
            have O := Kept.mk ho
            have Gr0 := Kept.mk hg
            have HM1 := Kept.mk hm1
            have hm6 : m ≤ 80000000000 := by omega
            by_cases he3 : e3 = 0
            · subst he3
              rcases Nat.eq_zero_or_pos k with h0 | h0
              · have hnil : acc = [] := List.eq_nil_of_length_eq_zero (by omega)
                have NX := Kept.mk (hok.out rfl (by rw [hnil]; rfl))
                subst h0
                clear hbad hord hok ho hd hm hg hm1 hm2 hacc hnil
                go_wp2_with (first
                  | (go_at_call 61; refine ST.out.mono ?_; rintro r w2 ⟨rfl, hr, hg⟩; have D2 := Kept.mk hr; have O2 := Kept.mk (OwnS.past O.out hg hp2); have G2 := Kept.mk (Gr0.out.trans hg); clear hr hg ST)
                  | (go_at_call 62; refine (err_any p a3 l2 0 _ D2.out).mono ?_; rintro r w9 ⟨rfl, rfl⟩)
                  | (at_builtin; refine wpList_appS rfl (.tmp 65) (.tmp 67) rfl w1.heap.size A2 m c2 acc rfl (World.ownsRow.alloc O2.out _) (w2.heap.size + 1) _ _ _ [s] rfl (RdS.one w2 s) (by omega) (by have := G2.out.size; simp; omega) ?_; intro A4 c4 w4 hown4 hgrow4 hat4; have O4 := Kept.mk hown4; have B4 : Kept (Below w1.heap.size w2 w4) := ⟨((Below.refl w1.heap.size w2).alloc G2.out.size _).grown hgrow4 (by have := G2.out.size; simp; omega) (fun g e => (own_lt O2.out g e).1)⟩; have D4 := Kept.mk (D2.out.below B4.out hp2); have G4 := Kept.mk (grown_then G2.out B4.out); clear hown4 hgrow4 hat4))
                go_roundw
                case rel => exact ⟨0 + 1, by omega, by go_num, A4, _, c4, _, a3, rfl, O4.out, D4.out, ⟨by rw [HM1.out], by rw [NX.out, Nat.sub_sub]⟩, G4.out⟩
                case measure => simp [intOf]; omega
              · have hk1 : k - 1 < acc.length := by omega
                obtain ⟨g, rfl, hg1, hg2⟩ := ho.pos (by omega)
                have hoB : Sy.ordB acc s = St.lt acc[k - 1] s := Sy.ordB_at (by omega) hk1
                have ek : (k : Int) - 1 = ((k - 1 : Nat) : Int) := by omega
                have ek2 : ((k - 1 : Nat) : Int) < (m : Int) := by omega
                have ew : IntKind.i64.wrap ((k - 1 : Nat) : Int) = ((k - 1 : Nat) : Int) := by rw [IntKind.wrap_i64]; omega
                have hkp : (0 : Int) < (k : Int) := by omega
                have hltb : Op.bytesLess acc[k - 1].toList s.toList = St.lt acc[k - 1] s := rfl
                by_cases hxy : St.lt acc[k - 1] s = true
                · have NX := Kept.mk (hok.out rfl (by rw [hoB]; exact hxy))
                  rw [hxy] at hltb
                  clear hbad hord hok ho hd hm hg hm1 hm2 hacc hoB hxy
                  go_wp2_with (first
                    | (go_at_call 61; refine ST.out.mono ?_; rintro r w2 ⟨rfl, hr, hg⟩; have D2 := Kept.mk hr; have O2 := Kept.mk (OwnS.past O.out hg hp2); have G2 := Kept.mk (Gr0.out.trans hg); obtain ⟨y0, -⟩ := OwnS.at_ O2.out hk1; clear hr hg ST)
                    | (go_at_call 62; refine (err_any p a3 l2 0 _ D2.out).mono ?_; rintro r w9 ⟨rfl, rfl⟩)
                    | (at_builtin; refine wpList_appS rfl (.tmp 65) (.tmp 67) rfl w1.heap.size (some ⟨g, 0, none⟩) m c2 acc rfl (World.ownsRow.alloc O2.out _) (w2.heap.size + 1) _ _ _ [s] rfl (RdS.one w2 s) (by omega) (by have := G2.out.size; simp; omega) ?_; intro A4 c4 w4 hown4 hgrow4 hat4; have O4 := Kept.mk hown4; have B4 : Kept (Below w1.heap.size w2 w4) := ⟨((Below.refl w1.heap.size w2).alloc G2.out.size _).grown hgrow4 (by have := G2.out.size; simp; omega) (fun g e => (own_lt O2.out g e).1)⟩; have D4 := Kept.mk (D2.out.below B4.out hp2); have G4 := Kept.mk (grown_then G2.out B4.out); clear hown4 hgrow4 hat4))
                  go_roundw
                  case rel => exact ⟨k + 1, by omega, by go_num, A4, _, c4, _, a3, rfl, O4.out, D4.out, ⟨by rw [HM1.out], by rw [NX.out, Nat.sub_sub]⟩, G4.out⟩
                  case measure => simp [intOf]; omega
                · have hxy' : St.lt acc[k - 1] s = false := by simpa using hxy
                  have HM4 : Kept (M = ([], 16)) := ⟨by rw [HM3.out, hord.out rfl (by rw [hoB]; exact hxy')]; rfl⟩
                  rw [hxy'] at hltb
                  clear hbad hord hok ho hd hm hg hm1 hm2 hacc hoB hxy hxy'
                  go_wp2_with (first
                    | (go_at_call 61; refine ST.out.mono ?_; rintro r w2 ⟨rfl, hr, hg⟩; have D2 := Kept.mk hr; have O2 := Kept.mk (OwnS.past O.out hg hp2); have G2 := Kept.mk (Gr0.out.trans hg); obtain ⟨y0, -⟩ := OwnS.at_ O2.out hk1; clear hr hg ST)
                    | (go_at_call 63; refine (fail_any p a3 l2 0 16 _ D2.out).mono ?_; rintro r w3 ⟨rfl, hr, hg⟩; rw [if_pos rfl] at hr; have D3 := Kept.mk hr; have G3 := Kept.mk (G2.out.trans hg); clear hr hg)
                    | (go_at_call 62; refine (err_any p a3 l2 16 _ D3.out).mono ?_; rintro r w9 ⟨rfl, rfl⟩)
                    | (go_at_call 62; refine (err_any p a3 l2 0 _ D2.out).mono ?_; rintro r w9 ⟨rfl, rfl⟩))
                  go_ret2
                  refine ⟨none, 0, 0, ?_, ?_, grown_below0 B1.out G3.out hp1 hp2⟩
                  · rw [HM4.out]; rfl
                  · rw [HM4.out]; exact RdS.nil _ _
            · have HM4 : Kept (M = ([], e3)) := ⟨by rw [HM3.out, hbad.out he3]; unfold Wr.fin; simp [he3]⟩
              have heb : (e3 == 0) = false := by simpa using he3
              clear hbad hord hok ho hd hm hg hm1 hm2 hacc
              go_wp2_with (first
                | (go_at_call 61; refine ST.out.mono ?_; rintro r w2 ⟨rfl, hr, hg⟩; have D2 := Kept.mk hr; have O2 := Kept.mk (OwnS.past O.out hg hp2); have G2 := Kept.mk (Gr0.out.trans hg); clear hr hg ST)
                | (go_at_call 62; refine (err_any p a3 l2 e3 _ D2.out).mono ?_; rintro r w9 ⟨rfl, rfl⟩))
              go_ret2
              refine ⟨none, 0, 0, ?_, ?_, grown_below0 B1.out G2.out hp1 hp2⟩
              · rw [HM4.out]; rfl
              · rw [HM4.out]; exact RdS.nil _ _
          · have hX2 : X = (acc, a2, 0) := by rw [hm2, show x - k = 0 by omega]; rfl
            have HM4 : Kept (M = if Wr.fin l2 a2 0 ≠ 0 then ([], Wr.fin l2 a2 0) else (acc, 0)) := ⟨by rw [HM3.out, hX2]⟩
            have EN := Kept.mk (end_any p a2 l2 0 wr hd)
            have O := Kept.mk ho
            have BB := Kept.mk (grown_below0 B1.out hg hp1 hp2)
            generalize Wr.fin l2 a2 0 = f at *
            clear hX2 ho hd hm hg hm1 hm2 hacc
            by_cases hf : f = 0
            · have HM5 : Kept (M = (acc, 0)) := ⟨by rw [HM4.out, if_neg (by simpa using hf)]⟩
              subst hf
              clear HM4
              go_wp2_with (go_at_call 64; refine EN.out.mono ?_; rintro r w5 ⟨rfl, rfl⟩)
              go_ret2
              refine ⟨A2, m, c2, ?_, ?_, BB.out⟩
              · rw [HM5.out]; rfl
              · rw [HM5.out]; exact O.out.rd
            · have HM5 : Kept (M = ([], f)) := ⟨by rw [HM4.out, if_pos hf]⟩
              have hfb : (f == 0) = false := by simpa using hf
              clear HM4
              go_wp2_with (go_at_call 64; refine EN.out.mono ?_; rintro r w5 ⟨rfl, rfl⟩)
              go_ret2
              refine ⟨none, 0, 0, ?_, ?_, BB.out⟩
              · rw [HM5.out]; rfl
              · rw [HM5.out]; exact RdS.nil _ _
  · have heb : ((e : Int) == 0) = false := by simp; omega
    have he2 : ¬ (e : Int) = 0 := by omega
    have HM2 : Kept (M = ([], (e : Int))) := ⟨by rw [HM.out, if_pos he]⟩
    clear hto hbd
    go_enter Try.func27, Try.ntmps27
    go_wp2_with (go_at_call 59; refine GA.out.mono ?_; rintro r w1 ⟨rfl, rfl⟩)
    go_ret2
    refine ⟨none, 0, 0, ?_, ?_, Below.refl _ _⟩
    · rw [HM2.out]; rfl
    · rw [HM2.out]; exact RdS.nil _ _
end Go.Proofs.Ythhcfocmaiacoaa
