/- The reference's reader: Section. -/
import Derived.Test.YtknfkbgnfjfpeaaDoorWireR
namespace Go.Proofs.YtknfkbgnfjfpeaaDoor
open Go.RowKit Go.Shelf

theorem cell_set_alloc (w1 : World) (p : Nat) (v u : Value) (o : Obj) (hp : p < w1.heap.size) (h : w1.cell? ⟨p, 0, none⟩ = some u) : ((w1.setCell ⟨p, 1, none⟩ v).alloc o).cell? ⟨p, 0, none⟩ = some u :=
  (World.cell?_alloc_lt (w1.setCell ⟨p, 1, none⟩ v) o ⟨p, 0, none⟩ (by simpa using hp)).trans ((World.cell?_setCell_other w1 ⟨p, 1, none⟩ ⟨p, 0, none⟩ v (fun e => by injection e with _ e2 _; omega)).trans h)
theorem made_set (w1 : World) (q : Addr) (v : Value) (base : Nat) (h : base ≤ w1.heap.size) : OwnB ((w1.setCell q v).alloc (.cells #[] 5)) base (some ⟨w1.heap.size, 0, none⟩) 0 0 [] := by
  have := OwnB.made (w1.setCell q v) base (by simpa using h)
  have e : (w1.setCell q v).heap.size = w1.heap.size := by simp
  rw [e] at this
  exact this
set_option maxRecDepth 100000 in
set_option maxHeartbeats 4000000 in
theorem sectq_any (p a : Nat) (l : List UInt8) (e : Int) (id : UInt8) (w : World) (h : RdrQ w p l a e) :
    Calls Tryd.prog 62 #[.pointer (some ⟨p, 0, none⟩), .int .u8 (id.toNat : Int)] w fun r w' => ∃ A3 n3 c3, r = .returned (.slice A3 n3 c3) ∧ OwnB w' w.heap.size A3 n3 c3 (Wr.sect l a e id).1 ∧ RdrQ w' p l (Wr.sect l a e id).2.1 (Wr.sect l a e id).2.2 ∧ w.grownBy w' (some p) := by
  have H := Kept.mk h
  have hp := h.lt
  obtain ⟨A, n, c, c0, c1, c2, f1, f2, hr, h3, h4, h5, h6⟩ := h.cells
  have hl := Kept.mk hr.len
  by_cases he : e = 0
  · subst he
    obtain ⟨s, hs⟩ : ∃ s, Wr.section1 l a id = s := ⟨_, rfl⟩
    have hm : Wr.sect l a 0 id = if s.2.2 ≠ 0 then ([], a, s.2.2) else (s.1, s.2.1.toNat, 0) := by unfold Wr.sect; rw [if_neg (by simp), hs]
    rw [hm]
    unfold Wr.section1 at hs
    by_cases ha : a < l.length
    · rw [dif_pos ha] at hs
      have h7 : (a : Int) < (n : Int) := by have := hl.out; omega
      obtain ⟨b, off, rfl, hbp, hcell⟩ := hr.at_ ha
      by_cases hid : l[a] = id
      · rw [if_neg (by simpa using hid)] at hs
        rw [hid] at hcell
        obtain ⟨r, hg⟩ : ∃ r, Vi.get l ((a : Int) + 1) = r := ⟨_, rfl⟩
        have hto := fun x t (hh : r = (x, t, 0)) => Vi.get_to (a := a + 1) (by rw [Int.natCast_add]; exact hg.trans hh)
        have HG := refget_any (some ⟨b, off, none⟩) n c p l ((a : Int) + 1) w hr (by omega) (by omega) (by omega)
        rw [hg] at HG hs
        obtain ⟨x, t, er⟩ := r
        unfold getV at HG
        simp only at HG hs
        have HG' := Kept.mk HG
        by_cases h0 : er = 0
        · subst h0
          rw [if_neg (by simp)] at hs
          obtain ⟨ht1, ht2⟩ := hto x t rfl
          obtain ⟨tn, rfl⟩ := Int.eq_ofNat_of_zero_le (show 0 ≤ t by omega)
          have ht3 : (tn : Int) ≤ (n : Int) := by have := hl.out; omega
          have ht4 : (a : Int) + 1 < (tn : Int) := by omega
          simp only [Int.toNat_natCast] at hs
          by_cases hfar : (l.length : Int) - (tn : Int) - 4 < (x : Int)
          · rw [if_pos hfar] at hs
            subst hs
            rw [if_pos (by simp)]
            have hfar' : (n : Int) - (tn : Int) - 4 < (x : Int) := by have := hl.out; omega
            by_cases hneg : (n : Int) - (tn : Int) < 4
            · clear h hr hm ht2 ht1 hto HG hg hid hfar ha
              go_enter Tryd.func62, Tryd.ntmps62
              go_wp2_with (first
                | (go_at_call 77; refine HG'.out.mono ?_; rintro r w1 ⟨rfl, rfl⟩)
                | (go_at_call 63; refine (failq_any p a l 0 3 _ (by exact H.out)).mono ?_; rintro r w1 ⟨rfl, hw1⟩; rw [if_pos rfl] at hw1; subst hw1))
              go_ret
              exact ⟨none, 0, 0, rfl, OwnB.nil _ _, H.out.fail 3, grown_set _ ⟨p, 2, none⟩ _⟩
            · have hneg' : 4 ≤ (n : Int) - (tn : Int) := by omega
              clear h hr hm ht2 ht1 hto HG hg hid hfar ha hneg
              go_enter Tryd.func62, Tryd.ntmps62
              go_wp2_with (first
                | (go_at_call 77; refine HG'.out.mono ?_; rintro r w1 ⟨rfl, rfl⟩)
                | (go_at_call 63; refine (failq_any p a l 0 3 _ (by exact H.out)).mono ?_; rintro r w1 ⟨rfl, hw1⟩; rw [if_pos rfl] at hw1; subst hw1))
              go_ret
              exact ⟨none, 0, 0, rfl, OwnB.nil _ _, H.out.fail 3, grown_set _ ⟨p, 2, none⟩ _⟩
          · rw [if_neg hfar] at hs
            have hnear : (x : Int) ≤ (n : Int) - (tn : Int) - 4 := by have := hl.out; omega
            have hneg' : 4 ≤ (n : Int) - (tn : Int) := by omega
            have e2 : ((tn : Int) + (x : Int) + 4).toNat = tn + x + 4 := by omega
            have e4 : ((tn : Int) + (x : Int)).toNat = tn + x := by omega
            have i1 : (a : Int) ≤ (tn : Int) + (x : Int) + 4 := by omega
            have i2 : (tn : Int) + (x : Int) + 4 ≤ (n : Int) := by omega
            have i3 : (tn : Int) + (x : Int) + 4 ≤ (c : Int) := by omega
            have i4 : (a : Int) < (c : Int) := by omega
            have i5 : (tn : Int) < (c : Int) := by omega
            have i6 : (tn : Int) + (x : Int) ≤ (n : Int) := by omega
            have i7 : (tn : Int) + (x : Int) ≤ (c : Int) := by omega
            have hlx : Kept (tn + x + 4 ≤ l.length) := ⟨by have := hl.out; omega⟩
            have k1 := hr.cut (a := a) (k := tn + x + 4 - a) (by omega)
            have k2 := hr.cut (a := tn) (k := x) (by omega)
            rw [if_neg (by omega)] at k1 k2
            simp only [Option.map_some, add_plain] at k1 k2
            have hpl : p ≤ w.heap.size := by omega
            obtain ⟨ck, hck⟩ : ∃ b, Crc.chk ((l.drop a).take (tn + x + 4 - a)) = b := ⟨_, rfl⟩
            rw [hck] at hs
            have HC := refcheck_any _ _ _ _ w p k1 hpl (by rw [List.length_take]; omega)
            rw [hck] at HC
            have HC' := Kept.mk HC
            have K2 := Kept.mk k2
            clear k1 k2 hck hfar h hr hm ht2 ht1 hto HG hg hid HC
            cases ck with
            | false =>
              rw [if_pos rfl] at hs
              subst hs
              rw [if_pos (by simp)]
              go_enter Tryd.func62, Tryd.ntmps62
              go_wp2_with (first
                | (go_at_call 77; refine HG'.out.mono ?_; rintro r w1 ⟨rfl, rfl⟩)
                | (go_at_call 72; refine HC'.out.mono ?_; rintro r w1 ⟨rfl, hb1⟩)
                | (go_at_call 63; refine (failq_any p a l 0 12 _ (H.out.below hb1 hp)).mono ?_; rintro r w2 ⟨rfl, hw1⟩; rw [if_pos rfl] at hw1; subst hw1))
              go_ret
              exact ⟨none, 0, 0, rfl, OwnB.nil _ _, (H.out.below hb1 hp).fail 12, (below_grown hb1 _).trans (grown_set _ ⟨p, 2, none⟩ _)⟩
            | true =>
              rw [if_neg (by simp)] at hs
              subst hs
              rw [if_neg (by simp)]
              have E3 : Kept (((tn : Int) + (x : Int) + 4).toNat = tn + x + 4) := ⟨e2⟩
              show Calls _ _ _ _ fun r w' => ∃ A3 n3 c3, r = .returned (.slice A3 n3 c3) ∧ OwnB w' w.heap.size A3 n3 c3 ((l.drop tn).take x) ∧ RdrQ w' p l ((tn : Int) + (x : Int) + 4).toNat 0 ∧ w.grownBy w' (some p)
              rw [E3.out]
              go_enter Tryd.func62, Tryd.ntmps62
              go_wp2_with (first
                | (go_at_call 77; refine HG'.out.mono ?_; rintro r w1 ⟨rfl, rfl⟩)
                | (go_at_call 72; refine HC'.out.mono ?_; rintro r w1 ⟨rfl, hb1⟩; have B1 := Kept.mk hb1; have z1 := hb1.size; have OM : Kept (OwnB ((w1.setCell ⟨p, 1, none⟩ (.int .i64 ((tn : Int) + (x : Int) + 4))).alloc (.cells #[] 5)) w.heap.size (some ⟨w1.heap.size, 0, none⟩) 0 0 []) := ⟨made_set w1 _ _ _ z1⟩; have c9 : ((w1.setCell ⟨p, 1, none⟩ (.int .i64 ((tn : Int) + (x : Int) + 4))).alloc (.cells #[] 5)).cell? ⟨p, 0, none⟩ = some (.slice (some ⟨b, off, none⟩) n c) := cell_set_alloc w1 p _ _ _ (by omega) ((hb1.cell (p := ⟨p, 0, none⟩) hp).trans c0); have c0' := (hb1.cell (p := ⟨p, 0, none⟩) hp).trans c0; have c1' := (hb1.cell (p := ⟨p, 1, none⟩) hp).trans c1; have f1' := (hb1.frozen (p := ⟨p, 1, none⟩) hp).trans f1; clear hb1 c0 c1 c2 f1 f2)
                | (at_builtin; go_loud (refine wpList_appB rfl (.tmp 104) (.tmp 114) rfl w.heap.size _ _ _ [] rfl (by exact OM.out) p _ _ _ ((l.drop tn).take x) rfl (((K2.out.below (B1.out.mono hpl)).setCell (p := ⟨p, 1, none⟩) (Nat.le_refl _) _).alloc (by simp; omega) _) (by omega) (by simp; omega) ?_); intro A3 c3 w3 hown hgrow hat))
              go_ret
              rw [List.nil_append, Nat.zero_add] at hown
              have hm1 := (H.out.below B1.out hp).move (tn + x + 4) hlx.out
              have hs1 : (w1.setCell ⟨p, 1, none⟩ (.int .i64 ((tn : Int) + (x : Int) + 4))).heap.size = w1.heap.size := by simp
              have hb3 : Below w1.heap.size (w1.setCell ⟨p, 1, none⟩ (.int .i64 ((tn : Int) + (x : Int) + 4))) w3 := by
                have hb := ((Below.refl w1.heap.size (w1.setCell ⟨p, 1, none⟩ (.int .i64 ((tn : Int) + (x : Int) + 4)))).alloc (by simp) (.cells #[] 5)).grown hgrow (by simp) (fun g hg => by simp [ab] at hg; first | omega | done)
                exact hb
              refine ⟨A3, _, c3, rfl, hown, ?_, (below_grown B1.out _).trans ((grown_set _ ⟨p, 1, none⟩ _).trans ((below_grown (by rw [hs1]; exact hb3)) _))⟩
              rw [Int.natCast_add, Int.natCast_add] at hm1
              exact hm1.below hb3 (by omega)
        · have h0' : ((er : Int) == 0) = false := by simp; omega
          have h0'' : ((er : Int) != 0) = true := by simp; omega
          rw [if_pos (by simpa using h0)] at hs
          subst hs
          rw [if_pos (by simp; omega)]
          clear h hr hm hto HG hg h0 hid ha
          go_enter Tryd.func62, Tryd.ntmps62
          go_wp2_with (first
            | (go_at_call 77; refine HG'.out.mono ?_; rintro r w1 ⟨rfl, rfl⟩)
            | (go_at_call 63; refine (failq_any p a l 0 (er : Int) _ (by exact H.out)).mono ?_; rintro r w1 ⟨rfl, hw1⟩; rw [if_pos rfl] at hw1; subst hw1))
          go_ret
          exact ⟨none, 0, 0, rfl, OwnB.nil _ _, H.out.fail _, grown_set _ ⟨p, 2, none⟩ _⟩
      · rw [if_pos (by simpa using hid)] at hs
        subst hs
        rw [if_pos (by simp)]
        have hne : l[a].toNat ≠ id.toNat := fun h => hid (UInt8.toNat_inj.1 h)
        generalize l[a].toNat = v at *
        generalize id.toNat = v' at *
        have hnb : ((v : Int) == (v' : Int)) = false := by simp; omega
        have hnb' : ((v : Int) != (v' : Int)) = true := by simp; omega
        clear h hr hm hid hne ha
        go_enter Tryd.func62, Tryd.ntmps62
        go_wp2_with (go_at_call 63; refine (failq_any p a l 0 11 _ (by exact H.out)).mono ?_; rintro r w1 ⟨rfl, hw1⟩; rw [if_pos rfl] at hw1; subst hw1)
        go_ret
        exact ⟨none, 0, 0, rfl, OwnB.nil _ _, H.out.fail _, grown_set _ ⟨p, 2, none⟩ _⟩
    · rw [dif_neg ha] at hs
      subst hs
      rw [if_pos (by simp)]
      have hge : (n : Int) ≤ (a : Int) := by have := hl.out; omega
      clear h hr hm ha
      go_enter Tryd.func62, Tryd.ntmps62
      go_wp2_with (go_at_call 63; refine (failq_any p a l 0 3 _ (by exact H.out)).mono ?_; rintro r w1 ⟨rfl, hw1⟩; rw [if_pos rfl] at hw1; subst hw1)
      go_ret
      exact ⟨none, 0, 0, rfl, OwnB.nil _ _, H.out.fail _, grown_set _ ⟨p, 2, none⟩ _⟩
  · have hm : Wr.sect l a e id = ([], a, e) := by unfold Wr.sect; rw [if_pos he]
    rw [hm]
    have heb : (e == 0) = false := by simpa using he
    have hen : (e != 0) = true := by simpa using he
    clear h hr hm he
    go_enter Tryd.func62, Tryd.ntmps62
    go_wp2
    go_ret
    exact ⟨none, 0, 0, rfl, OwnB.nil _ _, H.out, World.grownBy.refl _ _⟩
end Go.Proofs.YtknfkbgnfjfpeaaDoor
