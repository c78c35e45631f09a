/- Chapter 11: the checks of labels. -/
import Derived.Test.YtglnghdomoebfaaLabG
namespace Go.Proofs.Ytglnghdomoebfaa
open Go.RowKit Go.Shelf

set_option maxHeartbeats 1000000 in
theorem refOne_any (x : Lab) (w : World) (h1 : x.n.size ≤ maxLen) (h2 : x.v.size ≤ maxLen) : Calls Try.prog 62 #[.agg #[.string x.n, .string x.v]] w fun e w' => e = .returned (.int .i64 (Lb.one x)) ∧ Gr w w' := by
  unfold maxLen at h1 h2
  have e1 : x.n.toList.isEmpty = decide (x.n.size = 0) := by
    rw [St.tl]
    obtain ⟨⟨l⟩⟩ := x.n
    cases l <;> simp [ByteArray.size]
  by_cases h0 : x.n.size = 0
  · rw [decide_eq_true h0] at e1
    have hr : Lb.one x = 17 := by simp [Lb.one, h0]
    rw [hr]
    go_enter Try.func62, Try.ntmps62
    go_wp2
    go_ret
    exact ⟨rfl, (Gr.refl w).alloc _⟩
  · rw [decide_eq_false h0] at e1
    by_cases hb : 65535 < x.n.size
    · have hr : Lb.one x = 7 := by simp [Lb.one, h0, hb]
      have hb' : (65535 : Int) < (x.n.size : Int) := by omega
      rw [hr]
      go_enter Try.func62, Try.ntmps62
      go_wp2
      go_ret
      exact ⟨rfl, (Gr.refl w).alloc _⟩
    · have hb' : ¬ (65535 : Int) < (x.n.size : Int) := by omega
      by_cases hb2 : 65535 < x.v.size
      · have hr : Lb.one x = 7 := by simp [Lb.one, h0, hb2]
        have hb2' : (65535 : Int) < (x.v.size : Int) := by omega
        rw [hr]
        go_enter Try.func62, Try.ntmps62
        go_wp2
        go_ret
        exact ⟨rfl, (Gr.refl w).alloc _⟩
      · have hr : Lb.one x = 0 := by simp [Lb.one, h0, hb, hb2]
        have hb2' : ¬ (65535 : Int) < (x.v.size : Int) := by omega
        rw [hr]
        go_enter Try.func62, Try.ntmps62
        go_wp2
        go_ret
        exact ⟨rfl, (Gr.refl w).alloc _⟩
namespace Lb
/-- the lengths of a list of labels are lengths -/
def Fit (l : List Lab) : Prop := ∀ x ∈ l, x.n.size ≤ maxLen ∧ x.v.size ≤ maxLen
theorem Fit.at {l : List Lab} (h : Fit l) {k : Nat} (hk : k < l.length) : l[k].n.size ≤ maxLen ∧ l[k].v.size ≤ maxLen := h _ (List.getElem_mem hk)
theorem step_one {l : List Lab} {k : Nat} (hk : k < l.length) (h : one l[k] ≠ 0) : stepE l k = one l[k] := by
  unfold stepE; rw [getD_at hk]; simp only []; rw [if_pos h]
theorem step_zero {l : List Lab} (hk : 0 < l.length) (h : one l[0] = 0) : stepE l 0 = 0 := by
  unfold stepE; rw [getD_at hk]; simp [h]
theorem step_dup {l : List Lab} {k : Nat} (hk : k < l.length) (h0 : k ≠ 0) (h : one l[k] = 0) (he : l[k - 1].n = l[k].n) : stepE l k = 18 := by
  unfold stepE; rw [getD_at hk]; simp only []; rw [if_neg (by simp [h]), if_neg h0, getD_at (show k - 1 < l.length by omega), if_pos he]
theorem step_ord {l : List Lab} {k : Nat} (hk : k < l.length) (h0 : k ≠ 0) (h : one l[k] = 0) (he : St.lt l[k].n l[k - 1].n = true) : stepE l k = 16 := by
  unfold stepE; rw [getD_at hk]; simp only []; rw [if_neg (by simp [h]), if_neg h0, getD_at (show k - 1 < l.length by omega), if_neg (fun e => by rw [e, St.irrefl] at he; cases he), if_pos he]
theorem step_ok {l : List Lab} {k : Nat} (hk : k < l.length) (h0 : k ≠ 0) (h : one l[k] = 0) (he : ¬ l[k - 1].n = l[k].n) (hl : St.lt l[k].n l[k - 1].n = false) : stepE l k = 0 := by
  unfold stepE; rw [getD_at hk]; simp only []; rw [if_neg (by simp [h]), if_neg h0, getD_at (show k - 1 < l.length by omega), if_neg he, if_neg (by simp [hl])]
theorem step_all {l : List Lab} {k : Nat} (h : ∀ j, j < k → stepE l j = 0) (hk : stepE l k = 0) : ∀ j, j < k + 1 → stepE l j = 0 := fun j hj => by
  by_cases e : j = k
  · subst e; exact hk
  · exact h j (by omega)
end Lb
set_option maxRecDepth 100000 in
set_option maxHeartbeats 4000000 in
theorem refCheck_any (A : Option Addr) (n c B : Nat) (l : List Lab) (w : World) (hv : RdL w B A n c l) (hB : B ≤ w.heap.size) (hf : Lb.Fit l) :
    Calls Try.prog 31 #[.slice A n c] w fun e w' => e = .returned (.int .i64 (Lb.chk l)) ∧ Gr w w' := by
  have hlc := hv.1
  have hcm := hv.2.1
  unfold maxLen at hcm
  have hn := Kept.mk hv.len
  have V := Kept.mk hv
  have F := Kept.mk hf
  clear hv hf
  obtain ⟨r, hr⟩ : ∃ r, r = Lb.chk l := ⟨_, rfl⟩
  rw [← hr]
  have HR := Kept.mk hr
  clear hr
  go_enter Try.func31, Try.ntmps31
  go_wp2
  go_loopw [3] (fun i wr => ∃ k : Nat, k ≤ n ∧ i = .int .i64 k ∧ Kept (∀ j, j < k → Lb.stepE l j = 0) ∧ Gr w wr) (fun i _ => n - (intOf i).toNat)
  case atStart => exact ⟨0, by omega, rfl, ⟨fun j hj => by omega⟩, Gr.refl w⟩
  case round =>
    obtain ⟨k, hk, rfl, hd, gr⟩ := hrel
    by_cases hlt : k < n
    · have hkl : k < l.length := by rw [← hn.out]; exact hlt
      obtain ⟨b, off, rfl, hc⟩ := V.out.cells hB hkl
      obtain ⟨c0, c1⟩ := hc wr gr.below
      have C := Kept.mk (fun W (g : Gr w W) => hc W g.below)
      have G := Kept.mk gr
      obtain ⟨hf1, hf2⟩ := F.out.at hkl
      have ONE := Kept.mk (fun W => refOne_any l[k] W hf1 hf2)
      clear hc gr hf1 hf2
      by_cases h1 : Lb.one l[k] = 0
      · rw [h1] at ONE
        by_cases h0 : k = 0
        · have hd2 := Kept.mk (Lb.step_all hd.out (by subst h0; exact Lb.step_zero hkl h1))
          clear h1
          subst h0
          simp only [Nat.zero_mul, Nat.add_zero] at c0 c1
          generalize l[0].n = xn at *
          generalize l[0].v = xv at *
          go_wp2_with (go_at_call 62; refine (ONE.out _).mono ?_; rintro e w2 ⟨rfl, g2⟩; have G2 := Kept.mk (G.out.trans g2); clear g2)
          go_quiet (fail)
          go_wp2
          go_quiet (fail)
          go_wp2
          go_roundw
          case rel => exact ⟨1, by omega, rfl, hd2, G2.out.drewN _⟩
          case measure => simp [intOf]; omega
        · have hkl1 : k - 1 < l.length := by omega
          obtain ⟨b', off', e', hp⟩ := V.out.cells hB hkl1
          simp only [Option.some.injEq, Addr.mk.injEq, and_true] at e'
          obtain ⟨rfl, rfl⟩ := e'
          have CP := Kept.mk (fun W (g : Gr w W) => hp W g.below)
          have ek : (k : Int) - 1 = ((k - 1 : Nat) : Int) := by omega
          have ek2 : ((k - 1 : Nat) : Int) < (n : Int) := by omega
          have ek3 : 0 < k := by omega
          have hq := St.eq_iff l[k].n l[k - 1].n
          have hlt' : Op.bytesLess l[k].n.toList l[k - 1].n.toList = St.lt l[k].n l[k - 1].n := rfl
          clear hp
          by_cases hdup : l[k - 1].n = l[k].n
          · have hd2 : Kept (r = 18) := ⟨HR.out.trans ((Lb.firstE_at _ _ k hkl hd.out (by rw [Lb.step_dup hkl h0 h1 hdup]; decide)).trans (Lb.step_dup hkl h0 h1 hdup))⟩
            rw [decide_eq_true hdup.symm] at hq
            clear h1 hdup hlt'
            generalize l[k].n = xn at *
            generalize l[k].v = xv at *
            generalize l[k - 1].n = pn at *
            generalize l[k - 1].v = pv at *
            go_wp2_with (go_at_call 62; refine (ONE.out _).mono ?_; rintro e w2 ⟨rfl, g2⟩; have G2 := Kept.mk (G.out.trans g2); clear g2; have f0 := (C.out _ G2.out).1; have p0 := (CP.out _ G2.out).1)
            go_quiet (fail)
            go_wp2
            go_ret
            exact ⟨by rw [hd2.out]; rfl, G2.out.drewN _⟩
          · rw [decide_eq_false (fun e => hdup e.symm)] at hq
            by_cases hord : St.lt l[k].n l[k - 1].n = true
            · have hd2 : Kept (r = 16) := ⟨HR.out.trans ((Lb.firstE_at _ _ k hkl hd.out (by rw [Lb.step_ord hkl h0 h1 hord]; decide)).trans (Lb.step_ord hkl h0 h1 hord))⟩
              rw [hord] at hlt'
              clear h1 hdup hord
              generalize l[k].n = xn at *
              generalize l[k].v = xv at *
              generalize l[k - 1].n = pn at *
              generalize l[k - 1].v = pv at *
              go_wp2_with (go_at_call 62; refine (ONE.out _).mono ?_; rintro e w2 ⟨rfl, g2⟩; have G2 := Kept.mk (G.out.trans g2); clear g2; have f0 := (C.out _ G2.out).1; have p0 := (CP.out _ G2.out).1)
              go_quiet (fail)
              go_wp2
              go_quiet (fail)
              go_wp2
              go_ret
              exact ⟨by rw [hd2.out]; rfl, (G2.out.drewN _).drewN _⟩
            · have hord' : St.lt l[k].n l[k - 1].n = false := by simpa using hord
              have hd2 := Kept.mk (Lb.step_all hd.out (Lb.step_ok hkl h0 h1 hdup hord'))
              rw [hord'] at hlt'
              clear h1 hdup hord hord'
              generalize l[k].n = xn at *
              generalize l[k].v = xv at *
              generalize l[k - 1].n = pn at *
              generalize l[k - 1].v = pv at *
              go_wp2_with (go_at_call 62; refine (ONE.out _).mono ?_; rintro e w2 ⟨rfl, g2⟩; have G2 := Kept.mk (G.out.trans g2); clear g2; have f0 := (C.out _ G2.out).1; have p0 := (CP.out _ G2.out).1)
              go_quiet (fail)
              go_wp2
              go_quiet (fail)
              go_wp2
              go_roundw
              case rel => exact ⟨k + 1, by omega, by go_num, hd2, G2.out.drewN _⟩
              case measure => simp [intOf]; omega
      · have hd2 : Kept (r = Lb.one l[k]) := ⟨HR.out.trans ((Lb.firstE_at _ _ k hkl hd.out (by rw [Lb.step_one hkl h1]; exact h1)).trans (Lb.step_one hkl h1))⟩
        generalize Lb.one l[k] = s at *
        generalize l[k].n = xn at *
        generalize l[k].v = xv at *
        go_wp2_with (go_at_call 62; refine (ONE.out _).mono ?_; rintro e w2 ⟨rfl, g2⟩; have G2 := Kept.mk (G.out.trans g2); clear g2)
        go_ret
        exact ⟨by rw [hd2.out]; rfl, G2.out⟩
    · have hd2 : Kept (r = 0) := ⟨HR.out.trans (Lb.firstE_none _ _ fun j hj => hd.out j (by have := hn.out; omega))⟩
      have G := Kept.mk gr
      clear gr
      go_wp2
      go_ret
      exact ⟨by rw [hd2.out]; rfl, G.out⟩
end Go.Proofs.Ytglnghdomoebfaa
