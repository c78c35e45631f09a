/- Chapter 11: comparing lists of labels, by the program and by the reference. -/
import Derived.Test.YtglnghdomoebfaaLabB
namespace Go.Proofs.Ytglnghdomoebfaa
open Go.RowKit Go.Shelf

theorem RdL.cells {w : World} {B n c k : Nat} {A : Option Addr} {l : List Lab} (h : RdL w B A n c l) (hB : B ≤ w.heap.size) (hk : k < l.length) :
    ∃ b off, A = some ⟨b, off, none⟩ ∧ ∀ W, Below w.heap.size w W → W.cell? ⟨b, off + k * 2, none⟩ = some (.string l[k].n) ∧ W.cell? ⟨b, off + k * 2 + 1, none⟩ = some (.string l[k].v) := by
  obtain ⟨b, off, e, hb, h1, h2⟩ := h.at_ hk
  exact ⟨b, off, e, fun W hW => ⟨(hW.cell (p := ⟨b, _, none⟩) (by show b < _; omega)).trans h1, (hW.cell (p := ⟨b, _, none⟩) (by show b < _; omega)).trans (by rw [Nat.add_assoc]; exact h2)⟩⟩
set_option maxRecDepth 100000 in
set_option maxHeartbeats 2000000 in
theorem compareFunc_any (A A2 : Option Addr) (n c n2 c2 : Nat) (l l2 : List Lab) (w : World) (hv : RdL w w.heap.size A n c l) (hv2 : RdL w w.heap.size A2 n2 c2 l2) :
    Calls Try.prog 64 #[.slice A n c, .slice A2 n2 c2, .func (.func 65) #[] #[]] w fun e w' => e = .returned (.int .i64 (Lb.cmpL l l2)) ∧ Gr w w' := by
  have hlc := hv.1
  have hcm := hv.2.1
  have hlc2 := hv2.1
  have hcm2 := hv2.2.1
  unfold maxLen at hcm hcm2
  have hn := Kept.mk hv.len
  have hn2 := Kept.mk hv2.len
  have V := Kept.mk hv
  have V2 := Kept.mk hv2
  clear hv hv2
  obtain ⟨r, hr⟩ : ∃ r, r = Lb.cmpL l l2 := ⟨_, rfl⟩
  rw [← hr]
  have HR := Kept.mk hr
  clear hr
  go_enter Try.func64, Try.ntmps64
  go_wp2
  go_loopw [13] (fun i wr => ∃ k : Nat, k ≤ n ∧ k ≤ n2 ∧ i = .int .i64 k ∧ Kept (r = Lb.cmpL (l.drop k) (l2.drop k)) ∧ Gr w wr) (fun i _ => n - (intOf i).toNat)
  case atStart => exact ⟨0, by omega, by omega, rfl, ⟨HR.out⟩, Gr.refl w⟩
  case round =>
    obtain ⟨k, hk, hk2, rfl, hd, gr⟩ := hrel
    by_cases hlt : k < n
    · have hkl : k < l.length := by rw [← hn.out]; exact hlt
      obtain ⟨b, off, rfl, hc⟩ := V.out.cells (Nat.le_refl _) hkl
      obtain ⟨c0, c1⟩ := hc wr gr.below
      clear hc
      by_cases hlt2 : k < n2
      · have hkl2 : k < l2.length := by rw [← hn2.out]; exact hlt2
        obtain ⟨b2, off2, rfl, hc2⟩ := V2.out.cells (Nat.le_refl _) hkl2
        have d0 := fun o => (hc2 (wr.alloc o) (gr.alloc o).below).1
        have d1 := fun o => (hc2 (wr.alloc o) (gr.alloc o).below).2
        clear hc2
        have hd2 := Kept.mk (hd.out.trans (Lb.cmpL_drop l l2 k hkl hkl2))
        generalize l[k] = x at *
        generalize l2[k] = y at *
        have C1 := fun W => cmp1_any x y W
        obtain ⟨xn, xv⟩ := x
        obtain ⟨yn, yv⟩ := y
        obtain ⟨s, hs⟩ : ∃ s, s = Lb.cmpE ⟨xn, xv⟩ ⟨yn, yv⟩ := ⟨_, rfl⟩
        simp only [← hs] at C1
        have HS := Kept.mk hs
        have G := Kept.mk gr
        clear hs gr
        by_cases hz : s = 0
        · have hd3 : Kept (r = Lb.cmpL (l.drop (k + 1)) (l2.drop (k + 1))) := ⟨by rw [hd2.out, if_pos (by rw [← HS.out]; exact hz)]⟩
          go_wp2_with (go_at_call 65; refine (C1 _).mono ?_; rintro e w3 ⟨rfl, g3⟩)
          go_roundw
          case rel => exact ⟨k + 1, by omega, by omega, by go_num, hd3, ((G.out.alloc _).alloc _).trans g3⟩
          case measure => simp [intOf]; omega
        · have hd3 : Kept (r = s) := ⟨by rw [hd2.out, if_neg (by rw [← HS.out]; exact hz), HS.out]⟩
          go_wp2_with (go_at_call 65; refine (C1 _).mono ?_; rintro e w3 ⟨rfl, g3⟩)
          go_ret
          exact ⟨by rw [hd3.out]; rfl, ((G.out.alloc _).alloc _).trans g3⟩
      · have hd3 : Kept (r = 1) := ⟨by rw [hd.out, Lb.cmpL_end2 l l2 k hkl (by have := hn2.out; omega)]⟩
        have G := Kept.mk gr
        have hge : (n2 : Int) ≤ (k : Int) := by omega
        clear gr
        go_wp2
        go_ret
        exact ⟨by rw [hd3.out]; rfl, G.out.alloc _⟩
    · have G := Kept.mk gr
      clear gr
      by_cases hlt2 : n < n2
      · have hd3 : Kept (r = -1) := ⟨by rw [hd.out, Lb.cmpL_end1 l l2 k (by have := hn.out; omega) (by have := hn2.out; omega)]⟩
        go_wp2
        go_ret
        exact ⟨by rw [hd3.out]; rfl, G.out⟩
      · have hd3 : Kept (r = 0) := ⟨by rw [hd.out, Lb.cmpL_end0 l l2 k (by have := hn.out; omega) (by have := hn2.out; omega)]⟩
        go_wp2
        go_ret
        exact ⟨by rw [hd3.out]; rfl, G.out⟩
set_option maxHeartbeats 1000000 in
theorem lcompare_any (A A2 : Option Addr) (n c n2 c2 : Nat) (l l2 : List Lab) (w : World) (hv : RdL w w.heap.size A n c l) (hv2 : RdL w w.heap.size A2 n2 c2 l2) :
    Calls Try.prog 36 #[.slice A n c, .slice A2 n2 c2] w fun e w' => e = .returned (.int .i64 (Lb.cmpL l l2)) ∧ Gr w w' := by
  have C := compareFunc_any A A2 n c n2 c2 l l2 w hv hv2
  generalize Lb.cmpL l l2 = r at *
  clear hv hv2
  go_enter Try.func36, Try.ntmps36
  go_wp2_with (go_at_call 64; refine C.mono ?_; rintro e w3 ⟨rfl, g3⟩)
  go_ret
  exact ⟨rfl, g3⟩
set_option maxHeartbeats 1000000 in
theorem order_any (x y : ByteArray) (w : World) : Calls Try.prog 66 #[.string x, .string y] w fun e w' => e = .returned (.int .i64 (St.cmp x y)) ∧ w' = w := by
  have h1 : Op.bytesLess x.toList y.toList = St.lt x y := rfl
  have h2 : (!(Op.bytesLess x.toList y.toList || x.toList == y.toList)) = (!(St.lt x y) && St.lt y x) := by
    rw [h1, St.eq_iff]
    by_cases e : x = y
    · subst e; simp [St.irrefl]
    · cases a : St.lt x y with
      | true => simp
      | false =>
        cases b : St.lt y x with
        | true => simp [e]
        | false => exact absurd (St.total a b) e
  by_cases a : St.lt x y = true
  · go_enter Try.func66, Try.ntmps66
    have a2 : Op.bytesLess x.toList y.toList = true := a
    go_wp2
    go_ret
    exact ⟨by simp [St.cmp, a], rfl⟩
  · have a' : St.lt x y = false := by simpa using a
    have a2 : Op.bytesLess x.toList y.toList = false := a'
    rw [a'] at h2
    by_cases b : St.lt y x = true
    · rw [b] at h2
      rw [a2] at h2
      have h3 : (x.toList == y.toList) = false := by simpa using h2
      go_enter Try.func66, Try.ntmps66
      go_wp2
      go_ret
      exact ⟨by simp [St.cmp, a', b], rfl⟩
    · have b' : St.lt y x = false := by simpa using b
      rw [b', a2] at h2
      have h3 : (x.toList == y.toList) = true := by simpa using h2
      go_enter Try.func66, Try.ntmps66
      go_wp2
      go_ret
      exact ⟨by simp [St.cmp, a', b'], rfl⟩
set_option maxRecDepth 100000 in
set_option maxHeartbeats 2000000 in
theorem refCompare_any (A A2 : Option Addr) (n c n2 c2 : Nat) (l l2 : List Lab) (w : World) (hv : RdL w w.heap.size A n c l) (hv2 : RdL w w.heap.size A2 n2 c2 l2) :
    Calls Try.prog 37 #[.slice A n c, .slice A2 n2 c2] w fun e w' => e = .returned (.int .i64 (Lb.cmpL l l2)) ∧ Gr w w' := by
  have hlc := hv.1
  have hcm := hv.2.1
  have hlc2 := hv2.1
  have hcm2 := hv2.2.1
  unfold maxLen at hcm hcm2
  have hn := Kept.mk hv.len
  have hn2 := Kept.mk hv2.len
  have V := Kept.mk hv
  have V2 := Kept.mk hv2
  clear hv hv2
  obtain ⟨r, hr⟩ : ∃ r, r = Lb.cmpL l l2 := ⟨_, rfl⟩
  rw [← hr]
  have HR := Kept.mk hr
  clear hr
  go_enter Try.func37, Try.ntmps37
  go_wp2
  go_loopw [5] (fun i wr => ∃ k : Nat, k ≤ n ∧ k ≤ n2 ∧ i = .int .i64 k ∧ Kept (r = Lb.cmpL (l.drop k) (l2.drop k)) ∧ Gr w wr) (fun i _ => n - (intOf i).toNat)
  case atStart => exact ⟨0, by omega, by omega, rfl, ⟨HR.out⟩, Gr.refl w⟩
  case round =>
    obtain ⟨k, hk, hk2, rfl, hd, gr⟩ := hrel
    by_cases hlt : k < n
    · have hkl : k < l.length := by rw [← hn.out]; exact hlt
      obtain ⟨b, off, rfl, hc⟩ := V.out.cells (Nat.le_refl _) hkl
      by_cases hlt2 : k < n2
      · have hkl2 : k < l2.length := by rw [← hn2.out]; exact hlt2
        obtain ⟨b2, off2, rfl, hc2⟩ := V2.out.cells (Nat.le_refl _) hkl2
        obtain ⟨c0, c1⟩ := hc wr gr.below
        obtain ⟨d0, d1⟩ := hc2 wr gr.below
        clear hc hc2
        have hd2 := Kept.mk (hd.out.trans (Lb.cmpL_drop l l2 k hkl hkl2))
        generalize l[k] = x at *
        generalize l2[k] = y at *
        obtain ⟨xn, xv⟩ := x
        obtain ⟨yn, yv⟩ := y
        have O1 := fun W => order_any xn yn W
        have O2 := fun W => order_any xv yv W
        have HE : Kept (Lb.cmpE ⟨xn, xv⟩ ⟨yn, yv⟩ = if St.cmp xn yn = 0 then St.cmp xv yv else St.cmp xn yn) := ⟨rfl⟩
        generalize Lb.cmpE ⟨xn, xv⟩ ⟨yn, yv⟩ = s at *
        generalize St.cmp xn yn = s1 at *
        generalize St.cmp xv yv = s2 at *
        have G := Kept.mk gr
        clear gr
        by_cases hz1 : s1 = 0
        · have hs : Kept (s = s2) := ⟨by rw [HE.out, if_pos hz1]⟩
          by_cases hz2 : s2 = 0
          · have hd3 : Kept (r = Lb.cmpL (l.drop (k + 1)) (l2.drop (k + 1))) := ⟨by rw [hd2.out, if_pos (by rw [hs.out]; exact hz2)]⟩
            subst hz1 hz2
            go_wp2_with fail
            go_quiet (first | (go_at_call 66; exact (O1 _).mono fun _ _ q => ⟨q.1, _, q.2⟩))
            go_wp2_with fail
            go_quiet (first | (go_at_call 66; exact (O2 _).mono fun _ _ q => ⟨q.1, _, q.2⟩))
            go_wp2
            go_roundw
            case rel => exact ⟨k + 1, by omega, by omega, by go_num, hd3, G.out.drewN _⟩
            case measure => simp [intOf]; omega
          · have hd3 : Kept (r = s2) := ⟨by rw [hd2.out, if_neg (by rw [hs.out]; exact hz2), hs.out]⟩
            subst hz1
            go_wp2_with fail
            go_quiet (first | (go_at_call 66; exact (O1 _).mono fun _ _ q => ⟨q.1, _, q.2⟩))
            go_wp2_with fail
            go_quiet (first | (go_at_call 66; exact (O2 _).mono fun _ _ q => ⟨q.1, _, q.2⟩))
            go_wp2
            go_ret
            exact ⟨by rw [hd3.out]; rfl, G.out.drewN _⟩
        · have hd3 : Kept (r = s1) := ⟨by rw [hd2.out, if_neg (by rw [HE.out, if_neg hz1]; exact hz1), HE.out, if_neg hz1]⟩
          go_wp2_with fail
          go_quiet (first | (go_at_call 66; exact (O1 _).mono fun _ _ q => ⟨q.1, _, q.2⟩))
          go_wp2
          go_ret
          exact ⟨by rw [hd3.out]; rfl, G.out.drewN _⟩
      · have hd3 : Kept (r = 1) := ⟨by rw [hd.out, Lb.cmpL_end2 l l2 k hkl (by have := hn2.out; omega)]⟩
        have G := Kept.mk gr
        have hge : (n2 : Int) ≤ (k : Int) := by omega
        have hge2 : ¬ (n : Int) < (n2 : Int) := by omega
        have hge3 : (n2 : Int) < (n : Int) := by omega
        clear gr
        go_wp2
        go_ret
        exact ⟨by rw [hd3.out]; rfl, G.out⟩
    · have G := Kept.mk gr
      clear gr
      by_cases hlt2 : n < n2
      · have hd3 : Kept (r = -1) := ⟨by rw [hd.out, Lb.cmpL_end1 l l2 k (by have := hn.out; omega) (by have := hn2.out; omega)]⟩
        go_wp2
        go_ret
        exact ⟨by rw [hd3.out]; rfl, G.out⟩
      · have hd3 : Kept (r = 0) := ⟨by rw [hd.out, Lb.cmpL_end0 l l2 k (by have := hn.out; omega) (by have := hn2.out; omega)]⟩
        have hge3 : (n2 : Int) ≤ (n : Int) := by omega
        go_wp2
        go_ret
        exact ⟨by rw [hd3.out]; rfl, G.out⟩
end Go.Proofs.Ytglnghdomoebfaa
