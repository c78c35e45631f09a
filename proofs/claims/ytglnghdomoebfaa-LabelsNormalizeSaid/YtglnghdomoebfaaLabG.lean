/- Labels and strings held against each other; the checks of labels. -/
import Derived.Test.YtglnghdomoebfaaLabG0
namespace Go.Proofs.Ytglnghdomoebfaa
open Go.RowKit Go.Shelf

theorem take_succ_eq {α : Type} {a b : List α} {k : Nat} (h : a.take k = b.take k) (ha : k < a.length) (hb : k < b.length) (he : a[k] = b[k]) : a.take (k + 1) = b.take (k + 1) := by
  rw [List.take_succ_eq_append_getElem ha, List.take_succ_eq_append_getElem hb, h, he]
theorem ne_at {α : Type} {a b : List α} {k : Nat} (ha : k < a.length) (hb : k < b.length) (he : ¬ a[k] = b[k]) : ¬ a = b := fun e => by subst e; exact he rfl
set_option maxRecDepth 100000 in
set_option maxHeartbeats 2000000 in
theorem equalL_any (A A2 : Option Addr) (n c n2 c2 B B2 : Nat) (l l2 : List Lab) (w : World) (hv : RdL w B A n c l) (hv2 : RdL w B2 A2 n2 c2 l2) (hB : B ≤ w.heap.size) (hB2 : B2 ≤ w.heap.size) :
    Calls Try.prog 35 #[.slice A n c, .slice A2 n2 c2] w fun e w' => e = .returned (.bool (decide (l = l2))) ∧ Gr w w' := by
  have hlc := hv.1
  have hcm := hv.2.1
  have hlc2 := hv2.1
  have hcm2 := hv2.2.1
  unfold maxLen at hcm hcm2
  have hn := Kept.mk hv.len
  have hn2 := Kept.mk hv2.len
  have V := Kept.mk hv
  have V2 := Kept.mk hv2
  have NE := neqL
  have GU := guardL
  clear hv hv2
  obtain ⟨r, hr⟩ : ∃ r, r = decide (l = l2) := ⟨_, rfl⟩
  rw [← hr]
  have HR := Kept.mk hr
  clear hr
  by_cases hnn : n = n2
  · subst hnn
    go_enter Try.func35, Try.ntmps35
    go_wp2
    go_loopw [13] (fun i wr => ∃ k : Nat, k ≤ n ∧ i = .int .i64 k ∧ Kept (l.take k = l2.take k) ∧ Gr w wr) (fun i _ => n - (intOf i).toNat)
    case atStart => exact ⟨0, by omega, rfl, ⟨by simp⟩, Gr.refl w⟩
    case round =>
      obtain ⟨k, hk, rfl, hd, gr⟩ := hrel
      by_cases hlt : k < n
      · have hkl : k < l.length := by rw [← hn.out]; exact hlt
        have hkl2 : k < l2.length := by rw [← hn2.out]; exact hlt
        obtain ⟨b, off, rfl, hc⟩ := V.out.cells hB hkl
        obtain ⟨b2, off2, rfl, hc2⟩ := V2.out.cells hB2 hkl2
        obtain ⟨c0, c1⟩ := hc wr gr.below
        obtain ⟨d0, d1⟩ := hc2 wr gr.below
        have P1 := Kept.mk (fun he => take_succ_eq hd.out hkl hkl2 he)
        have P2 := Kept.mk (fun he => ne_at (a := l) (b := l2) hkl hkl2 he)
        have ne := fun W => NE l[k] l2[k] W
        have gu := fun op a b W => GU op a b l[k] l2[k] W
        clear hc hc2 NE GU
        generalize l[k] = x at *
        generalize l2[k] = y at *
        obtain ⟨xn, xv⟩ := x
        obtain ⟨yn, yv⟩ := y
        have G := Kept.mk gr
        clear gr
        by_cases hxy : (⟨xn, xv⟩ : Lab) = ⟨yn, yv⟩
        · have hd2 := Kept.mk (P1.out hxy)
          rw [decide_eq_true hxy] at ne
          clear hxy
          go_wp2_with fail
          go_quiet (fail)
          go_wp2
          go_roundw
          case rel => exact ⟨k + 1, by omega, by go_num, hd2, G.out.drewN _⟩
          case measure => simp [intOf]; omega
        · have hd2 : Kept (r = false) := ⟨HR.out.trans (decide_eq_false (P2.out hxy))⟩
          rw [decide_eq_false hxy] at ne
          clear hxy
          go_wp2_with fail
          go_quiet (fail)
          go_wp2
          go_ret
          exact ⟨by rw [hd2.out]; rfl, G.out.drewN _⟩
      · have hd2 : Kept (r = true) := ⟨HR.out.trans (decide_eq_true (by have h := hd.out; rw [List.take_of_length_le (by have := hn.out; omega), List.take_of_length_le (by have := hn2.out; omega)] at h; exact h))⟩
        have G := Kept.mk gr
        clear gr NE GU
        go_wp2
        go_ret
        exact ⟨by rw [hd2.out]; rfl, G.out⟩
  · have hd2 : Kept (r = false) := ⟨HR.out.trans (decide_eq_false (fun e => hnn (by rw [hn.out, hn2.out, e])))⟩
    have hne : ¬ (n : Int) = (n2 : Int) := by omega
    clear NE GU
    go_enter Try.func35, Try.ntmps35
    go_wp2
    go_ret
    exact ⟨by rw [hd2.out]; rfl, Gr.refl w⟩
theorem RdS.cells {w : World} {B n c k : Nat} {A : Option Addr} {l : List ByteArray} (h : RdS w B A n c l) (hB : B ≤ w.heap.size) (hk : k < l.length) :
    ∃ b off, A = some ⟨b, off, none⟩ ∧ ∀ W, Below w.heap.size w W → W.cell? ⟨b, off + k, none⟩ = some (.string l[k]) := by
  obtain ⟨b, off, e, hb, h1⟩ := h.at_ hk
  exact ⟨b, off, e, fun W hW => (hW.cell (p := ⟨b, _, none⟩) (by show b < _; omega)).trans h1⟩
set_option maxRecDepth 100000 in
set_option maxHeartbeats 2000000 in
theorem equalS_any (A A2 : Option Addr) (n c n2 c2 B B2 : Nat) (l l2 : List ByteArray) (w : World) (hv : RdS w B A n c l) (hv2 : RdS w B2 A2 n2 c2 l2) (hB : B ≤ w.heap.size) (hB2 : B2 ≤ w.heap.size) :
    Calls Try.prog 40 #[.slice A n c, .slice A2 n2 c2] w fun e w' => e = .returned (.bool (decide (l = l2))) ∧ Gr w w' := by
  have hlc := hv.1
  have hcm := hv.2.1
  have hlc2 := hv2.1
  have hcm2 := hv2.2.1
  unfold maxLen at hcm hcm2
  have hn := Kept.mk hv.len
  have hn2 := Kept.mk hv2.len
  have V := Kept.mk hv
  have V2 := Kept.mk hv2
  clear hv hv2
  obtain ⟨r, hr⟩ : ∃ r, r = decide (l = l2) := ⟨_, rfl⟩
  rw [← hr]
  have HR := Kept.mk hr
  clear hr
  by_cases hnn : n = n2
  · subst hnn
    go_enter Try.func40, Try.ntmps40
    go_wp2
    go_loopw [13] (fun i wr => ∃ k : Nat, k ≤ n ∧ i = .int .i64 k ∧ Kept (l.take k = l2.take k) ∧ Gr w wr) (fun i _ => n - (intOf i).toNat)
    case atStart => exact ⟨0, by omega, rfl, ⟨by simp⟩, Gr.refl w⟩
    case round =>
      obtain ⟨k, hk, rfl, hd, gr⟩ := hrel
      by_cases hlt : k < n
      · have hkl : k < l.length := by rw [← hn.out]; exact hlt
        have hkl2 : k < l2.length := by rw [← hn2.out]; exact hlt
        obtain ⟨b, off, rfl, hc⟩ := V.out.cells hB hkl
        obtain ⟨b2, off2, rfl, hc2⟩ := V2.out.cells hB2 hkl2
        have c0 := hc wr gr.below
        have d0 := hc2 wr gr.below
        have P1 := Kept.mk (fun he => take_succ_eq hd.out hkl hkl2 he)
        have P2 := Kept.mk (fun he => ne_at (a := l) (b := l2) hkl hkl2 he)
        clear hc hc2
        generalize l[k] = x at *
        generalize l2[k] = y at *
        have hq := St.eq_iff x y
        have G := Kept.mk gr
        clear gr
        by_cases hxy : x = y
        · have hd2 := Kept.mk (P1.out hxy)
          rw [decide_eq_true hxy] at hq
          clear hxy
          go_wp2_with fail
          go_quiet (fail)
          go_wp2
          go_roundw
          case rel => exact ⟨k + 1, by omega, by go_num, hd2, G.out.drewN _⟩
          case measure => simp [intOf]; omega
        · have hd2 : Kept (r = false) := ⟨HR.out.trans (decide_eq_false (P2.out hxy))⟩
          rw [decide_eq_false hxy] at hq
          clear hxy
          go_wp2_with fail
          go_quiet (fail)
          go_wp2
          go_ret
          exact ⟨by rw [hd2.out]; rfl, G.out.drewN _⟩
      · have hd2 : Kept (r = true) := ⟨HR.out.trans (decide_eq_true (by have h := hd.out; rw [List.take_of_length_le (by have := hn.out; omega), List.take_of_length_le (by have := hn2.out; omega)] at h; exact h))⟩
        have G := Kept.mk gr
        clear gr
        go_wp2
        go_ret
        exact ⟨by rw [hd2.out]; rfl, G.out⟩
  · have hd2 : Kept (r = false) := ⟨HR.out.trans (decide_eq_false (fun e => hnn (by rw [hn.out, hn2.out, e])))⟩
    have hne : ¬ (n : Int) = (n2 : Int) := by omega
    go_enter Try.func40, Try.ntmps40
    go_wp2
    go_ret
    exact ⟨by rw [hd2.out]; rfl, Gr.refl w⟩
end Go.Proofs.Ytglnghdomoebfaa
