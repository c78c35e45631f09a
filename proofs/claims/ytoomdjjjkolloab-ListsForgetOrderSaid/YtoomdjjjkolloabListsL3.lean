/- The law ListsComplement. -/
import Derived.Test.YtoomdjjjkolloabListsL2
import Derived.Deep.RegionHeld3
namespace Go.Proofs.Ytoomdjjjkolloab
open Go.RowKit Go.Shelf

theorem Ls.com_pick (n : Nat) (l : List Int) (h : Ls.S l) : Ls.pick (fun _ s => !s) (Ls.upto n) l = Ls.com l n := by
  rw [Ls.com_eq]; exact Ls.pdif_eq (Ls.upto_S n) h

theorem OwnII.base {w : World} {base base' n c : Nat} {A : Option Addr} {LL : List (List Int)} (h : OwnII w base A n c LL) (hb : base' ≤ base) : OwnII w base' A n c LL := by
  obtain ⟨vs, h1, h2, h4, h3⟩ := h
  refine ⟨vs, own_base h1 hb, h2, h4, fun i l hl => ?_⟩
  obtain ⟨A', n', c', e, ho⟩ := h3 i l hl
  exact ⟨A', n', c', e, own_base ho hb⟩
set_option maxHeartbeats 2000000 in
theorem law_complement (A : Option Addr) (n c : Nat) (l : List Int) (z : Int) (w : World) (hv : RdI w w.heap.size A n c l) (hz0 : -9223372036854775808 ≤ z) (hz1 : z ≤ 9223372036854775807) :
    Calls Try.prog 6 #[.slice A n c, .int .i64 z] w fun e w' => e = .returned (.bool true) ∧ Below w.heap.size w w' := by
  have R0 := Kept.mk (RdII.one hv (Nat.le_refl _))
  have hb0 : Below w.heap.size w (w.alloc (.cells #[.slice A n c] 22)) := (Below.refl _ w).alloc (Nat.le_refl _) _
  clear hv
  go_enter Try.func6, Try.ntmps6
  go_upto_region 1 with fail
  go_cut [5, 6] (fun m k wx => Below w.heap.size w wx ∧ ((m = .slice none 0 0 ∧ k = .int .i64 0) ∨ (∃ A3 c3 M, m = .slice A3 1 c3 ∧ k = .int .i64 1 ∧ M = Ls.sl [l] ∧ Ls.wt [l] ≤ 300 ∧ OwnII wx w.heap.size A3 1 c3 M)))
  case first =>
    go_wp2_with (go_at_call 12; refine (sorted_any _ _ _ _ [l] _ R0.out (by simp)).mono ?_; rintro e w2 ⟨hb, (⟨h1, rfl⟩ | ⟨h1, A3, c3, rfl, ho⟩)⟩)
    · go_meet
      exact ⟨hb0.trans (hb.mono (by simp)), .inl ⟨rfl, rfl⟩⟩
    · go_meet
      refine ⟨hb0.trans (hb.mono (by simp)), .inr ⟨A3, c3, _, rfl, rfl, rfl, h1, ?_⟩⟩
      exact ho.base (by simp)
  case rest =>
    obtain ⟨hb, (⟨rfl, rfl⟩ | ⟨A3, c3, M, rfl, rfl, hM, hwt, ho⟩)⟩ := hcut
    · go_wp2_with (go_at_call 9; refine (alive_any _).mono ?_; rintro e w1 ⟨rfl, hb1⟩)
      go_ret
      exact ⟨rfl, hb.trans (hb1.mono hb.size)⟩
    · subst hM
      have hcap := ho.rd.cap
      obtain ⟨b, off, A', n', c', rfl, hbb, hcell, hr⟩ := ho.rd.at_ (k := 0) (by simp [Ls.sl])
      have e0 : (Ls.sl [l])[0]'(by simp [Ls.sl]) = Ls.uni [l] := rfl
      rw [e0] at hr
      rw [Nat.add_zero] at hcell
      have hlen : n' ≤ 300 := by
        have h1 := hr.len
        have h2 := Ls.uni1_len l
        have h3 : Ls.wt [l] = 1 + min l.length 300 := by simp [Ls.wt]
        omega
      have Hc := Kept.mk (Ls.com_pick z.toNat (Ls.uni [l]) (Ls.uni_S _))
      have Hr := Kept.mk hr
      clear hr ho e0 hwt
      generalize Ls.uni [l] = M at *
      have hz := hb.size
      by_cases hbig : 500 < z
      · go_wp2_with (go_at_call 9; refine (alive_any _).mono ?_; rintro e w1 ⟨rfl, hb1⟩)
        go_ret
        exact ⟨rfl, hb.trans (hb1.mono hb.size)⟩
      · have hz500 : z ≤ 500 := by omega
        go_wp2_with fail
        have hcap1 := hcap.1
        go_region_held3 (fun w' => w'.cell? ⟨b, off, none⟩ = some (.slice A' n' c')) (first | exact hcell | exact k1 | exact k2 | exact k3 | exact k4)
          (first
            | (go_at_call 9; refine (alive_any _).mono ?_; rintro e w1 ⟨rfl, hb1'⟩; have hb1 := below_drew_of hb1'; have hs1 := hb1.size; have k1 : w1.cell? ⟨b, off, none⟩ = some (.slice A' n' c') := (hb1.cell (p := ⟨b, off, none⟩) hbb).trans hcell; have R1 := Kept.mk (Hr.out.below hb1))
            | (go_at_call 20; refine (complement_any _ _ _ _ M z _ R1.out hs1 (by omega) (by omega) hz0).mono ?_; rintro e w2 ⟨A4, n4, c4, rfl, -, ho4, hb2'⟩; have hb2 := hb1.trans (hb2'.mono hs1); have hs2 := hb2.size; have k2 : w2.cell? ⟨b, off, none⟩ = some (.slice A' n' c') := (hb2.cell (p := ⟨b, off, none⟩) hbb).trans hcell; have R2 := Kept.mk (Hr.out.below hb2); have P4 := Kept.mk ho4; clear ho4)
            | (go_at_call 21; refine (refComplement_any _ _ _ M z _ _ R2.out hs2 (by omega)).mono ?_; rintro e w3 ⟨A5, n5, c5, rfl, ho5, hb3'⟩; have hb3 := hb2.trans (hb3'.mono hs2); have k3 : w3.cell? ⟨b, off, none⟩ = some (.slice A' n' c') := (hb3.cell (p := ⟨b, off, none⟩) hbb).trans hcell; have P5 := Kept.mk ho5.rd; have Q4 := Kept.mk (P4.out.rd.below hb3'); clear ho5)
            | (go_at_call 13; refine (equalI_is _ _ _ _ _ _ (Ls.pick (fun _ s => !s) (Ls.upto z.toNat) M) (Ls.com M z.toNat) true _ _ _ Q4.out P5.out (by rw [Hc.out]; simp)).mono ?_; rintro e w4 ⟨rfl, q4⟩; clear Q4 P5; have hb4 := hb3.trans (q4.below _); have k4 : w4.cell? ⟨b, off, none⟩ = some (.slice A' n' c') := (hb4.cell (p := ⟨b, off, none⟩) hbb).trans hcell))
        go_wp2
        go_ret
        exact ⟨rfl, hb.trans (hb4.mono hz)⟩
end Go.Proofs.Ytoomdjjjkolloab
