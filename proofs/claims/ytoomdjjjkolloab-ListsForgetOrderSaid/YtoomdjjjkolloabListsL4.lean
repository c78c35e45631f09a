/- The law ListsDiffer. -/
import Derived.Test.YtoomdjjjkolloabListsL3
namespace Go.Proofs.Ytoomdjjjkolloab
open Go.RowKit Go.Shelf

theorem Ls.dif_self (l : List Int) (h : Ls.S l) : Ls.pick (fun _ s => !s) l l = [] := by
  rw [Ls.pdif_eq h h]
  refine List.filter_eq_nil_iff.2 fun x hx => ?_
  simp [(Ls.has_iff l x).2 hx]

set_option maxHeartbeats 4000000 in
theorem law_differ (A1 A2 : Option Addr) (n1 n2 c1 c2 : Nat) (l1 l2 : List Int) (w : World) (h1 : RdI w w.heap.size A1 n1 c1 l1) (h2 : RdI w w.heap.size A2 n2 c2 l2) :
    Calls Try.prog 5 #[.slice A1 n1 c1, .slice A2 n2 c2] w fun e w' => e = .returned (.bool true) ∧ Below w.heap.size w w' := by
  have R0 := Kept.mk (RdII.two h1 h2 (Nat.le_refl _))
  have hb0 : Below w.heap.size w (w.alloc (.cells #[.slice A1 n1 c1, .slice A2 n2 c2] 22)) := (Below.refl _ w).alloc (Nat.le_refl _) _
  clear h1 h2
  go_enter Try.func5, Try.ntmps5
  go_upto_region 1 with fail
  go_cut [5, 6] (fun m k wx => Below w.heap.size w wx ∧ ((m = .slice none 0 0 ∧ k = .int .i64 0) ∨ (∃ A3 c3 M, m = .slice A3 2 c3 ∧ k = .int .i64 1 ∧ M = Ls.sl [l1, l2] ∧ Ls.wt [l1, l2] ≤ 300 ∧ OwnII wx w.heap.size A3 2 c3 M)))
  case first =>
    go_wp2_with (go_at_call 12; refine (sorted_any _ _ _ _ [l1, l2] _ R0.out (by simp)).mono ?_; rintro e w2 ⟨hb, (⟨h1, rfl⟩ | ⟨h1, A3, c3, rfl, ho⟩)⟩)
    · go_meet
      exact ⟨hb0.trans (hb.mono (by simp)), .inl ⟨rfl, rfl⟩⟩
    · go_meet
      refine ⟨hb0.trans (hb.mono (by simp)), .inr ⟨A3, c3, _, rfl, rfl, rfl, h1, ?_⟩⟩
      exact ho.base (by simp)
  case rest =>
    obtain ⟨hb, (⟨rfl, rfl⟩ | ⟨A3, c3, M, rfl, rfl, hM, hwt, ho⟩)⟩ := hcut
    · go_wp2_with (go_at_call 9; refine (alive_any _).mono ?_; rintro e w1 ⟨rfl, hb1⟩)
      go_ret
      exact ⟨rfl, hb.trans (hb1.mono hb.size)⟩
    · subst hM
      have hcap1 := ho.rd.cap.1
      have hcap2 := ho.rd.cap.2
      unfold maxLen at hcap2
      obtain ⟨b, off, A', n', c', rfl, hbb, hcell, hr⟩ := ho.rd.at_ (k := 0) (by simp [Ls.sl])
      obtain ⟨b', off', A'', n'', c'', e4, _, hcell2, hr2⟩ := ho.rd.at_ (k := 1) (by simp [Ls.sl])
      simp only [Option.some.injEq, Addr.mk.injEq, and_true] at e4
      obtain ⟨rfl, rfl⟩ := e4
      have e0 : (Ls.sl [l1, l2])[0]'(by simp [Ls.sl]) = Ls.uni [l1] := rfl
      have e1 : (Ls.sl [l1, l2])[1]'(by simp [Ls.sl]) = Ls.uni [l2] := rfl
      rw [e0] at hr
      rw [e1] at hr2
      rw [Nat.add_zero] at hcell
      have h3 : Ls.wt [l1, l2] = 1 + min l1.length 300 + (1 + min l2.length 300) := by simp [Ls.wt]
      have hlen : n' ≤ 300 := by
        have h1 := hr.len
        have h2 := Ls.uni1_len l1
        omega
      have hlen2 : n'' ≤ 300 := by
        have h1 := hr2.len
        have h2 := Ls.uni1_len l2
        omega
      have Hd := Kept.mk (Ls.pdif_eq (Ls.uni_S [l1]) (Ls.uni_S [l2]))
      have Hs := Kept.mk (Ls.dif_self (Ls.uni [l1]) (Ls.uni_S _))
      have Hr := Kept.mk hr
      have Hr2 := Kept.mk hr2
      clear hr hr2 ho e0 e1 hwt h3
      generalize Ls.uni [l1] = M1 at *
      generalize Ls.uni [l2] = M2 at *
      have hz := hb.size
      go_upto_region 4 with fail
      go_region_held3 (fun w' => w'.cell? ⟨b, off, none⟩ = some (.slice A' n' c') ∧ w'.cell? ⟨b, off + 1, none⟩ = some (.slice A'' n'' c'')) (first | exact ⟨hcell, hcell2⟩ | exact k1 | exact k2 | exact k3 | exact k4 | exact k5)
        (first
          | (go_at_call 9; refine (alive_any _).mono ?_; rintro e w1 ⟨rfl, hb1'⟩; have hb1 := below_drew_of hb1'; have hs1 := hb1.size; have k1 : w1.cell? ⟨b, off, none⟩ = some (.slice A' n' c') ∧ w1.cell? ⟨b, off + 1, none⟩ = some (.slice A'' n'' c'') := ⟨(hb1.cell (p := ⟨b, off, none⟩) hbb).trans hcell, (hb1.cell (p := ⟨b, off + 1, none⟩) hbb).trans hcell2⟩; have R1 := Kept.mk (Hr.out.below hb1); have R1' := Kept.mk (Hr2.out.below hb1))
          | (go_at_call 18; refine (difference_any _ _ _ _ _ _ M1 M2 _ _ R1.out R1'.out hs1 (by omega)).mono ?_; rintro e w2 ⟨A4, n4, c4, rfl, -, ho4, hb2'⟩; clear R1'; have hb2 := hb1.trans (hb2'.mono hs1); have hs2 := hb2.size; have k2 : w2.cell? ⟨b, off, none⟩ = some (.slice A' n' c') ∧ w2.cell? ⟨b, off + 1, none⟩ = some (.slice A'' n'' c'') := ⟨(hb2.cell (p := ⟨b, off, none⟩) hbb).trans hcell, (hb2.cell (p := ⟨b, off + 1, none⟩) hbb).trans hcell2⟩; have R2 := Kept.mk (Hr.out.below hb2); have R2' := Kept.mk (Hr2.out.below hb2); have P4 := Kept.mk ho4; clear ho4)
          | (go_at_call 19; refine (refDifference_any _ _ _ _ _ _ M1 M2 _ _ _ R2.out R2'.out hs2 hs2 (by omega)).mono ?_; rintro e w3 ⟨A5, n5, c5, rfl, ho5, hb3'⟩; have hb3 := hb2.trans (hb3'.mono hs2); have hs3 := hb3.size; have k3 : w3.cell? ⟨b, off, none⟩ = some (.slice A' n' c') ∧ w3.cell? ⟨b, off + 1, none⟩ = some (.slice A'' n'' c'') := ⟨(hb3.cell (p := ⟨b, off, none⟩) hbb).trans hcell, (hb3.cell (p := ⟨b, off + 1, none⟩) hbb).trans hcell2⟩; have P5 := Kept.mk ho5.rd; have Q4 := Kept.mk (P4.out.rd.below hb3'); clear ho5)
          | (go_at_call 13; refine (equalI_is _ _ _ _ _ _ (Ls.pick (fun _ s => !s) M1 M2) (Ls.dif M1 M2) true _ _ _ Q4.out P5.out (by rw [Hd.out]; simp)).mono ?_; rintro e w4 ⟨rfl, q4⟩; clear Q4 P5; have hb4 := hb3.trans (q4.below _); have hs4 := hb4.size; have k4 : w4.cell? ⟨b, off, none⟩ = some (.slice A' n' c') ∧ w4.cell? ⟨b, off + 1, none⟩ = some (.slice A'' n'' c'') := ⟨(hb4.cell (p := ⟨b, off, none⟩) hbb).trans hcell, (hb4.cell (p := ⟨b, off + 1, none⟩) hbb).trans hcell2⟩; have R4 := Kept.mk (Hr.out.below hb4))
          | (go_at_call 18; refine (difference_any _ _ _ _ _ _ M1 M1 _ _ R4.out R4.out hs4 (by omega)).mono ?_; rintro e w5 ⟨A6, n6, c6, rfl, -, ho6, hb5'⟩; rw [Hs.out] at ho6; obtain rfl : n6 = 0 := ho6.len; have hb5 := hb4.trans (hb5'.mono hs4); have k5 : w5.cell? ⟨b, off, none⟩ = some (.slice A' n' c') ∧ w5.cell? ⟨b, off + 1, none⟩ = some (.slice A'' n'' c'') := ⟨(hb5.cell (p := ⟨b, off, none⟩) hbb).trans hcell, (hb5.cell (p := ⟨b, off + 1, none⟩) hbb).trans hcell2⟩))
      go_wp2
      go_ret
      exact ⟨rfl, hb.trans (hb5.mono hz)⟩
end Go.Proofs.Ytoomdjjjkolloab
