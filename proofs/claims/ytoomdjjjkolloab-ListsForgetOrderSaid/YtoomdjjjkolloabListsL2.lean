/- The law ListsCombine. -/
import Derived.Test.YtoomdjjjkolloabListsI
namespace Go.Proofs.Ytoomdjjjkolloab
open Go.RowKit Go.Shelf

theorem Ls.ins_len (l : List Int) (x : Int) : (Ls.ins l x).length ≤ l.length + 1 := by
  unfold Ls.ins
  split
  · omega
  · have h := congrArg List.length (Ls.low_split l x)
    rw [List.length_append] at h
    rw [List.length_append, List.length_cons]
    omega
theorem Ls.insAll_len (l acc : List Int) : (Ls.insAll acc l).length ≤ acc.length + l.length := by
  unfold Ls.insAll
  induction l generalizing acc with
  | nil => simp
  | cons x l ih =>
    have h1 := ih (Ls.ins acc x)
    have h2 := Ls.ins_len acc x
    rw [List.foldl_cons, List.length_cons]
    omega
theorem Ls.uni1_len (l : List Int) : (Ls.uni [l]).length ≤ l.length := by
  have := Ls.insAll_len l []
  simpa [Ls.uni] using this
theorem Ls.tot_sl (LL : List (List Int)) (h : Ls.wt LL ≤ 300) : Ls.tot (Ls.sl LL) ≤ Ls.wt LL := by
  unfold Ls.wt Ls.tot Ls.sl at *
  induction LL with
  | nil => simp
  | cons l LL ih =>
    simp only [List.map_cons, List.sum_cons] at h ⊢
    have h1 := Ls.uni1_len l
    have h2 := ih (by omega)
    omega
theorem Ls.piscs_eq (LL : List (List Int)) : Ls.piscs (Ls.sl LL) = Ls.isc (Ls.sl LL) := by
  have h := Ls.sl_S LL
  generalize Ls.sl LL = M at *
  cases M with
  | nil => rfl
  | cons l r => exact Ls.pisc_eq l r h
theorem Ls.punis_eq (LL : List (List Int)) : Ls.puni [] (Ls.sl LL) = Ls.uni (Ls.sl LL) := Ls.puni_eq _ (Ls.sl_S LL)

set_option maxHeartbeats 2000000 in
theorem law_combine (A : Option Addr) (n c : Nat) (LL : List (List Int)) (w : World) (hv : RdII w w.heap.size A n c LL) :
    Calls Try.prog 4 #[.slice A n c] w fun e w' => e = .returned (.bool true) ∧ Below w.heap.size w w' := by
  have Hv := hide hv
  clear hv
  have htot := Kept.mk (Ls.tot_sl LL)
  have E1 := Kept.mk (Ls.piscs_eq LL)
  have E2 := Kept.mk (Ls.punis_eq LL)
  go_enter Try.func4, Try.ntmps4
  go_upto_region 1 with fail
  go_cut [3, 4] (fun m k wx => Below w.heap.size w wx ∧ ((m = .slice none 0 0 ∧ k = .int .i64 0) ∨ (∃ A3 c3 M, m = .slice A3 n c3 ∧ k = .int .i64 1 ∧ M = Ls.sl LL ∧ Ls.wt LL ≤ 300 ∧ OwnII wx w.heap.size A3 n c3 M)))
  case first =>
    go_wp2_with (go_at_call 12; refine (sorted_any _ _ _ _ LL _ Hv.out (Nat.le_refl _)).mono ?_; rintro e w2 ⟨hb, (⟨h1, rfl⟩ | ⟨h1, A3, c3, rfl, ho⟩)⟩)
    · go_meet
      exact ⟨hb, .inl ⟨rfl, rfl⟩⟩
    · go_meet
      exact ⟨hb, .inr ⟨A3, c3, _, rfl, rfl, rfl, h1, ho⟩⟩
  case rest =>
    obtain ⟨hb, (⟨rfl, rfl⟩ | ⟨A3, c3, M, rfl, rfl, hM, hwt, ho⟩)⟩ := hcut
    · go_wp2_with (go_at_call 9; refine (alive_any _).mono ?_; rintro e w1 ⟨rfl, hb1⟩)
      go_ret
      exact ⟨rfl, hb.trans (hb1.mono hb.size)⟩
    · have ht : Kept (Ls.tot M ≤ 1000000) := ⟨by rw [hM]; have := htot.out hwt; omega⟩
      have e1 : Kept (Ls.piscs M = Ls.isc M) := ⟨by rw [hM]; exact E1.out⟩
      have e2 : Kept (Ls.puni [] M = Ls.uni M) := ⟨by rw [hM]; exact E2.out⟩
      have hz := hb.size
      have Ho := Kept.mk ho.rd
      clear hM ho hwt htot E1 E2
      go_wp2_with (first
        | (go_at_call 9; refine (alive_any _).mono ?_; rintro e w1 ⟨rfl, hb1⟩; have hz1 := hb1.size; have R1 := Kept.mk (Ho.out.below hb1))
        | (go_at_call 14; refine (intersect_any _ _ _ _ M _ R1.out hz1 ht.out).mono ?_; rintro e w2 ⟨A4, n4, c4, rfl, -, ho4, hb2⟩; have hb2' := hb1.trans (hb2.mono hz1); have hz2 := hb2'.size; have R2 := Kept.mk (Ho.out.below hb2'); have P4 := Kept.mk ho4; clear ho4)
        | (go_at_call 15; refine (refIntersect_any _ _ _ _ M _ R2.out hz2 ht.out).mono ?_; rintro e w3 ⟨A5, n5, c5, rfl, ho5, hb3⟩; have hb3' := hb2'.trans (hb3.mono hz2); have hz3 := hb3'.size; have P5 := Kept.mk ho5.rd; have Q4 := Kept.mk (P4.out.rd.below hb3); clear ho5)
        | (go_at_call 13; refine (equalI_is _ _ _ _ _ _ (Ls.piscs M) (Ls.isc M) true _ _ _ Q4.out P5.out (by rw [e1.out]; simp)).mono ?_; rintro e w4 ⟨rfl, q4⟩; clear Q4 P5; have hb4 := hb3'.trans (q4.below _); have hz4 := hb4.size; have R4 := Kept.mk (Ho.out.below hb4))
        | (go_at_call 16; refine (union_any _ _ _ _ M _ R4.out hz4 ht.out).mono ?_; rintro e w5 ⟨A6, n6, c6, rfl, -, ho6, hb5⟩; have hb5' := hb4.trans (hb5.mono hz4); have hz5 := hb5'.size; have R5 := Kept.mk (Ho.out.below hb5'); have P6 := Kept.mk ho6; clear ho6)
        | (go_at_call 17; refine (refUnion_any _ _ _ _ M _ R5.out hz5 ht.out).mono ?_; rintro e w6 ⟨A7, n7, c7, rfl, -, ho7, hb6⟩; have hb6' := hb5'.trans (hb6.mono hz5); have P7 := Kept.mk ho7.rd; have Q6 := Kept.mk (P6.out.rd.below hb6); clear ho7)
        | (go_at_call 13; refine (equalI_is _ _ _ _ _ _ (Ls.puni [] M) (Ls.uni M) true _ _ _ Q6.out P7.out (by rw [e2.out]; simp)).mono ?_; rintro e w7 ⟨rfl, q7⟩; have hb7 := hb6'.trans (q7.below _)))
      go_ret
      exact ⟨rfl, hb.trans (hb7.mono hz)⟩
end Go.Proofs.Ytoomdjjjkolloab
