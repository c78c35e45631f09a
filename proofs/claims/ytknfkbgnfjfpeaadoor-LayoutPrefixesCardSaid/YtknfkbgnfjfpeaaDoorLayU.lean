/- Chapter 16, plainly: an error that is certain stays when bytes follow; a proper prefix of a file ends too early. -/
import Derived.Test.YtknfkbgnfjfpeaaDoorLayP
namespace Go.Proofs.YtknfkbgnfjfpeaaDoor
open Go.RowKit

theorem Vi.get1_app (m : List UInt8) : ∀ (l : List UInt8) (i x : Nat), (Vi.get1 l i x).2.2 ≠ 3 → Vi.get1 (l ++ m) i x = Vi.get1 l i x
  | [], _, _, h => absurd rfl h
  | c :: l, i, x, h => by
    rw [Vi.get1_cons] at h
    rw [List.cons_append, Vi.get1_cons, Vi.get1_cons]
    by_cases h1 : i = 9 ∧ 1 < c.toNat
    · rw [if_pos h1, if_pos h1]
    · rw [if_neg h1] at h ⊢
      rw [if_neg h1]
      by_cases h2 : c.toNat = 0 ∧ 0 < i
      · rw [if_pos h2, if_pos h2]
      · rw [if_neg h2] at h ⊢
        rw [if_neg h2]
        by_cases h3 : c.toNat < 128
        · rw [if_pos h3, if_pos h3]
        · rw [if_neg h3] at h ⊢
          rw [if_neg h3]
          exact Vi.get1_app m l _ _ h
theorem Vi.get_app (m l : List UInt8) (a : Nat) (ha : a ≤ l.length) (h : (Vi.get l (a : Int)).2.2 ≠ 3) : Vi.get (l ++ m) (a : Int) = Vi.get l (a : Int) := by
  have c1 : ¬ ((a : Int) < 0 ∨ (l.length : Int) < (a : Int)) := by omega
  have c2 : ¬ ((a : Int) < 0 ∨ ((l ++ m).length : Int) < (a : Int)) := by rw [List.length_append]; omega
  unfold Vi.get at h ⊢
  rw [if_neg c1] at h
  rw [if_neg c1, if_neg c2]
  simp only [Int.toNat_natCast] at h ⊢
  have h4 : (Vi.get1 (l.drop a) 0 0).2.2 ≠ 3 := fun h3 => by
    rw [if_neg (by omega)] at h
    exact h h3
  rw [List.drop_append_of_le_length ha, Vi.get1_app m (l.drop a) 0 0 h4]
theorem cut_app (l m : List UInt8) (a k : Nat) (h : a + k ≤ l.length) : ((l ++ m).drop a).take k = (l.drop a).take k := by
  rw [List.drop_append_of_le_length (by omega), List.take_append_of_le_length (by rw [List.length_drop]; omega)]
theorem Wr.section1_app (m l : List UInt8) (a : Nat) (id : UInt8) (h : (Wr.section1 l a id).2.2 ≠ 3) : Wr.section1 (l ++ m) a id = Wr.section1 l a id := by
  unfold Wr.section1 at h ⊢
  by_cases ha : a < l.length
  · rw [dif_pos ha] at h ⊢
    rw [dif_pos (by rw [List.length_append]; omega), List.getElem_append_left ha]
    by_cases hid : l[a] ≠ id
    · rw [if_pos hid, if_pos hid]
    · rw [if_neg hid] at h ⊢
      rw [if_neg hid]
      have e1 : ((a : Int) + 1) = ((a + 1 : Nat) : Int) := by omega
      rw [e1] at h ⊢
      have hst := Vi.get_app m l (a + 1) (by omega)
      have hto := fun x t (hh : Vi.get l ((a + 1 : Nat) : Int) = (x, t, 0)) => Vi.get_to (a := a + 1) hh
      obtain ⟨r, hr⟩ : ∃ r, Vi.get l ((a + 1 : Nat) : Int) = r := ⟨_, rfl⟩
      rw [hr] at h hst hto ⊢
      obtain ⟨x, t, er⟩ := r
      simp only at h hst hto ⊢
      by_cases h0 : er = 0
      · subst h0
        rw [hst (by omega)]
        simp only [ne_eq, not_true_eq_false, if_false] at h ⊢
        obtain ⟨t1, t2⟩ := hto x t rfl
        by_cases h1 : (l.length : Int) - t - 4 < (x : Int)
        · rw [if_pos h1] at h
          exact absurd rfl h
        · rw [if_neg h1] at h ⊢
          have h2 : ¬ (((l ++ m).length : Int) - t - 4 < (x : Int)) := by rw [List.length_append]; omega
          rw [if_neg h2, cut_app _ _ _ _ (by omega), cut_app _ _ _ _ (by omega)]
      · rw [if_pos h0] at h ⊢
        have h3 : er ≠ 3 := fun e => h (by rw [e]; rfl)
        rw [hst h3]
        simp only
        rw [if_pos h0]
  · rw [dif_neg ha] at h
    exact absurd rfl h
theorem Wr.sect_app (m l : List UInt8) (a : Nat) (e : Int) (id : UInt8) (h : (Wr.sect l a e id).2.2 ≠ 3) : Wr.sect (l ++ m) a e id = Wr.sect l a e id := by
  unfold Wr.sect at h ⊢
  by_cases he : e ≠ 0
  · rw [if_pos he, if_pos he]
  · rw [if_neg he] at h ⊢
    rw [if_neg he]
    have h3 : (Wr.section1 l a id).2.2 ≠ 3 := fun e3 => by
      rw [if_pos (by omega)] at h
      exact h e3
    rw [Wr.section1_app m l a id h3]
namespace Ly
theorem lit_app (m b s : List UInt8) (h : lit b s ≠ 3) : lit (b ++ m) s = lit b s := by
  unfold lit at h ⊢
  by_cases h1 : b.take (min b.length s.length) ≠ s.take (min b.length s.length)
  · rw [if_pos h1]
    rw [if_pos]
    intro h2
    apply h1
    have h3 := congrArg (List.take (min b.length s.length)) h2
    rw [List.take_take, List.take_take, show min (min b.length s.length) (min (b ++ m).length s.length) = min b.length s.length by rw [List.length_append]; omega, List.take_append_of_le_length (by omega)] at h3
    exact h3
  · rw [if_neg h1] at h ⊢
    by_cases h2 : b.length < s.length
    · rw [if_pos h2] at h
      exact absurd rfl h
    · rw [if_neg h2]
      rw [if_neg, if_neg (by rw [List.length_append]; omega)]
      have h3 : ¬ b.take (min b.length s.length) ≠ s.take (min b.length s.length) := h1
      rw [show min (b ++ m).length s.length = min b.length s.length by rw [List.length_append]; omega, List.take_append_of_le_length (by omega)]
      exact h3
theorem S_err' (l : List UInt8) (k : Nat) (h : (S l k).2 ≠ 0) : (S l (k + 1)).2 = (S l k).2 := by
  rw [S_succ]
  unfold Wr.sect
  rw [if_pos h]
theorem S_three (l : List UInt8) (k : Nat) (h : (S l (k + 1)).2 ≠ 3) : (S l k).2 ≠ 3 := fun e => h (by rw [S_err' l k (by omega), e])
theorem S_app (m l : List UInt8) : ∀ k, (S l k).2 ≠ 3 → S (l ++ m) k = S l k
  | 0, h => by
    have h0 : lit l head ≠ 3 := h
    show (a0 (l ++ m), lit (l ++ m) head) = (a0 l, lit l head)
    unfold a0
    rw [lit_app m l head h0]
  | k + 1, h => by
    rw [S_succ, S_succ, S_app m l k (S_three l k h), Wr.sect_app m l (S l k).1 (S l k).2 _ h]
theorem sec_app (m l : List UInt8) (k : Nat) (h : (S l (k + 1)).2 ≠ 3) : sec (l ++ m) k = sec l k := by
  rw [sec_eq, sec_eq, S_app m l k (S_three l k h), Wr.sect_app m l (S l k).1 (S l k).2 _ h]
theorem S_zero5 {l : List UInt8} (h : (S l 5).2 = 0) (k : Nat) (hk : k ≤ 5) : (S l k).2 = 0 := S_zero' l k 5 hk h
theorem all_app (m l : List UInt8) (h : (S l 5).2 = 0) : S (l ++ m) 5 = S l 5 ∧ sec (l ++ m) 4 = sec l 4 ∧ con (aoff (l ++ m)) 4 = con (aoff l) 4 := by
  have h5 : (S l 5).2 ≠ 3 := by omega
  have hk : ∀ i, i < 4 → (S l i).2 ≠ 3 := fun i hi => by have := S_zero5 h i (by omega); omega
  refine ⟨S_app m l 5 h5, sec_app m l 4 h5, con_congr 4 fun i hi => ?_⟩
  unfold aoff
  rw [S_app m l i (hk i hi)]
theorem pe_app (m l : List UInt8) (h0 : pe l ≠ 0) (h3 : pe l ≠ 3) : pe (l ++ m) = pe l := by
  by_cases hs : (S l 5).2 = 0
  · obtain ⟨e1, e2, e3⟩ := all_app m l hs
    have e4 : aoff (l ++ m) 5 = aoff l 5 := by unfold aoff; rw [e1]
    unfold pe at h0 h3 ⊢
    rw [e1, e2, e3, e4]
    have hs' : ¬ (S l 5).2 ≠ 0 := fun h => h hs
    rw [if_neg hs'] at h0 h3 ⊢
    rw [if_neg hs']
    by_cases hc : sec l 4 ≠ con (aoff l) 4
    · rw [if_pos hc, if_pos hc]
    · rw [if_neg hc] at h0 h3 ⊢
      rw [if_neg hc]
      by_cases hl : l.length - aoff l 5 < 4
      · rw [if_pos hl] at h3
        exact absurd rfl h3
      · rw [if_neg hl] at h0 h3 ⊢
        have hl' : ¬ (l ++ m).length - aoff l 5 < 4 := by rw [List.length_append]; omega
        rw [if_neg hl', List.take_append_of_le_length (by omega), List.drop_append_of_le_length (by omega)]
        by_cases hk : Crc.chk (l.take (aoff l 5 + 4)) = false
        · rw [if_pos hk, if_pos hk]
        · rw [if_neg hk] at h0 h3 ⊢
          rw [if_neg hk]
          by_cases ht : lit (l.drop (aoff l 5 + 4)) tail ≠ 0
          · rw [if_pos ht] at h0 h3 ⊢
            rw [lit_app m _ _ h3, if_pos ht]
          · rw [if_neg ht] at h0 h3 ⊢
            have ht0 : lit (l.drop (aoff l 5 + 4)) tail = 0 := Classical.not_not.1 ht
            have ht3 : lit (l.drop (aoff l 5 + 4)) tail ≠ 3 := by rw [ht0]; omega
            rw [lit_app m _ _ ht3, if_neg ht]
            by_cases hq : aoff l 5 + 8 < l.length
            · rw [if_pos hq, if_pos (by rw [List.length_append]; omega)]
            · rw [if_neg hq] at h0
              exact absurd rfl h0
  · have h5 : pe l = (S l 5).2 := by unfold pe; rw [if_pos hs]
    have e1 := S_app m l 5 (by rw [← h5]; exact h3)
    rw [h5]
    unfold pe
    rw [e1, if_pos hs]
theorem pe_zero {l : List UInt8} (h : pe l = 0) : (S l 5).2 = 0 ∧ l.length = aoff l 5 + 8 := by
  by_cases hs : (S l 5).2 = 0
  · refine ⟨hs, ?_⟩
    unfold pe at h
    rw [if_neg (by omega)] at h
    split at h
    · omega
    · split at h
      · omega
      · split at h
        · omega
        · split at h
          · rename_i ht
            exact absurd h ht
          · rename_i h1 _ ht
            have htz := lit_zero (b := l.drop (aoff l 5 + 4)) (s := tail) (by omega)
            have h4 : tail.length = 4 := rfl
            rw [List.length_drop] at htz
            split at h
            · omega
            · omega
  · unfold pe at h
    rw [if_pos hs] at h
    exact absurd h hs
theorem pe_prefix (l : List UInt8) (k : Nat) (h : pe l = 0) (hk : k < l.length) : pe (l.take k) = 3 := by
  have hl : l.take k ++ l.drop k = l := List.take_append_drop k l
  by_cases h3 : pe (l.take k) = 3
  · exact h3
  · exfalso
    by_cases h0 : pe (l.take k) = 0
    · obtain ⟨s1, s2⟩ := pe_zero h
      obtain ⟨t1, t2⟩ := pe_zero h0
      obtain ⟨e1, _, _⟩ := all_app (l.drop k) (l.take k) t1
      rw [hl] at e1
      have e4 : aoff l 5 = aoff (l.take k) 5 := by unfold aoff; rw [e1]
      rw [List.length_take] at t2
      omega
    · have h1 := pe_app (l.drop k) (l.take k) h0 h3
      rw [hl] at h1
      exact h0 (by rw [← h1]; exact h)
end Ly
end Go.Proofs.YtknfkbgnfjfpeaaDoor
