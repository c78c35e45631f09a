/- Chapter 10, plain: what Decode reads. -/
import Derived.Test.YthhcfocmaiacoaaSymF
namespace Go.Proofs.Ythhcfocmaiacoaa
open Go.RowKit Go.Shelf

namespace Sy
section
variable {rd : Nat → Int → ByteArray × Nat × Int}
theorem dl_bad (n : Nat) (acc : List ByteArray) (a : Nat) (hn : 0 < n) (h : (rd a 0).2.2 ≠ 0) : dl rd n acc a = ([], (rd a 0).2.1, (rd a 0).2.2) := by
  obtain ⟨m, rfl⟩ : ∃ m, n = m + 1 := ⟨n - 1, by omega⟩
  unfold dl
  exact if_pos h
theorem dl_ord (n : Nat) (acc : List ByteArray) (a : Nat) (hn : 0 < n) (h : (rd a 0).2.2 = 0) (ho : ordB acc (rd a 0).1 = false) : dl rd n acc a = ([], (rd a 0).2.1, 16) := by
  obtain ⟨m, rfl⟩ : ∃ m, n = m + 1 := ⟨n - 1, by omega⟩
  unfold dl
  rw [if_neg (by simp [h]), if_pos ho]
theorem dl_ok (n : Nat) (acc : List ByteArray) (a : Nat) (hn : 0 < n) (h : (rd a 0).2.2 = 0) (ho : ordB acc (rd a 0).1 = true) : dl rd n acc a = dl rd (n - 1) (acc ++ [(rd a 0).1]) (rd a 0).2.1 := by
  obtain ⟨m, rfl⟩ : ∃ m, n = m + 1 := ⟨n - 1, by omega⟩
  rw [Nat.add_sub_cancel]
  conv => lhs; unfold dl
  rw [if_neg (by simp [h]), if_neg (by simp [ho])]
theorem ordB_srt {acc : List ByteArray} {s : ByteArray} (h : Srt acc) : ordB acc s = true ↔ Srt (acc ++ [s]) := by
  unfold Srt at *
  rw [List.pairwise_append]
  unfold ordB
  rcases List.eq_nil_or_concat acc with rfl | ⟨pre, t, rfl⟩
  · simp
  · rw [List.concat_eq_append] at *
    have hl : (pre ++ [t]).getLast? = some t := by simp
    rw [hl]
    constructor
    · intro hts
      refine ⟨h, List.pairwise_singleton _ _, fun x hx y hy => ?_⟩
      rw [List.mem_singleton.1 hy]
      rw [List.pairwise_append] at h
      rcases List.mem_append.1 hx with hx | hx
      · exact St.trans (h.2.2 x hx t (by simp)) hts
      · rw [List.mem_singleton.1 hx]; exact hts
    · rintro ⟨_, _, h3⟩
      exact h3 t (by simp) s (by simp)
theorem dl_lst : ∀ (n : Nat) (acc : List ByteArray) (a a' : Nat) (L : List ByteArray), Srt acc → dl rd n acc a = (L, a', 0) → Rc.lst rd n acc a 0 = (L, a', 0) ∧ Srt L
  | 0, acc, a, a', L, hs, h => by
    unfold dl at h
    simp only [Prod.mk.injEq, and_true] at h
    obtain ⟨rfl, rfl⟩ := h
    exact ⟨rfl, hs⟩
  | n + 1, acc, a, a', L, hs, h => by
    unfold dl at h
    split at h
    · rename_i h1
      simp only [Prod.mk.injEq] at h
      exact absurd h.2.2 h1
    · rename_i h1
      split at h
      · simp at h
      · rename_i h2
        have h1' : (rd a 0).2.2 = 0 := by simpa using h1
        have h2' : ordB acc (rd a 0).1 = true := by simpa using h2
        obtain ⟨i1, i2⟩ := dl_lst n _ _ _ _ ((ordB_srt hs).1 h2') h
        refine ⟨?_, i2⟩
        have := Rc.lst_ok rd (n + 1) acc a 0 (by omega) h1'
        rw [this]
        exact i1
theorem lst_pre : ∀ (n : Nat) (acc : List ByteArray) (a a' : Nat) (L : List ByteArray), Rc.lst rd n acc a 0 = (L, a', 0) → acc <+: L
  | 0, acc, a, a', L, h => by
    rw [Rc.lst_zero] at h
    simp only [Prod.mk.injEq, and_true] at h
    rw [h.1]; exact List.prefix_refl _
  | n + 1, acc, a, a', L, h => by
    by_cases h1 : (rd a 0).2.2 = 0
    · rw [Rc.lst_ok rd (n + 1) acc a 0 (by omega) h1] at h
      exact (List.prefix_append acc _).trans (lst_pre n _ _ _ _ h)
    · rw [Rc.lst_bad rd (n + 1) acc a 0 (by omega) h1] at h
      simp only [Prod.mk.injEq] at h
      exact absurd h.2.2 h1
theorem lst_dl : ∀ (n : Nat) (acc : List ByteArray) (a a' : Nat) (L : List ByteArray), Srt L → Rc.lst rd n acc a 0 = (L, a', 0) → dl rd n acc a = (L, a', 0)
  | 0, acc, a, a', L, _, h => h
  | n + 1, acc, a, a', L, hs, h => by
    by_cases h1 : (rd a 0).2.2 = 0
    · rw [Rc.lst_ok rd (n + 1) acc a 0 (by omega) h1] at h
      have hp := lst_pre n _ _ _ _ h
      have hs1 : Srt (acc ++ [(rd a 0).1]) := hs.sublist hp.sublist
      have hs2 : Srt acc := hs1.sublist (List.sublist_append_left _ _)
      rw [dl_ok (n + 1) acc a (by omega) h1 ((ordB_srt hs2).2 hs1)]
      exact lst_dl n _ _ _ _ hs h
    · rw [Rc.lst_bad rd (n + 1) acc a 0 (by omega) h1] at h
      simp only [Prod.mk.injEq] at h
      exact absurd h.2.2 h1
end
theorem strR_at (l : List UInt8) (a : Nat) (ha : a ≤ l.length) : (strR l a 0).2.1 ≤ l.length := by
  unfold strR
  rw [string0]
  split
  · exact ha
  · rename_i h
    have := Wr.string1_to (l := l) (a := a) (m := 65535) (by simpa using h)
    show (Wr.string1 l (Vi.get l (a : Int)) 65535).2.1.toNat ≤ l.length
    omega
/-- reading further on in a longer string -/
theorem dl_drop (l : List UInt8) (t : Nat) : ∀ (n : Nat) (acc : List ByteArray) (a : Nat), t + a ≤ l.length → t ≤ l.length →
    dl (strR l) n acc (t + a) = ((dl (strR (l.drop t)) n acc a).1, t + (dl (strR (l.drop t)) n acc a).2.1, (dl (strR (l.drop t)) n acc a).2.2)
  | 0, acc, a, _, _ => rfl
  | n + 1, acc, a, h, ht => by
    have e := strR_drop l t a h
    have hat := strR_at (l.drop t) a (by rw [List.length_drop]; omega)
    rw [List.length_drop] at hat
    by_cases h1 : (strR (l.drop t) a 0).2.2 = 0
    · by_cases h2 : ordB acc (strR (l.drop t) a 0).1 = true
      · rw [dl_ok (n + 1) acc a (by omega) h1 h2, dl_ok (n + 1) acc (t + a) (by omega) (by rw [e]; exact h1) (by rw [e]; exact h2), e]
        exact dl_drop l t n _ _ (by omega) ht
      · have h2' : ordB acc (strR (l.drop t) a 0).1 = false := by simpa using h2
        rw [dl_ord (n + 1) acc a (by omega) h1 h2', dl_ord (n + 1) acc (t + a) (by omega) (by rw [e]; exact h1) (by rw [e]; exact h2'), e]
    · rw [dl_bad (n + 1) acc a (by omega) h1, dl_bad (n + 1) acc (t + a) (by omega) (by rw [e]; exact h1), e]
theorem encB_ls (T : List ByteArray) : encB T = Rc.lsE strE T := rfl
theorem dec_bad {l : List UInt8} (h : (dec l).2 ≠ 0) : (dec l).1 = [] := by
  unfold dec at h ⊢
  split at h
  · rename_i h1; rw [if_pos h1]
  · rename_i h1
    rw [if_neg h1]
    split at h
    · rename_i h2; rw [if_pos h2]
    · rename_i h2
      rw [if_neg h2]
      split at h
      · rename_i h3; rw [if_pos h3]
      · exact absurd rfl h
/-- what Decode accepts is the encoding of what it read -/
theorem dec_canon {l : List UInt8} {T : List ByteArray} (h : dec l = (T, 0)) : Srt T ∧ encB T = l ∧ T.length ≤ l.length ∧ ∀ s ∈ T, s.size ≤ 65535 := by
  unfold dec at h
  split at h
  · rename_i h1
    simp only [Prod.mk.injEq] at h
    exact absurd h.2 h1
  · rename_i h1
    have h1' : (Rc.cnt l 0 0).2.2 = 0 := by simpa using h1
    obtain ⟨u1, u2⟩ := Rc.cnt_ok (show Rc.cnt l 0 0 = ((Rc.cnt l 0 0).1, (Rc.cnt l 0 0).2.1, 0) from Prod.ext rfl (Prod.ext rfl h1'))
    obtain ⟨c1, c2, c3, c4⟩ := Rc.uint_good.canon l 0 _ _ (Nat.zero_le _) u1
    generalize Rc.cnt l 0 0 = C at *
    obtain ⟨n, t, e⟩ := C
    simp only [] at h u1 u2 c1 c2 c3 c4
    split at h
    · rename_i h2
      simp only [Prod.mk.injEq] at h
      exact absurd h.2 h2
    · rename_i h2
      split at h
      · simp at h
      · rename_i h3
        simp only [Prod.mk.injEq, and_true] at h
        have h2' : (dl (strR (l.drop t)) n [] 0).2.2 = 0 := by simpa using h2
        obtain ⟨d1, d2⟩ := dl_lst n [] 0 (dl (strR (l.drop t)) n [] 0).2.1 T List.Pairwise.nil (Prod.ext h (Prod.ext rfl h2'))
        generalize (dl (strR (l.drop t)) n [] 0).2.1 = a' at *
        obtain ⟨ys, e1, e2, e3, e4, e5, e6⟩ := Rc.lst_canon str_good n (l.drop t) [] 0 T a' (Nat.zero_le _) d1
        have e1' : ys = T := by rw [e1]; rfl
        subst e1'
        have e6' : a' = (l.drop t).length := by omega
        rw [List.drop_zero, List.drop_eq_nil_of_le (Nat.le_of_eq e6'.symm), List.append_nil] at e4
        have hfl := Rc.flat_len str_good ys e3
        have hll : encB ys = l := by
          unfold encB
          rw [← e4, e2]
          have := c2
          rw [List.drop_zero] at this
          exact this.symm
        refine ⟨d2, hll, ?_, e3⟩
        rw [← e4, List.length_drop] at hfl
        omega
theorem dec_enc {T : List ByteArray} (hS : Srt T) (hl : T.length ≤ Rc.mx) (hsz : ∀ s ∈ T, s.size ≤ 65535) : dec (encB T) = (T, 0) := by
  have hg := Rc.ls_good str_good
  have h := hg.fwd [] T [] ⟨hl, hsz⟩
  rw [List.append_nil, List.nil_append] at h
  simp only [List.length_nil, Nat.zero_add] at h
  have hu := Rc.uint_good.fwd [] T.length (T.flatMap strE) hl
  have hfl := Rc.flat_len str_good T hsz
  have hc : Rc.cnt (encB T) 0 0 = (T.length, (Vi.enc T.length).length, 0) := by
    unfold Rc.cnt encB
    simp only [List.nil_append, List.length_nil, Nat.zero_add] at hu
    rw [hu]
    simp only []
    rw [if_neg (by simp), if_neg (by rw [List.length_append]; omega)]
  have hd : (encB T).drop (Vi.enc T.length).length = T.flatMap strE := by unfold encB; rw [List.drop_left]
  have hf := Rc.lst_fwd str_good T (T.flatMap strE) [] 0 [] hsz (by simp) (Nat.zero_le _)
  rw [List.nil_append, Nat.zero_add] at hf
  have hdl := lst_dl T.length [] 0 _ T hS hf
  unfold dec
  rw [hc]
  simp only [hd, hdl]
  simp
theorem dec_len (l : List UInt8) : (dec l).1.length ≤ l.length := by
  by_cases h : (dec l).2 = 0
  · exact (dec_canon (T := (dec l).1) (Prod.ext rfl h)).2.2.1
  · rw [dec_bad h]; simp
end Sy
end Go.Proofs.Ythhcfocmaiacoaa
