/- Chapter 11, plain: normalizing. -/
import Derived.Test.YtglnghdomoebfaaLabMath
import Derived.Sort.Statements
namespace Go.Proofs.Ytglnghdomoebfaa
namespace Lb
theorem firstE_iff (f : Nat → Int) (n : Nat) : (firstE f n = 0 ∧ ∀ j, j < n → f j = 0) ∨ ∃ k, k < n ∧ f k ≠ 0 ∧ firstE f n = f k ∧ ∀ j, j < k → f j = 0 := by
  have key : ∀ m, m ≤ n → (∀ j, j < m → f j = 0) ∨ ∃ k, k < m ∧ f k ≠ 0 ∧ ∀ j, j < k → f j = 0 := by
    intro m
    induction m with
    | zero => intro _; exact .inl fun j hj => by omega
    | succ m ih =>
      intro hm
      rcases ih (by omega) with h | ⟨k, h1, h2, h3⟩
      · by_cases hf : f m = 0
        · refine .inl fun j hj => ?_
          by_cases hjm : j = m
          · subst hjm; exact hf
          · exact h j (by omega)
        · exact .inr ⟨m, by omega, hf, h⟩
      · exact .inr ⟨k, by omega, h2, h3⟩
  rcases key n (Nat.le_refl _) with h | ⟨k, h1, h2, h3⟩
  · exact .inl ⟨firstE_none f n h, h⟩
  · exact .inr ⟨k, h1, h2, firstE_at f n k h1 h3 h2, h3⟩
theorem ones_zero (l : List Lab) : ones l = 0 ↔ ∀ x ∈ l, one x = 0 := by
  unfold ones
  rcases firstE_iff (fun j => one (l.getD j default)) l.length with ⟨h1, h2⟩ | ⟨k, h1, h2, h3, _⟩
  · refine ⟨fun _ x hx => ?_, fun _ => h1⟩
    obtain ⟨j, hj, rfl⟩ := List.mem_iff_getElem.1 hx
    have := h2 j hj
    rwa [getD_at hj] at this
  · refine ⟨fun h => absurd (h3.symm.trans h) h2, fun h => absurd ?_ h2⟩
    simp only [getD_at h1]
    exact h _ (List.getElem_mem h1)
/-- names ascend -/
def Srt (l : List Lab) : Prop := l.Pairwise fun x y => St.lt x.n y.n = true
theorem Srt.nodup {l : List Lab} (h : Srt l) : (l.map (·.n)).Nodup := by
  unfold Srt at h
  rw [List.Nodup, List.pairwise_map]
  exact h.imp fun {a b} hab e => by rw [e, St.irrefl] at hab; cases hab
theorem srt_uniq {a b : List Lab} (ha : Srt a) (hb : Srt b) (h : a.Perm b) : a = b := by
  unfold Srt at ha hb
  refine List.Perm.eq_of_pairwise (fun x y _ _ h1 h2 => ?_) ha hb h
  rw [St.asymm h1] at h2; cases h2
theorem srt_of_adj {l : List Lab} (h : ∀ j (hj : j + 1 < l.length), St.lt l[j].n l[j + 1].n = true) : Srt l := by
  unfold Srt
  rw [List.pairwise_iff_getElem]
  intro i j hi hj hij
  induction j with
  | zero => omega
  | succ j ih =>
    by_cases e : i = j
    · subst e; exact h i hj
    · exact St.trans (ih (by omega) (by omega)) (h j hj)
theorem chk_srt {l : List Lab} (h : Srt l) (ho : ones l = 0) : chk l = 0 := by
  rw [ones_zero] at ho
  refine firstE_none _ _ fun j hj => ?_
  unfold stepE
  have h1 : one (l.getD j default) = 0 := by rw [getD_at hj]; exact ho _ (List.getElem_mem hj)
  simp only [h1, ne_eq, not_true_eq_false, if_false]
  by_cases h0 : j = 0
  · simp [h0]
  · rw [if_neg h0, getD_at hj, getD_at (show j - 1 < l.length by omega)]
    have hl := (List.pairwise_iff_getElem.1 h) (j - 1) j (by omega) hj (by omega)
    rw [if_neg (fun e => by rw [e, St.irrefl] at hl; cases hl), if_neg (by rw [St.asymm hl]; simp)]
theorem chk_sorted {l : List Lab} (hs : ∀ i j (hi : i < l.length) (hj : j < l.length), i < j → St.lt l[j].n l[i].n = false) (ho : ones l = 0) : (chk l = 0 ∧ Srt l) ∨ (chk l = 18 ∧ ¬ (l.map (·.n)).Nodup) := by
  rw [ones_zero] at ho
  have ho' : ∀ j (hj : j < l.length), one l[j] = 0 := fun j hj => ho _ (List.getElem_mem hj)
  rcases firstE_iff (stepE l) l.length with ⟨h1, h2⟩ | ⟨k, h1, h2, h3, _⟩
  · refine .inl ⟨h1, srt_of_adj fun j hj => ?_⟩
    have := h2 (j + 1) hj
    unfold stepE at this
    simp only [getD_at hj, ho' _ hj, ne_eq, not_true_eq_false, if_false, show j + 1 ≠ 0 by omega, show j + 1 - 1 = j by omega, getD_at (show j < l.length by omega)] at this
    by_cases e : l[j].n = l[j + 1].n
    · rw [if_pos e] at this; omega
    · rw [if_neg e] at this
      cases hlt : St.lt l[j].n l[j + 1].n with
      | true => rfl
      | false => exact absurd (St.total hlt (hs j (j + 1) (by omega) hj (by omega))) e
  · refine .inr ?_
    unfold chk
    rw [h3]
    unfold stepE at h2 ⊢
    simp only [getD_at h1, ho' _ h1, ne_eq, not_true_eq_false, if_false] at h2 ⊢
    by_cases h0 : k = 0
    · simp [h0] at h2
    · rw [if_neg h0, getD_at (show k - 1 < l.length by omega)] at h2 ⊢
      by_cases e : l[k - 1].n = l[k].n
      · rw [if_pos e]
        refine ⟨rfl, fun hn => ?_⟩
        rw [List.Nodup, List.pairwise_map] at hn
        exact (List.pairwise_iff_getElem.1 hn) (k - 1) k (by omega) h1 (by omega) e
      · rw [if_neg e] at h2
        rw [if_neg (by rw [hs (k - 1) k (by omega) h1 (by omega)]; simp)] at h2
        exact absurd rfl h2
/-- what Normalize answers -/
def Norm (l : List Lab) (e : Int) (out : List Lab) : Prop :=
  (ones l ≠ 0 ∧ e = ones l ∧ out = []) ∨ (ones l = 0 ∧ ¬ (l.map (·.n)).Nodup ∧ e = 18 ∧ out = []) ∨ (ones l = 0 ∧ Srt out ∧ out.Perm l ∧ e = 0)
theorem Norm.uniq {l : List Lab} {e f : Int} {a b : List Lab} (h : Norm l e a) (h' : Norm l f b) : e = f ∧ a = b := by
  rcases h with ⟨h1, h2, h3⟩ | ⟨h1, h2, h3, h4⟩ | ⟨h1, h2, h3, h4⟩ <;> rcases h' with ⟨g1, g2, g3⟩ | ⟨g1, g2, g3, g4⟩ | ⟨g1, g2, g3, g4⟩
  · exact ⟨h2.trans g2.symm, h3.trans g3.symm⟩
  · exact absurd g1 h1
  · exact absurd g1 h1
  · exact absurd h1 g1
  · exact ⟨h3.trans g3.symm, h4.trans g4.symm⟩
  · exact absurd ((g3.map _).nodup_iff.1 g2.nodup) h2
  · exact absurd h1 g1
  · exact absurd ((h3.map _).nodup_iff.1 h2.nodup) g2
  · exact ⟨h4.trans g4.symm, srt_uniq h2 g2 (h3.trans g3.symm)⟩
theorem Norm.zero {l : List Lab} {e : Int} {a : List Lab} (h : Norm l e a) (he : e = 0) : ones l = 0 ∧ Srt a ∧ a.Perm l := by
  rcases h with ⟨h1, h2, h3⟩ | ⟨h1, h2, h3, h4⟩ | ⟨h1, h2, h3, h4⟩
  · exact absurd (h2.symm.trans he) h1
  · omega
  · exact ⟨h1, h2, h3⟩
theorem Norm.out_ones {l : List Lab} {e : Int} {a : List Lab} (h : Norm l e a) (he : e = 0) : ones a = 0 := by
  obtain ⟨h1, _, h3⟩ := h.zero he
  rw [ones_zero] at h1 ⊢
  exact fun x hx => h1 x (h3.mem_iff.1 hx)
theorem Norm.chk {l : List Lab} {e : Int} {a : List Lab} (h : Norm l e a) (he : e = 0) : chk a = 0 := chk_srt (h.zero he).2.1 (h.out_ones he)
theorem Norm.nil {l : List Lab} {e : Int} {a : List Lab} (h : Norm l e a) (he : e ≠ 0) : a = [] := by
  rcases h with ⟨h1, h2, h3⟩ | ⟨h1, h2, h3, h4⟩ | ⟨h1, h2, h3, h4⟩
  · exact h3
  · exact h4
  · exact absurd h4 he
theorem Norm.perm {l m : List Lab} {e f : Int} {a b : List Lab} (h : Norm l e a) (h' : Norm m f b) (hp : m.Perm l) : (e = 0 ↔ f = 0) ∧ a = b := by
  have ho : ones l = 0 ↔ ones m = 0 := by
    rw [ones_zero, ones_zero]
    exact ⟨fun h x hx => h x (hp.mem_iff.1 hx), fun h x hx => h x (hp.mem_iff.2 hx)⟩
  rcases h with ⟨h1, h2, h3⟩ | ⟨h1, h2, h3, h4⟩ | ⟨h1, h2, h3, h4⟩ <;> rcases h' with ⟨g1, g2, g3⟩ | ⟨g1, g2, g3, g4⟩ | ⟨g1, g2, g3, g4⟩
  · exact ⟨⟨fun h => absurd (h2.symm.trans h) h1, fun h => absurd (g2.symm.trans h) g1⟩, h3.trans g3.symm⟩
  · exact absurd (ho.2 g1) h1
  · exact absurd (ho.2 g1) h1
  · exact absurd (ho.1 h1) g1
  · exact ⟨⟨fun h => by omega, fun h => by omega⟩, h4.trans g4.symm⟩
  · exact absurd (((g3.trans hp).map _).nodup_iff.1 g2.nodup) h2
  · exact absurd (ho.1 h1) g1
  · exact absurd (((h3.trans hp.symm).map _).nodup_iff.1 h2.nodup) g2
  · exact ⟨⟨fun _ => g4, fun _ => h4⟩, srt_uniq h2 g2 ((h3.trans hp.symm).trans g3.symm)⟩
theorem Norm.self {a : List Lab} {e : Int} {b : List Lab} (hs : Srt a) (ho : ones a = 0) (h : Norm a e b) : e = 0 ∧ b = a := by
  have : Norm a 0 a := .inr (.inr ⟨ho, hs, List.Perm.refl _, rfl⟩)
  exact h.uniq this
/-- what the sort and Check give -/
theorem norm_of_sort {l : List Lab} {d : Array Lab} (ho : ones l = 0) (hp : Sort.PermIn 0 l.toArray.size l.toArray d) (hs : Sort.SortedIn (fun x y => St.lt x.n y.n) 0 l.toArray.size d) :
    (chk d.toList = 0 ∧ Norm l 0 d.toList) ∨ (chk d.toList = 18 ∧ Norm l 18 []) := by
  obtain ⟨h1, _, h3⟩ := hp
  have h1' : d.size = l.length := by simpa using h1
  have hp : d.toList.Perm l := by
    have e1 : (d.extract 0 l.toArray.size).toList = d.toList := by simp [← h1']
    have e2 : (l.toArray.extract 0 l.toArray.size).toList = l := by simp
    rwa [e1, e2] at h3
  have hod : ones d.toList = 0 := by
    rw [ones_zero] at ho ⊢
    exact fun x hx => ho x (hp.mem_iff.1 hx)
  have hsd : ∀ i j (hi : i < d.toList.length) (hj : j < d.toList.length), i < j → St.lt d.toList[j].n d.toList[i].n = false := by
    intro i j hi hj hij
    have hi' : i < d.size := by simpa using hi
    have hj' : j < d.size := by simpa using hj
    have := hs i j (by omega) hij (by simp; omega)
    simpa [hi', hj', getElem!_pos] using this
  rcases chk_sorted hsd hod with ⟨a, b⟩ | ⟨a, b⟩
  · exact .inl ⟨a, .inr (.inr ⟨ho, b, hp, rfl⟩)⟩
  · exact .inr ⟨a, .inr (.inl ⟨ho, fun hn => b ((hp.map _).nodup_iff.2 hn), rfl, rfl⟩)⟩
/-- one insertion -/
theorem srt_ins {out : List Lab} {x : Lab} (h : Srt out) (k : Nat) (hk : k ≤ out.length) (h1 : ∀ j (hj : j < out.length), j < k → St.lt out[j].n x.n = true) (h2 : ∀ (hj : k < out.length), St.lt x.n out[k].n = true) :
    Srt (out.take k ++ x :: out.drop k) := by
  unfold Srt at *
  rw [List.pairwise_append]
  refine ⟨h.sublist (List.take_sublist _ _), ?_, ?_⟩
  · rw [List.pairwise_cons]
    refine ⟨fun y hy => ?_, h.sublist (List.drop_sublist _ _)⟩
    obtain ⟨j, hj, rfl⟩ := List.mem_iff_getElem.1 hy
    rw [List.length_drop] at hj
    rw [List.getElem_drop]
    have hkl : k < out.length := by omega
    by_cases h0 : j = 0
    · subst h0; exact h2 hkl
    · exact St.trans (h2 hkl) ((List.pairwise_iff_getElem.1 h) k (k + j) hkl (by omega) (by omega))
  · intro a ha b hb
    obtain ⟨i, hi, rfl⟩ := List.mem_iff_getElem.1 ha
    rw [List.length_take] at hi
    rw [List.getElem_take]
    have hax := h1 i (by omega) (by omega)
    rcases List.mem_cons.1 hb with rfl | hb
    · exact hax
    · obtain ⟨j, hj, rfl⟩ := List.mem_iff_getElem.1 hb
      rw [List.length_drop] at hj
      rw [List.getElem_drop]
      exact (List.pairwise_iff_getElem.1 h) i (k + j) (by omega) (by omega) (by omega)
theorem perm_ins {out : List Lab} {x : Lab} {l : List Lab} {i : Nat} (h : out.Perm (l.take i)) (k : Nat) (hi : i < l.length) (hx : x = l[i]) : (out.take k ++ x :: out.drop k).Perm (l.take (i + 1)) := by
  subst hx
  rw [List.take_succ_eq_append_getElem hi]
  refine List.perm_middle.trans ?_
  rw [List.take_append_drop]
  exact ((List.Perm.cons _ h).trans (List.perm_append_comm (l₁ := [l[i]])))
theorem dup_of {out : List Lab} {x : Lab} {l : List Lab} {i : Nat} (h : out.Perm (l.take i)) (hi : i < l.length) (hx : x = l[i]) (k : Nat) (hk : k < out.length) (he : out[k].n = x.n) : ¬ (l.map (·.n)).Nodup := by
  intro hn
  rw [List.Nodup, List.pairwise_map] at hn
  have hm : out[k] ∈ l.take i := h.mem_iff.1 (List.getElem_mem hk)
  obtain ⟨j, hj, hje⟩ := List.mem_iff_getElem.1 hm
  rw [List.length_take] at hj
  rw [List.getElem_take] at hje
  exact (List.pairwise_iff_getElem.1 hn) j i (by omega) hi (by omega) (by rw [hje, he, hx])
end Lb
end Go.Proofs.Ytglnghdomoebfaa
