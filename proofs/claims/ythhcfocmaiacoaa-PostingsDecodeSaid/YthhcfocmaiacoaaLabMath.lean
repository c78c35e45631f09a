/- Chapter 11, plain: checking, comparing, looking up labels. -/
import Derived.Test.YthhcfocmaiacoaaMemL
namespace Go.Proofs.Ythhcfocmaiacoaa
namespace Lb
theorem ext {a b : Lab} (h1 : a.n = b.n) (h2 : a.v = b.v) : a = b := by cases a; cases b; simp_all
/-- the error of one label -/
def one (x : Lab) : Int := if x.n.size = 0 then 17 else if 65535 < x.n.size ∨ 65535 < x.v.size then 7 else 0
/-- the error found at place j -/
def stepE (l : List Lab) (j : Nat) : Int :=
  let x := l.getD j default
  if one x ≠ 0 then one x else if j = 0 then 0 else
    let p := l.getD (j - 1) default
    if p.n = x.n then 18 else if St.lt x.n p.n then 16 else 0
def firstE (f : Nat → Int) (n : Nat) : Int := (((List.range n).map f).find? fun e => !decide (e = 0)).getD 0
theorem firstE_none (f : Nat → Int) (n : Nat) (h : ∀ j, j < n → f j = 0) : firstE f n = 0 := by
  unfold firstE
  have : ((List.range n).map f).find? (fun e => !decide (e = 0)) = none := by
    rw [List.find?_eq_none]
    intro e he
    obtain ⟨j, hj, rfl⟩ := List.mem_map.1 he
    simp [h j (List.mem_range.1 hj)]
  rw [this]; rfl
theorem firstE_at (f : Nat → Int) (n k : Nat) (hk : k < n) (h : ∀ j, j < k → f j = 0) (he : f k ≠ 0) : firstE f n = f k := by
  unfold firstE
  have e1 : List.range n = List.range k ++ k :: (List.range (n - k - 1)).map (· + (k + 1)) := by
    apply List.ext_getElem?
    intro i
    by_cases h1 : i < k
    · rw [List.getElem?_append_left (by simpa using h1)]; simp [h1, show i < n by omega]
    · rw [List.getElem?_append_right (by simpa using h1)]
      simp only [List.length_range]
      by_cases h2 : i = k
      · subst h2; simp [hk]
      · obtain ⟨m, hm⟩ : ∃ m, i - k = m + 1 := ⟨i - k - 1, by omega⟩
        rw [hm, List.getElem?_cons_succ]
        by_cases h3 : i < n
        · simp [h3, show m < n - k - 1 by omega]; omega
        · rw [List.getElem?_eq_none (by simpa using h3), List.getElem?_eq_none (by simp; omega)]
  have h0 : ((List.range k).map f).find? (fun e => !decide (e = 0)) = none := by
    rw [List.find?_eq_none]
    intro e he2
    obtain ⟨j, hj, rfl⟩ := List.mem_map.1 he2
    simp [h j (List.mem_range.1 hj)]
  rw [e1, List.map_append, List.find?_append, h0, List.map_cons, List.find?_cons]
  simp [he]
/-- the error that Check reports -/
def chk (l : List Lab) : Int := firstE (stepE l) l.length
/-- one by one -/
def ones (l : List Lab) : Int := firstE (fun j => one (l.getD j default)) l.length
theorem getD_at {l : List Lab} {j : Nat} (h : j < l.length) : l.getD j default = l[j] := by simp [List.getD, h]
theorem one_cases (x : Lab) : one x = 0 ∨ one x = 7 ∨ one x = 17 := by
  unfold one; split
  · exact .inr (.inr rfl)
  · split
    · exact .inr (.inl rfl)
    · exact .inl rfl
/-- comparing -/
def cmpE (x y : Lab) : Int := if St.cmp x.n y.n = 0 then St.cmp x.v y.v else St.cmp x.n y.n
def cmpL : List Lab → List Lab → Int
  | [], [] => 0
  | [], _ :: _ => -1
  | _ :: _, [] => 1
  | x :: a, y :: b => if cmpE x y = 0 then cmpL a b else cmpE x y
theorem cmp_rng (a b : ByteArray) : St.cmp a b = -1 ∨ St.cmp a b = 0 ∨ St.cmp a b = 1 := by unfold St.cmp; split; · simp
                                                                                            · split <;> simp
theorem cmpE_rng (a b : Lab) : cmpE a b = -1 ∨ cmpE a b = 0 ∨ cmpE a b = 1 := by unfold cmpE; split <;> exact cmp_rng _ _
theorem cmpE_zero {a b : Lab} : cmpE a b = 0 ↔ a = b := by
  unfold cmpE
  constructor
  · intro h
    split at h
    · next h0 => exact ext (St.cmp_zero.1 h0) (St.cmp_zero.1 h)
    · next h0 => exact absurd h h0
  · rintro rfl
    have h1 : St.cmp a.n a.n = 0 := St.cmp_zero.2 rfl
    have h2 : St.cmp a.v a.v = 0 := St.cmp_zero.2 rfl
    simp [h1, h2]
theorem cmpE_swap (a b : Lab) : cmpE b a = - cmpE a b := by
  unfold cmpE
  have h1 := St.cmp_swap a.n b.n
  have h2 := St.cmp_swap a.v b.v
  by_cases h : St.cmp a.n b.n = 0
  · rw [if_pos h, if_pos (by omega)]; exact h2
  · rw [if_neg h, if_neg (by omega)]; exact h1
theorem cmp_trans {a b c : ByteArray} (h1 : St.cmp a b < 0) (h2 : St.cmp b c < 0) : St.cmp a c < 0 := by
  rw [St.cmp_neg] at *; exact St.trans h1 h2
theorem cmpE_trans {a b c : Lab} (h1 : cmpE a b < 0) (h2 : cmpE b c < 0) : cmpE a c < 0 := by
  unfold cmpE at *
  split at h1
  · next e1 =>
    have e1 := St.cmp_zero.1 e1
    split at h2
    · next e2 =>
      have e2 := St.cmp_zero.1 e2
      rw [if_pos (St.cmp_zero.2 (e1.trans e2))]
      exact cmp_trans h1 h2
    · next e2 => rw [← e1] at h2 e2; rw [if_neg e2]; exact h2
  · next e1 =>
    split at h2
    · next e2 =>
      have e2 := St.cmp_zero.1 e2
      rw [← e2, if_neg e1]; exact h1
    · next e2 =>
      have h3 := cmp_trans h1 h2
      rw [if_neg (by omega)]; exact h3
theorem cmpL_swap (a b : List Lab) : cmpL b a = - cmpL a b := by
  induction a generalizing b with
  | nil => cases b <;> simp [cmpL]
  | cons x a ih =>
    cases b with
    | nil => simp [cmpL]
    | cons y b =>
      have h := cmpE_swap x y
      simp only [cmpL]
      by_cases h0 : cmpE x y = 0
      · rw [if_pos h0, if_pos (by omega)]; exact ih b
      · rw [if_neg h0, if_neg (by omega)]; exact h
theorem cmpL_zero {a b : List Lab} : cmpL a b = 0 ↔ a = b := by
  induction a generalizing b with
  | nil => cases b <;> simp [cmpL]
  | cons x a ih =>
    cases b with
    | nil => simp [cmpL]
    | cons y b =>
      simp only [cmpL]
      by_cases h0 : cmpE x y = 0
      · rw [if_pos h0, ih, cmpE_zero.1 h0]; simp
      · rw [if_neg h0]
        refine ⟨fun h => absurd h h0, fun h => ?_⟩
        injection h with h1 h2
        exact absurd (cmpE_zero.2 h1) h0
theorem cmpL_trans {a b c : List Lab} (h1 : cmpL a b < 0) (h2 : cmpL b c < 0) : cmpL a c < 0 := by
  induction a generalizing b c with
  | nil =>
    cases b with
    | nil => simp [cmpL] at h1
    | cons y b => cases c with
      | nil => simp [cmpL] at h2
      | cons z c => simp [cmpL]
  | cons x a ih =>
    cases b with
    | nil => simp [cmpL] at h1
    | cons y b =>
      cases c with
      | nil => simp [cmpL] at h2
      | cons z c =>
        simp only [cmpL] at *
        by_cases e1 : cmpE x y = 0
        · rw [if_pos e1] at h1
          obtain rfl := cmpE_zero.1 e1
          by_cases e2 : cmpE x z = 0
          · rw [if_pos e2] at h2 ⊢; exact ih h1 h2
          · rw [if_neg e2] at h2 ⊢; exact h2
        · rw [if_neg e1] at h1
          by_cases e2 : cmpE y z = 0
          · obtain rfl := cmpE_zero.1 e2
            rw [if_neg e1]; exact h1
          · rw [if_neg e2] at h2
            have h3 := cmpE_trans h1 h2
            rw [if_neg (by omega)]; exact h3
theorem cmpL_laws (a b c : List Lab) : (0 < cmpL a b ∨ 0 < cmpL b c ∨ cmpL a c ≤ 0) ∧ (cmpL a b ≠ 0 ∨ cmpL b c ≠ 0 ∨ cmpL a c = 0) ∧ (0 ≤ cmpL a b ∨ 0 < cmpL b c ∨ cmpL a c < 0) := by
  by_cases e1 : cmpL a b = 0
  · obtain rfl := cmpL_zero.1 e1; omega
  · by_cases e2 : cmpL b c = 0
    · obtain rfl := cmpL_zero.1 e2; omega
    · by_cases n1 : cmpL a b < 0
      · by_cases n2 : cmpL b c < 0
        · have := cmpL_trans n1 n2; omega
        · omega
      · omega
theorem cmpL_drop (a b : List Lab) (k : Nat) (ha : k < a.length) (hb : k < b.length) :
    cmpL (a.drop k) (b.drop k) = if cmpE a[k] b[k] = 0 then cmpL (a.drop (k + 1)) (b.drop (k + 1)) else cmpE a[k] b[k] := by
  rw [List.drop_eq_getElem_cons ha, List.drop_eq_getElem_cons hb, cmpL]
theorem cmpL_end1 (a b : List Lab) (k : Nat) (ha : k = a.length) (hb : k < b.length) : cmpL (a.drop k) (b.drop k) = -1 := by
  subst ha; rw [List.drop_length, List.drop_eq_getElem_cons hb, cmpL]
theorem cmpL_end2 (a b : List Lab) (k : Nat) (ha : k < a.length) (hb : k = b.length) : cmpL (a.drop k) (b.drop k) = 1 := by
  subst hb; rw [List.drop_length, List.drop_eq_getElem_cons ha, cmpL]
theorem cmpL_end0 (a b : List Lab) (k : Nat) (ha : k = a.length) (hb : k = b.length) : cmpL (a.drop k) (b.drop k) = 0 := by
  subst ha; rw [List.drop_length, hb, List.drop_length, cmpL]
/-- looking up -/
def get (l : List Lab) (x : ByteArray) : Option ByteArray := (l.find? fun y => decide (y.n = x)).map (·.v)
theorem get_at (l : List Lab) (x : ByteArray) (k : Nat) (hk : k < l.length) (h : ∀ j (hj : j < l.length), j < k → l[j].n ≠ x) (he : l[k].n = x) : get l x = some l[k].v := by
  unfold get
  have e : l = l.take k ++ l[k] :: l.drop (k + 1) := by rw [← List.drop_eq_getElem_cons hk, List.take_append_drop]
  have h0 : (l.take k).find? (fun y => decide (y.n = x)) = none := by
    rw [List.find?_eq_none]
    intro y hy
    obtain ⟨j, hj, rfl⟩ := List.mem_iff_getElem.1 hy
    rw [List.length_take] at hj
    rw [List.getElem_take]
    simpa using h j (by omega) (by omega)
  have h1 : l.find? (fun y => decide (y.n = x)) = some l[k] := by
    generalize l[k] = y at e he
    rw [e, List.find?_append, h0, List.find?_cons]
    simp [he]
  rw [h1]; rfl
theorem get_none (l : List Lab) (x : ByteArray) (h : ∀ j (hj : j < l.length), l[j].n ≠ x) : get l x = none := by
  unfold get
  rw [Option.map_eq_none_iff, List.find?_eq_none]
  intro y hy
  obtain ⟨j, hj, rfl⟩ := List.mem_iff_getElem.1 hy
  simpa using h j hj
/-- all names and values -/
def strs (l : List Lab) : List ByteArray := l.flatMap fun x => [x.n, x.v]
theorem strs_length (l : List Lab) : (strs l).length = 2 * l.length := by
  unfold strs
  induction l with
  | nil => rfl
  | cons x l ih => rw [List.flatMap_cons, List.length_append, ih, List.length_cons]; simp; omega
theorem strs_take (l : List Lab) (k : Nat) (h : k < l.length) : strs (l.take (k + 1)) = strs (l.take k) ++ [l[k].n, l[k].v] := by
  unfold strs
  rw [List.take_succ_eq_append_getElem h, List.flatMap_append]
  simp
end Lb
end Go.Proofs.Ythhcfocmaiacoaa
