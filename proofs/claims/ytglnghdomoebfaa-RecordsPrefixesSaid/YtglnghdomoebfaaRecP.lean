/- Chapter 13, plain: a number read is its own encoding; what a longer string changes. -/
import Derived.Test.YtglnghdomoebfaaRecI
namespace Go.Proofs.Ytglnghdomoebfaa
open Go.RowKit Go.Shelf

theorem Vi.get1_canon (l : List UInt8) : ∀ (i x y k : Nat), Vi.get1 l i x = (y, k, 0) → ∃ z, y = x + z * 128 ^ i ∧ i < k ∧ l.take (k - i) = Vi.enc z ∧ k - i ≤ l.length ∧ (0 < i → 0 < z) := by
  induction l with
  | nil => intro i x y k h; simp [Vi.get1] at h
  | cons c l ih =>
    intro i x y k h
    rw [Vi.get1_cons] at h
    have hc := c.toNat_lt
    split at h
    · simp at h
    · split at h
      · simp at h
      · rename_i h2
        split at h
        · rename_i h3
          simp only [Prod.mk.injEq] at h
          obtain ⟨rfl, rfl, _⟩ := h
          refine ⟨c.toNat, by rw [Nat.mod_eq_of_lt h3], by omega, ?_, by simp, fun hi => by omega⟩
          rw [Vi.enc_lt h3, show i + 1 - i = 1 by omega]
          simp
        · rename_i h3
          obtain ⟨z, h4, h5, h6, h7, h8⟩ := ih _ _ _ _ h
          have hz := h8 (by omega)
          have e1 : (c.toNat % 128 + z * 128) % 128 = c.toNat % 128 := by omega
          have e2 : (c.toNat % 128 + z * 128) / 128 = z := by omega
          refine ⟨c.toNat % 128 + z * 128, ?_, by omega, ?_, by simp; omega, fun _ => by omega⟩
          · rw [h4, Nat.pow_succ, Nat.add_mul, Nat.mul_assoc z 128, Nat.mul_comm 128, Nat.add_assoc]
          · rw [Vi.enc_ge (by omega), e1, e2, ← h6, show k - i = (k - (i + 1)) + 1 by omega, List.take_succ_cons]
            congr 1
            rw [show c.toNat % 128 + 128 = c.toNat by omega]
            simp
theorem Vi.get_canon {l : List UInt8} {a x : Nat} {t : Int} (h : Vi.get l (a : Int) = (x, t, 0)) : (l.drop a).take (t.toNat - a) = Vi.enc x ∧ a < t.toNat ∧ t.toNat ≤ l.length := by
  have hto := Vi.get_to h
  refine ⟨?_, by omega, by omega⟩
  unfold Vi.get at h
  split at h
  · simp at h
  · simp only at h
    split at h
    · rename_i h0
      rw [Int.toNat_natCast] at h h0
      obtain ⟨r, hr⟩ : ∃ r, Vi.get1 (l.drop a) 0 0 = r := ⟨_, rfl⟩
      rw [hr] at h h0
      obtain ⟨y, k, er⟩ := r
      simp only at h0
      subst h0
      simp only [Prod.mk.injEq, and_true] at h
      obtain ⟨z, h4, h5, h6, h7, h8⟩ := Vi.get1_canon _ _ _ _ _ hr
      have e : t.toNat - a = k := by omega
      rw [e]
      rw [Nat.sub_zero] at h6
      rw [h6]
      congr 1
      simp at h4
      omega
    · rename_i h0
      simp only [Prod.mk.injEq] at h
      exact absurd h.2.2 h0
theorem take_cut (l : List UInt8) (a b : Nat) (h : a ≤ b) : l.take b = l.take a ++ (l.drop a).take (b - a) := by
  conv => lhs; rw [show b = a + (b - a) by omega, List.take_add]
theorem Vi.get1_app (m : List UInt8) : ∀ (l : List UInt8) (i x : Nat), (Vi.get1 l i x).2.2 ≠ 3 → Vi.get1 (l ++ m) i x = Vi.get1 l i x
  | [], _, _, h => absurd rfl h
  | c :: l, i, x, h => by
    rw [Vi.get1_cons] at h
    rw [List.cons_append, Vi.get1_cons, Vi.get1_cons]
    by_cases h1 : i = 9 ∧ 1 < c.toNat
    · rw [if_pos h1, if_pos h1]
    · rw [if_neg h1] at h ⊢
      rw [if_neg h1]
      by_cases h2 : c.toNat = 0 ∧ 0 < i
      · rw [if_pos h2, if_pos h2]
      · rw [if_neg h2] at h ⊢
        rw [if_neg h2]
        by_cases h3 : c.toNat < 128
        · rw [if_pos h3, if_pos h3]
        · rw [if_neg h3] at h ⊢
          rw [if_neg h3]
          exact Vi.get1_app m l _ _ h
theorem Vi.get_app (m l : List UInt8) (a : Nat) (ha : a ≤ l.length) (h : (Vi.get l (a : Int)).2.2 ≠ 3) : Vi.get (l ++ m) (a : Int) = Vi.get l (a : Int) := by
  have c1 : ¬ ((a : Int) < 0 ∨ (l.length : Int) < (a : Int)) := by omega
  have c2 : ¬ ((a : Int) < 0 ∨ ((l ++ m).length : Int) < (a : Int)) := by rw [List.length_append]; omega
  unfold Vi.get at h ⊢
  rw [if_neg c1] at h
  rw [if_neg c1, if_neg c2]
  simp only [Int.toNat_natCast] at h ⊢
  have h4 : (Vi.get1 (l.drop a) 0 0).2.2 ≠ 3 := fun h3 => by
    rw [if_neg (by omega)] at h
    exact h h3
  rw [List.drop_append_of_le_length ha, Vi.get1_app m (l.drop a) 0 0 h4]
theorem cut_app (l m : List UInt8) (a k : Nat) (h : a + k ≤ l.length) : ((l ++ m).drop a).take k = (l.drop a).take k := by
  rw [List.drop_append_of_le_length (by omega), List.take_append_of_le_length (by rw [List.length_drop]; omega)]

namespace Rc
theorem mx_lt {n : Nat} (h : n ≤ mx) : n < 18446744073709551616 := by unfold mx at h; omega
/-- a reader of one kind of value: what it reads is the value's encoding, it reads what was written, and a longer string changes nothing once it did not run out of bytes -/
structure Good {X : Type} (rd : List UInt8 → Nat → Int → X × Nat × Int) (E : X → List UInt8) (OK : X → Prop) : Prop where
  canon : ∀ l a x a', a ≤ l.length → rd l a 0 = (x, a', 0) → OK x ∧ l.drop a = E x ++ l.drop a' ∧ a ≤ a' ∧ a' ≤ l.length
  fwd : ∀ p x r, OK x → rd (p ++ (E x ++ r)) p.length 0 = (x, p.length + (E x).length, 0)
  app : ∀ l m a, a ≤ l.length → (rd l a 0).2.2 ≠ 3 → rd (l ++ m) a 0 = rd l a 0
  bad : ∃ d, ∀ l a e, e ≠ 0 → rd l a e = (d, a, e)
  pos : ∀ x, OK x → 0 < (E x).length
theorem Good.err {X : Type} {rd : List UInt8 → Nat → Int → X × Nat × Int} {E : X → List UInt8} {OK : X → Prop} (g : Good rd E OK) (l : List UInt8) (a : Nat) (e : Int) (he : e ≠ 0) : (rd l a e).2.2 = e := by
  obtain ⟨d, h⟩ := g.bad
  rw [h l a e he]
theorem Good.at_ {X : Type} {rd : List UInt8 → Nat → Int → X × Nat × Int} {E : X → List UInt8} {OK : X → Prop} (g : Good rd E OK) {l : List UInt8} {a : Nat} {x : X} {r : List UInt8} (h : OK x) (hd : l.drop a = E x ++ r) (ha : a ≤ l.length) :
    rd l a 0 = (x, a + (E x).length, 0) ∧ l.drop (a + (E x).length) = r ∧ a + (E x).length ≤ l.length := by
  have e : l = l.take a ++ (E x ++ r) := by rw [← hd, List.take_append_drop]
  have hl : (l.take a).length = a := by rw [List.length_take]; omega
  have h1 := g.fwd (l.take a) x r h
  rw [← e, hl] at h1
  refine ⟨h1, ?_, ?_⟩
  · rw [← List.drop_drop, hd, List.drop_left]
  · have := congrArg List.length hd
    rw [List.length_drop, List.length_append] at this
    have hp := g.pos x h
    omega
theorem Good.pre {X : Type} {rd : List UInt8 → Nat → Int → X × Nat × Int} {E : X → List UInt8} {OK : X → Prop} (g : Good rd E OK) (p : List UInt8) (x : X) (k : Nat) (h : OK x) (hk : k < (E x).length) : (rd (p ++ (E x).take k) p.length 0).2.2 = 3 := by
  apply Classical.byContradiction
  intro hn
  have h1 := g.app (p ++ (E x).take k) ((E x).drop k) p.length (by simp) hn
  rw [List.append_assoc, List.take_append_drop] at h1
  have h2 := g.fwd p x [] h
  rw [List.append_nil] at h2
  rw [h2] at h1
  have h3 := (g.canon _ _ _ _ (by simp) h1.symm).2.2.2
  rw [List.length_append, List.length_take] at h3
  omega
theorem drop_split {l : List UInt8} {a b : Nat} (h : a ≤ b) : l.drop a = (l.drop a).take (b - a) ++ l.drop b := by
  conv => lhs; rw [← List.take_append_drop (b - a) (l.drop a)]
  rw [List.drop_drop, show a + (b - a) = b by omega]
theorem uint_good : Good (fun l a e => Wr.uint l a e mx) Vi.enc (fun n => n ≤ mx) where
  canon := fun l a x a' ha h => by
    unfold Wr.uint at h
    rw [if_neg (by simp)] at h
    simp only [] at h
    split at h
    · rename_i h1
      simp only [Prod.mk.injEq] at h
      exact absurd (by exact_mod_cast h.2.2) h1
    · rename_i h1
      split at h
      · simp at h
      · rename_i h2
        simp only [Prod.mk.injEq] at h
        obtain ⟨h3, h4, -⟩ := h
        obtain ⟨c1, c2, c3⟩ := Vi.get_canon (l := l) (a := a) (x := (Vi.get l (a : Int)).1) (t := (Vi.get l (a : Int)).2.1) (by
          have : (Vi.get l (a : Int)).2.2 = 0 := by omega
          rw [← this])
        rw [h4] at c1 c2 c3
        rw [h3] at c1
        refine ⟨by omega, ?_, by omega, c3⟩
        rw [← c1]
        exact drop_split (by omega)
  fwd := fun p x r hx => by
    have h := Vi.get_enc p x r (mx_lt hx)
    rw [List.append_assoc] at h
    show Wr.uint _ _ _ _ = _
    unfold Wr.uint
    rw [if_neg (by simp), h]
    simp only []
    rw [if_neg (by simp), if_neg (by omega), Int.toNat_natCast]
  app := fun l m a ha h => by
    show Wr.uint _ _ _ _ = Wr.uint _ _ _ _
    have h' : (Vi.get l (a : Int)).2.2 ≠ 3 := fun e => by
      apply h
      show (Wr.uint _ _ _ _).2.2 = 3
      unfold Wr.uint
      rw [if_neg (by simp)]
      simp only []
      rw [if_pos (by omega), e]
      rfl
    unfold Wr.uint
    rw [Vi.get_app m l a ha h']
  bad := ⟨0, fun l a e he => by
    show Wr.uint _ _ _ _ = _
    unfold Wr.uint
    rw [if_pos he]⟩
  pos := fun x _ => Vi.enc_pos x
end Rc
end Go.Proofs.Ytglnghdomoebfaa
