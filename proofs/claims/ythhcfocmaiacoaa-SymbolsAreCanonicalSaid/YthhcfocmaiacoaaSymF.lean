/- Chapter 10, plain: reading a table: what is accepted is the table's encoding, and an encoding is read back. -/
import Derived.Test.YthhcfocmaiacoaaSymG
import Derived.Test.YthhcfocmaiacoaaSymC
import Derived.Test.YthhcfocmaiacoaaSymD
namespace Go.Proofs.Ythhcfocmaiacoaa
open Go.RowKit Go.Shelf

theorem Vi.get_drop (l : List UInt8) (t a : Nat) (ht : t + a ≤ l.length) : Vi.get l ((t + a : Nat) : Int) = ((Vi.get (l.drop t) (a : Int)).1, (if (Vi.get (l.drop t) (a : Int)).2.2 = 0 then (Vi.get (l.drop t) (a : Int)).2.1 + (t : Int) else 0), (Vi.get (l.drop t) (a : Int)).2.2) := by
  have c1 : ¬ (((t + a : Nat) : Int) < 0 ∨ (l.length : Int) < ((t + a : Nat) : Int)) := by omega
  have c2 : ¬ ((a : Int) < 0 ∨ ((l.drop t).length : Int) < (a : Int)) := by rw [List.length_drop]; omega
  have e1 : Vi.get l ((t + a : Nat) : Int) = if (Vi.get1 (l.drop (t + a)) 0 0).2.2 = 0 then ((Vi.get1 (l.drop (t + a)) 0 0).1, ((t + a : Nat) : Int) + (Vi.get1 (l.drop (t + a)) 0 0).2.1, 0) else (0, 0, (Vi.get1 (l.drop (t + a)) 0 0).2.2) := by
    unfold Vi.get; rw [if_neg c1, Int.toNat_natCast]
  have e2 : Vi.get (l.drop t) (a : Int) = if (Vi.get1 (l.drop (t + a)) 0 0).2.2 = 0 then ((Vi.get1 (l.drop (t + a)) 0 0).1, (a : Int) + (Vi.get1 (l.drop (t + a)) 0 0).2.1, 0) else (0, 0, (Vi.get1 (l.drop (t + a)) 0 0).2.2) := by
    unfold Vi.get; rw [if_neg c2, Int.toNat_natCast, List.drop_drop]
  rw [e1, e2]
  by_cases h : (Vi.get1 (l.drop (t + a)) 0 0).2.2 = 0
  · rw [if_pos h, if_pos h]
    simp only [if_true]
    congr 2
    omega
  · rw [if_neg h, if_neg h]
    simp only []
    rw [if_neg h]
namespace Sy
/-- a string of a table -/
def strR (l : List UInt8) (a : Nat) (e : Int) : ByteArray × Nat × Int := (ofL (Wr.string l a e 65535).1, (Wr.string l a e 65535).2)
theorem string0 (l : List UInt8) (a : Nat) (m : Int) : Wr.string l a 0 m = if (Wr.string1 l (Vi.get l (a : Int)) m).2.2 ≠ 0 then ([], a, (Wr.string1 l (Vi.get l (a : Int)) m).2.2) else ((Wr.string1 l (Vi.get l (a : Int)) m).1, (Wr.string1 l (Vi.get l (a : Int)) m).2.1.toNat, 0) := by
  conv => lhs; unfold Wr.string
  exact if_neg (by simp)
theorem string1_ok (l : List UInt8) (x : Nat) (k : Int) : Wr.string1 l (x, k, 0) 65535 = if (65535 : Int) < (x : Int) then ([], 0, 7) else if (l.length : Int) - k < (x : Int) then ([], 0, 3) else ((l.drop k.toNat).take x, k + (x : Int), 0) := by
  unfold Wr.string1
  simp
theorem string1_bad (l : List UInt8) (x e : Nat) (k : Int) (he : e ≠ 0) : Wr.string1 l (x, k, e) 65535 = ([], 0, (e : Int)) := by
  unfold Wr.string1
  exact if_pos he
theorem strR_drop (l : List UInt8) (t a : Nat) (ht : t + a ≤ l.length) : strR l (t + a) 0 = ((strR (l.drop t) a 0).1, t + (strR (l.drop t) a 0).2.1, (strR (l.drop t) a 0).2.2) := by
  have hg := Vi.get_drop l t a ht
  have hto : ∀ x k, Vi.get (l.drop t) (a : Int) = (x, k, 0) → (a : Int) < k ∧ k ≤ ((l.drop t).length : Int) := fun x k h => by have := Vi.get_to h; omega
  unfold strR
  rw [string0, string0, hg]
  generalize Vi.get (l.drop t) (a : Int) = G at *
  obtain ⟨x, k, e⟩ := G
  by_cases he : e = 0
  · subst he
    obtain ⟨h1, h2⟩ := hto x k rfl
    rw [List.length_drop] at h2
    simp only [if_true]
    rw [string1_ok, string1_ok, List.length_drop]
    by_cases h3 : (65535 : Int) < (x : Int)
    · rw [if_pos h3, if_pos h3]; simp
    · rw [if_neg h3, if_neg h3]
      by_cases h4 : (l.length : Int) - (k + (t : Int)) < (x : Int)
      · rw [if_pos h4, if_pos (show ((l.length - t : Nat) : Int) - k < (x : Int) by omega)]; simp
      · rw [if_neg h4, if_neg (show ¬ ((l.length - t : Nat) : Int) - k < (x : Int) by omega)]
        simp only [ne_eq, not_true_eq_false, if_false, List.drop_drop]
        rw [show (k + (t : Int)).toNat = t + k.toNat by omega, show (k + (t : Int) + (x : Int)).toNat = t + (k + (x : Int)).toNat by omega]
  · simp only [he, if_false]
    rw [string1_bad l x e 0 he, string1_bad _ x e k he]
    have h5 : ((e : Int) ≠ 0) := by omega
    simp only []
    rw [if_pos h5, if_pos h5]
theorem str_good : Rc.Good strR strE (fun s => s.size ≤ 65535) where
  canon := fun l a s a' ha h => by
    unfold strR Wr.string at h
    rw [if_neg (by simp)] at h
    split at h
    · rename_i h1
      simp only [Prod.mk.injEq] at h
      exact absurd h.2.2 h1
    · rename_i h1
      have h1' : (Wr.string1 l (Vi.get l (a : Int)) 65535).2.2 = 0 := by simpa using h1
      have hc := Vi.get_canon (l := l) (a := a) (x := (Vi.get l (a : Int)).1) (t := (Vi.get l (a : Int)).2.1)
      generalize Vi.get l (a : Int) = G at *
      obtain ⟨x, k, e⟩ := G
      simp only [] at hc h1' h
      unfold Wr.string1 at h1' h
      simp only [] at h1' h
      by_cases he : e = 0
      · subst he
        obtain ⟨c1, c2, c3⟩ := hc rfl
        simp only [ne_eq, not_true_eq_false, if_false] at h1' h
        by_cases h3 : (65535 : Int) < 0 ∨ (65535 : Int) < (x : Int)
        · rw [if_pos h3] at h1'; cases h1'
        · rw [if_neg h3] at h1' h
          by_cases h4 : (l.length : Int) - k < (x : Int)
          · rw [if_pos h4] at h1'; cases h1'
          · rw [if_neg h4] at h
            simp only [Prod.mk.injEq] at h
            obtain ⟨h5, h6, -⟩ := h
            have hk : 0 ≤ k := by omega
            have hl : ((l.drop k.toNat).take x).length = x := by rw [List.length_take, List.length_drop]; omega
            have hs : s.data.toList = (l.drop k.toNat).take x := by rw [← h5]; simp [ofL]
            have hsz : s.size = x := by rw [← hl, ← hs]; simp
            refine ⟨by omega, ?_, by omega, by omega⟩
            have d1 := Rc.drop_split (l := l) (a := a) (b := k.toNat) (by omega)
            have d2 := Rc.drop_split (l := l) (a := k.toNat) (b := a') (by omega)
            rw [show a' - k.toNat = x by omega] at d2
            rw [c1] at d1
            unfold strE Wr.str
            rw [hs, hl, List.append_assoc, ← d2]
            exact d1
      · rw [if_pos (by simp; exact he)] at h1'
        simp only [] at h1'
        exact absurd (by exact_mod_cast h1') he
  fwd := fun p s r hs => by
    have hd : s.data.toList.length = s.size := by simp
    have h := Wr.string_str p r s.data.toList 65535 (by omega) (by rw [hd]; omega)
    rw [List.append_assoc] at h
    unfold strR strE
    rw [h]
    simp only []
    rw [ofL_data]
  app := fun l m a ha h => by
    unfold strR at h ⊢
    rw [string0] at h
    rw [string0, string0]
    have hn : (Vi.get l (a : Int)).2.2 ≠ 3 := fun e3 => by
      apply h
      have : Wr.string1 l (Vi.get l (a : Int)) 65535 = ([], 0, 3) := by
        generalize Vi.get l (a : Int) = G at *
        obtain ⟨x, k, e⟩ := G
        have e3' : e = 3 := e3
        subst e3'
        exact string1_bad l x 3 k (by decide)
      rw [this]; rfl
    rw [Vi.get_app m l a ha hn]
    have hto : ∀ x k, Vi.get l (a : Int) = (x, k, 0) → (a : Int) < k ∧ k ≤ (l.length : Int) := fun x k h => by have := Vi.get_to h; omega
    generalize Vi.get l (a : Int) = G at *
    obtain ⟨x, k, e⟩ := G
    by_cases he : e = 0
    · subst he
      obtain ⟨t1, t2⟩ := hto x k rfl
      rw [string1_ok] at h
      rw [string1_ok, string1_ok]
      by_cases h3 : (65535 : Int) < (x : Int)
      · rw [if_pos h3, if_pos h3]
      · rw [if_neg h3] at h ⊢
        rw [if_neg h3]
        by_cases h4 : (l.length : Int) - k < (x : Int)
        · rw [if_pos h4] at h; exact absurd rfl h
        · rw [if_neg h4, if_neg (show ¬ ((l ++ m).length : Int) - k < (x : Int) by rw [List.length_append]; omega), cut_app l m _ _ (by omega)]
    · rw [string1_bad _ x e k he, string1_bad _ x e k he]
  bad := ⟨ofL [], fun l a e he => by unfold strR Wr.string; rw [if_pos he]⟩
  pos := fun s _ => by unfold strE Wr.str; have := Vi.enc_pos s.data.toList.length; rw [List.length_append]; omega
/-- a string may follow -/
def ordB (acc : List ByteArray) (s : ByteArray) : Bool := match acc.getLast? with | none => true | some t => St.lt t s
/-- the strings that n readings give -/
def dl (rd : Nat → Int → ByteArray × Nat × Int) : Nat → List ByteArray → Nat → List ByteArray × Nat × Int
  | 0, acc, a => (acc, a, 0)
  | n + 1, acc, a => if (rd a 0).2.2 ≠ 0 then ([], (rd a 0).2.1, (rd a 0).2.2) else if ordB acc (rd a 0).1 = false then ([], (rd a 0).2.1, 16) else dl rd n (acc ++ [(rd a 0).1]) (rd a 0).2.1
def dec (l : List UInt8) : List ByteArray × Int :=
  if (Rc.cnt l 0 0).2.2 ≠ 0 then ([], (Rc.cnt l 0 0).2.2) else
  if (dl (strR (l.drop (Rc.cnt l 0 0).2.1)) (Rc.cnt l 0 0).1 [] 0).2.2 ≠ 0 then ([], (dl (strR (l.drop (Rc.cnt l 0 0).2.1)) (Rc.cnt l 0 0).1 [] 0).2.2) else
  if (dl (strR (l.drop (Rc.cnt l 0 0).2.1)) (Rc.cnt l 0 0).1 [] 0).2.1 < (l.drop (Rc.cnt l 0 0).2.1).length then ([], 4) else ((dl (strR (l.drop (Rc.cnt l 0 0).2.1)) (Rc.cnt l 0 0).1 [] 0).1, 0)
end Sy
end Go.Proofs.Ythhcfocmaiacoaa
