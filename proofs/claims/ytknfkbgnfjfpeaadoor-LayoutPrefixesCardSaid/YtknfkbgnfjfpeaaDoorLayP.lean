/- Chapter 16, plainly: bytes that are accepted are the file of their sections. -/
import Derived.Test.YtknfkbgnfjfpeaaDoorLayK
namespace Go.Proofs.YtknfkbgnfjfpeaaDoor
open Go.RowKit

theorem Vi.get1_canon (l : List UInt8) : ∀ (i x y k : Nat), Vi.get1 l i x = (y, k, 0) → ∃ z, y = x + z * 128 ^ i ∧ i < k ∧ l.take (k - i) = Vi.enc z ∧ k - i ≤ l.length ∧ (0 < i → 0 < z) := by
  induction l with
  | nil => intro i x y k h; simp [Vi.get1] at h
  | cons c l ih =>
    intro i x y k h
    rw [Vi.get1_cons] at h
    have hc := c.toNat_lt
    split at h
    · simp at h
    · split at h
      · simp at h
      · rename_i h2
        split at h
        · rename_i h3
          simp only [Prod.mk.injEq] at h
          obtain ⟨rfl, rfl, _⟩ := h
          refine ⟨c.toNat, by rw [Nat.mod_eq_of_lt h3], by omega, ?_, by simp, fun hi => by omega⟩
          rw [Vi.enc_lt h3, show i + 1 - i = 1 by omega]
          simp
        · rename_i h3
          obtain ⟨z, h4, h5, h6, h7, h8⟩ := ih _ _ _ _ h
          have hz := h8 (by omega)
          have e1 : (c.toNat % 128 + z * 128) % 128 = c.toNat % 128 := by omega
          have e2 : (c.toNat % 128 + z * 128) / 128 = z := by omega
          refine ⟨c.toNat % 128 + z * 128, ?_, by omega, ?_, by simp; omega, fun _ => by omega⟩
          · rw [h4, Nat.pow_succ, Nat.add_mul, Nat.mul_assoc z 128, Nat.mul_comm 128, Nat.add_assoc]
          · rw [Vi.enc_ge (by omega), e1, e2, ← h6, show k - i = (k - (i + 1)) + 1 by omega, List.take_succ_cons]
            congr 1
            rw [show c.toNat % 128 + 128 = c.toNat by omega]
            simp
theorem Vi.get_canon {l : List UInt8} {a x : Nat} {t : Int} (h : Vi.get l (a : Int) = (x, t, 0)) : (l.drop a).take (t.toNat - a) = Vi.enc x ∧ a < t.toNat ∧ t.toNat ≤ l.length := by
  have hto := Vi.get_to h
  refine ⟨?_, by omega, by omega⟩
  unfold Vi.get at h
  split at h
  · simp at h
  · simp only at h
    split at h
    · rename_i h0
      rw [Int.toNat_natCast] at h h0
      obtain ⟨r, hr⟩ : ∃ r, Vi.get1 (l.drop a) 0 0 = r := ⟨_, rfl⟩
      rw [hr] at h h0
      obtain ⟨y, k, er⟩ := r
      simp only at h0
      subst h0
      simp only [Prod.mk.injEq, and_true] at h
      obtain ⟨z, h4, h5, h6, h7, h8⟩ := Vi.get1_canon _ _ _ _ _ hr
      have e : t.toNat - a = k := by omega
      rw [e]
      rw [Nat.sub_zero] at h6
      rw [h6]
      congr 1
      simp at h4
      omega
    · rename_i h0
      simp only [Prod.mk.injEq] at h
      exact absurd h.2.2 h0
theorem take_cut (l : List UInt8) (a b : Nat) (h : a ≤ b) : l.take b = l.take a ++ (l.drop a).take (b - a) := by
  conv => lhs; rw [show b = a + (b - a) by omega, List.take_add]
theorem Wr.sect_canon {l : List UInt8} {a a' : Nat} {id : UInt8} {d : List UInt8} (h : Wr.sect l a 0 id = (d, a', 0)) : (l.drop a).take (a' - a) = Wr.frame id d ∧ a ≤ a' ∧ a' ≤ l.length := by
  unfold Wr.sect at h
  rw [if_neg (by simp)] at h
  by_cases h0 : (Wr.section1 l a id).2.2 = 0
  · rw [if_neg (by simpa using h0)] at h
    obtain ⟨s, hs⟩ : ∃ s, Wr.section1 l a id = s := ⟨_, rfl⟩
    rw [hs] at h h0
    obtain ⟨d', t', er⟩ := s
    simp only at h0 h
    subst h0
    simp only [Prod.mk.injEq, and_true] at h
    obtain ⟨rfl, rfl⟩ := h
    unfold Wr.section1 at hs
    by_cases ha : a < l.length
    · rw [dif_pos ha] at hs
      split at hs
      · simp at hs
      · rename_i hid
        obtain ⟨g, hg⟩ : ∃ g, Vi.get l ((a : Int) + 1) = g := ⟨_, rfl⟩
        rw [hg] at hs
        obtain ⟨x, t, eg⟩ := g
        simp only at hs
        split at hs
        · rename_i h1
          simp only [Prod.mk.injEq] at hs
          omega
        · rename_i h1
          have h1 : eg = 0 := by simpa using h1
          subst h1
          split at hs
          · simp at hs
          · rename_i h2
            split at hs
            · simp at hs
            · rename_i h3
              have h3 : Crc.chk ((l.drop a).take (t.toNat + x + 4 - a)) = true := by simpa using h3
              simp only [Prod.mk.injEq, and_true] at hs
              obtain ⟨hd, ht'⟩ := hs
              obtain ⟨c1, c2, c3⟩ := Vi.get_canon (a := a + 1) (by rw [Int.natCast_add]; exact hg)
              have hto := Vi.get_to (a := a + 1) (by rw [Int.natCast_add]; exact hg)
              have e1 : t'.toNat = t.toNat + x + 4 := by omega
              rw [e1]
              refine ⟨?_, by omega, by omega⟩
              have hlen : ((l.drop a).take (t.toNat + x + 4 - a)).length = t.toNat + x + 4 - a := by rw [List.length_take, List.length_drop]; omega
              unfold Crc.chk at h3
              rw [Bool.and_eq_true, beq_iff_eq] at h3
              rw [h3.2, hlen, List.take_take, show min (t.toNat + x + 4 - a - 4) (t.toNat + x + 4 - a) = t.toNat + x - a by omega]
              have hdl : d'.length = x := by rw [← hd, List.length_take, List.length_drop]; omega
              have hX : (l.drop a).take (t.toNat + x - a) = id :: Wr.str d' := by
                rw [List.drop_eq_getElem_cons ha, show t.toNat + x - a = (t.toNat + x - (a + 1)) + 1 by omega, List.take_succ_cons]
                have hid' : l[a] = id := by simpa using hid
                rw [hid']
                congr 1
                rw [take_cut (l.drop (a + 1)) (t.toNat - (a + 1)) (t.toNat + x - (a + 1)) (by omega), c1, List.drop_drop, show a + 1 + (t.toNat - (a + 1)) = t.toNat by omega, show t.toNat + x - (a + 1) - (t.toNat - (a + 1)) = x by omega, hd]
                unfold Wr.str
                rw [hdl]
              rw [hX]
              rfl
    · rw [dif_neg ha] at hs
      simp at hs
  · rw [if_pos h0] at h
    simp only [Prod.mk.injEq] at h
    exact absurd h.2.2 h0
namespace Ly
theorem S_back (l : List UInt8) (k : Nat) (h : (S l (k + 1)).2 = 0) : (S l k).2 = 0 := by
  by_cases h0 : (S l k).2 = 0
  · exact h0
  · rw [S_succ] at h
    unfold Wr.sect at h
    rw [if_pos h0] at h
    exact h
theorem S_zero' (l : List UInt8) (k n : Nat) (hk : k ≤ n) (h : (S l n).2 = 0) : (S l k).2 = 0 := by
  induction n with
  | zero => rw [Nat.le_zero.1 hk]; exact h
  | succ n ih =>
    rcases Nat.lt_or_ge n k with h1 | h1
    · rw [show k = n + 1 by omega]; exact h
    · exact ih h1 (S_back l n h)
theorem S_frame (l : List UInt8) (k : Nat) (h : (S l (k + 1)).2 = 0) : (l.drop (S l k).1).take ((S l (k + 1)).1 - (S l k).1) = Wr.frame (UInt8.ofNat (1 + k)) (sec l k) ∧ (S l k).1 ≤ (S l (k + 1)).1 ∧ (S l (k + 1)).1 ≤ l.length := by
  have h0 := S_back l k h
  refine Wr.sect_canon ?_
  rw [S_succ] at h ⊢
  rw [sec_eq]
  rw [h0] at h ⊢
  generalize Wr.sect l (S l k).1 0 (UInt8.ofNat (1 + k)) = s at *
  obtain ⟨d, a', e⟩ := s
  simp only at h ⊢
  rw [h]
theorem lit_take {b s : List UInt8} (h : lit b s = 0) : b.take s.length = s := by
  have hl := lit_zero h
  unfold lit at h
  have hm : min b.length s.length = s.length := by omega
  rw [hm] at h
  split at h
  · omega
  · rename_i h1
    have h1 : b.take s.length = s.take s.length := by simpa using h1
    rw [h1, List.take_length]
theorem S_pre (l : List UInt8) (hl : lit l head = 0) (k : Nat) (h : (S l k).2 = 0) : l.take (S l k).1 = pre (sec l) k ∧ (S l k).1 = off (sec l) k ∧ (S l k).1 ≤ l.length := by
  induction k with
  | zero =>
    have h0 : (S l 0).1 = 5 := by show a0 l = 5; unfold a0; rw [if_pos hl]
    have h1 := lit_take hl
    have h2 := lit_zero hl
    have h3 : pre (sec l) 0 = head := by simp [pre]
    refine ⟨?_, ?_, ?_⟩
    · rw [h0, h3]; exact h1
    · rw [h0]; unfold off; rw [h3]; rfl
    · rw [h0]; exact h2
  | succ k ih =>
    obtain ⟨i1, i2, i3⟩ := ih (S_back l k h)
    obtain ⟨f1, f2, f3⟩ := S_frame l k h
    have h4 : l.take (S l (k + 1)).1 = pre (sec l) (k + 1) := by rw [take_cut l _ _ f2, i1, f1, ← pre_succ]
    refine ⟨h4, ?_, f3⟩
    unfold off
    rw [← h4, List.length_take]
    omega
theorem canon (l : List UInt8) (h : pe l = 0) : asm (sec l) = l := by
  have hS : (S l 5).2 = 0 := by
    by_cases h0 : (S l 5).2 = 0
    · exact h0
    · unfold pe at h
      rw [if_pos h0] at h
      exact absurd h h0
  have hl : lit l head = 0 := by
    by_cases h0 : lit l head = 0
    · exact h0
    · have := S_err l h0 5
      rw [hS] at this
      exact this.symm
  unfold pe at h
  rw [if_neg (by simpa using hS)] at h
  split at h
  · omega
  · rename_i hc
    split at h
    · omega
    · rename_i hsh
      split at h
      · omega
      · rename_i hck
        split at h
        · rename_i ht
          exact absurd h ht
        · rename_i ht
          split at h
          · omega
          · rename_i htr
            have hc : sec l 4 = con (aoff l) 4 := by simpa using hc
            have hck : Crc.chk (l.take (aoff l 5 + 4)) = true := by simpa using hck
            have ht : lit (l.drop (aoff l 5 + 4)) tail = 0 := by simpa using ht
            have h4 := S_zero' l 4 5 (by omega) hS
            obtain ⟨p1, p2, p3⟩ := S_pre l hl 4 h4
            obtain ⟨f1, f2, f3⟩ := S_frame l 4 hS
            have hoff : con (aoff l) 4 = con (off (sec l)) 4 := con_congr 4 fun i hi => by
              have h5 := S_zero' l i 5 (by omega) hS
              exact (S_pre l hl i h5).2.1
            have hbody : l.take (aoff l 5) = body (sec l) := by
              show l.take (S l 5).1 = _
              rw [take_cut l _ _ f2, p1, f1, hc, hoff]
              rfl
            have ha5 : aoff l 5 ≤ l.length := f3
            have happ : l.take (aoff l 5 + 4) = Crc.app (body (sec l)) := by
              have hlen : (l.take (aoff l 5 + 4)).length = aoff l 5 + 4 := by rw [List.length_take]; omega
              unfold Crc.chk at hck
              rw [Bool.and_eq_true, beq_iff_eq] at hck
              rw [hck.2, hlen, List.take_take, show min (aoff l 5 + 4 - 4) (aoff l 5 + 4) = aoff l 5 by omega, hbody]
            have htl := lit_take ht
            have htz := lit_zero ht
            rw [List.length_drop] at htz
            have h4t : tail.length = 4 := rfl
            rw [List.take_of_length_le (by rw [List.length_drop]; omega)] at htl
            unfold asm
            rw [← happ, ← htl, List.take_append_drop]
end Ly
end Go.Proofs.YtknfkbgnfjfpeaaDoor
