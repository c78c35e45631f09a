/- What was framed is read back: the plain laws of chapter 4. -/
import Derived.Test.YtknfkbgnfjfpeaaDoorWireJ
namespace Go.Proofs.YtknfkbgnfjfpeaaDoor
open Go.RowKit

theorem Wr.frame_len_eq (id : UInt8) (d : List UInt8) : (Wr.frame id d).length = 1 + (Vi.enc d.length).length + d.length + 4 := by
  unfold Wr.frame Wr.str
  rw [Crc.app_len', List.length_cons, List.length_append]
  omega
theorem Wr.frame_split (id : UInt8) (d : List UInt8) : ∃ q, Wr.frame id d = [id] ++ Vi.enc d.length ++ (d ++ q) ∧ q.length = 4 := by
  refine ⟨Crc.four (Crc.sum (id :: Wr.str d)), ?_, by simp [Crc.four]⟩
  unfold Wr.frame Wr.str Crc.app
  simp
theorem Wr.sect_frame (P R d : List UInt8) (id : UInt8) (hd : d.length < 18446744073709551616) : Wr.sect (P ++ Wr.frame id d ++ R) P.length 0 id = (d, P.length + (Wr.frame id d).length, 0) := by
  obtain ⟨q, hq, hq4⟩ := Wr.frame_split id d
  have hl := Wr.frame_len_eq id d
  have hlen : (P ++ Wr.frame id d ++ R).length = P.length + (Wr.frame id d).length + R.length := by simp; omega
  have ha : P.length < (P ++ Wr.frame id d ++ R).length := by omega
  have hget0 : (P ++ Wr.frame id d ++ R)[P.length] = id := by
    have : (P ++ Wr.frame id d ++ R)[P.length]? = some id := by
      rw [List.append_assoc, List.getElem?_append_right (Nat.le_refl _), hq]
      simp
    exact (List.getElem?_eq_some_iff.1 this).2
  have hget : Vi.get (P ++ Wr.frame id d ++ R) ((P.length : Int) + 1) = (d.length, ((P.length + 1 + (Vi.enc d.length).length : Nat) : Int), 0) := by
    have h := Vi.get_enc (P ++ [id]) d.length (d ++ q ++ R) hd
    have e : P ++ Wr.frame id d ++ R = P ++ [id] ++ Vi.enc d.length ++ (d ++ q ++ R) := by rw [hq]; simp
    rw [e]
    rw [List.length_append] at h
    simpa using h
  have hsec : Wr.section1 (P ++ Wr.frame id d ++ R) P.length id = (d, ((P.length + (Wr.frame id d).length : Nat) : Int), 0) := by
    unfold Wr.section1
    rw [dif_pos ha, if_neg (by rw [hget0]; simp), hget]
    simp only
    rw [if_neg (by simp), if_neg (by rw [hlen]; omega)]
    have e1 : (P.length + 1 + (Vi.enc d.length).length : Nat) + d.length + 4 - P.length = (Wr.frame id d).length := by omega
    rw [Int.toNat_natCast, e1]
    have e2 : ((P ++ Wr.frame id d ++ R).drop P.length).take (Wr.frame id d).length = Wr.frame id d := by
      rw [List.append_assoc, List.drop_left, List.take_left]
    have e3 : Crc.chk (Wr.frame id d) = true := Crc.chk_app _
    rw [e2, e3, if_neg (by simp)]
    have e4 : ((P ++ Wr.frame id d ++ R).drop (P.length + 1 + (Vi.enc d.length).length)).take d.length = d := by
      have e : P ++ Wr.frame id d ++ R = (P ++ [id] ++ Vi.enc d.length) ++ (d ++ (q ++ R)) := by rw [hq]; simp
      have e5 : P.length + 1 + (Vi.enc d.length).length = (P ++ [id] ++ Vi.enc d.length).length := by simp; omega
      rw [e, e5, List.drop_left, List.take_left]
    rw [e4]
    simp only [Prod.mk.injEq, true_and, and_true]
    omega
  unfold Wr.sect
  rw [if_neg (by simp), hsec]
  simp only [ne_eq, not_true_eq_false, if_false, Int.toNat_natCast]
theorem Wr.string_str (P R d : List UInt8) (m : Int) (hd : d.length < 18446744073709551616) (hm : (d.length : Int) ≤ m) : Wr.string (P ++ Wr.str d ++ R) P.length 0 m = (d, P.length + (Wr.str d).length, 0) := by
  have hsl : (Wr.str d).length = (Vi.enc d.length).length + d.length := by unfold Wr.str; simp
  have hlen : (P ++ Wr.str d ++ R).length = P.length + (Wr.str d).length + R.length := by simp; omega
  have hget : Vi.get (P ++ Wr.str d ++ R) (P.length : Int) = (d.length, ((P.length + (Vi.enc d.length).length : Nat) : Int), 0) := by
    have h := Vi.get_enc P d.length (d ++ R) hd
    have e : P ++ Wr.str d ++ R = P ++ Vi.enc d.length ++ (d ++ R) := by unfold Wr.str; simp
    rw [e]
    exact h
  have hs1 : Wr.string1 (P ++ Wr.str d ++ R) (Vi.get (P ++ Wr.str d ++ R) (P.length : Int)) m = (d, ((P.length + (Wr.str d).length : Nat) : Int), 0) := by
    rw [hget]
    unfold Wr.string1
    rw [if_neg (by simp), if_neg (by simp; omega), if_neg (by simp only; rw [hlen]; omega)]
    simp only [Int.toNat_natCast]
    have e4 : ((P ++ Wr.str d ++ R).drop (P.length + (Vi.enc d.length).length)).take d.length = d := by
      have e : P ++ Wr.str d ++ R = (P ++ Vi.enc d.length) ++ (d ++ R) := by unfold Wr.str; simp
      have e5 : P.length + (Vi.enc d.length).length = (P ++ Vi.enc d.length).length := by simp
      rw [e, e5, List.drop_left, List.take_left]
    rw [e4]
    simp only [Prod.mk.injEq, true_and, and_true]
    omega
  unfold Wr.string
  rw [if_neg (by simp), hs1]
  simp only [ne_eq, not_true_eq_false, if_false, Int.toNat_natCast]
/-- a section that fills its bytes passes the check -/
theorem Wr.sect_full (c : List UInt8) (x : UInt8) (h : (Wr.sect c 0 0 x).2.2 = 0) (hl : (Wr.sect c 0 0 x).2.1 = c.length) : Crc.chk c = true := by
  unfold Wr.sect at h hl
  rw [if_neg (by simp)] at h hl
  by_cases h1 : (Wr.section1 c 0 x).2.2 = 0
  · rw [if_neg (by simpa using h1)] at hl
    simp only at hl
    revert h1 hl
    unfold Wr.section1
    by_cases ha : 0 < c.length
    · rw [dif_pos ha]
      split
      · simp
      · simp only
        obtain ⟨r, hr⟩ : ∃ r, Vi.get c ((0 : Nat) + 1 : Int) = r := ⟨_, rfl⟩
        have hr' : Vi.get c (((0 : Nat) : Int) + 1) = r := hr
        rw [hr']
        have hto := fun x t (hh : r = (x, t, 0)) => Vi.get_to (a := 0 + 1) (by rw [Int.natCast_add]; exact hr'.trans hh)
        obtain ⟨x', t, er⟩ := r
        simp only
        by_cases h0 : er = 0
        · subst h0
          have ht := hto x' t rfl
          rw [if_neg (by simp)]
          split
          · simp
          · split
            · simp
            · rename_i hck
              intro hl _
              have hl : (t + (x' : Int) + 4).toNat = c.length := hl
              have e : t.toNat + x' + 4 - 0 = c.length := by omega
              rw [e, List.drop_zero, List.take_length] at hck
              simpa using hck
        · rw [if_pos h0]
          intro _ h1; simp at h1; omega
    · rw [dif_neg ha]
      simp
  · rw [if_pos h1] at h
    exact absurd h h1
end Go.Proofs.YtknfkbgnfjfpeaaDoor
