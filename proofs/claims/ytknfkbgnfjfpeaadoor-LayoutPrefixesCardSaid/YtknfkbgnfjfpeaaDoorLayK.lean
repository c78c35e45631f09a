/- Chapter 16, plainly: an assembled file is read back. -/
import Derived.Test.YtknfkbgnfjfpeaaDoorLayJ
namespace Go.Proofs.YtknfkbgnfjfpeaaDoor
open Go.RowKit

namespace Ly
theorem pre_split (D : Nat → List UInt8) (k n : Nat) (h : k ≤ n) : ∃ R, pre D n = pre D k ++ R := by
  obtain ⟨m, rfl⟩ := Nat.le.dest h
  exact ⟨_, by unfold pre; rw [List.range_add, List.flatMap_append, ← List.append_assoc]⟩
theorem asm_eq (D : Nat → List UInt8) : asm D = body D ++ (Crc.four (Crc.sum (body D)) ++ tail) := by unfold asm Crc.app; rw [List.append_assoc]
theorem lit_head (D : Nat → List UInt8) : lit (asm D) head = 0 := by
  have h : ∃ R, asm D = head ++ R := ⟨_, by rw [asm_eq]; unfold body pre; simp only [List.append_assoc]; rfl⟩
  obtain ⟨R, h⟩ := h
  rw [h]
  have hl : head.length = 5 := rfl
  have hm : min (head ++ R).length head.length = 5 := by rw [List.length_append]; omega
  unfold lit
  rw [hm, if_neg (by rw [show (5 : Nat) = head.length from rfl, List.take_left, List.take_length]; simp), if_neg (by rw [List.length_append]; omega)]
theorem S_zero (D : Nat → List UInt8) : S (asm D) 0 = (off D 0, 0) := by
  show (a0 (asm D), lit (asm D) head) = _
  unfold a0
  rw [if_pos (lit_head D), lit_head]
  rfl
theorem S_step (D : Nat → List UInt8) (hD : tot D 4 ≤ 140737488352000) (k : Nat) (hk : k < 4) (h : S (asm D) k = (off D k, 0)) : S (asm D) (k + 1) = (off D (k + 1), 0) ∧ sec (asm D) k = D k := by
  obtain ⟨R, hR⟩ := pre_split D (k + 1) 4 (by omega)
  have he : asm D = pre D k ++ Wr.frame (UInt8.ofNat (1 + k)) (D k) ++ (R ++ Wr.frame 5 (con (off D) 4) ++ (Crc.four (Crc.sum (body D)) ++ tail)) := by
    rw [asm_eq]
    conv => lhs; arg 1; unfold body
    rw [hR, pre_succ]
    simp only [List.append_assoc]
  have hs := Wr.sect_frame (pre D k) (R ++ Wr.frame 5 (con (off D) 4) ++ (Crc.four (Crc.sum (body D)) ++ tail)) (D k) (UInt8.ofNat (1 + k)) (by have := tot_dat D k 4 hk; omega)
  rw [← he] at hs
  have ho : (pre D k).length = off D k := rfl
  rw [ho] at hs
  rw [S_succ, sec_eq, h]
  simp only
  rw [hs]
  refine ⟨?_, rfl⟩
  simp only [Prod.mk.injEq, and_true]
  unfold off
  rw [pre_succ, List.length_append]
theorem S_all (D : Nat → List UInt8) (hD : tot D 4 ≤ 140737488352000) (k : Nat) (hk : k ≤ 4) : S (asm D) k = (off D k, 0) := by
  induction k with
  | zero => exact S_zero D
  | succ k ih => exact (S_step D hD k (by omega) (ih (by omega))).1
theorem off_le (D : Nat → List UInt8) (hD : tot D 4 ≤ 140737488352000) (k : Nat) (hk : k ≤ 4) : off D k ≤ 140737488352100 := pre_len D hD k hk
theorem con_small (D : Nat → List UInt8) (hD : tot D 4 ≤ 140737488352000) : (con (off D) 4).length ≤ 40 := by
  have h : con (off D) 4 = con (mk (off D) 4) 4 := con_congr 4 fun i hi => by unfold mk; rw [if_pos hi]
  rw [h]
  refine con_len _ (fun i => ?_) 4
  unfold mk
  split
  · rename_i hi
    have h1 := off_le D hD i (by omega)
    omega
  · omega
theorem S_five (D : Nat → List UInt8) (hD : tot D 4 ≤ 140737488352000) : S (asm D) 5 = ((body D).length, 0) ∧ sec (asm D) 4 = con (off D) 4 := by
  have hc := con_small D hD
  have he : asm D = pre D 4 ++ Wr.frame 5 (con (off D) 4) ++ (Crc.four (Crc.sum (body D)) ++ tail) := by rw [asm_eq]; rfl
  have hs := Wr.sect_frame (pre D 4) (Crc.four (Crc.sum (body D)) ++ tail) (con (off D) 4) 5 (by omega)
  rw [← he] at hs
  have ho : (pre D 4).length = off D 4 := rfl
  rw [ho] at hs
  have h4 := S_all D hD 4 (by omega)
  rw [S_succ, sec_eq, h4]
  simp only
  rw [show UInt8.ofNat (1 + 4) = 5 from rfl, hs]
  refine ⟨?_, rfl⟩
  simp only [Prod.mk.injEq, and_true]
  unfold body off
  rw [List.length_append]
theorem aoff_asm (D : Nat → List UInt8) (hD : tot D 4 ≤ 140737488352000) (k : Nat) (hk : k ≤ 4) : aoff (asm D) k = off D k := by
  unfold aoff
  rw [S_all D hD k hk]
theorem asm_len (D : Nat → List UInt8) : (asm D).length = (body D).length + 8 := by
  unfold asm
  rw [List.length_append, Crc.app_len']
  rfl
theorem pe_asm (D : Nat → List UInt8) (hD : tot D 4 ≤ 140737488352000) : pe (asm D) = 0 := by
  obtain ⟨h5, h4⟩ := S_five D hD
  have ha5 : aoff (asm D) 5 = (body D).length := by unfold aoff; rw [h5]
  have hl := asm_len D
  have hc : con (aoff (asm D)) 4 = con (off D) 4 := con_congr 4 fun i hi => aoff_asm D hD i (by omega)
  have ht : (asm D).take ((body D).length + 4) = Crc.app (body D) := by
    unfold asm
    rw [← Crc.app_len', List.take_left]
  have hd : (asm D).drop ((body D).length + 4) = tail := by
    unfold asm
    rw [← Crc.app_len', List.drop_left]
  have hlt : lit tail tail = 0 := by decide
  unfold pe
  rw [h5, h4, hc, ha5, ht, hd, hlt, Crc.chk_app, hl]
  simp only [ne_eq, not_true_eq_false, if_false]
  rw [if_neg (by omega), if_neg (by simp), if_neg (by omega)]
theorem outS_asm (D : Nat → List UInt8) (hD : tot D 4 ≤ 140737488352000) (k : Nat) (hk : k < 4) : outS (asm D) k = D k := by
  unfold outS
  rw [if_pos (pe_asm D hD)]
  exact (S_step D hD k hk (S_all D hD k (by omega))).2
theorem outA_asm (D : Nat → List UInt8) (hD : tot D 4 ≤ 140737488352000) (k : Nat) (hk : k ≤ 4) : outA (asm D) k = off D k := by
  unfold outA
  rw [if_pos (pe_asm D hD)]
  exact aoff_asm D hD k hk
end Ly
end Go.Proofs.YtknfkbgnfjfpeaaDoor
