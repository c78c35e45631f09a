/- The law LayoutIsCanonical. -/
import Derived.Test.YtknfkbgnfjfpeaaDoorLayO
import Derived.Test.YtknfkbgnfjfpeaaDoorLayP
namespace Go.Proofs.YtknfkbgnfjfpeaaDoor
open Go.RowKit Go.Shelf

namespace Ly
theorem frame_ge (id : UInt8) (d : List UInt8) : d.length ≤ (Wr.frame id d).length := by
  rw [Wr.frame_len_eq]
  omega
theorem tot_pre (D : Nat → List UInt8) : ∀ k, tot D k ≤ (pre D k).length
  | 0 => Nat.zero_le _
  | k + 1 => by
    have h := tot_pre D k
    have h1 := frame_ge (UInt8.ofNat (1 + k)) (D k)
    have h2 : tot D (k + 1) = tot D k + (D k).length := rfl
    rw [pre_succ, List.length_append]
    omega
theorem tot_asm (D : Nat → List UInt8) : tot D 4 ≤ (asm D).length := by
  have h := tot_pre D 4
  rw [asm_len]
  unfold body
  rw [List.length_append]
  omega
theorem outS_bad {l : List UInt8} (h : pe l ≠ 0) (i : Nat) : outS l i = [] := by unfold outS; rw [if_neg h]
theorem outS_good {l : List UInt8} (h : pe l = 0) : outS l = sec l := by funext i; unfold outS; rw [if_pos h]
end Ly
def nilV : Nat → Value := fun _ => .slice none 0 0
theorem Four.nils (w : World) : Four w w.heap.size nilV (fun _ => []) := fun _ _ => ⟨none, 0, 0, rfl, (OwnB.nil w w.heap.size).rd⟩
set_option maxRecDepth 100000 in
set_option maxHeartbeats 8000000 in
theorem law_lcanon (A : Option Addr) (n c : Nat) (l : List UInt8) (w : World) (hv : RdB w w.heap.size A n c l) (ht : Tab w) :
    Calls Tryd.prog 11 #[.slice A n c] w fun r w' => r = .returned (.bool true) ∧ Below w.heap.size w w' := by
  have hlc := hv.1
  have hcm := hv.2.1
  have hlen := hv.len
  unfold maxLen at hcm
  have V := Kept.mk hv
  have T := Kept.mk ht
  clear hv ht
  by_cases hbig : (10000 : Int) < (n : Int)
  · clear hlen
    go_enter Tryd.func11, Tryd.ntmps11
    go_wp2_with (go_at_call 37; refine (alive16_any _ T.out).mono ?_; rintro e w1 ⟨rfl, hb1⟩)
    go_ret
    exact ⟨rfl, hb1⟩
  have hsm : (n : Int) ≤ 10000 := by omega
  clear hbig
  have hgood : Kept (Ly.pe l = 0 → Ly.asm (Ly.outS l) = l ∧ Ly.tot (Ly.outS l) 4 ≤ 140737488352000) := ⟨fun h => by
    rw [Ly.outS_good h]
    have h1 := Ly.canon l h
    have h2 := Ly.tot_asm (Ly.sec l)
    rw [h1] at h2
    exact ⟨h1, by omega⟩⟩
  have hbad : Kept (Ly.pe l ≠ 0 → ∀ i, Ly.outS l i = []) := ⟨Ly.outS_bad⟩
  clear hlen
  by_cases hpe : Ly.pe l = 0
  · have HF := Kept.mk hpe
    obtain ⟨hasm, htot⟩ := hgood.out hpe
    clear hgood hbad hpe
    have HA := Kept.mk hasm
    have HT := Kept.mk htot
    clear hasm htot
    go_enter Tryd.func11, Tryd.ntmps11
    go_upto_region 4 with (go_at_call 42; refine (lParse_any A n c l w V.out (by omega) T.out).mono ?_; rintro r w2 ⟨S, rfl, hf, hb⟩; obtain ⟨Aa, na, ca, Ab, nb, cb, Ac, nc, cc, Ad, nd, cd, hS⟩ := hf.lit; rw [hS, HF.out]; have f2 := Kept.mk hf; have b2 := Kept.mk hb; have HS := Kept.mk hS; clear hf hb hS)
    have F2 := Kept.mk (f2.out.below ((Below.refl _ w2).alloc (Nat.le_refl _) (.cells #[.slice Aa na ca, .slice Ab nb cb, .slice Ac nc cc, .slice Ad nd cd] 65)))
    have B2 := Kept.mk (b2.out.alloc b2.out.size (.cells #[.slice Aa na ca, .slice Ab nb cb, .slice Ac nc cc, .slice Ad nd cd] 65))
    have C2 := Kept.mk (cells_new w2 #[.slice Aa na ca, .slice Ab nb cb, .slice Ac nc cc, .slice Ad nd cd] 65)
    have z2 : w2.heap.size < (w2.alloc (.cells #[.slice Aa na ca, .slice Ab nb cb, .slice Ac nc cc, .slice Ad nd cd] 65)).heap.size := by simp
    clear f2 b2
    generalize w2.alloc (.cells #[.slice Aa na ca, .slice Ab nb cb, .slice Ac nc cc, .slice Ad nd cd] 65) = W2 at *
    generalize w2.heap.size = gs at *
    go_wp2_with (first
      | (go_at_call 37; refine (alive16_any _ (T.out.below B2.out)).mono ?_; rintro e w5 ⟨rfl, hb5⟩;
          have x0 : w5.cell? ⟨gs, 0, none⟩ = some (.slice Aa na ca) := cells_keep C2.out hb5 (by omega) 0;
          have x1 : w5.cell? ⟨gs, 1, none⟩ = some (.slice Ab nb cb) := cells_keep C2.out hb5 (by omega) 1;
          have x2 : w5.cell? ⟨gs, 2, none⟩ = some (.slice Ac nc cc) := cells_keep C2.out hb5 (by omega) 2;
          have x3 : w5.cell? ⟨gs, 3, none⟩ = some (.slice Ad nd cd) := cells_keep C2.out hb5 (by omega) 3;
          have B5 := Kept.mk (bl_next B2.out hb5);
          have zz5 := B5.out.size;
          have V5 := Kept.mk ((V.out.below B5.out).more (B' := w5.heap.size) zz5);
          have HX := assemble_any S (Ly.outS l) w5 (F2.out.below hb5).four HT.out (T.out.below B5.out);
          rw [HS.out] at HX; have HX' := Kept.mk HX; clear hb5 HX)
      | (go_at_call 38; refine HX'.out.mono ?_; rintro r w6 ⟨A6, n6, c6, rfl, ho6, hb6⟩; rw [HA.out] at ho6; have X6 := Kept.mk ho6.rd; have V6 := Kept.mk ((V5.out.below hb6).more (B' := w6.heap.size) hb6.size); have B6 := Kept.mk (bl_next B5.out hb6); clear ho6 hb6)
      | (go_at_call 19; refine (equal_is _ _ _ _ _ _ l l true w6 _ _ X6.out V6.out (by simp)).mono ?_; rintro r w8 ⟨rfl, rfl⟩))
    go_ret
    exact ⟨rfl, B6.out⟩
  · have HB := Kept.mk (hbad.out hpe)
    obtain ⟨f, hf0⟩ : ∃ f, Ly.pe l = f := ⟨_, rfl⟩
    have HF := Kept.mk hf0
    have hf : ¬ f = 0 := by rw [← hf0]; exact hpe
    clear hgood hbad hpe hf0
    go_enter Tryd.func11, Tryd.ntmps11
    go_upto_region 4 with (go_at_call 42; refine (lParse_any A n c l w V.out (by omega) T.out).mono ?_; rintro r w2 ⟨S, rfl, hf, hb⟩; obtain ⟨Aa, na, ca, Ab, nb, cb, Ac, nc, cc, Ad, nd, cd, hS⟩ := hf.lit; rw [hS, HF.out]; have f2 := Kept.mk hf; have b2 := Kept.mk hb; have HS := Kept.mk hS; clear hf hb hS)
    have F2 := Kept.mk (f2.out.below ((Below.refl _ w2).alloc (Nat.le_refl _) (.cells #[.slice Aa na ca, .slice Ab nb cb, .slice Ac nc cc, .slice Ad nd cd] 65)))
    have B2 := Kept.mk (b2.out.alloc b2.out.size (.cells #[.slice Aa na ca, .slice Ab nb cb, .slice Ac nc cc, .slice Ad nd cd] 65))
    have C2 := Kept.mk (cells_new w2 #[.slice Aa na ca, .slice Ab nb cb, .slice Ac nc cc, .slice Ad nd cd] 65)
    have z2 : w2.heap.size < (w2.alloc (.cells #[.slice Aa na ca, .slice Ab nb cb, .slice Ac nc cc, .slice Ad nd cd] 65)).heap.size := by simp
    clear f2 b2
    generalize w2.alloc (.cells #[.slice Aa na ca, .slice Ab nb cb, .slice Ac nc cc, .slice Ad nd cd] 65) = W2 at *
    generalize w2.heap.size = gs at *
    go_wp2_with (first
      | (go_at_call 37; refine (alive16_any _ (T.out.below B2.out)).mono ?_; rintro e w5 ⟨rfl, hb5⟩;
          have x0 : w5.cell? ⟨gs, 0, none⟩ = some (.slice Aa na ca) := cells_keep C2.out hb5 (by omega) 0;
          have x1 : w5.cell? ⟨gs, 1, none⟩ = some (.slice Ab nb cb) := cells_keep C2.out hb5 (by omega) 1;
          have x2 : w5.cell? ⟨gs, 2, none⟩ = some (.slice Ac nc cc) := cells_keep C2.out hb5 (by omega) 2;
          have x3 : w5.cell? ⟨gs, 3, none⟩ = some (.slice Ad nd cd) := cells_keep C2.out hb5 (by omega) 3;
          have B5 := Kept.mk (bl_next B2.out hb5);
          have HX := same_true S nilV (Ly.outS l) (fun _ => []) w5 (F2.out.below hb5).four (Four.nils w5) (fun i _ => HB.out i);
          rw [HS.out] at HX; unfold Ly.ar4 nilV at HX; have HX' := Kept.mk HX; clear hb5 HX)
      | (go_at_call 43; refine HX'.out.mono ?_; rintro r w6 ⟨rfl, hb6⟩; have B6 := Kept.mk (bl_next B5.out hb6); clear hb6))
    go_ret
    exact ⟨rfl, B6.out⟩
end Go.Proofs.YtknfkbgnfjfpeaaDoor
