/- alive. -/
import Derived.Test.YtoomdjjjkolloabListsG
namespace Go.Proofs.Ytoomdjjjkolloab
open Go.RowKit Go.Shelf

theorem lit1 (w : World) (x : Int) : RdI (w.alloc (.cells #[.int .i64 x] 3)) (w.heap.size + 1) (some ⟨w.heap.size, 0, none⟩) 1 1 [x] := RdI.lit w [x] (by simp)
theorem lit2 (w : World) (x y : Int) : RdI (w.alloc (.cells #[.int .i64 x, .int .i64 y] 3)) (w.heap.size + 1) (some ⟨w.heap.size, 0, none⟩) 2 2 [x, y] := RdI.lit w [x, y] (by simp)
theorem lit3 (w : World) (x y z : Int) : RdI (w.alloc (.cells #[.int .i64 x, .int .i64 y, .int .i64 z] 3)) (w.heap.size + 1) (some ⟨w.heap.size, 0, none⟩) 3 3 [x, y, z] := RdI.lit w [x, y, z] (by simp)
theorem lit4 (w : World) (x y z u : Int) : RdI (w.alloc (.cells #[.int .i64 x, .int .i64 y, .int .i64 z, .int .i64 u] 3)) (w.heap.size + 1) (some ⟨w.heap.size, 0, none⟩) 4 4 [x, y, z, u] := RdI.lit w [x, y, z, u] (by simp)
/-- two lists, just laid -/
theorem RdII.two {w : World} {B n1 c1 n2 c2 : Nat} {A1 A2 : Option Addr} {l1 l2 : List Int} (h1 : RdI w B A1 n1 c1 l1) (h2 : RdI w B A2 n2 c2 l2) (hB : B ≤ w.heap.size) :
    RdII (w.alloc (.cells #[.slice A1 n1 c1, .slice A2 n2 c2] 22)) (w.heap.size + 1) (some ⟨w.heap.size, 0, none⟩) 2 2 [l1, l2] :=
  ⟨[.slice A1 n1 c1, .slice A2 n2 c2], ⟨Nat.le_refl _, by unfold maxLen; omega, rfl, fun _ => ⟨_, 0, rfl, by omega, fun i u hu => by
    match i, hu with
    | 0, hu => simp at hu; subst hu; exact World.cell?_alloc_mark w _ _ _ 0
    | 1, hu => simp at hu; subst hu; exact World.cell?_alloc_mark w _ _ _ 1⟩⟩, rfl, fun i l' hl => by
    match i, hl with
    | 0, hl => simp at hl; subst hl; exact ⟨A1, n1, c1, rfl, (h1.alloc hB _).more (by omega)⟩
    | 1, hl => simp at hl; subst hl; exact ⟨A2, n2, c2, rfl, (h2.alloc hB _).more (by omega)⟩⟩

theorem isSorted_is (A : Option Addr) (n c : Nat) (l : List Int) (b : Bool) (w : World) (B : Nat) (hv : RdI w B A n c l) (hb : Ls.srt l = b) :
    Calls Try.prog 10 #[.slice A n c] w fun e w' => e = .returned (.bool b) ∧ Quiet w w' := by
  have h := isSorted_any A n c l w B hv
  rw [hb] at h; exact h
theorem refIsSorted_is (A : Option Addr) (n c : Nat) (l : List Int) (b : Bool) (w : World) (B : Nat) (hv : RdI w B A n c l) (hb : Ls.srt l = b) :
    Calls Try.prog 11 #[.slice A n c] w fun e w' => e = .returned (.bool b) ∧ Quiet w w' := by
  have h := refIsSorted_any A n c l w B hv
  rw [hb] at h; exact h
theorem equalI_is (A1 A2 : Option Addr) (n1 n2 c1 c2 : Nat) (l1 l2 : List Int) (b : Bool) (w : World) (B1 B2 : Nat) (h1 : RdI w B1 A1 n1 c1 l1) (h2 : RdI w B2 A2 n2 c2 l2) (hb : decide (l1 = l2) = b) :
    Calls Try.prog 13 #[.slice A1 n1 c1, .slice A2 n2 c2] w fun e w' => e = .returned (.bool b) ∧ Quiet w w' := by
  have h := equalI_any A1 A2 n1 n2 c1 c2 l1 l2 w B1 B2 h1 h2
  rw [hb] at h; exact h
theorem Ls.alive0 : Kept (Ls.tot [[1, 2, 5], [2, 5, 9]] ≤ 1000000) := ⟨by simp [Ls.tot]⟩
theorem Ls.alive1 : Ls.piscs [[1, 2, 5], [2, 5, 9]] = [2, 5] := by
  show Ls.pisc _ _ = _
  rw [Ls.pisc_eq _ _ (by decide)]; decide
theorem Ls.alive2 : Ls.puni [] [[1, 2, 5], [2, 5, 9]] = [1, 2, 5, 9] := by rw [Ls.puni_eq _ (by decide)]; decide
theorem Ls.alive3 : Ls.pick (fun _ s => !s) [1, 2, 5] [2, 5, 9] = [1] := by rw [Ls.pdif_eq (by decide) (by decide)]; decide
theorem Ls.alive4 : Ls.pick (fun _ s => !s) (Ls.upto (6 : Int).toNat) [1, 2, 5] = [0, 3, 4] := by rw [Ls.pdif_eq (Ls.upto_S _) (by decide)]; decide
theorem Ls.alive5 : Ls.srt [1, 2, 5] = true := by decide

set_option maxHeartbeats 2000000 in
theorem alive_any (w : World) : Calls Try.prog 9 #[] w fun e w' => e = .returned (.bool true) ∧ Below w.heap.size w w' := by
  have L1 := lit3 w 1 2 5
  have L2 := lit3 (w.alloc (.cells #[.int .i64 1, .int .i64 2, .int .i64 5] 3)) 2 5 9
  have L1' := (L1.alloc (by simp) (.cells #[.int .i64 2, .int .i64 5, .int .i64 9] 3)).more (B' := w.heap.size + 1 + 1) (by omega)
  rw [World.size_alloc] at L2
  have hb2 : Below w.heap.size w ((w.alloc (.cells #[.int .i64 1, .int .i64 2, .int .i64 5] 3)).alloc (.cells #[.int .i64 2, .int .i64 5, .int .i64 9] 3)) := ((Below.refl _ w).alloc (Nat.le_refl _) _).alloc (by simp) _
  have hz2 : ((w.alloc (.cells #[.int .i64 1, .int .i64 2, .int .i64 5] 3)).alloc (.cells #[.int .i64 2, .int .i64 5, .int .i64 9] 3)).heap.size = w.heap.size + 1 + 1 := by simp
  clear L1
  go_enter Try.func9, Try.ntmps9
  go_upto_region 2 with fail
  generalize ((w.alloc (.cells #[.int .i64 1, .int .i64 2, .int .i64 5] 3)).alloc (.cells #[.int .i64 2, .int .i64 5, .int .i64 9] 3)) = w2 at *
  replace hz2 := Nat.le_of_eq hz2.symm
  have Ra := hide L1'
  have Rb := hide L2
  clear L1' L2
  have R1 := Kept.mk (RdII.two Ra.out Rb.out (by omega))
  go_wp2_with (first
    | (go_at_call 14; refine (intersect_any _ _ _ _ [[1, 2, 5], [2, 5, 9]] _ R1.out (by simp) Ls.alive0.out).mono ?_; rintro e w3 ⟨A3, n3, c3, rfl, -, ho3, hb3⟩; rw [Ls.alive1] at ho3; have hb3' : Below w2.heap.size w2 w3 := ((Below.refl _ w2).alloc (Nat.le_refl _) _).trans (hb3.mono (by simp)); have Q3 := Kept.mk (lit2 w3 2 5); have P3 := Kept.mk (ho3.rd.alloc (Nat.le_refl _) (.cells #[.int .i64 2, .int .i64 5] 3)); have hz3 := hb3'.size; clear ho3 hb3)
    | (go_at_call 13; refine (equalI_is _ _ _ _ _ _ [2, 5] [2, 5] true _ _ _ P3.out Q3.out (by decide)).mono ?_; rintro e w4 ⟨rfl, q4⟩; clear P3 Q3; have hb4 : Below w2.heap.size w2 w4 := (hb3'.alloc hz3 _).trans (q4.below _); have hz4 := hb4.size; have Ra4 := Kept.mk (Ra.out.below (hb4.mono (by omega))); have Rb4 := Kept.mk (Rb.out.below (hb4.mono (by omega))); have R4 := Kept.mk (RdII.two Ra4.out Rb4.out (by omega)))
    | (go_at_call 16; refine (union_any _ _ _ _ [[1, 2, 5], [2, 5, 9]] _ R4.out (by simp) Ls.alive0.out).mono ?_; rintro e w5 ⟨A5, n5, c5, rfl, -, ho5, hb5⟩; rw [Ls.alive2] at ho5; have hb5' : Below w2.heap.size w2 w5 := (hb4.alloc hz4 _).trans (hb5.mono (by simp; omega)); have Q5 := Kept.mk (lit4 w5 1 2 5 9); have P5 := Kept.mk (ho5.rd.alloc (Nat.le_refl _) (.cells #[.int .i64 1, .int .i64 2, .int .i64 5, .int .i64 9] 3)); have hz5 := hb5'.size; clear ho5 hb5)
    | (go_at_call 13; refine (equalI_is _ _ _ _ _ _ [1, 2, 5, 9] [1, 2, 5, 9] true _ _ _ P5.out Q5.out (by decide)).mono ?_; rintro e w6 ⟨rfl, q6⟩; clear P5 Q5; have hb6 : Below w2.heap.size w2 w6 := (hb5'.alloc hz5 _).trans (q6.below _); have hz6 := hb6.size; have Ra6 := Kept.mk (Ra.out.below (hb6.mono (by omega))); have Rb6 := Kept.mk (Rb.out.below (hb6.mono (by omega))))
    | (go_at_call 18; refine (difference_any _ _ _ _ _ _ [1, 2, 5] [2, 5, 9] _ _ Ra6.out Rb6.out (by omega) (by omega)).mono ?_; rintro e w7 ⟨A7, n7, c7, rfl, -, ho7, hb7⟩; rw [Ls.alive3] at ho7; have hb7' : Below w2.heap.size w2 w7 := hb6.trans (hb7.mono hz6); have Q7 := Kept.mk (lit1 w7 1); have P7 := Kept.mk (ho7.rd.alloc (Nat.le_refl _) (.cells #[.int .i64 1] 3)); have hz7 := hb7'.size; clear ho7 hb7)
    | (go_at_call 13; refine (equalI_is _ _ _ _ _ _ [1] [1] true _ _ _ P7.out Q7.out (by decide)).mono ?_; rintro e w8 ⟨rfl, q8⟩; clear P7 Q7; have hb8 : Below w2.heap.size w2 w8 := (hb7'.alloc hz7 _).trans (q8.below _); have hz8 := hb8.size; have Ra8 := Kept.mk (Ra.out.below (hb8.mono (by omega))))
    | (go_at_call 20; refine (complement_any _ _ _ _ [1, 2, 5] 6 _ Ra8.out (by omega) (by omega) (by omega) (by omega)).mono ?_; rintro e w9 ⟨A9, n9, c9, rfl, -, ho9, hb9⟩; rw [Ls.alive4] at ho9; have hb9' : Below w2.heap.size w2 w9 := hb8.trans (hb9.mono hz8); have Q9 := Kept.mk (lit3 w9 0 3 4); have P9 := Kept.mk (ho9.rd.alloc (Nat.le_refl _) (.cells #[.int .i64 0, .int .i64 3, .int .i64 4] 3)); have hz9 := hb9'.size; clear ho9 hb9)
    | (go_at_call 13; refine (equalI_is _ _ _ _ _ _ [0, 3, 4] [0, 3, 4] true _ _ _ P9.out Q9.out (by decide)).mono ?_; rintro e w10 ⟨rfl, q10⟩; clear P9 Q9; have hb10 : Below w2.heap.size w2 w10 := (hb9'.alloc hz9 _).trans (q10.below _); have Ra10 := Kept.mk (Ra.out.below (hb10.mono (by omega))))
    | (go_at_call 10; refine (isSorted_is _ _ _ [1, 2, 5] true _ _ Ra10.out Ls.alive5).mono ?_; rintro e w11 ⟨rfl, q11⟩; have hb11 : Below w2.heap.size w2 w11 := hb10.trans (q11.below _)))
  go_ret
  exact ⟨rfl, hb2.trans (hb11.mono (by omega))⟩
end Go.Proofs.Ytoomdjjjkolloab
