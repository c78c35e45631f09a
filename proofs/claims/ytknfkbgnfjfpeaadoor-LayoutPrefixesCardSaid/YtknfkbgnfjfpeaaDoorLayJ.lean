/- Chapter 16: Parse, Offsets, Certain, the reference's Certain and Same, the law's Large. -/
import Derived.Test.YtknfkbgnfjfpeaaDoorLayI
namespace Go.Proofs.YtknfkbgnfjfpeaaDoor
open Go.RowKit Go.Shelf

namespace Ly
def cert (l : List UInt8) : Int := if pe l = 3 then 0 else pe l
end Ly
theorem FourO.lit {w : World} {base : Nat} {V : Nat → Value} {D : Nat → List UInt8} (h : FourO w base V D) : ∃ Aa na ca Ab nb cb Ac nc cc Ad nd cd, Ly.ar4 V = #[.slice Aa na ca, .slice Ab nb cb, .slice Ac nc cc, .slice Ad nd cd] := by
  obtain ⟨Aa, na, ca, ea⟩ := h.form 0 (by omega)
  obtain ⟨Ab, nb, cb, eb⟩ := h.form 1 (by omega)
  obtain ⟨Ac, nc, cc, ec⟩ := h.form 2 (by omega)
  obtain ⟨Ad, nd, cd, ed⟩ := h.form 3 (by omega)
  exact ⟨Aa, na, ca, Ab, nb, cb, Ac, nc, cc, Ad, nd, cd, by unfold Ly.ar4; rw [ea, eb, ec, ed]⟩
theorem FourO.base {w : World} {base base' : Nat} {V : Nat → Value} {D : Nat → List UInt8} (h : FourO w base V D) (hb : base' ≤ base) : FourO w base' V D := fun i hi => by
  obtain ⟨A, n, c, h1, h2⟩ := h i hi
  exact ⟨A, n, c, h1, OwnB.base h2 hb⟩
set_option maxRecDepth 100000 in
set_option maxHeartbeats 4000000 in
theorem lParse_any (A : Option Addr) (n c : Nat) (l : List UInt8) (w : World) (hv : RdB w w.heap.size A n c l) (hnb : n ≤ 140737488353000) (ht : Tab w) :
    Calls Tryd.prog 42 #[.slice A n c] w fun r w' => ∃ V, r = .returned (.tuple #[.agg (Ly.ar4 V), .int .i64 (Ly.pe l)]) ∧ FourO w' w.heap.size V (Ly.outS l) ∧ Below w.heap.size w w' := by
  obtain ⟨W1, hW1⟩ : ∃ W1, W1 = w.alloc (.cells #[.slice none 0 0, .slice none 0 0, .slice none 0 0, .slice none 0 0] 65) := ⟨_, rfl⟩
  have hb1 : Below w.heap.size w W1 := by rw [hW1]; exact (Below.refl _ w).alloc (Nat.le_refl _) _
  have hz1 : W1.heap.size = w.heap.size + 1 := by rw [hW1]; simp
  have hg1 : W1.heap[w.heap.size]? = some (.cells (Ly.ar4 fun _ => .slice none 0 0) 65 (0, 0)) := by rw [hW1]; exact heap_alloc_new w _
  have HW := Kept.mk hW1.symm
  have Z1 := Kept.mk hz1
  have G1 := Kept.mk hg1
  have B1 := Kept.mk hb1
  have HP := Kept.mk (parse_any A n c l W1 ((hv.below hb1).more (by omega)) hnb (ht.below hb1))
  clear hv ht hW1 hb1 hz1 hg1
  go_enter Tryd.func42, Tryd.ntmps42
  go_upto_region 1 with fail
  rw [HW.out]
  generalize hg : w.heap.size = g at *
  have EG := Kept.mk hg
  clear hg
  have hgW : g < W1.heap.size := by rw [Z1.out]; omega
  go_upto_region 2 with (go_at_call 73; refine HP.out.mono ?_; rintro r w2 ⟨V, M, rfl, hf, hm, hb⟩; obtain ⟨Aa, na, ca, Ab, nb, cb, Ac, nc, cc, Ad, nd, cd, hV⟩ := hf.lit; rw [hV]; unfold Ly.at5; have F2 := Kept.mk hf; have M2 := Kept.mk hm; have B2 := Kept.mk hb; have HV := Kept.mk hV; clear hf hm hb hV)
  have hz2 := B2.out.size
  have F3 := Kept.mk ((F2.out.below ((Below.refl _ w2).alloc (Nat.le_refl _) (.cells #[.slice Aa na ca, .slice Ab nb cb, .slice Ac nc cc, .slice Ad nd cd] 65))).below ((Below.refl _ _).alloc (Nat.le_refl _) (.cells #[.int .i64 (M 0 : Int), .int .i64 (M 1 : Int), .int .i64 (M 2 : Int), .int .i64 (M 3 : Int), .int .i64 (M 4 : Int)] 67)))
  have B3 : Kept (Below W1.heap.size W1 ((w2.alloc (.cells #[.slice Aa na ca, .slice Ab nb cb, .slice Ac nc cc, .slice Ad nd cd] 65)).alloc (.cells #[.int .i64 (M 0 : Int), .int .i64 (M 1 : Int), .int .i64 (M 2 : Int), .int .i64 (M 3 : Int), .int .i64 (M 4 : Int)] 67))) := ⟨(B2.out.alloc hz2 _).alloc (by simp; omega) _⟩
  have v0 : ∀ k, ((w2.alloc (.cells #[.slice Aa na ca, .slice Ab nb cb, .slice Ac nc cc, .slice Ad nd cd] 65)).alloc (.cells #[.int .i64 (M 0 : Int), .int .i64 (M 1 : Int), .int .i64 (M 2 : Int), .int .i64 (M 3 : Int), .int .i64 (M 4 : Int)] 67)).cell? ⟨w2.heap.size, k, none⟩ = (#[.slice Aa na ca, .slice Ab nb cb, .slice Ac nc cc, .slice Ad nd cd] : Array Value)[k]? := fun k => (World.cell?_alloc_lt _ _ ⟨w2.heap.size, k, none⟩ (by simp)).trans (World.cell?_alloc_mark w2 _ _ _ k)
  have m0 : ∀ k, ((w2.alloc (.cells #[.slice Aa na ca, .slice Ab nb cb, .slice Ac nc cc, .slice Ad nd cd] 65)).alloc (.cells #[.int .i64 (M 0 : Int), .int .i64 (M 1 : Int), .int .i64 (M 2 : Int), .int .i64 (M 3 : Int), .int .i64 (M 4 : Int)] 67)).cell? ⟨w2.heap.size + 1, k, none⟩ = (#[.int .i64 (M 0 : Int), .int .i64 (M 1 : Int), .int .i64 (M 2 : Int), .int .i64 (M 3 : Int), .int .i64 (M 4 : Int)] : Array Value)[k]? := fun k => by
    have h := World.cell?_alloc_mark (w2.alloc (.cells #[.slice Aa na ca, .slice Ab nb cb, .slice Ac nc cc, .slice Ad nd cd] 65)) #[.int .i64 (M 0 : Int), .int .i64 (M 1 : Int), .int .i64 (M 2 : Int), .int .i64 (M 3 : Int), .int .i64 (M 4 : Int)] 67 (0, 0) k
    rw [World.size_alloc] at h
    exact h
  generalize (w2.alloc (.cells #[.slice Aa na ca, .slice Ab nb cb, .slice Ac nc cc, .slice Ad nd cd] 65)).alloc (.cells #[.int .i64 (M 0 : Int), .int .i64 (M 1 : Int), .int .i64 (M 2 : Int), .int .i64 (M 3 : Int), .int .i64 (M 4 : Int)] 67) = W3 at *
  have hg3 := (B3.out.block g hgW).trans G1.out
  have G3 := Kept.mk hg3
  have v1 := v0 0
  simp at v1
  have v2 := v0 1
  simp at v2
  have v3 := v0 2
  simp at v3
  have v4 := v0 3
  simp at v4
  clear v0 m0
  have x0 := fun k => frozen_of_row W3 g k _ _ hg3
  have y0 := (cell_of_row W3 g 0 _ _ _ hg3).trans (Ly.ar4_get _ 0 (by omega))
  have y1 := (cell_of_row W3 g 1 _ _ _ hg3).trans (Ly.ar4_get _ 1 (by omega))
  have y2 := (cell_of_row W3 g 2 _ _ _ hg3).trans (Ly.ar4_get _ 2 (by omega))
  have y3 := (cell_of_row W3 g 3 _ _ _ hg3).trans (Ly.ar4_get _ 3 (by omega))
  clear hg3
  go_wp2
  refine bodyPost_ret (v := .tuple #[.agg (Ly.ar4 V), .int .i64 (Ly.pe l)]) ?_ rfl ⟨V, rfl, (F3.out.grown (put4_grown W3 g (.slice Aa na ca) (.slice Ab nb cb) (.slice Ac nc cc) (.slice Ad nd cd)) hgW).base (by rw [EG.out]; omega), ?_⟩
  · have hr := put4_row W3 g (.slice Aa na ca) (.slice Ab nb cb) (.slice Ac nc cc) (.slice Ad nd cd) G3.out rfl
    rw [HV.out]
    exact results_cell1_row (fn := Tryd.f42) (a := 2) (u := 3) (T1 := 65) rfl _ _ g _ _ _ _ rfl hr Tryd.underlying65 rfl (by kernel_rfl)
  · rw [EG.out]
    exact B1.out.trans ((B3.out.mono (by omega)).grown (put4_grown W3 g (.slice Aa na ca) (.slice Ab nb cb) (.slice Ac nc cc) (.slice Ad nd cd)) (by have := B3.out.size; omega) (fun g' e => by cases e; exact Nat.le_refl _))
set_option maxRecDepth 100000 in
set_option maxHeartbeats 4000000 in
theorem lOffsets_any (A : Option Addr) (n c : Nat) (l : List UInt8) (w : World) (hv : RdB w w.heap.size A n c l) (hnb : n ≤ 140737488353000) (ht : Tab w) :
    Calls Tryd.prog 41 #[.slice A n c] w fun r w' => ∃ M, r = .returned (.tuple #[.agg (Ly.at5 M), .int .i64 (Ly.pe l)]) ∧ (∀ i, i < 5 → M i = Ly.outA l i) ∧ Below w.heap.size w w' := by
  obtain ⟨W1, hW1⟩ : ∃ W1, W1 = w.alloc (.cells #[.int .i64 0, .int .i64 0, .int .i64 0, .int .i64 0, .int .i64 0] 67) := ⟨_, rfl⟩
  have hb1 : Below w.heap.size w W1 := by rw [hW1]; exact (Below.refl _ w).alloc (Nat.le_refl _) _
  have hz1 : W1.heap.size = w.heap.size + 1 := by rw [hW1]; simp
  have hg1 : W1.heap[w.heap.size]? = some (.cells (Ly.at5 fun _ => 0) 67 (0, 0)) := by rw [hW1]; exact heap_alloc_new w _
  have HW := Kept.mk hW1.symm
  have Z1 := Kept.mk hz1
  have G1 := Kept.mk hg1
  have B1 := Kept.mk hb1
  have HP := Kept.mk (parse_any A n c l W1 ((hv.below hb1).more (by omega)) hnb (ht.below hb1))
  clear hv ht hW1 hb1 hz1 hg1
  go_enter Tryd.func41, Tryd.ntmps41
  go_upto_region 1 with fail
  rw [HW.out]
  generalize hg : w.heap.size = g at *
  have EG := Kept.mk hg
  clear hg
  have hgW : g < W1.heap.size := by rw [Z1.out]; omega
  go_upto_region 2 with (go_at_call 73; refine HP.out.mono ?_; rintro r w2 ⟨V, M, rfl, hf, hm, hb⟩; obtain ⟨Aa, na, ca, Ab, nb, cb, Ac, nc, cc, Ad, nd, cd, hV⟩ := hf.lit; rw [hV]; unfold Ly.at5; have F2 := Kept.mk hf; have M2 := Kept.mk hm; have B2 := Kept.mk hb; have HV := Kept.mk hV; clear hf hm hb hV)
  have hz2 := B2.out.size
  have F3 := Kept.mk ((F2.out.below ((Below.refl _ w2).alloc (Nat.le_refl _) (.cells #[.slice Aa na ca, .slice Ab nb cb, .slice Ac nc cc, .slice Ad nd cd] 65))).below ((Below.refl _ _).alloc (Nat.le_refl _) (.cells #[.int .i64 (M 0 : Int), .int .i64 (M 1 : Int), .int .i64 (M 2 : Int), .int .i64 (M 3 : Int), .int .i64 (M 4 : Int)] 67)))
  have B3 : Kept (Below W1.heap.size W1 ((w2.alloc (.cells #[.slice Aa na ca, .slice Ab nb cb, .slice Ac nc cc, .slice Ad nd cd] 65)).alloc (.cells #[.int .i64 (M 0 : Int), .int .i64 (M 1 : Int), .int .i64 (M 2 : Int), .int .i64 (M 3 : Int), .int .i64 (M 4 : Int)] 67))) := ⟨(B2.out.alloc hz2 _).alloc (by simp; omega) _⟩
  have v0 : ∀ k, ((w2.alloc (.cells #[.slice Aa na ca, .slice Ab nb cb, .slice Ac nc cc, .slice Ad nd cd] 65)).alloc (.cells #[.int .i64 (M 0 : Int), .int .i64 (M 1 : Int), .int .i64 (M 2 : Int), .int .i64 (M 3 : Int), .int .i64 (M 4 : Int)] 67)).cell? ⟨w2.heap.size, k, none⟩ = (#[.slice Aa na ca, .slice Ab nb cb, .slice Ac nc cc, .slice Ad nd cd] : Array Value)[k]? := fun k => (World.cell?_alloc_lt _ _ ⟨w2.heap.size, k, none⟩ (by simp)).trans (World.cell?_alloc_mark w2 _ _ _ k)
  have m0 : ∀ k, ((w2.alloc (.cells #[.slice Aa na ca, .slice Ab nb cb, .slice Ac nc cc, .slice Ad nd cd] 65)).alloc (.cells #[.int .i64 (M 0 : Int), .int .i64 (M 1 : Int), .int .i64 (M 2 : Int), .int .i64 (M 3 : Int), .int .i64 (M 4 : Int)] 67)).cell? ⟨w2.heap.size + 1, k, none⟩ = (#[.int .i64 (M 0 : Int), .int .i64 (M 1 : Int), .int .i64 (M 2 : Int), .int .i64 (M 3 : Int), .int .i64 (M 4 : Int)] : Array Value)[k]? := fun k => by
    have h := World.cell?_alloc_mark (w2.alloc (.cells #[.slice Aa na ca, .slice Ab nb cb, .slice Ac nc cc, .slice Ad nd cd] 65)) #[.int .i64 (M 0 : Int), .int .i64 (M 1 : Int), .int .i64 (M 2 : Int), .int .i64 (M 3 : Int), .int .i64 (M 4 : Int)] 67 (0, 0) k
    rw [World.size_alloc] at h
    exact h
  generalize (w2.alloc (.cells #[.slice Aa na ca, .slice Ab nb cb, .slice Ac nc cc, .slice Ad nd cd] 65)).alloc (.cells #[.int .i64 (M 0 : Int), .int .i64 (M 1 : Int), .int .i64 (M 2 : Int), .int .i64 (M 3 : Int), .int .i64 (M 4 : Int)] 67) = W3 at *
  have hg3 := (B3.out.block g hgW).trans G1.out
  have G3 := Kept.mk hg3
  have m1 := m0 0
  simp at m1
  have m2 := m0 1
  simp at m2
  have m3 := m0 2
  simp at m3
  have m4 := m0 3
  simp at m4
  have m5 := m0 4
  simp at m5
  clear v0 m0
  have x0 := fun k => frozen_of_row W3 g k _ _ hg3
  have y0 := (cell_of_row W3 g 0 _ _ _ hg3).trans (Ly.at5_get _ 0 (by omega))
  have y1 := (cell_of_row W3 g 1 _ _ _ hg3).trans (Ly.at5_get _ 1 (by omega))
  have y2 := (cell_of_row W3 g 2 _ _ _ hg3).trans (Ly.at5_get _ 2 (by omega))
  have y3 := (cell_of_row W3 g 3 _ _ _ hg3).trans (Ly.at5_get _ 3 (by omega))
  have y4 := (cell_of_row W3 g 4 _ _ _ hg3).trans (Ly.at5_get _ 4 (by omega))
  clear hg3
  go_wp2
  refine bodyPost_ret (v := .tuple #[.agg (Ly.at5 M), .int .i64 (Ly.pe l)]) ?_ rfl ⟨M, rfl, M2.out, ?_⟩
  · have hr := put5_row W3 g (.int .i64 (M 0 : Int)) (.int .i64 (M 1 : Int)) (.int .i64 (M 2 : Int)) (.int .i64 (M 3 : Int)) (.int .i64 (M 4 : Int)) G3.out rfl
    exact results_cell1_row (fn := Tryd.f41) (a := 2) (u := 3) (T1 := 67) rfl _ _ g _ _ _ _ rfl hr Tryd.underlying67 rfl (by kernel_rfl)
  · rw [EG.out]
    exact B1.out.trans ((B3.out.mono (by omega)).grown (put5_grown W3 g (.int .i64 (M 0 : Int)) (.int .i64 (M 1 : Int)) (.int .i64 (M 2 : Int)) (.int .i64 (M 3 : Int)) (.int .i64 (M 4 : Int))) (by have := B3.out.size; omega) (fun g' e => by cases e; exact Nat.le_refl _))
set_option maxRecDepth 100000 in
set_option maxHeartbeats 4000000 in
theorem lCertain_any (A : Option Addr) (n c : Nat) (l : List UInt8) (w : World) (hv : RdB w w.heap.size A n c l) (hnb : n ≤ 140737488353000) (ht : Tab w) :
    Calls Tryd.prog 44 #[.slice A n c] w fun r w' => r = .returned (.int .i64 (Ly.cert l)) ∧ Below w.heap.size w w' := by
  have HP := Kept.mk (parse_any A n c l w hv hnb ht)
  clear hv ht
  obtain ⟨f, hf⟩ : ∃ f, Ly.pe l = f := ⟨_, rfl⟩
  by_cases h3 : f = 3
  · have hc : Kept (Ly.cert l = 0) := ⟨by unfold Ly.cert; rw [hf, if_pos h3]⟩
    subst h3
    rw [hf] at HP
    clear hf
    go_enter Tryd.func44, Tryd.ntmps44
    go_wp2_with (go_at_call 73; refine HP.out.mono ?_; rintro r w2 ⟨V, M, rfl, hf, hm, hb⟩; obtain ⟨Aa, na, ca, Ab, nb, cb, Ac, nc, cc, Ad, nd, cd, hV⟩ := hf.lit; rw [hV]; unfold Ly.at5; have B2 := Kept.mk hb; clear hf hm hb hV)
    go_ret
    have hz := B2.out.size
    exact ⟨by rw [hc.out]; rfl, (B2.out.alloc hz _).alloc (by simp; omega) _⟩
  · have hc : Kept (Ly.cert l = f) := ⟨by unfold Ly.cert; rw [hf, if_neg h3]⟩
    rw [hf] at HP
    have heb : (f == 3) = false := by simpa using h3
    have hen : (f != 3) = true := by simpa using h3
    clear hf h3
    go_enter Tryd.func44, Tryd.ntmps44
    go_wp2_with (go_at_call 73; refine HP.out.mono ?_; rintro r w2 ⟨V, M, rfl, hf, hm, hb⟩; obtain ⟨Aa, na, ca, Ab, nb, cb, Ac, nc, cc, Ad, nd, cd, hV⟩ := hf.lit; rw [hV]; unfold Ly.at5; have B2 := Kept.mk hb; clear hf hm hb hV)
    go_ret
    have hz := B2.out.size
    exact ⟨by rw [hc.out]; rfl, (B2.out.alloc hz _).alloc (by simp; omega) _⟩
set_option maxRecDepth 100000 in
set_option maxHeartbeats 4000000 in
theorem refCertain_any (A : Option Addr) (n c : Nat) (l : List UInt8) (w : World) (hv : RdB w w.heap.size A n c l) (hnb : n ≤ 140737488353000) :
    Calls Tryd.prog 45 #[.slice A n c] w fun r w' => r = .returned (.int .i64 (Ly.cert l)) ∧ Below w.heap.size w w' := by
  have HP := Kept.mk (refParse_any A n c l w hv hnb)
  clear hv
  obtain ⟨f, hf⟩ : ∃ f, Ly.pe l = f := ⟨_, rfl⟩
  by_cases h3 : f = 3
  · have hc : Kept (Ly.cert l = 0) := ⟨by unfold Ly.cert; rw [hf, if_pos h3]⟩
    subst h3
    rw [hf] at HP
    clear hf
    go_enter Tryd.func45, Tryd.ntmps45
    go_wp2_with (go_at_call 40; refine HP.out.mono ?_; rintro r w2 ⟨V, M, rfl, hf, hm, hb⟩; obtain ⟨Aa, na, ca, Ab, nb, cb, Ac, nc, cc, Ad, nd, cd, hV⟩ := hf.lit; rw [hV]; unfold Ly.at5; have B2 := Kept.mk hb; clear hf hm hb hV)
    go_ret
    have hz := B2.out.size
    exact ⟨by rw [hc.out]; rfl, (B2.out.alloc hz _).alloc (by simp; omega) _⟩
  · have hc : Kept (Ly.cert l = f) := ⟨by unfold Ly.cert; rw [hf, if_neg h3]⟩
    rw [hf] at HP
    have heb : (f == 3) = false := by simpa using h3
    have hen : (f != 3) = true := by simpa using h3
    clear hf h3
    go_enter Tryd.func45, Tryd.ntmps45
    go_wp2_with (go_at_call 40; refine HP.out.mono ?_; rintro r w2 ⟨V, M, rfl, hf, hm, hb⟩; obtain ⟨Aa, na, ca, Ab, nb, cb, Ac, nc, cc, Ad, nd, cd, hV⟩ := hf.lit; rw [hV]; unfold Ly.at5; have B2 := Kept.mk hb; clear hf hm hb hV)
    go_ret
    have hz := B2.out.size
    exact ⟨by rw [hc.out]; rfl, (B2.out.alloc hz _).alloc (by simp; omega) _⟩
end Go.Proofs.YtknfkbgnfjfpeaaDoor
