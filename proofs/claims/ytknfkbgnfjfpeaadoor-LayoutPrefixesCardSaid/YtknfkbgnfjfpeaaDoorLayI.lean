/- Chapter 16: the reference's Parse, walked. (Printed by gen_refparse.py.) -/
import Derived.Test.YtknfkbgnfjfpeaaDoorLayH
namespace Go.Proofs.YtknfkbgnfjfpeaaDoor
open Go.RowKit Go.Shelf

theorem RdrQ.boxed (w : World) (B : Nat) (A : Option Addr) (n c k : Nat) (l : List UInt8) (h : RdB w B A n c l) (hB : B ≤ w.heap.size) (hn : n ≤ 140737488354000) (hk : k ≤ n) :
    RdrQ (w.alloc (.cells #[.slice A n c, .int .i64 (k : Int), .int .i64 0] 50)) w.heap.size l k 0 :=
  ⟨A, n, c, heap_alloc_new w _, (h.alloc hB _).more hB, hn, hk⟩
theorem Ly.S_err (l : List UInt8) (h : Ly.lit l Ly.head ≠ 0) (k : Nat) : (Ly.S l k).2 = Ly.lit l Ly.head := by
  induction k with
  | zero => rfl
  | succ k ih => rw [Ly.S_succ]; unfold Wr.sect; rw [if_pos (by rw [ih]; exact h)]; exact ih
/-- four rows of zeros -/
def Zs (w : World) (g2 g3 g7 g8 : Nat) : Prop := w.heap[g2]? = some (.cells (Ly.ar4 fun _ => .slice none 0 0) 62 (0, 0)) ∧ w.heap[g3]? = some (.cells (Ly.at5 fun _ => 0) 67 (0, 0)) ∧
  w.heap[g7]? = some (.cells (Ly.ar4 fun _ => .slice none 0 0) 62 (0, 0)) ∧ w.heap[g8]? = some (.cells (Ly.at5 fun _ => 0) 67 (0, 0))
theorem Zs.grown {w w' : World} {g2 g3 g7 g8 g : Nat} (h : Zs w g2 g3 g7 g8) (hg : w.grownBy w' (some g)) (h2 : g2 ≠ g) (h3 : g3 ≠ g) (h7 : g7 ≠ g) (h8 : g8 ≠ g) : Zs w' g2 g3 g7 g8 := by
  obtain ⟨r2, r3, r7, r8⟩ := h
  exact ⟨(hg.block _ (Array.getElem?_eq_some_iff.1 r2).1 (fun e => h2 (Option.some.inj e))).trans r2, (hg.block _ (Array.getElem?_eq_some_iff.1 r3).1 (fun e => h3 (Option.some.inj e))).trans r3,
    (hg.block _ (Array.getElem?_eq_some_iff.1 r7).1 (fun e => h7 (Option.some.inj e))).trans r7, (hg.block _ (Array.getElem?_eq_some_iff.1 r8).1 (fun e => h8 (Option.some.inj e))).trans r8⟩
theorem Zs.below {w w' : World} {g2 g3 g7 g8 : Nat} (h : Zs w g2 g3 g7 g8) (hb : Below w.heap.size w w') : Zs w' g2 g3 g7 g8 := by
  obtain ⟨r2, r3, r7, r8⟩ := h
  exact ⟨(hb.block _ (Array.getElem?_eq_some_iff.1 r2).1).trans r2, (hb.block _ (Array.getElem?_eq_some_iff.1 r3).1).trans r3, (hb.block _ (Array.getElem?_eq_some_iff.1 r7).1).trans r7, (hb.block _ (Array.getElem?_eq_some_iff.1 r8).1).trans r8⟩
set_option maxRecDepth 100000 in
set_option maxHeartbeats 8000000 in
theorem refParse_any (A : Option Addr) (n c : Nat) (l : List UInt8) (w : World) (hv : RdB w w.heap.size A n c l) (hnb : n ≤ 140737488353000) :
    Calls Tryd.prog 40 #[.slice A n c] w fun r w' => ∃ V M, r = .returned (.tuple #[.agg (Ly.ar4 V), .agg (Ly.at5 M), .int .i64 (Ly.pe l)]) ∧ FourO w' w.heap.size V (Ly.outS l) ∧ (∀ i, i < 5 → M i = Ly.outA l i) ∧ Below w.heap.size w w' := by
  have hlc := hv.1
  have hcm := hv.2.1
  unfold maxLen at hcm
  have hn := Kept.mk hv.len
  obtain ⟨W1, hW1⟩ : ∃ W1, W1 = w.alloc (.cells #[.slice none 0 0, .slice none 0 0, .slice none 0 0, .slice none 0 0] 62) := ⟨_, rfl⟩
  have hz1 : W1.heap.size = w.heap.size + 1 := by rw [hW1]; simp
  have hB1 : Below w.heap.size w W1 := by rw [hW1]; exact (Below.refl _ w).alloc (Nat.le_refl _) _
  have hR1 : W1.heap[w.heap.size]? = some (.cells (Ly.ar4 fun _ => .slice none 0 0) 62 (0, 0)) := by rw [hW1]; exact heap_alloc_new w _
  obtain ⟨W2, hW2⟩ : ∃ W2, W2 = W1.alloc (.cells #[.int .i64 0, .int .i64 0, .int .i64 0, .int .i64 0, .int .i64 0] 67) := ⟨_, rfl⟩
  have hz2 : W2.heap.size = W1.heap.size + 1 := by rw [hW2]; simp
  have hB2 : Below W1.heap.size W1 W2 := by rw [hW2]; exact (Below.refl _ W1).alloc (Nat.le_refl _) _
  have hR2 : W2.heap[W1.heap.size]? = some (.cells (Ly.at5 fun _ => 0) 67 (0, 0)) := by rw [hW2]; exact heap_alloc_new W1 _
  obtain ⟨W3, hW3⟩ : ∃ W3, W3 = W2.alloc (.cells #[.slice none 0 0, .slice none 0 0, .slice none 0 0, .slice none 0 0] 62) := ⟨_, rfl⟩
  have hz3 : W3.heap.size = W2.heap.size + 1 := by rw [hW3]; simp
  have hB3 : Below W2.heap.size W2 W3 := by rw [hW3]; exact (Below.refl _ W2).alloc (Nat.le_refl _) _
  have hR3 : W3.heap[W2.heap.size]? = some (.cells (Ly.ar4 fun _ => .slice none 0 0) 62 (0, 0)) := by rw [hW3]; exact heap_alloc_new W2 _
  obtain ⟨W4, hW4⟩ : ∃ W4, W4 = W3.alloc (.cells #[.int .i64 0, .int .i64 0, .int .i64 0, .int .i64 0, .int .i64 0] 67) := ⟨_, rfl⟩
  have hz4 : W4.heap.size = W3.heap.size + 1 := by rw [hW4]; simp
  have hB4 : Below W3.heap.size W3 W4 := by rw [hW4]; exact (Below.refl _ W3).alloc (Nat.le_refl _) _
  have hR4 : W4.heap[W3.heap.size]? = some (.cells (Ly.at5 fun _ => 0) 67 (0, 0)) := by rw [hW4]; exact heap_alloc_new W3 _
  obtain ⟨W5, hW5⟩ : ∃ W5, W5 = W4.alloc (.cells #[.slice none 0 0, .slice none 0 0, .slice none 0 0, .slice none 0 0] 62) := ⟨_, rfl⟩
  have hz5 : W5.heap.size = W4.heap.size + 1 := by rw [hW5]; simp
  have hB5 : Below W4.heap.size W4 W5 := by rw [hW5]; exact (Below.refl _ W4).alloc (Nat.le_refl _) _
  have hR5 : W5.heap[W4.heap.size]? = some (.cells (Ly.ar4 fun _ => .slice none 0 0) 62 (0, 0)) := by rw [hW5]; exact heap_alloc_new W4 _
  obtain ⟨W6, hW6⟩ : ∃ W6, W6 = W5.alloc (.cells #[.int .i64 0, .int .i64 0, .int .i64 0, .int .i64 0, .int .i64 0] 67) := ⟨_, rfl⟩
  have hz6 : W6.heap.size = W5.heap.size + 1 := by rw [hW6]; simp
  have hB6 : Below W5.heap.size W5 W6 := by rw [hW6]; exact (Below.refl _ W5).alloc (Nat.le_refl _) _
  have hR6 : W6.heap[W5.heap.size]? = some (.cells (Ly.at5 fun _ => 0) 67 (0, 0)) := by rw [hW6]; exact heap_alloc_new W5 _
  have HW : Kept ((((((w.alloc (.cells #[.slice none 0 0, .slice none 0 0, .slice none 0 0, .slice none 0 0] 62)).alloc (.cells #[.int .i64 0, .int .i64 0, .int .i64 0, .int .i64 0, .int .i64 0] 67)).alloc (.cells #[.slice none 0 0, .slice none 0 0, .slice none 0 0, .slice none 0 0] 62)).alloc (.cells #[.int .i64 0, .int .i64 0, .int .i64 0, .int .i64 0, .int .i64 0] 67)).alloc (.cells #[.slice none 0 0, .slice none 0 0, .slice none 0 0, .slice none 0 0] 62)).alloc (.cells #[.int .i64 0, .int .i64 0, .int .i64 0, .int .i64 0, .int .i64 0] 67) = W6) := ⟨by rw [← hW1, ← hW2, ← hW3, ← hW4, ← hW5, ← hW6]⟩
  have b56 := hB6
  have b46 := hB5.trans (hB6.mono (by omega))
  have b36 := hB4.trans (b46.mono (by omega))
  have b26 := hB3.trans (b36.mono (by omega))
  have b16 := hB2.trans (b26.mono (by omega))
  have b06 := hB1.trans (b16.mono (by omega))
  have G2 := (b16.block w.heap.size (by omega)).trans hR1
  have G3 := (b26.block W1.heap.size (by omega)).trans hR2
  have G5 := (b36.block W2.heap.size (by omega)).trans hR3
  have G6 := (b46.block W3.heap.size (by omega)).trans hR4
  have G7 := (b56.block W4.heap.size (by omega)).trans hR5
  have G8 := hR6
  have e1 : W1.heap.size = w.heap.size + 1 := hz1
  have e2 : W2.heap.size = w.heap.size + 1 + 1 := by omega
  have e3 : W3.heap.size = w.heap.size + 1 + 1 + 1 := by omega
  have e4 : W4.heap.size = w.heap.size + 1 + 1 + 1 + 1 := by omega
  have e5 : W5.heap.size = w.heap.size + 1 + 1 + 1 + 1 + 1 := by omega
  have e6 : W6.heap.size = w.heap.size + 1 + 1 + 1 + 1 + 1 + 1 := by omega
  rw [e1] at G3
  rw [e2] at G5
  rw [e3] at G6
  rw [e4] at G7
  rw [e5] at G8
  have B4 := Kept.mk b06
  have V4 := Kept.mk (hv.below b06)
  have E6 := Kept.mk e6
  clear hv hW1 hW2 hW3 hW4 hW5 hW6 hz1 hz2 hz3 hz4 hz5 hz6 hB1 hB2 hB3 hB4 hB5 hB6 hR1 hR2 hR3 hR4 hR5 hR6 b56 b46 b36 b26 b16 b06 e1 e2 e3 e4 e5 e6
  clear W1 W2 W3 W4 W5
  have hSl := Kept.mk (Ly.S_le l (by have := hn.out; omega))
  go_enter Tryd.func40, Tryd.ntmps40
  go_upto_region 5 with fail
  rw [HW.out]
  have K2 := Kept.mk G2
  have K3 := Kept.mk G3
  have K5 := Kept.mk G5
  have K6 := Kept.mk G6
  have K7 := Kept.mk G7
  have K8 := Kept.mk G8
  clear G2 G3 G5 G6 G7 G8 HW
  generalize hg8 : w.heap.size + 1 + 1 + 1 + 1 + 1 = g8 at *
  generalize hg7 : w.heap.size + 1 + 1 + 1 + 1 = g7 at *
  generalize hg6 : w.heap.size + 1 + 1 + 1 = g6 at *
  generalize hg5 : w.heap.size + 1 + 1 = g5 at *
  generalize hg3 : w.heap.size + 1 = g3 at *
  generalize hg2 : w.heap.size = g2 at *
  have l23 : g2 < g3 := by omega
  have l35 : g3 < g5 := by omega
  have l56 : g5 < g6 := by omega
  have l67 : g6 < g7 := by omega
  have l78 : g7 < g8 := by omega
  have l8W : g8 < W6.heap.size := by rw [E6.out]; omega
  have E2 := Kept.mk hg2
  clear hg8 hg7 hg6 hg5 hg3 E6 hg2
  go_upto_region 6 with (go_at_call 71; refine (refLiteral_any A n c g2 l ⟨#[84, 83, 66, 75, 1]⟩ W6 V4.out (by decide)).mono ?_; rintro r w7 ⟨rfl, hq7⟩; have Q7 := Kept.mk hq7; clear hq7)
  have hB7 := Q7.out.below W6.heap.size
  have z7 := hB7.size
  have s2 := Kept.mk ((hB7.block g2 (by omega)).trans K2.out)
  have s3 := Kept.mk ((hB7.block g3 (by omega)).trans K3.out)
  have s5 := Kept.mk ((hB7.block g5 (by omega)).trans K5.out)
  have s6 := Kept.mk ((hB7.block g6 (by omega)).trans K6.out)
  have s7 := Kept.mk ((hB7.block g7 (by omega)).trans K7.out)
  have s8 := Kept.mk ((hB7.block g8 (by omega)).trans K8.out)
  have D7 := Kept.mk (hB7.mono (show g2 ≤ W6.heap.size by omega))
  have V7 := Kept.mk (V4.out.below D7.out)
  clear hB7 K2 K3 K5 K6 K7 K8 Q7 V4
  have hL0 : Ly.lit l (⟨#[84, 83, 66, 75, 1]⟩ : ByteArray).data.toList = Ly.lit l Ly.head := rfl
  rw [hL0]
  clear hL0
  by_cases hl0 : Ly.lit l Ly.head = 0
  · skip
    have hS0 : Ly.S l 0 = (5, 0) := by
      show (Ly.a0 l, Ly.lit l Ly.head) = _
      unfold Ly.a0
      rw [if_pos hl0, hl0]
    have h5l : 5 ≤ n := by have h1 := Ly.lit_zero hl0; have h2 := hn.out; have h3 : Ly.head.length = 5 := rfl; omega
    rw [hl0]
    clear hl0
    go_upto_region 9 with fail
    have R8 := Kept.mk (RdrQ.boxed w7 g2 A n c 5 l V7.out (by omega) (by omega) h5l)
    have hB8 : Below w7.heap.size w7 (w7.alloc (.cells #[.slice A n c, .int .i64 5, .int .i64 0] 50)) := (Below.refl _ w7).alloc (Nat.le_refl _) _
    have hz8 : (w7.alloc (.cells #[.slice A n c, .int .i64 5, .int .i64 0] 50)).heap.size = w7.heap.size + 1 := by simp
    have zs8 := Kept.mk (Zs.below ⟨s2.out, s3.out, s7.out, s8.out⟩ hB8)
    have H5 := Kept.mk ((hB8.block g5 (by omega)).trans s5.out)
    have H6 := Kept.mk ((hB8.block g6 (by omega)).trans s6.out)
    have D8 : Kept (Below g2 W6 (w7.alloc (.cells #[.slice A n c, .int .i64 5, .int .i64 0] 50))) := ⟨D7.out.trans (hB8.mono (by omega))⟩
    have hp0 : g8 < w7.heap.size := by omega
    have F8 : Kept (FourO (w7.alloc (.cells #[.slice A n c, .int .i64 5, .int .i64 0] 50)) (w7.heap.size + 1) (fun _ => .slice none 0 0) (Ly.gate 0 (Ly.sec l))) := ⟨fun i hi => ⟨none, 0, 0, rfl, OwnB.nil _ _⟩⟩
    have RS : Kept (RdrQ (w7.alloc (.cells #[.slice A n c, .int .i64 5, .int .i64 0] 50)) w7.heap.size l (Ly.S l 0).1 (Ly.S l 0).2) := ⟨by rw [hS0]; exact R8.out⟩
    have V0 := Kept.mk (V7.out)
    have VW : Kept (∀ W, Below g2 W6 W → RdB W g2 A n c l) := ⟨fun W h => by
      have h1 : RdB w7 g2 A n c l := V7.out
      refine ⟨h1.1, h1.2.1, h1.2.2.1, fun h0 => ?_⟩
      obtain ⟨b, off, e, hb, hc⟩ := h1.2.2.2 h0
      exact ⟨b, off, e, hb, fun i u hu => ((h.cell (p := ⟨b, off + i, none⟩) hb).trans (D7.out.cell (p := ⟨b, off + i, none⟩) hb).symm).trans (hc i u hu)⟩⟩
    clear R8 hB8 s2 s3 s5 s6 s7 s8 D7 V7 V0 hS0
    generalize hgb : w7.heap.size + 1 = base at *
    generalize w7.alloc (.cells #[.slice A n c, .int .i64 5, .int .i64 0] 50) = W8 at *
    generalize w7.heap.size = p at *
    have hpB : p < base := by omega
    clear hgb z7
    go_wp2
    go_loopw [11] (fun i wr => ∃ k : Nat, k ≤ 4 ∧ i = .int .i64 k ∧ RdrQ wr p l (Ly.S l k).1 (Ly.S l k).2 ∧ wr.heap[g6]? = some (.cells (Ly.at5 (Ly.mk (Ly.aoff l) k)) 67 (0, 0)) ∧
      (∃ V, wr.heap[g5]? = some (.cells (Ly.ar4 V) 62 (0, 0)) ∧ FourO wr base V (Ly.gate k (Ly.sec l))) ∧ Zs wr g2 g3 g7 g8 ∧ Below g2 W6 wr ∧ base ≤ wr.heap.size) (fun i _ => 4 - (intOf i).toNat)
    case atStart => exact ⟨0, by omega, rfl, RS.out, H6.out, ⟨_, H5.out, F8.out⟩, zs8.out, D8.out, by omega⟩
    case round =>
      clear RS H6 H5 F8 zs8 D8 hz8
      obtain ⟨k, hk, rfl, hr, ha, ⟨V, hs, hf⟩, hzs, hb, hz⟩ := hrel
      have hn6 : g6 ≠ p := by omega
      have hn5 : g5 ≠ p := by omega
      by_cases hlt : k < 4
      · have hck := (cell_of_row wr g6 k _ _ _ ha).trans (Ly.at5_get _ k (by omega))
        have hfk := frozen_of_row wr g6 k _ _ ha
        have hak : Ly.aoff l k = (Ly.S l k).1 := rfl
        have hset := Ly.at5_set (Ly.aoff l) k (by omega)
        have hsu := Ly.S_succ l k
        have hse := Ly.sec_eq l k
        have hidk : ((UInt8.ofNat (1 + k)).toNat : Int) = (k : Int) + 1 := by have := Ly.id_nat k (by omega); omega
        rw [hak] at hset
        have hSk := hSl.out k
        obtain ⟨s, hSs⟩ : ∃ s, Ly.S l k = s := ⟨_, rfl⟩
        rw [hSs] at hr hset hsu hse hSk
        obtain ⟨a, e⟩ := s
        simp only at hr hset hsu hse hSk
        have hr1 := hr.store ha (NoB.at5 _) hn6 k (.int .i64 (a : Int))
        have ha1 : (wr.setCell ⟨g6, k, none⟩ (.int .i64 (a : Int))).heap[g6]? = some (.cells (Ly.at5 (Ly.mk (Ly.aoff l) (k + 1))) 67 (0, 0)) := by rw [heap_setCell_same wr g6 k _ _ _ ha, hset]
        have hs1 := (Below.heap_setCell wr ⟨g6, k, none⟩ (.int .i64 (a : Int)) g5 (by show g5 ≠ g6; omega)).trans hs
        have hf1 := hf.grown (grown_set wr ⟨g6, k, none⟩ (.int .i64 (a : Int))) (by show g6 < base; omega)
        have hzs1 := hzs.grown (grown_set wr ⟨g6, k, none⟩ (.int .i64 (a : Int))) (by show g2 ≠ g6; omega) (by show g3 ≠ g6; omega) (by show g7 ≠ g6; omega) (by show g8 ≠ g6; omega)
        have hb1 : Below g2 W6 (wr.setCell ⟨g6, k, none⟩ (.int .i64 (a : Int))) := hb.setCell (p := ⟨g6, k, none⟩) (by show g2 ≤ g6; omega) _
        have hz1 : (wr.setCell ⟨g6, k, none⟩ (.int .i64 (a : Int))).heap.size = wr.heap.size := by simp
        have HS := sectq_any p a l e (UInt8.ofNat (1 + k)) _ hr1
        rw [hidk, ← hse, ← hsu] at HS
        rw [hz1] at HS
        obtain ⟨A', n', c', j0, j1, j2, -⟩ := hr.cells
        have HS' := Kept.mk HS
        have A1 := Kept.mk ha1
        have S1 := Kept.mk hs1
        have F1 := Kept.mk hf1
        have ZZ1 := Kept.mk hzs1
        have C1 := Kept.mk hb1
        have Z1 := Kept.mk hz1
        have Hput : Kept (∀ W, FourO W base V (Ly.gate k (Ly.sec l)) → ∀ A n c, OwnB W base A n c (Ly.sec l k) → FourO W base (fun i => if i = k then .slice A n c else V i) (Ly.gate (k + 1) (Ly.sec l))) := ⟨fun W h A n c ho => h.put ho⟩
        clear hr hr1 ha ha1 hs hs1 hf hf1 hb hb1 hz1 HS hSs hset hsu hse hak hidk hzs hzs1
        go_wp2_with (first
          | (go_at_call 62; refine HS'.out.mono ?_; rintro r w8 ⟨A3, n3, c3, rfl, ho8, hr8, hg8⟩;
              have ar8 := Kept.mk ((hg8.block g6 (by rw [Z1.out]; omega) (fun e => hn6 (Option.some.inj e))).trans A1.out);
              have s8 := Kept.mk ((hg8.block g5 (by rw [Z1.out]; omega) (fun e => hn5 (Option.some.inj e))).trans S1.out);
              have zz8 := Kept.mk (ZZ1.out.grown hg8 (by omega) (by omega) (by omega) (by omega));
              have f8 := Kept.mk (Hput.out _ (F1.out.grown hg8 hpB) A3 n3 c3 (OwnB.base ho8 hz));
              have b8 := Kept.mk (C1.out.grown hg8 (by rw [Z1.out]; omega) (fun g e => by cases e; omega));
              have hfm := Kept.mk ((F1.out.grown hg8 hpB).form);
              have z8 := hg8.size; rw [Z1.out] at z8;
              have c8 := (cell_of_row w8 g5 k _ _ _ s8.out).trans (Ly.ar4_get V k hlt);
              have q8 := frozen_of_row w8 g5 k _ _ s8.out;
              have r8 := Kept.mk hr8; clear ho8 hr8 hg8))
        go_roundw
        case rel =>
          refine ⟨k + 1, by omega, by go_num, r8.out.store s8.out (NoB.ar4 V hfm.out) hn5 k _, (Below.heap_setCell w8 ⟨g5, k, none⟩ _ g6 (by show g6 ≠ g5; omega)).trans ar8.out, ⟨fun i => if i = k then .slice A3 n3 c3 else V i, ?_, f8.out.grown (grown_set w8 ⟨g5, k, none⟩ _) (by show g5 < base; omega)⟩, zz8.out.grown (grown_set w8 ⟨g5, k, none⟩ _) (by show g2 ≠ g5; omega) (by show g3 ≠ g5; omega) (by show g7 ≠ g5; omega) (by show g8 ≠ g5; omega), b8.out.setCell (p := ⟨g5, k, none⟩) (by show g2 ≤ g5; omega) _, by simp; omega⟩
          rw [heap_setCell_same w8 g5 k _ _ _ s8.out, Ly.ar4_set V k _ hlt]
        case measure => simp [intOf]; omega
      · obtain rfl : k = 4 := by omega
        have hck := (cell_of_row wr g6 4 _ _ _ ha).trans (Ly.at5_get _ 4 (by omega))
        have hfk := frozen_of_row wr g6 4 _ _ ha
        have hset := Ly.at5_set (Ly.aoff l) 4 (by omega)
        have hsu := Ly.S_succ l 4
        have hse := Ly.sec_eq l 4
        have hak : Ly.aoff l 4 = (Ly.S l 4).1 := rfl
        rw [hak] at hset
        have hSk := hSl.out 4
        have hS5 := hSl.out 5
        obtain ⟨s, hSs⟩ : ∃ s, Ly.S l 4 = s := ⟨_, rfl⟩
        rw [hSs] at hr hset hsu hse hSk
        obtain ⟨a, e⟩ := s
        simp only at hr hset hsu hse hSk
        have hr1 := hr.store ha (NoB.at5 _) hn6 4 (.int .i64 (a : Int))
        have ha1 : (wr.setCell ⟨g6, 4, none⟩ (.int .i64 (a : Int))).heap[g6]? = some (.cells (Ly.at5 (Ly.mk (Ly.aoff l) 5)) 67 (0, 0)) := by rw [heap_setCell_same wr g6 4 _ _ _ ha, hset]
        have hs1 := (Below.heap_setCell wr ⟨g6, 4, none⟩ (.int .i64 (a : Int)) g5 (by show g5 ≠ g6; omega)).trans hs
        have hf1 := hf.grown (grown_set wr ⟨g6, 4, none⟩ (.int .i64 (a : Int))) (by show g6 < base; omega)
        have hzs1 := hzs.grown (grown_set wr ⟨g6, 4, none⟩ (.int .i64 (a : Int))) (by show g2 ≠ g6; omega) (by show g3 ≠ g6; omega) (by show g7 ≠ g6; omega) (by show g8 ≠ g6; omega)
        have hb1 : Below g2 W6 (wr.setCell ⟨g6, 4, none⟩ (.int .i64 (a : Int))) := hb.setCell (p := ⟨g6, 4, none⟩) (by show g2 ≤ g6; omega) _
        have hz1 : (wr.setCell ⟨g6, 4, none⟩ (.int .i64 (a : Int))).heap.size = wr.heap.size := by simp
        have HS := sectq_any p a l e 5 _ hr1
        rw [show (5 : UInt8) = UInt8.ofNat (1 + 4) from rfl, ← hse, ← hsu, hz1] at HS
        have HS' : Kept (Calls Tryd.prog 62 #[.pointer (some ⟨p, 0, none⟩), .int .u8 5] (wr.setCell ⟨g6, 4, none⟩ (.int .i64 (a : Int))) fun r w' => ∃ A3 n3 c3, r = .returned (.slice A3 n3 c3) ∧ OwnB w' wr.heap.size A3 n3 c3 (Ly.sec l 4) ∧ RdrQ w' p l (Ly.S l 5).1 (Ly.S l 5).2 ∧ (wr.setCell ⟨g6, 4, none⟩ (.int .i64 (a : Int))).grownBy w' (some p)) := ⟨HS⟩
        obtain ⟨A', n', c', j0, j1, j2, -⟩ := hr.cells
        have A1 := Kept.mk ha1
        have S1 := Kept.mk hs1
        have F1 := Kept.mk hf1
        have ZZ1 := Kept.mk hzs1
        have C1 := Kept.mk hb1
        have Z1 := Kept.mk hz1
        clear hr hr1 ha ha1 hs hs1 hf hf1 hb hb1 hz1 HS hSs hset hsu hse hak hzs hzs1
        go_upto_region 16 with (first
          | (go_at_call 62; refine HS'.out.mono ?_; rintro r w8 ⟨A3, n3, c3, rfl, ho8, hr8, hg8⟩;
              have ar8 := Kept.mk ((hg8.block g6 (by rw [Z1.out]; omega) (fun e => hn6 (Option.some.inj e))).trans A1.out);
              have s8 := Kept.mk ((hg8.block g5 (by rw [Z1.out]; omega) (fun e => hn5 (Option.some.inj e))).trans S1.out);
              have zz8 := Kept.mk (ZZ1.out.grown hg8 (by omega) (by omega) (by omega) (by omega));
              have f8 := Kept.mk (F1.out.grown hg8 hpB);
              have b8 := Kept.mk (C1.out.grown hg8 (by rw [Z1.out]; omega) (fun g e => by cases e; omega));
              have z8 := hg8.size; rw [Z1.out] at z8;
              have o8 := Kept.mk ho8;
              have r8 := Kept.mk hr8; clear ho8 hr8 hg8))
        clear HS' A1 S1 F1 C1 Z1 ZZ1 hck hfk j0 j1 j2
    
        have hm : ∀ i, Ly.mk (Ly.aoff l) 5 i ≤ 140737488355328 := fun i => by
          unfold Ly.mk
          split
          · have h1 := hSl.out i
            have h2 := hn.out
            show (Ly.S l i).1 ≤ _
            omega
          · omega
        have hcg : Ly.con (Ly.mk (Ly.aoff l) 5) 4 = Ly.con (Ly.aoff l) 4 := Ly.con_congr 4 fun i hi => by unfold Ly.mk; rw [if_pos (by omega)]
        have HC := refContents_any (Ly.mk (Ly.aoff l) 5) 
        have k0 := (cell_of_row w8 g6 0 _ _ _ ar8.out).trans (Ly.at5_get _ 0 (by omega))
        have k1 := (cell_of_row w8 g6 1 _ _ _ ar8.out).trans (Ly.at5_get _ 1 (by omega))
        have k2 := (cell_of_row w8 g6 2 _ _ _ ar8.out).trans (Ly.at5_get _ 2 (by omega))
        have k3 := (cell_of_row w8 g6 3 _ _ _ ar8.out).trans (Ly.at5_get _ 3 (by omega))
        have k4 := (cell_of_row w8 g6 4 _ _ _ ar8.out).trans (Ly.at5_get _ 4 (by omega))
        have HC' := Kept.mk (fun W => HC W hm)
        rw [hcg] at HC'
        unfold Ly.at5 at HC'
        have hpe : Ly.pe l = if (Ly.S l 5).2 ≠ 0 then (Ly.S l 5).2 else if Ly.sec l 4 ≠ Ly.con (Ly.aoff l) 4 then 13 else if l.length - (Ly.S l 5).1 < 4 then 3 else if Crc.chk (l.take ((Ly.S l 5).1 + 4)) = false then 12
          else if Ly.lit (l.drop ((Ly.S l 5).1 + 4)) Ly.tail ≠ 0 then Ly.lit (l.drop ((Ly.S l 5).1 + 4)) Ly.tail else if (Ly.S l 5).1 + 8 < l.length then 4 else 0 := rfl
        obtain ⟨s5, hs5⟩ : ∃ s, Ly.S l 5 = s := ⟨_, rfl⟩
        rw [hs5] at r8 hpe hS5
        obtain ⟨a5, e5⟩ := s5
        simp only at r8 hpe hS5
        have hm5 : Kept (∀ i, i < 5 → Ly.mk (Ly.aoff l) 5 i = Ly.aoff l i) := ⟨fun i hi => by unfold Ly.mk; rw [if_pos hi]⟩
        clear HC hm hcg hs5
        generalize Ly.mk (Ly.aoff l) 5 = m5 at *
        generalize hDD : Ly.sec l 4 = D at *
        generalize hCC : Ly.con (Ly.aoff l) 4 = C at *
        have hpeK := Kept.mk hpe
        have htail : (⟨#[75, 66, 83, 84]⟩ : ByteArray).data.toList = Ly.tail := rfl
        obtain ⟨A', n', c', j0, j1, j2, -⟩ := r8.out.cells
        clear hpe
        have kc1 : ∀ W, Below w8.heap.size w8 W → (convert 22 9 (.slice A3 n3 c3)).run Tryd.prog W = .ok (.string ⟨D.toArray⟩) W := fun W h => run_bytes_str W _ A3 n3 c3 D (OwnB.keep o8.out h).rd
        have KC1 := Kept.mk kc1
        have KK : Kept (∀ W, Below w8.heap.size w8 W → W.cell? ⟨g6, 0, none⟩ = some (.int .i64 (m5 0 : Int)) ∧ W.cell? ⟨g6, 1, none⟩ = some (.int .i64 (m5 1 : Int)) ∧ W.cell? ⟨g6, 2, none⟩ = some (.int .i64 (m5 2 : Int)) ∧ W.cell? ⟨g6, 3, none⟩ = some (.int .i64 (m5 3 : Int)) ∧ W.cell? ⟨g6, 4, none⟩ = some (.int .i64 (m5 4 : Int))) :=
          ⟨fun W h => ⟨(h.cell (p := ⟨g6, 0, none⟩) (by show g6 < _; omega)).trans k0, (h.cell (p := ⟨g6, 1, none⟩) (by show g6 < _; omega)).trans k1, (h.cell (p := ⟨g6, 2, none⟩) (by show g6 < _; omega)).trans k2, (h.cell (p := ⟨g6, 3, none⟩) (by show g6 < _; omega)).trans k3, (h.cell (p := ⟨g6, 4, none⟩) (by show g6 < _; omega)).trans k4⟩⟩
        clear kc1
        by_cases he5 : e5 = 0
        · skip
          subst he5
          rw [if_neg (by simp)] at hpeK
          go_upto_region 18 with fail
          have kk0 := KK.out w8.drew ((Below.refl _ w8).drew)
          have kcd := KC1.out w8.drew ((Below.refl _ w8).drew)
          by_cases hDC : D = C
          · skip
            rw [if_neg (by simpa using hDC)] at hpeK
            have hE : (D == C) = true := by rw [hDC]; simp
            go_cut [66] (fun t W => t = .bool false ∧ Below w8.heap.size w8 W)
            case first =>
              go_region_with (go_at_call 70; refine (HC'.out _).mono ?_; rintro r w9 ⟨A4, n4, c4, rfl, ho4, hb4'⟩; have hb4 : Below w8.heap.size w8 w9 := below_drew_of hb4'; have kc2 := run_bytes_str w9 w9.heap.size A4 n4 c4 C ho4.rd; have kc1 := KC1.out w9 hb4; clear ho4)
              all_goals
                go_wp2
                go_meet
                exact ⟨by first | rfl | simp [hE], hb4⟩
            case rest =>
              rename World => w9
              obtain ⟨rfl, hb4⟩ := hcut
              have ar9 := Kept.mk ((hb4.block g6 (by omega)).trans ar8.out)
              have s9 := Kept.mk ((hb4.block g5 (by omega)).trans s8.out)
              have zz9 := Kept.mk (zz8.out.below hb4)
              have f9 := Kept.mk (f8.out.below hb4)
              have b9 := Kept.mk (b8.out.trans (hb4.mono (by omega)))
              have z9 := Nat.le_trans z8 hb4.size
              have r9 := Kept.mk (r8.out.below hb4 (by omega))
              clear r8 ar8 s8 f8 b8 zz8 j0 j1 j2 k0 k1 k2 k3 k4 kk0 kcd hDC hb4 hE
              obtain ⟨A', n', c', j0, j1, j2, -⟩ := r9.out.cells
              have hpe1 := hpeK.out
              have h5n : a5 ≤ n := by have := hn.out; omega
              have hge2 : g2 ≤ w9.heap.size := by omega
              by_cases hsh : n - a5 < 4
              · skip
                have hpe : Kept (Ly.pe l = 3) := ⟨by rw [hpe1, if_pos (by have := hn.out; omega)]⟩
                clear hpe1
                by_cases hcn : c = a5
                · skip
                  subst hcn
                  obtain rfl : n = c := by omega
                  clear hsh
                  have zz := zz9
                  clear s9 zz9
                  go_upto_region 22 with fail
                  obtain ⟨zr2, zr3, zr7, zr8⟩ := zz.out
                  have s2 := Kept.mk zr2
                  have s3 := Kept.mk zr3
                  have s7 := Kept.mk zr7
                  have s8 := Kept.mk zr8
                  clear zr2 zr3 zr7 zr8 zz
                  have hg2' := s2.out
                  have hg3' := s3.out
                  have x0 := fun k => frozen_of_row w9 g2 k _ _ hg2'
                  have x1 := fun k => frozen_of_row w9 g3 k _ _ hg3'
                  have dx0 : ∀ k, w9.drew.frozen? ⟨g2, k, none⟩ = false := x0
                  have dx1 : ∀ k, w9.drew.frozen? ⟨g3, k, none⟩ = false := x1
                  have y0 := (cell_of_row w9 g2 0 _ _ _ hg2').trans (Ly.ar4_get _ 0 (by omega))
                  have y1 := (cell_of_row w9 g2 1 _ _ _ hg2').trans (Ly.ar4_get _ 1 (by omega))
                  have y2 := (cell_of_row w9 g2 2 _ _ _ hg2').trans (Ly.ar4_get _ 2 (by omega))
                  have y3 := (cell_of_row w9 g2 3 _ _ _ hg2').trans (Ly.ar4_get _ 3 (by omega))
                  have u0 := (cell_of_row w9 g3 0 _ _ _ hg3').trans (Ly.at5_get _ 0 (by omega))
                  have u1 := (cell_of_row w9 g3 1 _ _ _ hg3').trans (Ly.at5_get _ 1 (by omega))
                  have u2 := (cell_of_row w9 g3 2 _ _ _ hg3').trans (Ly.at5_get _ 2 (by omega))
                  have u3 := (cell_of_row w9 g3 3 _ _ _ hg3').trans (Ly.at5_get _ 3 (by omega))
                  have u4 := (cell_of_row w9 g3 4 _ _ _ hg3').trans (Ly.at5_get _ 4 (by omega))
                  have v0 := (cell_of_row w9 g7 0 _ _ _ s7.out).trans (Ly.ar4_get _ 0 (by omega))
                  have v1 := (cell_of_row w9 g7 1 _ _ _ s7.out).trans (Ly.ar4_get _ 1 (by omega))
                  have v2 := (cell_of_row w9 g7 2 _ _ _ s7.out).trans (Ly.ar4_get _ 2 (by omega))
                  have v3 := (cell_of_row w9 g7 3 _ _ _ s7.out).trans (Ly.ar4_get _ 3 (by omega))
                  have m0 := (cell_of_row w9 g8 0 _ _ _ s8.out).trans (Ly.at5_get _ 0 (by omega))
                  have m1 := (cell_of_row w9 g8 1 _ _ _ s8.out).trans (Ly.at5_get _ 1 (by omega))
                  have m2 := (cell_of_row w9 g8 2 _ _ _ s8.out).trans (Ly.at5_get _ 2 (by omega))
                  have m3 := (cell_of_row w9 g8 3 _ _ _ s8.out).trans (Ly.at5_get _ 3 (by omega))
                  have m4 := (cell_of_row w9 g8 4 _ _ _ s8.out).trans (Ly.at5_get _ 4 (by omega))
                  have hoS : Kept (∀ i, Ly.outS l i = []) := ⟨fun i => by unfold Ly.outS; rw [hpe.out, if_neg (by simp)]⟩
                  have hoA : Kept (∀ i, Ly.outA l i = 0) := ⟨fun i => by unfold Ly.outA; rw [hpe.out, if_neg (by simp)]⟩
                  clear hg2' hg3'
                  go_wp2
                  go_region
                  go_wp2
                  have hre := row_drew <| put5_row (put4 w9 g2 (.slice none 0 0) (.slice none 0 0) (.slice none 0 0) (.slice none 0 0)) g3 (.int .i64 0) (.int .i64 0) (.int .i64 0) (.int .i64 0) (.int .i64 0) (((put4_grown w9 g2 _ _ _ _).block g3 (by omega) (fun e => by have := Option.some.inj e; omega)).trans s3.out) rfl
                  have hrs := row_drew <| ((put5_grown (put4 w9 g2 (.slice none 0 0) (.slice none 0 0) (.slice none 0 0) (.slice none 0 0)) g3 (.int .i64 0) (.int .i64 0) (.int .i64 0) (.int .i64 0) (.int .i64 0)).block g2 (by rw [put4_size]; omega) (fun e => by have := Option.some.inj e; omega)).trans (put4_row w9 g2 (.slice none 0 0) (.slice none 0 0) (.slice none 0 0) (.slice none 0 0) s2.out rfl)
                  have hrb0 : Below g2 W6 (put5 (put4 w9 g2 (.slice none 0 0) (.slice none 0 0) (.slice none 0 0) (.slice none 0 0)) g3 (.int .i64 0) (.int .i64 0) (.int .i64 0) (.int .i64 0) (.int .i64 0)) := (b9.out.grown (put4_grown w9 g2 _ _ _ _) (by omega) (fun g e => by cases e; omega)).grown (put5_grown _ g3 _ _ _ _ _) (by rw [put4_size]; omega) (fun g e => by cases e; omega)
                  have hrb := (B4.out.trans hrb0).drew
                  refine bodyPost_ret (v := .tuple #[.agg (Ly.ar4 fun _ => .slice none 0 0), .agg (Ly.at5 fun _ => 0), .int .i64 3]) ?_ rfl ⟨fun _ => .slice none 0 0, fun _ => 0, by rw [hpe.out], fun i hi => ⟨none, 0, 0, rfl, by rw [hoS.out]; exact OwnB.nil _ _⟩, fun i hi => by rw [hoA.out], ?_⟩
                  · exact results_cell2_row (fn := Tryd.f40) (a := 2) (b := 3) (u := 4) (T1 := 62) (T2 := 67) rfl _ _ g2 g3 _ _ _ _ _ _ _ _ rfl rfl hrs hre Tryd.underlying62 rfl (by kernel_rfl) Tryd.underlying67 rfl (by kernel_rfl)
                  · rw [E2.out]; exact hrb
                · skip
                  have i1 : (a5 : Int) ≤ (n : Int) := by omega
                  have i2 : (a5 : Int) < (c : Int) := by omega
                  have i3 : ((n - a5 : Nat) : Int) < 4 := by omega
                  have i4 : (n : Int) - (a5 : Int) < 4 := by omega
                  clear hsh
                  have zz := zz9
                  clear s9 zz9
                  go_upto_region 22 with fail
                  obtain ⟨zr2, zr3, zr7, zr8⟩ := zz.out
                  have s2 := Kept.mk zr2
                  have s3 := Kept.mk zr3
                  have s7 := Kept.mk zr7
                  have s8 := Kept.mk zr8
                  clear zr2 zr3 zr7 zr8 zz
                  have hg2' := s2.out
                  have hg3' := s3.out
                  have x0 := fun k => frozen_of_row w9 g2 k _ _ hg2'
                  have x1 := fun k => frozen_of_row w9 g3 k _ _ hg3'
                  have dx0 : ∀ k, w9.drew.frozen? ⟨g2, k, none⟩ = false := x0
                  have dx1 : ∀ k, w9.drew.frozen? ⟨g3, k, none⟩ = false := x1
                  have y0 := (cell_of_row w9 g2 0 _ _ _ hg2').trans (Ly.ar4_get _ 0 (by omega))
                  have y1 := (cell_of_row w9 g2 1 _ _ _ hg2').trans (Ly.ar4_get _ 1 (by omega))
                  have y2 := (cell_of_row w9 g2 2 _ _ _ hg2').trans (Ly.ar4_get _ 2 (by omega))
                  have y3 := (cell_of_row w9 g2 3 _ _ _ hg2').trans (Ly.ar4_get _ 3 (by omega))
                  have u0 := (cell_of_row w9 g3 0 _ _ _ hg3').trans (Ly.at5_get _ 0 (by omega))
                  have u1 := (cell_of_row w9 g3 1 _ _ _ hg3').trans (Ly.at5_get _ 1 (by omega))
                  have u2 := (cell_of_row w9 g3 2 _ _ _ hg3').trans (Ly.at5_get _ 2 (by omega))
                  have u3 := (cell_of_row w9 g3 3 _ _ _ hg3').trans (Ly.at5_get _ 3 (by omega))
                  have u4 := (cell_of_row w9 g3 4 _ _ _ hg3').trans (Ly.at5_get _ 4 (by omega))
                  have v0 := (cell_of_row w9 g7 0 _ _ _ s7.out).trans (Ly.ar4_get _ 0 (by omega))
                  have v1 := (cell_of_row w9 g7 1 _ _ _ s7.out).trans (Ly.ar4_get _ 1 (by omega))
                  have v2 := (cell_of_row w9 g7 2 _ _ _ s7.out).trans (Ly.ar4_get _ 2 (by omega))
                  have v3 := (cell_of_row w9 g7 3 _ _ _ s7.out).trans (Ly.ar4_get _ 3 (by omega))
                  have m0 := (cell_of_row w9 g8 0 _ _ _ s8.out).trans (Ly.at5_get _ 0 (by omega))
                  have m1 := (cell_of_row w9 g8 1 _ _ _ s8.out).trans (Ly.at5_get _ 1 (by omega))
                  have m2 := (cell_of_row w9 g8 2 _ _ _ s8.out).trans (Ly.at5_get _ 2 (by omega))
                  have m3 := (cell_of_row w9 g8 3 _ _ _ s8.out).trans (Ly.at5_get _ 3 (by omega))
                  have m4 := (cell_of_row w9 g8 4 _ _ _ s8.out).trans (Ly.at5_get _ 4 (by omega))
                  have hoS : Kept (∀ i, Ly.outS l i = []) := ⟨fun i => by unfold Ly.outS; rw [hpe.out, if_neg (by simp)]⟩
                  have hoA : Kept (∀ i, Ly.outA l i = 0) := ⟨fun i => by unfold Ly.outA; rw [hpe.out, if_neg (by simp)]⟩
                  clear hg2' hg3'
                  go_wp2
                  go_region
                  go_wp2
                  have hre := row_drew <| put5_row (put4 w9 g2 (.slice none 0 0) (.slice none 0 0) (.slice none 0 0) (.slice none 0 0)) g3 (.int .i64 0) (.int .i64 0) (.int .i64 0) (.int .i64 0) (.int .i64 0) (((put4_grown w9 g2 _ _ _ _).block g3 (by omega) (fun e => by have := Option.some.inj e; omega)).trans s3.out) rfl
                  have hrs := row_drew <| ((put5_grown (put4 w9 g2 (.slice none 0 0) (.slice none 0 0) (.slice none 0 0) (.slice none 0 0)) g3 (.int .i64 0) (.int .i64 0) (.int .i64 0) (.int .i64 0) (.int .i64 0)).block g2 (by rw [put4_size]; omega) (fun e => by have := Option.some.inj e; omega)).trans (put4_row w9 g2 (.slice none 0 0) (.slice none 0 0) (.slice none 0 0) (.slice none 0 0) s2.out rfl)
                  have hrb0 : Below g2 W6 (put5 (put4 w9 g2 (.slice none 0 0) (.slice none 0 0) (.slice none 0 0) (.slice none 0 0)) g3 (.int .i64 0) (.int .i64 0) (.int .i64 0) (.int .i64 0) (.int .i64 0)) := (b9.out.grown (put4_grown w9 g2 _ _ _ _) (by omega) (fun g e => by cases e; omega)).grown (put5_grown _ g3 _ _ _ _ _) (by rw [put4_size]; omega) (fun g e => by cases e; omega)
                  have hrb := (B4.out.trans hrb0).drew
                  refine bodyPost_ret (v := .tuple #[.agg (Ly.ar4 fun _ => .slice none 0 0), .agg (Ly.at5 fun _ => 0), .int .i64 3]) ?_ rfl ⟨fun _ => .slice none 0 0, fun _ => 0, by rw [hpe.out], fun i hi => ⟨none, 0, 0, rfl, by rw [hoS.out]; exact OwnB.nil _ _⟩, fun i hi => by rw [hoA.out], ?_⟩
                  · exact results_cell2_row (fn := Tryd.f40) (a := 2) (b := 3) (u := 4) (T1 := 62) (T2 := 67) rfl _ _ g2 g3 _ _ _ _ _ _ _ _ rfl rfl hrs hre Tryd.underlying62 rfl (by kernel_rfl) Tryd.underlying67 rfl (by kernel_rfl)
                  · rw [E2.out]; exact hrb
              · skip
                rw [if_neg (by have := hn.out; omega)] at hpe1
                obtain ⟨b0, off0, rfl, _, _⟩ := (VW.out w9 b9.out).2.2.2 (by omega)
                have i1 : (a5 : Int) ≤ (n : Int) := by omega
                have i2 : (a5 : Int) < (c : Int) := by omega
                have i3 : (4 : Int) ≤ ((n - a5 : Nat) : Int) := by omega
                have i4 : (4 : Int) ≤ (n : Int) - (a5 : Int) := by omega
                have i5 : (a5 : Int) + 4 ≤ (n : Int) := by omega
                have i6 : (a5 : Int) + 4 ≤ (c : Int) := by omega
                have i7 : ((a5 : Int) + 4).toNat = a5 + 4 := by omega
                have i8 : (4 : Int) ≤ ((c - a5 : Nat) : Int) := by omega
                have HCk := refcheck_any (some ⟨b0, off0, none⟩) (a5 + 4) c (l.take (a5 + 4)) w9 g2 ((VW.out w9 b9.out).take (by omega)) hge2 (by rw [List.length_take]; omega)
                by_cases hchk : Crc.chk (l.take (a5 + 4)) = false
                · skip
                  have hpe : Kept (Ly.pe l = 12) := ⟨by rw [hpe1, if_pos hchk]⟩
                  rw [hchk] at HCk
                  have HCk' := Kept.mk HCk
                  clear HCk hpe1 hchk hsh
                  go_upto_region 24 with (go_at_call 72; refine HCk'.out.mono ?_; rintro r w10 ⟨rfl, hb10⟩; have ar10 := Kept.mk ((hb10.block g6 (by omega)).trans ar9.out); have s10 := Kept.mk ((hb10.block g5 (by omega)).trans s9.out); have zz10 := Kept.mk (zz9.out.below hb10); have f10 := Kept.mk (f9.out.below hb10); have b10 := Kept.mk (b9.out.trans (hb10.mono (by omega))); have z10 := Nat.le_trans z9 hb10.size; have r10 := Kept.mk (r9.out.below hb10 (by omega)))
                  have zz := zz10
                  clear s9 s10 zz9 zz10 ar9 f9 b9 r9
                  obtain ⟨zr2, zr3, zr7, zr8⟩ := zz.out
                  have s2 := Kept.mk zr2
                  have s3 := Kept.mk zr3
                  have s7 := Kept.mk zr7
                  have s8 := Kept.mk zr8
                  clear zr2 zr3 zr7 zr8 zz
                  have hg2' := s2.out
                  have hg3' := s3.out
                  have x0 := fun k => frozen_of_row w10 g2 k _ _ hg2'
                  have x1 := fun k => frozen_of_row w10 g3 k _ _ hg3'
                  have dx0 : ∀ k, w10.drew.frozen? ⟨g2, k, none⟩ = false := x0
                  have dx1 : ∀ k, w10.drew.frozen? ⟨g3, k, none⟩ = false := x1
                  have y0 := (cell_of_row w10 g2 0 _ _ _ hg2').trans (Ly.ar4_get _ 0 (by omega))
                  have y1 := (cell_of_row w10 g2 1 _ _ _ hg2').trans (Ly.ar4_get _ 1 (by omega))
                  have y2 := (cell_of_row w10 g2 2 _ _ _ hg2').trans (Ly.ar4_get _ 2 (by omega))
                  have y3 := (cell_of_row w10 g2 3 _ _ _ hg2').trans (Ly.ar4_get _ 3 (by omega))
                  have u0 := (cell_of_row w10 g3 0 _ _ _ hg3').trans (Ly.at5_get _ 0 (by omega))
                  have u1 := (cell_of_row w10 g3 1 _ _ _ hg3').trans (Ly.at5_get _ 1 (by omega))
                  have u2 := (cell_of_row w10 g3 2 _ _ _ hg3').trans (Ly.at5_get _ 2 (by omega))
                  have u3 := (cell_of_row w10 g3 3 _ _ _ hg3').trans (Ly.at5_get _ 3 (by omega))
                  have u4 := (cell_of_row w10 g3 4 _ _ _ hg3').trans (Ly.at5_get _ 4 (by omega))
                  have v0 := (cell_of_row w10 g7 0 _ _ _ s7.out).trans (Ly.ar4_get _ 0 (by omega))
                  have v1 := (cell_of_row w10 g7 1 _ _ _ s7.out).trans (Ly.ar4_get _ 1 (by omega))
                  have v2 := (cell_of_row w10 g7 2 _ _ _ s7.out).trans (Ly.ar4_get _ 2 (by omega))
                  have v3 := (cell_of_row w10 g7 3 _ _ _ s7.out).trans (Ly.ar4_get _ 3 (by omega))
                  have m0 := (cell_of_row w10 g8 0 _ _ _ s8.out).trans (Ly.at5_get _ 0 (by omega))
                  have m1 := (cell_of_row w10 g8 1 _ _ _ s8.out).trans (Ly.at5_get _ 1 (by omega))
                  have m2 := (cell_of_row w10 g8 2 _ _ _ s8.out).trans (Ly.at5_get _ 2 (by omega))
                  have m3 := (cell_of_row w10 g8 3 _ _ _ s8.out).trans (Ly.at5_get _ 3 (by omega))
                  have m4 := (cell_of_row w10 g8 4 _ _ _ s8.out).trans (Ly.at5_get _ 4 (by omega))
                  have hoS : Kept (∀ i, Ly.outS l i = []) := ⟨fun i => by unfold Ly.outS; rw [hpe.out, if_neg (by simp)]⟩
                  have hoA : Kept (∀ i, Ly.outA l i = 0) := ⟨fun i => by unfold Ly.outA; rw [hpe.out, if_neg (by simp)]⟩
                  clear hg2' hg3'
                  go_wp2
                  go_region
                  go_wp2
                  have hre := row_drew <| put5_row (put4 w10 g2 (.slice none 0 0) (.slice none 0 0) (.slice none 0 0) (.slice none 0 0)) g3 (.int .i64 0) (.int .i64 0) (.int .i64 0) (.int .i64 0) (.int .i64 0) (((put4_grown w10 g2 _ _ _ _).block g3 (by omega) (fun e => by have := Option.some.inj e; omega)).trans s3.out) rfl
                  have hrs := row_drew <| ((put5_grown (put4 w10 g2 (.slice none 0 0) (.slice none 0 0) (.slice none 0 0) (.slice none 0 0)) g3 (.int .i64 0) (.int .i64 0) (.int .i64 0) (.int .i64 0) (.int .i64 0)).block g2 (by rw [put4_size]; omega) (fun e => by have := Option.some.inj e; omega)).trans (put4_row w10 g2 (.slice none 0 0) (.slice none 0 0) (.slice none 0 0) (.slice none 0 0) s2.out rfl)
                  have hrb0 : Below g2 W6 (put5 (put4 w10 g2 (.slice none 0 0) (.slice none 0 0) (.slice none 0 0) (.slice none 0 0)) g3 (.int .i64 0) (.int .i64 0) (.int .i64 0) (.int .i64 0) (.int .i64 0)) := (b10.out.grown (put4_grown w10 g2 _ _ _ _) (by omega) (fun g e => by cases e; omega)).grown (put5_grown _ g3 _ _ _ _ _) (by rw [put4_size]; omega) (fun g e => by cases e; omega)
                  have hrb := (B4.out.trans hrb0).drew
                  refine bodyPost_ret (v := .tuple #[.agg (Ly.ar4 fun _ => .slice none 0 0), .agg (Ly.at5 fun _ => 0), .int .i64 12]) ?_ rfl ⟨fun _ => .slice none 0 0, fun _ => 0, by rw [hpe.out], fun i hi => ⟨none, 0, 0, rfl, by rw [hoS.out]; exact OwnB.nil _ _⟩, fun i hi => by rw [hoA.out], ?_⟩
                  · exact results_cell2_row (fn := Tryd.f40) (a := 2) (b := 3) (u := 4) (T1 := 62) (T2 := 67) rfl _ _ g2 g3 _ _ _ _ _ _ _ _ rfl rfl hrs hre Tryd.underlying62 rfl (by kernel_rfl) Tryd.underlying67 rfl (by kernel_rfl)
                  · rw [E2.out]; exact hrb
                · skip
                  rw [if_neg hchk] at hpe1
                  rw [show Crc.chk (l.take (a5 + 4)) = true by simpa using hchk] at HCk
                  have HCk' := Kept.mk HCk
                  clear HCk hchk
                  by_cases hc4 : c - a5 = 4
                  · skip
                    have hn4 : n - a5 = 4 := by omega
                    have hdn : l.drop (a5 + 4) = [] := List.drop_eq_nil_of_le (by have := hn.out; omega)
                    have hl3 : Ly.lit (l.drop (a5 + 4)) Ly.tail = 3 := by rw [hdn]; decide
                    have hlit : Kept (Ly.lit [] (⟨#[75, 66, 83, 84]⟩ : ByteArray).data.toList = 3) := ⟨by rw [htail, ← hdn]; exact hl3⟩
                    have hpe : Kept (Ly.pe l = 3) := ⟨by rw [hpe1, hl3, if_pos (by simp)]⟩
                    clear hpe1 hdn hl3 hsh
                    have q1 : c = a5 + 4 := by omega
                    have q2 : n = a5 + 4 := by omega
                    subst q1
                    subst q2
                    clear hn4 hc4
                    have w1 : a5 + 4 - a5 = 4 := by omega
                    go_upto_region 29 with (first
                      | (go_at_call 72; refine HCk'.out.mono ?_; rintro r w10 ⟨rfl, hb10⟩; have ar10 := Kept.mk ((hb10.block g6 (by omega)).trans ar9.out); have s10 := Kept.mk ((hb10.block g5 (by omega)).trans s9.out); have zz10 := Kept.mk (zz9.out.below hb10); have f10 := Kept.mk (f9.out.below hb10); have b10 := Kept.mk (b9.out.trans (hb10.mono (by omega))); have z10 := Nat.le_trans z9 hb10.size; have r10 := Kept.mk (r9.out.below hb10 (by omega)); clear r9 ar9 s9 f9 zz9)
                      | (go_at_call 71; refine (refLiteral_any (some ⟨b0, off0 + a5, none⟩) 0 0 g2 [] ⟨#[75, 66, 83, 84]⟩ w10 (Rd.nil _ _ 1 0 _ (by unfold maxLen; omega)) (by decide)).mono ?_; rintro r w11 ⟨rfl, hq11⟩; rw [hlit.out]; have hb11 := hq11.below w10.heap.size; have ar11 := Kept.mk ((hb11.block g6 (by omega)).trans ar10.out); have s11 := Kept.mk ((hb11.block g5 (by omega)).trans s10.out); have zz11 := Kept.mk (zz10.out.below hb11); have f11 := Kept.mk (f10.out.below hb11); have b11 := Kept.mk (b10.out.trans (hb11.mono (by omega))); have z11 := Nat.le_trans z10 hb11.size; have r11 := Kept.mk (r10.out.below hb11 (by omega)); clear r10 ar10 s10 f10 zz10 hq11))
                    have zz := zz11
                    clear s11 zz11
                    obtain ⟨zr2, zr3, zr7, zr8⟩ := zz.out
                    have s2 := Kept.mk zr2
                    have s3 := Kept.mk zr3
                    have s7 := Kept.mk zr7
                    have s8 := Kept.mk zr8
                    clear zr2 zr3 zr7 zr8 zz
                    have hg2' := s2.out
                    have hg3' := s3.out
                    have x0 := fun k => frozen_of_row w11 g2 k _ _ hg2'
                    have x1 := fun k => frozen_of_row w11 g3 k _ _ hg3'
                    have dx0 : ∀ k, w11.drew.frozen? ⟨g2, k, none⟩ = false := x0
                    have dx1 : ∀ k, w11.drew.frozen? ⟨g3, k, none⟩ = false := x1
                    have y0 := (cell_of_row w11 g2 0 _ _ _ hg2').trans (Ly.ar4_get _ 0 (by omega))
                    have y1 := (cell_of_row w11 g2 1 _ _ _ hg2').trans (Ly.ar4_get _ 1 (by omega))
                    have y2 := (cell_of_row w11 g2 2 _ _ _ hg2').trans (Ly.ar4_get _ 2 (by omega))
                    have y3 := (cell_of_row w11 g2 3 _ _ _ hg2').trans (Ly.ar4_get _ 3 (by omega))
                    have u0 := (cell_of_row w11 g3 0 _ _ _ hg3').trans (Ly.at5_get _ 0 (by omega))
                    have u1 := (cell_of_row w11 g3 1 _ _ _ hg3').trans (Ly.at5_get _ 1 (by omega))
                    have u2 := (cell_of_row w11 g3 2 _ _ _ hg3').trans (Ly.at5_get _ 2 (by omega))
                    have u3 := (cell_of_row w11 g3 3 _ _ _ hg3').trans (Ly.at5_get _ 3 (by omega))
                    have u4 := (cell_of_row w11 g3 4 _ _ _ hg3').trans (Ly.at5_get _ 4 (by omega))
                    have v0 := (cell_of_row w11 g7 0 _ _ _ s7.out).trans (Ly.ar4_get _ 0 (by omega))
                    have v1 := (cell_of_row w11 g7 1 _ _ _ s7.out).trans (Ly.ar4_get _ 1 (by omega))
                    have v2 := (cell_of_row w11 g7 2 _ _ _ s7.out).trans (Ly.ar4_get _ 2 (by omega))
                    have v3 := (cell_of_row w11 g7 3 _ _ _ s7.out).trans (Ly.ar4_get _ 3 (by omega))
                    have m0 := (cell_of_row w11 g8 0 _ _ _ s8.out).trans (Ly.at5_get _ 0 (by omega))
                    have m1 := (cell_of_row w11 g8 1 _ _ _ s8.out).trans (Ly.at5_get _ 1 (by omega))
                    have m2 := (cell_of_row w11 g8 2 _ _ _ s8.out).trans (Ly.at5_get _ 2 (by omega))
                    have m3 := (cell_of_row w11 g8 3 _ _ _ s8.out).trans (Ly.at5_get _ 3 (by omega))
                    have m4 := (cell_of_row w11 g8 4 _ _ _ s8.out).trans (Ly.at5_get _ 4 (by omega))
                    have hoS : Kept (∀ i, Ly.outS l i = []) := ⟨fun i => by unfold Ly.outS; rw [hpe.out, if_neg (by simp)]⟩
                    have hoA : Kept (∀ i, Ly.outA l i = 0) := ⟨fun i => by unfold Ly.outA; rw [hpe.out, if_neg (by simp)]⟩
                    clear hg2' hg3'
                    go_wp2
                    go_region
                    go_wp2
                    have hre := row_drew <| put5_row (put4 w11 g2 (.slice none 0 0) (.slice none 0 0) (.slice none 0 0) (.slice none 0 0)) g3 (.int .i64 0) (.int .i64 0) (.int .i64 0) (.int .i64 0) (.int .i64 0) (((put4_grown w11 g2 _ _ _ _).block g3 (by omega) (fun e => by have := Option.some.inj e; omega)).trans s3.out) rfl
                    have hrs := row_drew <| ((put5_grown (put4 w11 g2 (.slice none 0 0) (.slice none 0 0) (.slice none 0 0) (.slice none 0 0)) g3 (.int .i64 0) (.int .i64 0) (.int .i64 0) (.int .i64 0) (.int .i64 0)).block g2 (by rw [put4_size]; omega) (fun e => by have := Option.some.inj e; omega)).trans (put4_row w11 g2 (.slice none 0 0) (.slice none 0 0) (.slice none 0 0) (.slice none 0 0) s2.out rfl)
                    have hrb0 : Below g2 W6 (put5 (put4 w11 g2 (.slice none 0 0) (.slice none 0 0) (.slice none 0 0) (.slice none 0 0)) g3 (.int .i64 0) (.int .i64 0) (.int .i64 0) (.int .i64 0) (.int .i64 0)) := (b11.out.grown (put4_grown w11 g2 _ _ _ _) (by omega) (fun g e => by cases e; omega)).grown (put5_grown _ g3 _ _ _ _ _) (by rw [put4_size]; omega) (fun g e => by cases e; omega)
                    have hrb := (B4.out.trans hrb0).drew
                    refine bodyPost_ret (v := .tuple #[.agg (Ly.ar4 fun _ => .slice none 0 0), .agg (Ly.at5 fun _ => 0), .int .i64 3]) ?_ rfl ⟨fun _ => .slice none 0 0, fun _ => 0, by rw [hpe.out], fun i hi => ⟨none, 0, 0, rfl, by rw [hoS.out]; exact OwnB.nil _ _⟩, fun i hi => by rw [hoA.out], ?_⟩
                    · exact results_cell2_row (fn := Tryd.f40) (a := 2) (b := 3) (u := 4) (T1 := 62) (T2 := 67) rfl _ _ g2 g3 _ _ _ _ _ _ _ _ rfl rfl hrs hre Tryd.underlying62 rfl (by kernel_rfl) Tryd.underlying67 rfl (by kernel_rfl)
                    · rw [E2.out]; exact hrb
                  · skip
                    have hr2 : Kept (∀ W, Below g2 W6 W → RdB W g2 (some ⟨b0, off0 + a5 + 4, none⟩) (n - a5 - 4) (c - a5 - 4) (l.drop (a5 + 4))) := ⟨fun W h => by
                      have h1 := (VW.out W h).drop (k := a5 + 4) (by omega)
                      rw [if_neg (by omega)] at h1
                      simp only [Option.map_some, add_plain, ← Nat.add_assoc] at h1
                      rw [show n - (a5 + 4) = n - a5 - 4 by omega, show c - (a5 + 4) = c - a5 - 4 by omega] at h1
                      exact h1⟩
                    have i9 : (4 : Int) < ((c - a5 : Nat) : Int) := by omega
                    have i10 : (4 : Int) < (c : Int) - (a5 : Int) := by omega
                    obtain ⟨e9, he9'⟩ : ∃ e9, Ly.lit (l.drop (a5 + 4)) Ly.tail = e9 := ⟨_, rfl⟩
                    rw [he9'] at hpe1
                    have hlit : Kept (Ly.lit (l.drop (a5 + 4)) (⟨#[75, 66, 83, 84]⟩ : ByteArray).data.toList = e9) := ⟨by rw [htail]; exact he9'⟩
                    clear he9'
                    by_cases hlt0 : e9 = 0
                    · skip
                      subst hlt0
                      rw [if_neg (by simp)] at hpe1
                      by_cases htr : a5 + 8 < n
                      · skip
                        have hpe : Kept (Ly.pe l = 4) := ⟨by rw [hpe1, if_pos (by have := hn.out; omega)]⟩
                        have x1 : (8 : Int) < ((n - a5 : Nat) : Int) := by omega
                        have x2 : (8 : Int) < (n : Int) - (a5 : Int) := by omega
                        clear hpe1 htr hsh hc4
                        go_upto_region 29 with (first
                          | (go_at_call 72; refine HCk'.out.mono ?_; rintro r w10 ⟨rfl, hb10⟩; have ar10 := Kept.mk ((hb10.block g6 (by omega)).trans ar9.out); have s10 := Kept.mk ((hb10.block g5 (by omega)).trans s9.out); have zz10 := Kept.mk (zz9.out.below hb10); have f10 := Kept.mk (f9.out.below hb10); have b10 := Kept.mk (b9.out.trans (hb10.mono (by omega))); have z10 := Nat.le_trans z9 hb10.size; have r10 := Kept.mk (r9.out.below hb10 (by omega)); clear r9 ar9 s9 f9 zz9)
                          | (go_at_call 71; refine (refLiteral_any (some ⟨b0, off0 + a5 + 4, none⟩) (n - a5 - 4) (c - a5 - 4) g2 (l.drop (a5 + 4)) ⟨#[75, 66, 83, 84]⟩ w10 (hr2.out _ b10.out) (by decide)).mono ?_; rintro r w11 ⟨rfl, hq11⟩; rw [hlit.out]; have hb11 := hq11.below w10.heap.size; have ar11 := Kept.mk ((hb11.block g6 (by omega)).trans ar10.out); have s11 := Kept.mk ((hb11.block g5 (by omega)).trans s10.out); have zz11 := Kept.mk (zz10.out.below hb11); have f11 := Kept.mk (f10.out.below hb11); have b11 := Kept.mk (b10.out.trans (hb11.mono (by omega))); have z11 := Nat.le_trans z10 hb11.size; have r11 := Kept.mk (r10.out.below hb11 (by omega)); clear r10 ar10 s10 f10 zz10 hq11))
                        have zz := zz11
                        clear s11 zz11 x1 x2
                        obtain ⟨zr2, zr3, zr7, zr8⟩ := zz.out
                        have s2 := Kept.mk zr2
                        have s3 := Kept.mk zr3
                        have s7 := Kept.mk zr7
                        have s8 := Kept.mk zr8
                        clear zr2 zr3 zr7 zr8 zz
                        have hg2' := s2.out
                        have hg3' := s3.out
                        have x0 := fun k => frozen_of_row w11 g2 k _ _ hg2'
                        have x1 := fun k => frozen_of_row w11 g3 k _ _ hg3'
                        have dx0 : ∀ k, w11.drew.frozen? ⟨g2, k, none⟩ = false := x0
                        have dx1 : ∀ k, w11.drew.frozen? ⟨g3, k, none⟩ = false := x1
                        have y0 := (cell_of_row w11 g2 0 _ _ _ hg2').trans (Ly.ar4_get _ 0 (by omega))
                        have y1 := (cell_of_row w11 g2 1 _ _ _ hg2').trans (Ly.ar4_get _ 1 (by omega))
                        have y2 := (cell_of_row w11 g2 2 _ _ _ hg2').trans (Ly.ar4_get _ 2 (by omega))
                        have y3 := (cell_of_row w11 g2 3 _ _ _ hg2').trans (Ly.ar4_get _ 3 (by omega))
                        have u0 := (cell_of_row w11 g3 0 _ _ _ hg3').trans (Ly.at5_get _ 0 (by omega))
                        have u1 := (cell_of_row w11 g3 1 _ _ _ hg3').trans (Ly.at5_get _ 1 (by omega))
                        have u2 := (cell_of_row w11 g3 2 _ _ _ hg3').trans (Ly.at5_get _ 2 (by omega))
                        have u3 := (cell_of_row w11 g3 3 _ _ _ hg3').trans (Ly.at5_get _ 3 (by omega))
                        have u4 := (cell_of_row w11 g3 4 _ _ _ hg3').trans (Ly.at5_get _ 4 (by omega))
                        have v0 := (cell_of_row w11 g7 0 _ _ _ s7.out).trans (Ly.ar4_get _ 0 (by omega))
                        have v1 := (cell_of_row w11 g7 1 _ _ _ s7.out).trans (Ly.ar4_get _ 1 (by omega))
                        have v2 := (cell_of_row w11 g7 2 _ _ _ s7.out).trans (Ly.ar4_get _ 2 (by omega))
                        have v3 := (cell_of_row w11 g7 3 _ _ _ s7.out).trans (Ly.ar4_get _ 3 (by omega))
                        have m0 := (cell_of_row w11 g8 0 _ _ _ s8.out).trans (Ly.at5_get _ 0 (by omega))
                        have m1 := (cell_of_row w11 g8 1 _ _ _ s8.out).trans (Ly.at5_get _ 1 (by omega))
                        have m2 := (cell_of_row w11 g8 2 _ _ _ s8.out).trans (Ly.at5_get _ 2 (by omega))
                        have m3 := (cell_of_row w11 g8 3 _ _ _ s8.out).trans (Ly.at5_get _ 3 (by omega))
                        have m4 := (cell_of_row w11 g8 4 _ _ _ s8.out).trans (Ly.at5_get _ 4 (by omega))
                        have hoS : Kept (∀ i, Ly.outS l i = []) := ⟨fun i => by unfold Ly.outS; rw [hpe.out, if_neg (by simp)]⟩
                        have hoA : Kept (∀ i, Ly.outA l i = 0) := ⟨fun i => by unfold Ly.outA; rw [hpe.out, if_neg (by simp)]⟩
                        clear hg2' hg3'
                        go_wp2
                        go_region
                        go_wp2
                        have hre := row_drew <| put5_row (put4 w11 g2 (.slice none 0 0) (.slice none 0 0) (.slice none 0 0) (.slice none 0 0)) g3 (.int .i64 0) (.int .i64 0) (.int .i64 0) (.int .i64 0) (.int .i64 0) (((put4_grown w11 g2 _ _ _ _).block g3 (by omega) (fun e => by have := Option.some.inj e; omega)).trans s3.out) rfl
                        have hrs := row_drew <| ((put5_grown (put4 w11 g2 (.slice none 0 0) (.slice none 0 0) (.slice none 0 0) (.slice none 0 0)) g3 (.int .i64 0) (.int .i64 0) (.int .i64 0) (.int .i64 0) (.int .i64 0)).block g2 (by rw [put4_size]; omega) (fun e => by have := Option.some.inj e; omega)).trans (put4_row w11 g2 (.slice none 0 0) (.slice none 0 0) (.slice none 0 0) (.slice none 0 0) s2.out rfl)
                        have hrb0 : Below g2 W6 (put5 (put4 w11 g2 (.slice none 0 0) (.slice none 0 0) (.slice none 0 0) (.slice none 0 0)) g3 (.int .i64 0) (.int .i64 0) (.int .i64 0) (.int .i64 0) (.int .i64 0)) := (b11.out.grown (put4_grown w11 g2 _ _ _ _) (by omega) (fun g e => by cases e; omega)).grown (put5_grown _ g3 _ _ _ _ _) (by rw [put4_size]; omega) (fun g e => by cases e; omega)
                        have hrb := (B4.out.trans hrb0).drew
                        refine bodyPost_ret (v := .tuple #[.agg (Ly.ar4 fun _ => .slice none 0 0), .agg (Ly.at5 fun _ => 0), .int .i64 4]) ?_ rfl ⟨fun _ => .slice none 0 0, fun _ => 0, by rw [hpe.out], fun i hi => ⟨none, 0, 0, rfl, by rw [hoS.out]; exact OwnB.nil _ _⟩, fun i hi => by rw [hoA.out], ?_⟩
                        · exact results_cell2_row (fn := Tryd.f40) (a := 2) (b := 3) (u := 4) (T1 := 62) (T2 := 67) rfl _ _ g2 g3 _ _ _ _ _ _ _ _ rfl rfl hrs hre Tryd.underlying62 rfl (by kernel_rfl) Tryd.underlying67 rfl (by kernel_rfl)
                        · rw [E2.out]; exact hrb
                      · skip
                        have hpe : Kept (Ly.pe l = 0) := ⟨by rw [hpe1, if_neg (by have := hn.out; omega)]⟩
                        have x1 : ((n - a5 : Nat) : Int) ≤ 8 := by omega
                        have x2 : (n : Int) - (a5 : Int) ≤ 8 := by omega
                        clear hpe1 htr hsh hc4
                        go_upto_region 30 with (first
                          | (go_at_call 72; refine HCk'.out.mono ?_; rintro r w10 ⟨rfl, hb10⟩; have ar10 := Kept.mk ((hb10.block g6 (by omega)).trans ar9.out); have s10 := Kept.mk ((hb10.block g5 (by omega)).trans s9.out); have zz10 := Kept.mk (zz9.out.below hb10); have f10 := Kept.mk (f9.out.below hb10); have b10 := Kept.mk (b9.out.trans (hb10.mono (by omega))); have z10 := Nat.le_trans z9 hb10.size; have r10 := Kept.mk (r9.out.below hb10 (by omega)); clear r9 ar9 s9 f9 zz9)
                          | (go_at_call 71; refine (refLiteral_any (some ⟨b0, off0 + a5 + 4, none⟩) (n - a5 - 4) (c - a5 - 4) g2 (l.drop (a5 + 4)) ⟨#[75, 66, 83, 84]⟩ w10 (hr2.out _ b10.out) (by decide)).mono ?_; rintro r w11 ⟨rfl, hq11⟩; rw [hlit.out]; have hb11 := hq11.below w10.heap.size; have ar11 := Kept.mk ((hb11.block g6 (by omega)).trans ar10.out); have s11 := Kept.mk ((hb11.block g5 (by omega)).trans s10.out); have zz11 := Kept.mk (zz10.out.below hb11); have f11 := Kept.mk (f10.out.below hb11); have b11 := Kept.mk (b10.out.trans (hb11.mono (by omega))); have z11 := Nat.le_trans z10 hb11.size; have r11 := Kept.mk (r10.out.below hb11 (by omega)); clear r10 ar10 s10 f10 zz10 hq11))
                        clear x1 x2
                        obtain ⟨zr2, zr3, -, -⟩ := zz11.out
                        have H2 := Kept.mk zr2
                        have H3 := Kept.mk zr3
                        have x0 := fun k => frozen_of_row w11 g2 k _ _ zr2
                        have x1 := fun k => frozen_of_row w11 g3 k _ _ zr3
                        have dx0 : ∀ k, w11.drew.frozen? ⟨g2, k, none⟩ = false := x0
                        have dx1 : ∀ k, w11.drew.frozen? ⟨g3, k, none⟩ = false := x1
                        have y0 := (cell_of_row w11 g2 0 _ _ _ zr2).trans (Ly.ar4_get _ 0 (by omega))
                        have y1 := (cell_of_row w11 g2 1 _ _ _ zr2).trans (Ly.ar4_get _ 1 (by omega))
                        have y2 := (cell_of_row w11 g2 2 _ _ _ zr2).trans (Ly.ar4_get _ 2 (by omega))
                        have y3 := (cell_of_row w11 g2 3 _ _ _ zr2).trans (Ly.ar4_get _ 3 (by omega))
                        have u0 := (cell_of_row w11 g3 0 _ _ _ zr3).trans (Ly.at5_get _ 0 (by omega))
                        have u1 := (cell_of_row w11 g3 1 _ _ _ zr3).trans (Ly.at5_get _ 1 (by omega))
                        have u2 := (cell_of_row w11 g3 2 _ _ _ zr3).trans (Ly.at5_get _ 2 (by omega))
                        have u3 := (cell_of_row w11 g3 3 _ _ _ zr3).trans (Ly.at5_get _ 3 (by omega))
                        have u4 := (cell_of_row w11 g3 4 _ _ _ zr3).trans (Ly.at5_get _ 4 (by omega))
                        have v0 := (cell_of_row w11 g5 0 _ _ _ s11.out).trans (Ly.ar4_get _ 0 (by omega))
                        have v1 := (cell_of_row w11 g5 1 _ _ _ s11.out).trans (Ly.ar4_get _ 1 (by omega))
                        have v2 := (cell_of_row w11 g5 2 _ _ _ s11.out).trans (Ly.ar4_get _ 2 (by omega))
                        have v3 := (cell_of_row w11 g5 3 _ _ _ s11.out).trans (Ly.ar4_get _ 3 (by omega))
                        obtain ⟨Aa, na, ca, ea⟩ := f11.out.form 0 (by omega)
                        obtain ⟨Ab, nb, cb, eb⟩ := f11.out.form 1 (by omega)
                        obtain ⟨Ac, nc, cc, ec⟩ := f11.out.form 2 (by omega)
                        obtain ⟨Ad, nd, cd, ed⟩ := f11.out.form 3 (by omega)
                        have har : Kept (Ly.ar4 V = #[.slice Aa na ca, .slice Ab nb cb, .slice Ac nc cc, .slice Ad nd cd]) := ⟨by unfold Ly.ar4; rw [ea, eb, ec, ed]⟩
                        rw [ea] at v0
                        rw [eb] at v1
                        rw [ec] at v2
                        rw [ed] at v3
                        clear ea eb ec ed zr2 zr3
                        have m0 := (cell_of_row w11 g6 0 _ _ _ ar11.out).trans (Ly.at5_get _ 0 (by omega))
                        have m1 := (cell_of_row w11 g6 1 _ _ _ ar11.out).trans (Ly.at5_get _ 1 (by omega))
                        have m2 := (cell_of_row w11 g6 2 _ _ _ ar11.out).trans (Ly.at5_get _ 2 (by omega))
                        have m3 := (cell_of_row w11 g6 3 _ _ _ ar11.out).trans (Ly.at5_get _ 3 (by omega))
                        have m4 := (cell_of_row w11 g6 4 _ _ _ ar11.out).trans (Ly.at5_get _ 4 (by omega))
                        go_wp2
                        go_region
                        go_wp2
                        have hre := row_drew <| put5_row (put4 w11 g2 (.slice Aa na ca) (.slice Ab nb cb) (.slice Ac nc cc) (.slice Ad nd cd)) g3 (.int .i64 (m5 0 : Int)) (.int .i64 (m5 1 : Int)) (.int .i64 (m5 2 : Int)) (.int .i64 (m5 3 : Int)) (.int .i64 (m5 4 : Int)) (((put4_grown w11 g2 _ _ _ _).block g3 (by omega) (fun e => by have := Option.some.inj e; omega)).trans H3.out) rfl
                        have hrs := row_drew <| ((put5_grown (put4 w11 g2 (.slice Aa na ca) (.slice Ab nb cb) (.slice Ac nc cc) (.slice Ad nd cd)) g3 (.int .i64 (m5 0 : Int)) (.int .i64 (m5 1 : Int)) (.int .i64 (m5 2 : Int)) (.int .i64 (m5 3 : Int)) (.int .i64 (m5 4 : Int))).block g2 (by rw [put4_size]; omega) (fun e => by have := Option.some.inj e; omega)).trans (put4_row w11 g2 (.slice Aa na ca) (.slice Ab nb cb) (.slice Ac nc cc) (.slice Ad nd cd) H2.out rfl)
                        have hrb0 : Below g2 W6 (put5 (put4 w11 g2 (.slice Aa na ca) (.slice Ab nb cb) (.slice Ac nc cc) (.slice Ad nd cd)) g3 (.int .i64 (m5 0 : Int)) (.int .i64 (m5 1 : Int)) (.int .i64 (m5 2 : Int)) (.int .i64 (m5 3 : Int)) (.int .i64 (m5 4 : Int))) := (b11.out.grown (put4_grown w11 g2 _ _ _ _) (by omega) (fun g e => by cases e; omega)).grown (put5_grown _ g3 _ _ _ _ _) (by rw [put4_size]; omega) (fun g e => by cases e; omega)
                        have hrb := (B4.out.trans hrb0).drew
                        have hfo := FourO.drew <| (f11.out.grown (put4_grown w11 g2 (.slice Aa na ca) (.slice Ab nb cb) (.slice Ac nc cc) (.slice Ad nd cd)) (by omega)).grown (put5_grown _ g3 (.int .i64 (m5 0 : Int)) (.int .i64 (m5 1 : Int)) (.int .i64 (m5 2 : Int)) (.int .i64 (m5 3 : Int)) (.int .i64 (m5 4 : Int))) (by omega)
                        refine bodyPost_ret (v := .tuple #[.agg (Ly.ar4 V), .agg (Ly.at5 m5), .int .i64 0]) ?_ rfl ⟨V, m5, by rw [hpe.out], fun i hi => ?_, fun i hi => ?_, ?_⟩
                        · rw [har.out]
                          exact results_cell2_row (fn := Tryd.f40) (a := 2) (b := 3) (u := 4) (T1 := 62) (T2 := 67) rfl _ _ g2 g3 _ _ _ _ _ _ _ _ rfl rfl hrs hre Tryd.underlying62 rfl (by kernel_rfl) Tryd.underlying67 rfl (by kernel_rfl)
                        · obtain ⟨A', n', c', h1, h2⟩ := hfo i hi
                          have hg : Ly.gate 4 (Ly.sec l) i = Ly.outS l i := by unfold Ly.gate Ly.outS; rw [if_pos hi, hpe.out, if_pos rfl]
                          rw [hg] at h2
                          exact ⟨A', n', c', h1, OwnB.base h2 (by rw [E2.out]; omega)⟩
                        · rw [hm5.out i hi]; unfold Ly.outA; rw [hpe.out, if_pos rfl]
                        · rw [E2.out]; exact hrb
                    · skip
                      rw [if_pos hlt0] at hpe1
                      have hpe := Kept.mk hpe1
                      have heb : (e9 == 0) = false := by simpa using hlt0
                      have hen : (e9 != 0) = true := by simpa using hlt0
                      have hnz := Kept.mk hlt0
                      clear hpe1 hlt0 hsh hc4
                      go_upto_region 29 with (first
                        | (go_at_call 72; refine HCk'.out.mono ?_; rintro r w10 ⟨rfl, hb10⟩; have ar10 := Kept.mk ((hb10.block g6 (by omega)).trans ar9.out); have s10 := Kept.mk ((hb10.block g5 (by omega)).trans s9.out); have zz10 := Kept.mk (zz9.out.below hb10); have f10 := Kept.mk (f9.out.below hb10); have b10 := Kept.mk (b9.out.trans (hb10.mono (by omega))); have z10 := Nat.le_trans z9 hb10.size; have r10 := Kept.mk (r9.out.below hb10 (by omega)); clear r9 ar9 s9 f9 zz9)
                        | (go_at_call 71; refine (refLiteral_any (some ⟨b0, off0 + a5 + 4, none⟩) (n - a5 - 4) (c - a5 - 4) g2 (l.drop (a5 + 4)) ⟨#[75, 66, 83, 84]⟩ w10 (hr2.out _ b10.out) (by decide)).mono ?_; rintro r w11 ⟨rfl, hq11⟩; rw [hlit.out]; have hb11 := hq11.below w10.heap.size; have ar11 := Kept.mk ((hb11.block g6 (by omega)).trans ar10.out); have s11 := Kept.mk ((hb11.block g5 (by omega)).trans s10.out); have zz11 := Kept.mk (zz10.out.below hb11); have f11 := Kept.mk (f10.out.below hb11); have b11 := Kept.mk (b10.out.trans (hb11.mono (by omega))); have z11 := Nat.le_trans z10 hb11.size; have r11 := Kept.mk (r10.out.below hb11 (by omega)); clear r10 ar10 s10 f10 zz10 hq11))
                      have zz := zz11
                      clear s11 zz11
                      obtain ⟨zr2, zr3, zr7, zr8⟩ := zz.out
                      have s2 := Kept.mk zr2
                      have s3 := Kept.mk zr3
                      have s7 := Kept.mk zr7
                      have s8 := Kept.mk zr8
                      clear zr2 zr3 zr7 zr8 zz
                      have hg2' := s2.out
                      have hg3' := s3.out
                      have x0 := fun k => frozen_of_row w11 g2 k _ _ hg2'
                      have x1 := fun k => frozen_of_row w11 g3 k _ _ hg3'
                      have dx0 : ∀ k, w11.drew.frozen? ⟨g2, k, none⟩ = false := x0
                      have dx1 : ∀ k, w11.drew.frozen? ⟨g3, k, none⟩ = false := x1
                      have y0 := (cell_of_row w11 g2 0 _ _ _ hg2').trans (Ly.ar4_get _ 0 (by omega))
                      have y1 := (cell_of_row w11 g2 1 _ _ _ hg2').trans (Ly.ar4_get _ 1 (by omega))
                      have y2 := (cell_of_row w11 g2 2 _ _ _ hg2').trans (Ly.ar4_get _ 2 (by omega))
                      have y3 := (cell_of_row w11 g2 3 _ _ _ hg2').trans (Ly.ar4_get _ 3 (by omega))
                      have u0 := (cell_of_row w11 g3 0 _ _ _ hg3').trans (Ly.at5_get _ 0 (by omega))
                      have u1 := (cell_of_row w11 g3 1 _ _ _ hg3').trans (Ly.at5_get _ 1 (by omega))
                      have u2 := (cell_of_row w11 g3 2 _ _ _ hg3').trans (Ly.at5_get _ 2 (by omega))
                      have u3 := (cell_of_row w11 g3 3 _ _ _ hg3').trans (Ly.at5_get _ 3 (by omega))
                      have u4 := (cell_of_row w11 g3 4 _ _ _ hg3').trans (Ly.at5_get _ 4 (by omega))
                      have v0 := (cell_of_row w11 g7 0 _ _ _ s7.out).trans (Ly.ar4_get _ 0 (by omega))
                      have v1 := (cell_of_row w11 g7 1 _ _ _ s7.out).trans (Ly.ar4_get _ 1 (by omega))
                      have v2 := (cell_of_row w11 g7 2 _ _ _ s7.out).trans (Ly.ar4_get _ 2 (by omega))
                      have v3 := (cell_of_row w11 g7 3 _ _ _ s7.out).trans (Ly.ar4_get _ 3 (by omega))
                      have m0 := (cell_of_row w11 g8 0 _ _ _ s8.out).trans (Ly.at5_get _ 0 (by omega))
                      have m1 := (cell_of_row w11 g8 1 _ _ _ s8.out).trans (Ly.at5_get _ 1 (by omega))
                      have m2 := (cell_of_row w11 g8 2 _ _ _ s8.out).trans (Ly.at5_get _ 2 (by omega))
                      have m3 := (cell_of_row w11 g8 3 _ _ _ s8.out).trans (Ly.at5_get _ 3 (by omega))
                      have m4 := (cell_of_row w11 g8 4 _ _ _ s8.out).trans (Ly.at5_get _ 4 (by omega))
                      have hoS : Kept (∀ i, Ly.outS l i = []) := ⟨fun i => by unfold Ly.outS; rw [hpe.out, if_neg hnz.out]⟩
                      have hoA : Kept (∀ i, Ly.outA l i = 0) := ⟨fun i => by unfold Ly.outA; rw [hpe.out, if_neg hnz.out]⟩
                      clear hg2' hg3'
                      go_wp2
                      go_region
                      go_wp2
                      have hre := row_drew <| put5_row (put4 w11 g2 (.slice none 0 0) (.slice none 0 0) (.slice none 0 0) (.slice none 0 0)) g3 (.int .i64 0) (.int .i64 0) (.int .i64 0) (.int .i64 0) (.int .i64 0) (((put4_grown w11 g2 _ _ _ _).block g3 (by omega) (fun e => by have := Option.some.inj e; omega)).trans s3.out) rfl
                      have hrs := row_drew <| ((put5_grown (put4 w11 g2 (.slice none 0 0) (.slice none 0 0) (.slice none 0 0) (.slice none 0 0)) g3 (.int .i64 0) (.int .i64 0) (.int .i64 0) (.int .i64 0) (.int .i64 0)).block g2 (by rw [put4_size]; omega) (fun e => by have := Option.some.inj e; omega)).trans (put4_row w11 g2 (.slice none 0 0) (.slice none 0 0) (.slice none 0 0) (.slice none 0 0) s2.out rfl)
                      have hrb0 : Below g2 W6 (put5 (put4 w11 g2 (.slice none 0 0) (.slice none 0 0) (.slice none 0 0) (.slice none 0 0)) g3 (.int .i64 0) (.int .i64 0) (.int .i64 0) (.int .i64 0) (.int .i64 0)) := (b11.out.grown (put4_grown w11 g2 _ _ _ _) (by omega) (fun g e => by cases e; omega)).grown (put5_grown _ g3 _ _ _ _ _) (by rw [put4_size]; omega) (fun g e => by cases e; omega)
                      have hrb := (B4.out.trans hrb0).drew
                      refine bodyPost_ret (v := .tuple #[.agg (Ly.ar4 fun _ => .slice none 0 0), .agg (Ly.at5 fun _ => 0), .int .i64 e9]) ?_ rfl ⟨fun _ => .slice none 0 0, fun _ => 0, by rw [hpe.out], fun i hi => ⟨none, 0, 0, rfl, by rw [hoS.out]; exact OwnB.nil _ _⟩, fun i hi => by rw [hoA.out], ?_⟩
                      · exact results_cell2_row (fn := Tryd.f40) (a := 2) (b := 3) (u := 4) (T1 := 62) (T2 := 67) rfl _ _ g2 g3 _ _ _ _ _ _ _ _ rfl rfl hrs hre Tryd.underlying62 rfl (by kernel_rfl) Tryd.underlying67 rfl (by kernel_rfl)
                      · rw [E2.out]; exact hrb
          · skip
            have hE : (D == C) = false := by simpa using hDC
            go_cut [66] (fun t W => t = .bool true ∧ Below w8.heap.size w8 W)
            case first =>
              go_region_with (go_at_call 70; refine (HC'.out _).mono ?_; rintro r w9 ⟨A4, n4, c4, rfl, ho4, hb4'⟩; have hb4 : Below w8.heap.size w8 w9 := below_drew_of hb4'; have kc2 := run_bytes_str w9 w9.heap.size A4 n4 c4 C ho4.rd; have kc1 := KC1.out w9 hb4; clear ho4)
              all_goals
                go_wp2
                go_meet
                exact ⟨by first | rfl | simp [hE], hb4⟩
            case rest =>
              rename World => w9
              obtain ⟨rfl, hb4⟩ := hcut
              have ar9 := Kept.mk ((hb4.block g6 (by omega)).trans ar8.out)
              have s9 := Kept.mk ((hb4.block g5 (by omega)).trans s8.out)
              have zz9 := Kept.mk (zz8.out.below hb4)
              have f9 := Kept.mk (f8.out.below hb4)
              have b9 := Kept.mk (b8.out.trans (hb4.mono (by omega)))
              have z9 := Nat.le_trans z8 hb4.size
              have r9 := Kept.mk (r8.out.below hb4 (by omega))
              have hpe : Kept (Ly.pe l = 13) := ⟨by rw [hpeK.out, if_pos hDC]⟩
              clear hDC k0 k1 k2 k3 k4 kk0 kcd s8 s9 r8 ar8 f8 b8 zz8
              go_upto_region 19 with fail
              obtain ⟨zr2, zr3, zr7, zr8⟩ := zz9.out
              have s2 := Kept.mk zr2
              have s3 := Kept.mk zr3
              have s7 := Kept.mk zr7
              have s8 := Kept.mk zr8
              clear zr2 zr3 zr7 zr8 zz9
              have hg2' := s2.out
              have hg3' := s3.out
              have x0 := fun k => frozen_of_row w9 g2 k _ _ hg2'
              have x1 := fun k => frozen_of_row w9 g3 k _ _ hg3'
              have dx0 : ∀ k, w9.drew.frozen? ⟨g2, k, none⟩ = false := x0
              have dx1 : ∀ k, w9.drew.frozen? ⟨g3, k, none⟩ = false := x1
              have y0 := (cell_of_row w9 g2 0 _ _ _ hg2').trans (Ly.ar4_get _ 0 (by omega))
              have y1 := (cell_of_row w9 g2 1 _ _ _ hg2').trans (Ly.ar4_get _ 1 (by omega))
              have y2 := (cell_of_row w9 g2 2 _ _ _ hg2').trans (Ly.ar4_get _ 2 (by omega))
              have y3 := (cell_of_row w9 g2 3 _ _ _ hg2').trans (Ly.ar4_get _ 3 (by omega))
              have u0 := (cell_of_row w9 g3 0 _ _ _ hg3').trans (Ly.at5_get _ 0 (by omega))
              have u1 := (cell_of_row w9 g3 1 _ _ _ hg3').trans (Ly.at5_get _ 1 (by omega))
              have u2 := (cell_of_row w9 g3 2 _ _ _ hg3').trans (Ly.at5_get _ 2 (by omega))
              have u3 := (cell_of_row w9 g3 3 _ _ _ hg3').trans (Ly.at5_get _ 3 (by omega))
              have u4 := (cell_of_row w9 g3 4 _ _ _ hg3').trans (Ly.at5_get _ 4 (by omega))
              have v0 := (cell_of_row w9 g7 0 _ _ _ s7.out).trans (Ly.ar4_get _ 0 (by omega))
              have v1 := (cell_of_row w9 g7 1 _ _ _ s7.out).trans (Ly.ar4_get _ 1 (by omega))
              have v2 := (cell_of_row w9 g7 2 _ _ _ s7.out).trans (Ly.ar4_get _ 2 (by omega))
              have v3 := (cell_of_row w9 g7 3 _ _ _ s7.out).trans (Ly.ar4_get _ 3 (by omega))
              have m0 := (cell_of_row w9 g8 0 _ _ _ s8.out).trans (Ly.at5_get _ 0 (by omega))
              have m1 := (cell_of_row w9 g8 1 _ _ _ s8.out).trans (Ly.at5_get _ 1 (by omega))
              have m2 := (cell_of_row w9 g8 2 _ _ _ s8.out).trans (Ly.at5_get _ 2 (by omega))
              have m3 := (cell_of_row w9 g8 3 _ _ _ s8.out).trans (Ly.at5_get _ 3 (by omega))
              have m4 := (cell_of_row w9 g8 4 _ _ _ s8.out).trans (Ly.at5_get _ 4 (by omega))
              have hoS : Kept (∀ i, Ly.outS l i = []) := ⟨fun i => by unfold Ly.outS; rw [hpe.out, if_neg (by simp)]⟩
              have hoA : Kept (∀ i, Ly.outA l i = 0) := ⟨fun i => by unfold Ly.outA; rw [hpe.out, if_neg (by simp)]⟩
              clear hg2' hg3'
              go_wp2
              go_region
              go_wp2
              have hre := row_drew <| put5_row (put4 w9 g2 (.slice none 0 0) (.slice none 0 0) (.slice none 0 0) (.slice none 0 0)) g3 (.int .i64 0) (.int .i64 0) (.int .i64 0) (.int .i64 0) (.int .i64 0) (((put4_grown w9 g2 _ _ _ _).block g3 (by omega) (fun e => by have := Option.some.inj e; omega)).trans s3.out) rfl
              have hrs := row_drew <| ((put5_grown (put4 w9 g2 (.slice none 0 0) (.slice none 0 0) (.slice none 0 0) (.slice none 0 0)) g3 (.int .i64 0) (.int .i64 0) (.int .i64 0) (.int .i64 0) (.int .i64 0)).block g2 (by rw [put4_size]; omega) (fun e => by have := Option.some.inj e; omega)).trans (put4_row w9 g2 (.slice none 0 0) (.slice none 0 0) (.slice none 0 0) (.slice none 0 0) s2.out rfl)
              have hrb0 : Below g2 W6 (put5 (put4 w9 g2 (.slice none 0 0) (.slice none 0 0) (.slice none 0 0) (.slice none 0 0)) g3 (.int .i64 0) (.int .i64 0) (.int .i64 0) (.int .i64 0) (.int .i64 0)) := (b9.out.grown (put4_grown w9 g2 _ _ _ _) (by omega) (fun g e => by cases e; omega)).grown (put5_grown _ g3 _ _ _ _ _) (by rw [put4_size]; omega) (fun g e => by cases e; omega)
              have hrb := (B4.out.trans hrb0).drew
              refine bodyPost_ret (v := .tuple #[.agg (Ly.ar4 fun _ => .slice none 0 0), .agg (Ly.at5 fun _ => 0), .int .i64 13]) ?_ rfl ⟨fun _ => .slice none 0 0, fun _ => 0, by rw [hpe.out], fun i hi => ⟨none, 0, 0, rfl, by rw [hoS.out]; exact OwnB.nil _ _⟩, fun i hi => by rw [hoA.out], ?_⟩
              · exact results_cell2_row (fn := Tryd.f40) (a := 2) (b := 3) (u := 4) (T1 := 62) (T2 := 67) rfl _ _ g2 g3 _ _ _ _ _ _ _ _ rfl rfl hrs hre Tryd.underlying62 rfl (by kernel_rfl) Tryd.underlying67 rfl (by kernel_rfl)
              · rw [E2.out]; exact hrb
        · skip
          have hpe : Kept (Ly.pe l = e5) := ⟨by rw [hpeK.out, if_pos he5]⟩
          have heb : (e5 == 0) = false := by simpa using he5
          have hen : (e5 != 0) = true := by simpa using he5
          have hnz := Kept.mk he5
          clear he5 k0 k1 k2 k3 k4
          have s5' := s8
          have zz := zz8
          clear s8 zz8
          go_upto_region 17 with fail
          obtain ⟨zr2, zr3, zr7, zr8⟩ := zz.out
          have s2 := Kept.mk zr2
          have s3 := Kept.mk zr3
          have s7 := Kept.mk zr7
          have s8 := Kept.mk zr8
          clear zr2 zr3 zr7 zr8 zz
          have hg2' := s2.out
          have hg3' := s3.out
          have x0 := fun k => frozen_of_row w8 g2 k _ _ hg2'
          have x1 := fun k => frozen_of_row w8 g3 k _ _ hg3'
          have dx0 : ∀ k, w8.drew.frozen? ⟨g2, k, none⟩ = false := x0
          have dx1 : ∀ k, w8.drew.frozen? ⟨g3, k, none⟩ = false := x1
          have y0 := (cell_of_row w8 g2 0 _ _ _ hg2').trans (Ly.ar4_get _ 0 (by omega))
          have y1 := (cell_of_row w8 g2 1 _ _ _ hg2').trans (Ly.ar4_get _ 1 (by omega))
          have y2 := (cell_of_row w8 g2 2 _ _ _ hg2').trans (Ly.ar4_get _ 2 (by omega))
          have y3 := (cell_of_row w8 g2 3 _ _ _ hg2').trans (Ly.ar4_get _ 3 (by omega))
          have u0 := (cell_of_row w8 g3 0 _ _ _ hg3').trans (Ly.at5_get _ 0 (by omega))
          have u1 := (cell_of_row w8 g3 1 _ _ _ hg3').trans (Ly.at5_get _ 1 (by omega))
          have u2 := (cell_of_row w8 g3 2 _ _ _ hg3').trans (Ly.at5_get _ 2 (by omega))
          have u3 := (cell_of_row w8 g3 3 _ _ _ hg3').trans (Ly.at5_get _ 3 (by omega))
          have u4 := (cell_of_row w8 g3 4 _ _ _ hg3').trans (Ly.at5_get _ 4 (by omega))
          have v0 := (cell_of_row w8 g7 0 _ _ _ s7.out).trans (Ly.ar4_get _ 0 (by omega))
          have v1 := (cell_of_row w8 g7 1 _ _ _ s7.out).trans (Ly.ar4_get _ 1 (by omega))
          have v2 := (cell_of_row w8 g7 2 _ _ _ s7.out).trans (Ly.ar4_get _ 2 (by omega))
          have v3 := (cell_of_row w8 g7 3 _ _ _ s7.out).trans (Ly.ar4_get _ 3 (by omega))
          have m0 := (cell_of_row w8 g8 0 _ _ _ s8.out).trans (Ly.at5_get _ 0 (by omega))
          have m1 := (cell_of_row w8 g8 1 _ _ _ s8.out).trans (Ly.at5_get _ 1 (by omega))
          have m2 := (cell_of_row w8 g8 2 _ _ _ s8.out).trans (Ly.at5_get _ 2 (by omega))
          have m3 := (cell_of_row w8 g8 3 _ _ _ s8.out).trans (Ly.at5_get _ 3 (by omega))
          have m4 := (cell_of_row w8 g8 4 _ _ _ s8.out).trans (Ly.at5_get _ 4 (by omega))
          have hoS : Kept (∀ i, Ly.outS l i = []) := ⟨fun i => by unfold Ly.outS; rw [hpe.out, if_neg hnz.out]⟩
          have hoA : Kept (∀ i, Ly.outA l i = 0) := ⟨fun i => by unfold Ly.outA; rw [hpe.out, if_neg hnz.out]⟩
          clear hg2' hg3'
          go_wp2
          go_region
          go_wp2
          have hre := row_drew <| put5_row (put4 w8 g2 (.slice none 0 0) (.slice none 0 0) (.slice none 0 0) (.slice none 0 0)) g3 (.int .i64 0) (.int .i64 0) (.int .i64 0) (.int .i64 0) (.int .i64 0) (((put4_grown w8 g2 _ _ _ _).block g3 (by omega) (fun e => by have := Option.some.inj e; omega)).trans s3.out) rfl
          have hrs := row_drew <| ((put5_grown (put4 w8 g2 (.slice none 0 0) (.slice none 0 0) (.slice none 0 0) (.slice none 0 0)) g3 (.int .i64 0) (.int .i64 0) (.int .i64 0) (.int .i64 0) (.int .i64 0)).block g2 (by rw [put4_size]; omega) (fun e => by have := Option.some.inj e; omega)).trans (put4_row w8 g2 (.slice none 0 0) (.slice none 0 0) (.slice none 0 0) (.slice none 0 0) s2.out rfl)
          have hrb0 : Below g2 W6 (put5 (put4 w8 g2 (.slice none 0 0) (.slice none 0 0) (.slice none 0 0) (.slice none 0 0)) g3 (.int .i64 0) (.int .i64 0) (.int .i64 0) (.int .i64 0) (.int .i64 0)) := (b8.out.grown (put4_grown w8 g2 _ _ _ _) (by omega) (fun g e => by cases e; omega)).grown (put5_grown _ g3 _ _ _ _ _) (by rw [put4_size]; omega) (fun g e => by cases e; omega)
          have hrb := (B4.out.trans hrb0).drew
          refine bodyPost_ret (v := .tuple #[.agg (Ly.ar4 fun _ => .slice none 0 0), .agg (Ly.at5 fun _ => 0), .int .i64 e5]) ?_ rfl ⟨fun _ => .slice none 0 0, fun _ => 0, by rw [hpe.out], fun i hi => ⟨none, 0, 0, rfl, by rw [hoS.out]; exact OwnB.nil _ _⟩, fun i hi => by rw [hoA.out], ?_⟩
          · exact results_cell2_row (fn := Tryd.f40) (a := 2) (b := 3) (u := 4) (T1 := 62) (T2 := 67) rfl _ _ g2 g3 _ _ _ _ _ _ _ _ rfl rfl hrs hre Tryd.underlying62 rfl (by kernel_rfl) Tryd.underlying67 rfl (by kernel_rfl)
          · rw [E2.out]; exact hrb
  · skip
    have hpe : Kept (Ly.pe l = Ly.lit l Ly.head) := ⟨by unfold Ly.pe; rw [if_pos (by rw [Ly.S_err l hl0]; exact hl0), Ly.S_err l hl0]⟩
    have heb : (Ly.lit l Ly.head == 0) = false := by simpa using hl0
    have hen : (Ly.lit l Ly.head != 0) = true := by simpa using hl0
    have hnz := Kept.mk hl0
    clear hl0
    generalize Ly.lit l Ly.head = e1 at *
    have hg2' := s2.out
    have hg3' := s3.out
    have x0 := fun k => frozen_of_row w7 g2 k _ _ hg2'
    have x1 := fun k => frozen_of_row w7 g3 k _ _ hg3'
    have dx0 : ∀ k, w7.drew.frozen? ⟨g2, k, none⟩ = false := x0
    have dx1 : ∀ k, w7.drew.frozen? ⟨g3, k, none⟩ = false := x1
    have y0 := (cell_of_row w7 g2 0 _ _ _ hg2').trans (Ly.ar4_get _ 0 (by omega))
    have y1 := (cell_of_row w7 g2 1 _ _ _ hg2').trans (Ly.ar4_get _ 1 (by omega))
    have y2 := (cell_of_row w7 g2 2 _ _ _ hg2').trans (Ly.ar4_get _ 2 (by omega))
    have y3 := (cell_of_row w7 g2 3 _ _ _ hg2').trans (Ly.ar4_get _ 3 (by omega))
    have u0 := (cell_of_row w7 g3 0 _ _ _ hg3').trans (Ly.at5_get _ 0 (by omega))
    have u1 := (cell_of_row w7 g3 1 _ _ _ hg3').trans (Ly.at5_get _ 1 (by omega))
    have u2 := (cell_of_row w7 g3 2 _ _ _ hg3').trans (Ly.at5_get _ 2 (by omega))
    have u3 := (cell_of_row w7 g3 3 _ _ _ hg3').trans (Ly.at5_get _ 3 (by omega))
    have u4 := (cell_of_row w7 g3 4 _ _ _ hg3').trans (Ly.at5_get _ 4 (by omega))
    have v0 := (cell_of_row w7 g7 0 _ _ _ s7.out).trans (Ly.ar4_get _ 0 (by omega))
    have v1 := (cell_of_row w7 g7 1 _ _ _ s7.out).trans (Ly.ar4_get _ 1 (by omega))
    have v2 := (cell_of_row w7 g7 2 _ _ _ s7.out).trans (Ly.ar4_get _ 2 (by omega))
    have v3 := (cell_of_row w7 g7 3 _ _ _ s7.out).trans (Ly.ar4_get _ 3 (by omega))
    have m0 := (cell_of_row w7 g8 0 _ _ _ s8.out).trans (Ly.at5_get _ 0 (by omega))
    have m1 := (cell_of_row w7 g8 1 _ _ _ s8.out).trans (Ly.at5_get _ 1 (by omega))
    have m2 := (cell_of_row w7 g8 2 _ _ _ s8.out).trans (Ly.at5_get _ 2 (by omega))
    have m3 := (cell_of_row w7 g8 3 _ _ _ s8.out).trans (Ly.at5_get _ 3 (by omega))
    have m4 := (cell_of_row w7 g8 4 _ _ _ s8.out).trans (Ly.at5_get _ 4 (by omega))
    have hoS : Kept (∀ i, Ly.outS l i = []) := ⟨fun i => by unfold Ly.outS; rw [hpe.out, if_neg hnz.out]⟩
    have hoA : Kept (∀ i, Ly.outA l i = 0) := ⟨fun i => by unfold Ly.outA; rw [hpe.out, if_neg hnz.out]⟩
    clear hg2' hg3'
    go_wp2
    go_region
    go_wp2
    have hre := row_drew <| put5_row (put4 w7 g2 (.slice none 0 0) (.slice none 0 0) (.slice none 0 0) (.slice none 0 0)) g3 (.int .i64 0) (.int .i64 0) (.int .i64 0) (.int .i64 0) (.int .i64 0) (((put4_grown w7 g2 _ _ _ _).block g3 (by omega) (fun e => by have := Option.some.inj e; omega)).trans s3.out) rfl
    have hrs := row_drew <| ((put5_grown (put4 w7 g2 (.slice none 0 0) (.slice none 0 0) (.slice none 0 0) (.slice none 0 0)) g3 (.int .i64 0) (.int .i64 0) (.int .i64 0) (.int .i64 0) (.int .i64 0)).block g2 (by rw [put4_size]; omega) (fun e => by have := Option.some.inj e; omega)).trans (put4_row w7 g2 (.slice none 0 0) (.slice none 0 0) (.slice none 0 0) (.slice none 0 0) s2.out rfl)
    have hrb0 : Below g2 W6 (put5 (put4 w7 g2 (.slice none 0 0) (.slice none 0 0) (.slice none 0 0) (.slice none 0 0)) g3 (.int .i64 0) (.int .i64 0) (.int .i64 0) (.int .i64 0) (.int .i64 0)) := (D7.out.grown (put4_grown w7 g2 _ _ _ _) (by omega) (fun g e => by cases e; omega)).grown (put5_grown _ g3 _ _ _ _ _) (by rw [put4_size]; omega) (fun g e => by cases e; omega)
    have hrb := (B4.out.trans hrb0).drew
    refine bodyPost_ret (v := .tuple #[.agg (Ly.ar4 fun _ => .slice none 0 0), .agg (Ly.at5 fun _ => 0), .int .i64 e1]) ?_ rfl ⟨fun _ => .slice none 0 0, fun _ => 0, by rw [hpe.out], fun i hi => ⟨none, 0, 0, rfl, by rw [hoS.out]; exact OwnB.nil _ _⟩, fun i hi => by rw [hoA.out], ?_⟩
    · exact results_cell2_row (fn := Tryd.f40) (a := 2) (b := 3) (u := 4) (T1 := 62) (T2 := 67) rfl _ _ g2 g3 _ _ _ _ _ _ _ _ rfl rfl hrs hre Tryd.underlying62 rfl (by kernel_rfl) Tryd.underlying67 rfl (by kernel_rfl)
    · rw [E2.out]; exact hrb
end Go.Proofs.YtknfkbgnfjfpeaaDoor
