/- Chapter 13: the program's reader of records: a record. -/
import Derived.Test.YtglnghdomoebfaaRecD
namespace Go.Proofs.Ytglnghdomoebfaa
open Go.RowKit Go.Shelf

namespace Rc
def rec (T : List ByteArray) (l : List UInt8) (a : Nat) (e : Int) : (List Lab × List Nat) × Nat × Int :=
  let x := labs T l a e
  let y := lens l x.2.1 x.2.2
  ((x.1, y.1), y.2.1, if y.1 = [] ∧ y.2.2 = 0 then 23 else y.2.2)
end Rc
theorem own_set_ne {w : World} {base n c sz g k : Nat} {A : Option Addr} {xs : List Value} {t : TypeId} {v : Value} (h : w.ownsRow base t sz (.slice A n c) n xs) (hne : ∀ g', ab A = some g' → g' ≠ g) : (w.setCell ⟨g, k, none⟩ v).ownsRow base t sz (.slice A n c) n xs :=
  own_grown h (grown_set w ⟨g, k, none⟩ v) (by
    rcases hA : ab A with _ | g'
    · exact .inl rfl
    · exact .inr fun e => hne g' hA (Option.some.inj e))
theorem own_rebase {w : World} {b1 b2 sz n c : Nat} {A : Option Addr} {xs : List Value} {e : TypeId} (h : w.ownsRow b1 e sz (.slice A n c) n xs) (hb : b2 ≤ b1) : w.ownsRow b2 e sz (.slice A n c) n xs :=
  ⟨h.1, h.2.imp id fun ⟨g, cap, cur, h1, h2, h3⟩ => ⟨g, cap, cur, h1, by omega, h3⟩⟩
theorem Rdr.set_new {w : World} {p a g k : Nat} {l : List UInt8} {e : Int} {v : Value} (h : Rdr w p l a e) (hg : p < g) : Rdr (w.setCell ⟨g, k, none⟩ v) p l a e :=
  h.below ((Below.refl g w).setCell (p := ⟨g, k, none⟩) (Nat.le_refl _) _) hg
set_option maxRecDepth 100000 in
set_option maxHeartbeats 4000000 in
theorem record_any (q p a tn tc : Nat) (TA : Option Addr) (T : List ByteArray) (l : List UInt8) (e : Int) (w : World) (hR : RR w q p TA tn tc T l) (h : Rdr w p l a e) (hll : l.length ≤ 20000000) :
    Calls Try.prog 52 #[.pointer (some ⟨q, 0, none⟩)] w fun r w' => ∃ A1 n1 c1 A2 n2 c2, r = .returned (.agg #[.slice A1 n1 c1, .slice A2 n2 c2]) ∧ OwnL w' w.heap.size A1 n1 c1 (Rc.rec T l a e).1.1 ∧ OwnN w' w.heap.size A2 n2 c2 (Rc.rec T l a e).1.2 ∧ Rdr w' p l (Rc.rec T l a e).2.1 (Rc.rec T l a e).2.2 ∧ w.grownBy w' (some p) := by
  have hpl := h.lt
  obtain ⟨W1, hW1⟩ : ∃ W1, W1 = w.alloc (.cells #[.slice none 0 0, .slice none 0 0] 72) := ⟨_, rfl⟩
  have R1 : Kept (RR W1 q p TA tn tc T l) := ⟨by rw [hW1]; exact hR.box _⟩
  have D1 : Kept (Rdr W1 p l a e) := ⟨by rw [hW1]; exact h.box _⟩
  have H1 : Kept (W1.heap[w.heap.size]? = some (.cells #[.slice none 0 0, .slice none 0 0] 72 (0, 0))) := ⟨by rw [hW1]; exact heap_alloc_new w _⟩
  have Z1 : Kept (w.heap.size < W1.heap.size) := ⟨by rw [hW1]; simp⟩
  have G1 : Kept (∀ W, W1.grownBy W (some p) → w.grownBy W (some p)) := ⟨fun W hg => by rw [hW1] at hg; exact grown_box hg⟩
  have HW := Kept.mk hW1.symm
  have S1 := Kept.mk (listLab_any q p a tn tc TA T l e W1 R1.out D1.out hll)
  have hC : Rc.rec T l a e = (((Rc.labs T l a e).1, (Rc.lens l (Rc.labs T l a e).2.1 (Rc.labs T l a e).2.2).1), (Rc.lens l (Rc.labs T l a e).2.1 (Rc.labs T l a e).2.2).2.1, if (Rc.lens l (Rc.labs T l a e).2.1 (Rc.labs T l a e).2.2).1 = [] ∧ (Rc.lens l (Rc.labs T l a e).2.1 (Rc.labs T l a e).2.2).2.2 = 0 then 23 else (Rc.lens l (Rc.labs T l a e).2.1 (Rc.labs T l a e).2.2).2.2) := rfl
  rw [hC]
  generalize Rc.labs T l a e = X at *
  obtain ⟨L, a1, e1⟩ := X
  have S2 := Kept.mk (fun w2 (r : RR w2 q p TA tn tc T l) (d : Rdr w2 p l a1 e1) => listLen_any q p a1 tn tc TA T l e1 w2 r d hll)
  simp only [] at S1 S2 ⊢
  generalize Rc.lens l a1 e1 = Y at *
  obtain ⟨C, a2, e2⟩ := Y
  simp only [] at S2 ⊢
  obtain ⟨E, hE⟩ : ∃ E : Int, E = (if C = [] ∧ e2 = 0 then 23 else e2) := ⟨_, rfl⟩
  rw [← hE]
  have HE := Kept.mk hE
  clear h hR hC hW1 hE
  go_enter Try.func52, Try.ntmps52
  go_upto_region 1 with fail
  rw [HW.out]
  go_upto_region 2 with (go_at_call 74; refine S1.out.mono ?_; rintro r w2 ⟨A1, n1, c1, rfl, ho, hr, hg⟩; have O2 := Kept.mk ho; have D2 := Kept.mk hr; have G2 := Kept.mk hg; have R2 := Kept.mk (R1.out.grown hg); have X2 := Kept.mk ((hg.block w.heap.size Z1.out (fun e => by have := Option.some.inj e; omega)).trans H1.out); clear hr hg ho S1)
  have R2b := Kept.mk (R2.out.box (.cells #[.slice A1 n1 c1, .slice none 0 0] 72))
  have D2b := Kept.mk (D2.out.box (.cells #[.slice A1 n1 c1, .slice none 0 0] 72))
  have O2b := Kept.mk (World.ownsRow.alloc O2.out (.cells #[.slice A1 n1 c1, .slice none 0 0] 72))
  have z2 := G2.out.size
  have z1 := Z1.out
  have hlt1 : ∀ g, ab A1 = some g → W1.heap.size ≤ g ∧ g < w2.heap.size := fun g hg => own_lt O2.out g hg
  have X2b : Kept ((w2.alloc (.cells #[.slice A1 n1 c1, .slice none 0 0] 72)).heap[w.heap.size]? = some (.cells #[.slice none 0 0, .slice none 0 0] 72 (0, 0))) := ⟨(Below.heap_alloc _ _ _ (by omega)).trans X2.out⟩
  have H2 : Kept ((w2.alloc (.cells #[.slice A1 n1 c1, .slice none 0 0] 72)).heap[w2.heap.size]? = some (.cells #[.slice A1 n1 c1, .slice none 0 0] 72 (0, 0))) := ⟨heap_alloc_new w2 _⟩
  have G2b : Kept (W1.grownBy (w2.alloc (.cells #[.slice A1 n1 c1, .slice none 0 0] 72)) (some p)) := ⟨G2.out.trans (grown_of_below ((Below.refl _ w2).alloc (Nat.le_refl _) _))⟩
  have zW : w2.heap.size < (w2.alloc (.cells #[.slice A1 n1 c1, .slice none 0 0] 72)).heap.size := by simp
  clear R2 D2 O2 X2 G2
  generalize w2.alloc (.cells #[.slice A1 n1 c1, .slice none 0 0] 72) = W2 at *
  generalize w2.heap.size = g3 at *
  go_upto_region 3 with (go_at_call 76; refine (S2.out W2 R2b.out D2b.out).mono ?_; rintro r w3 ⟨A2, n2, c2, rfl, ho, hr, hg⟩; have O3 := Kept.mk (OwnL.past O2b.out hg (by omega)); have N3 := Kept.mk ho; have D3 := Kept.mk hr; have G3 := Kept.mk (G2b.out.trans hg); have x3 := (hg.block w.heap.size (by omega) (fun e => by have := Option.some.inj e; omega)).trans X2b.out; have h3 := (hg.block g3 zW (fun e => by have := Option.some.inj e; omega)).trans H2.out; have X3 := Kept.mk x3; have H3 := Kept.mk h3; have k0 := cell_of_row _ _ 0 _ _ _ h3; have k1 := cell_of_row _ _ 1 _ _ _ h3; have kf := fun k => frozen_of_row _ _ k _ _ h3; have hlt2 : ∀ g, ab A2 = some g → W2.heap.size ≤ g := (fun g hgg => (own_lt ho g hgg).1); have z3 := hg.size; clear hr hg ho S2 x3 h3)
  have hn2 : n2 = C.length := by have := OwnI.len N3.out; simpa using this
  have O4 : Kept (OwnL (w3.setCell ⟨g3, 1, none⟩ (.slice A2 n2 c2)) W1.heap.size A1 n1 c1 L) := ⟨own_set_ne O3.out fun g hg => by have := hlt1 g hg; omega⟩
  have N4 : Kept (OwnN (w3.setCell ⟨g3, 1, none⟩ (.slice A2 n2 c2)) W2.heap.size A2 n2 c2 C) := ⟨own_set_ne N3.out fun g hg => by have := hlt2 g hg; omega⟩
  have D4 : Kept (Rdr (w3.setCell ⟨g3, 1, none⟩ (.slice A2 n2 c2)) p l a2 e2) := ⟨D3.out.set_new (by omega)⟩
  have G4 : Kept (W1.grownBy (w3.setCell ⟨g3, 1, none⟩ (.slice A2 n2 c2)) (some p)) := ⟨grown_new_set G3.out (by omega)⟩
  have H4 : Kept ((w3.setCell ⟨g3, 1, none⟩ (.slice A2 n2 c2)).heap[g3]? = some (.cells #[.slice A1 n1 c1, .slice A2 n2 c2] 72 (0, 0))) := ⟨heap_setCell_same w3 g3 1 _ _ _ H3.out⟩
  have X4 : Kept ((w3.setCell ⟨g3, 1, none⟩ (.slice A2 n2 c2)).heap[w.heap.size]? = some (.cells #[.slice none 0 0, .slice none 0 0] 72 (0, 0))) := ⟨((grown_set w3 ⟨g3, 1, none⟩ (.slice A2 n2 c2)).block w.heap.size (by omega) (fun e => by have := Option.some.inj e; simp at this; omega)).trans X3.out⟩
  have z4 : w3.heap.size = (w3.setCell ⟨g3, 1, none⟩ (.slice A2 n2 c2)).heap.size := by simp
  have Z4 := Kept.mk z4
  clear z4 O3 N3 D3 G3 H3 X3 k0 k1 kf
  generalize w3.setCell ⟨g3, 1, none⟩ (.slice A2 n2 c2) = W4 at *
  obtain ⟨q0, q1, q2⟩ := (R1.out.grown G4.out).cells
  have k0 := cell_of_row _ _ 0 _ _ _ H4.out
  have k1 := cell_of_row _ _ 1 _ _ _ H4.out
  have y0 := cell_of_row _ _ 0 _ _ _ X4.out
  have y1 := cell_of_row _ _ 1 _ _ _ X4.out
  have yf := fun k => frozen_of_row _ _ k _ _ X4.out
  have fin : ∀ W5 (e5 : Int), W5.heap[w.heap.size]? = some (.cells #[.slice none 0 0, .slice none 0 0] 72 (0, 0)) → OwnL W5 W1.heap.size A1 n1 c1 L → OwnN W5 W2.heap.size A2 n2 c2 C → Rdr W5 p l a2 e5 → W1.grownBy W5 (some p) →
      (((W5.setCell ⟨w.heap.size, 0, none⟩ (.slice A1 n1 c1)).setCell ⟨w.heap.size, 1, none⟩ (.slice A2 n2 c2)).heap[w.heap.size]? = some (.cells #[.slice A1 n1 c1, .slice A2 n2 c2] 72 (0, 0))) ∧
      OwnL ((W5.setCell ⟨w.heap.size, 0, none⟩ (.slice A1 n1 c1)).setCell ⟨w.heap.size, 1, none⟩ (.slice A2 n2 c2)) w.heap.size A1 n1 c1 L ∧ OwnN ((W5.setCell ⟨w.heap.size, 0, none⟩ (.slice A1 n1 c1)).setCell ⟨w.heap.size, 1, none⟩ (.slice A2 n2 c2)) w.heap.size A2 n2 c2 C ∧
      Rdr ((W5.setCell ⟨w.heap.size, 0, none⟩ (.slice A1 n1 c1)).setCell ⟨w.heap.size, 1, none⟩ (.slice A2 n2 c2)) p l a2 e5 ∧ w.grownBy ((W5.setCell ⟨w.heap.size, 0, none⟩ (.slice A1 n1 c1)).setCell ⟨w.heap.size, 1, none⟩ (.slice A2 n2 c2)) (some p) := fun W5 e5 h1 h2 h3 h4 h5 =>
    ⟨put2_row W5 w.heap.size _ _ h1 rfl,
     own_rebase (own_set_ne (own_set_ne h2 fun g hg => by have := hlt1 g hg; omega) fun g hg => by have := hlt1 g hg; omega) (by omega),
     own_rebase (own_set_ne (own_set_ne h3 fun g hg => by have := hlt2 g hg; omega) fun g hg => by have := hlt2 g hg; omega) (by omega),
     (h4.set_new hpl).set_new hpl, grown_new_set (grown_new_set (G1.out W5 h5) (Nat.le_refl _)) (Nat.le_refl _)⟩
  have FIN := Kept.mk fin
  have Zb : Kept (p < W1.heap.size ∧ p < W2.heap.size) := ⟨by omega, by omega⟩
  have Zs : Kept (w.heap.size < W4.heap.size ∧ g3 < W4.heap.size ∧ p < w.heap.size ∧ p < g3) := ⟨by have := Z4.out; omega, by have := Z4.out; omega, hpl, by omega⟩
  clear fin hlt1 hlt2 z1 z2 z3 zW Z4
  by_cases hc0 : C = []
  · have hn0 : n2 = 0 := by rw [hn2, hc0]; rfl
    have hE : (if e2 = 0 then (23 : Int) else e2) = E := by rw [HE.out]; simp [hc0]
    have FL := Kept.mk (fail_any p a2 l e2 23 W4 D4.out)
    rw [hE] at FL
    clear hn2 hE hc0
    subst hn0
    go_wp2_with (go_at_call 78; refine FL.out.mono ?_; rintro r w5 ⟨rfl, hr, hg⟩; have hx5 := (hg.block w.heap.size Zs.out.1 (fun e => by have := Option.some.inj e; have := Zs.out.2.2.1; omega)).trans X4.out; have hh5 := (hg.block g3 Zs.out.2.1 (fun e => by have := Option.some.inj e; have := Zs.out.2.2.2; omega)).trans H4.out; have m0 := cell_of_row _ _ 0 _ _ _ hh5; have m1 := cell_of_row _ _ 1 _ _ _ hh5; have x0 := cell_of_row _ _ 0 _ _ _ hx5; have x1 := cell_of_row _ _ 1 _ _ _ hx5; have xf := fun k => frozen_of_row _ _ k _ _ hx5; have F5 := Kept.mk (FIN.out w5 E hx5 (OwnL.past O4.out hg Zb.out.1) (OwnI.past N4.out hg Zb.out.2) hr (G4.out.trans hg)); clear hr hg hx5 hh5 FL)
    obtain ⟨f1, f2, f3, f4, f5⟩ := F5.out
    refine bodyPost_ret (v := .agg #[.slice A1 n1 c1, .slice A2 0 c2]) ?hr rfl ⟨A1, n1, c1, A2, 0, c2, rfl, f2, f3, f4, f5⟩
    case hr => exact results_cell_row (fn := Try.f52) (p := 2) (ty := 72) rfl _ _ w.heap.size _ _ _ _ rfl f1 Try.underlying72 rfl (by kernel_rfl)
  · have hE : E = e2 := by rw [HE.out]; simp [hc0]
    have hnp : ¬ n2 = 0 := by
      rw [hn2]
      exact fun h => hc0 (List.eq_nil_of_length_eq_zero h)
    have F5 := Kept.mk (FIN.out W4 e2 X4.out O4.out N4.out D4.out G4.out)
    rw [← hE] at F5
    clear hn2 hE hc0
    go_wp2
    obtain ⟨f1, f2, f3, f4, f5⟩ := F5.out
    refine bodyPost_ret (v := .agg #[.slice A1 n1 c1, .slice A2 n2 c2]) ?hr rfl ⟨A1, n1, c1, A2, n2, c2, rfl, f2, f3, f4, f5⟩
    case hr => exact results_cell_row (fn := Try.f52) (p := 2) (ty := 72) rfl _ _ w.heap.size _ _ _ _ rfl f1 Try.underlying72 rfl (by kernel_rfl)
end Go.Proofs.Ytglnghdomoebfaa
