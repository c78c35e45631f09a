/- Chapter 11: the strings of labels, by the program; how large a list is. -/
import Derived.Test.YtglnghdomoebfaaLabE
namespace Go.Proofs.Ytglnghdomoebfaa
open Go.RowKit Go.Shelf

theorem cell_row (w : World) (g k : Nat) (cs : Array Value) (t : TypeId) (fr : Nat × Nat) (h : w.heap[g]? = some (.cells cs t fr)) : w.cell? ⟨g, k, none⟩ = cs[k]? := by
  simp [World.cell?, h]
theorem OwnS.apart {w : World} {base n c g : Nat} {A : Option Addr} {l : List ByteArray} {cs : Array Value} {t : TypeId} {fr : Nat × Nat} (h : OwnS w base A n c l) (hg : w.heap[g]? = some (.cells cs t fr)) (ht : t ≠ 9) : ab A ≠ some g := by
  intro e
  rcases h.2 with ⟨hv, _⟩ | ⟨g', cap, cur, hv, _, hg', _⟩
  · injection hv with h1; rw [h1] at e; cases e
  · injection hv with h1
    rw [h1] at e
    have : g' = g := Option.some.inj e
    subst this
    rw [hg] at hg'
    injection hg' with h2
    injection h2 with _ h3
    exact ht h3
set_option maxRecDepth 100000 in
set_option maxHeartbeats 2000000 in
theorem lstrings_any (A : Option Addr) (n c : Nat) (l : List Lab) (w : World) (hv : RdL w w.heap.size A n c l) (hcap : n ≤ 1000000000000) :
    Calls Try.prog 41 #[.slice A n c] w fun e w' => ∃ A2 n2 c2, e = .returned (.slice A2 n2 c2) ∧ OwnS w' w.heap.size A2 n2 c2 (Lb.strs l) ∧ Below w.heap.size w w' := by
  have hlc := hv.1
  have hcm := hv.2.1
  unfold maxLen at hcm
  have hn := Kept.mk hv.len
  have V := Kept.mk hv
  clear hv
  go_enter Try.func41, Try.ntmps41
  go_wp2
  go_loopw [3, 10] (fun o i wr => ∃ k : Nat, k ≤ n ∧ i = .int .i64 k ∧ ∃ A2 n2 c2, o = .slice A2 n2 c2 ∧ OwnS wr w.heap.size A2 n2 c2 (Lb.strs (l.take k)) ∧ Below w.heap.size w wr) (fun _ i _ => n - (intOf i).toNat)
  case atStart => exact ⟨0, by omega, rfl, none, 0, 0, rfl, by simpa [Lb.strs] using OwnS.nil w w.heap.size, Below.refl _ _⟩
  case round =>
    obtain ⟨k, hk, rfl, A2, n2, c2, rfl, ho, hb⟩ := hrel
    by_cases hlt : k < n
    · have hkl : k < l.length := by rw [← hn.out]; exact hlt
      obtain ⟨b, off, rfl, hc⟩ := V.out.cells (Nat.le_refl _) hkl
      have hn2 : n2 ≤ 2000000000000 := by
        have h1 := ho.len
        rw [Lb.strs_length, List.length_take] at h1; omega
      have hst := Kept.mk (Lb.strs_take l k hkl)
      have hz := hb.size
      obtain ⟨c0, c1⟩ := hc wr hb
      have O := Kept.mk ho
      have HB := Kept.mk hb
      clear hc ho hb
      generalize l[k].n = xn at *
      generalize l[k].v = xv at *
      go_upto_region 6 with (go_at_call 60; refine (parts_any _).mono ?_; rintro e w1 ⟨rfl, g1⟩)
      have X1 : Kept (w1.heap[wr.heap.size]? = some (.cells #[.string xn, .string xv] 57 (0, 0))) := ⟨(g1.below.block _ (by simp)).trans (heap_alloc_new wr _)⟩
      have b01 := HB.out.alloc hz (.cells #[.string xn, .string xv] 57)
      have B1 := Kept.mk (b01.trans (g1.below.mono b01.size))
      have O1 : Kept (OwnS w1 w.heap.size A2 n2 c2 (Lb.strs (l.take k))) := ⟨own_below (World.ownsRow.alloc O.out _) g1.below (fun g e => by have := (own_lt O.out g e).2; simp; omega)⟩
      clear b01 g1 HB O c0 c1 hz
      generalize wr.heap.size = G at *
      rename World => wq
      go_loopw [3, 15] (fun o j wi => ∃ A3 n3 c3, o = .slice A3 n3 c3 ∧ Below w.heap.size w wi ∧ wi.heap[G]? = some (.cells #[.string xn, .string xv] 57 (0, 0)) ∧ ((j = .int .i64 0 ∧ OwnS wi w.heap.size A3 n3 c3 (Lb.strs (l.take k))) ∨ (j = .int .i64 1 ∧ OwnS wi w.heap.size A3 n3 c3 (Lb.strs (l.take k) ++ [xn])) ∨ (j = .int .i64 2 ∧ OwnS wi w.heap.size A3 n3 c3 ((Lb.strs (l.take k) ++ [xn]) ++ [xv])))) (fun _ j _ => 2 - (intOf j).toNat)
      case atStart => exact ⟨A2, n2, c2, rfl, B1.out, X1.out, .inl ⟨rfl, O1.out⟩⟩
      case round =>
        clear B1 X1 O1
        obtain ⟨A3, n3, c3, rfl, hb, hx, hj⟩ := hrel
        have HG : G < wr.heap.size := (Array.getElem?_eq_some_iff.1 hx).1
        have y0 := fun o => (World.cell?_alloc_lt wr o ⟨G, 0, none⟩ HG).trans (cell_row wr G 0 _ _ _ hx)
        have y1 := fun o => (World.cell?_alloc_lt wr o ⟨G, 1, none⟩ HG).trans (cell_row wr G 1 _ _ _ hx)
        have HB := Kept.mk hb
        have hzw := hb.size
        have X := Kept.mk hx
        clear hb hx
        rcases hj with ⟨rfl, ho⟩ | ⟨rfl, ho⟩ | ⟨rfl, ho⟩
        · have ii := fun W => part_ix0 (.func (.func 84) #[] #[]) (.func (.func 85) #[] #[]) W
          have P1 : ∀ W, Calls Try.prog 84 #[.agg #[.string xn, .string xv]] W fun e w' => e = .returned (.string xn) ∧ ∃ q os', w' = Sort.grow (W.drewN q) os' := fun W => part1_any ⟨xn, xv⟩ W
          have hn3 : n3 ≤ 3000000000000 := by have h1 := ho.len; simp [Lb.strs_length] at h1; omega
          have O := Kept.mk ho
          clear ho
          go_wp2_with (first
            | (go_at_call 84; refine (P1 _).mono ?_; rintro e w2 ⟨rfl, g2⟩; have G2 : Kept (Below wr.heap.size wr w2) := ⟨((Below.refl _ wr).alloc (Nat.le_refl _) _).trans ((Gr.below g2).mono (by simp))⟩; have O2 := Kept.mk (own_below O.out G2.out (fun g e => (own_lt O.out g e).2)); have hz2 := G2.out.size; clear g2)
            | (at_builtin; refine wpList_appS rfl (.tmp 18) (.tmp 23) rfl w.heap.size A3 n3 c3 _ rfl (World.ownsRow.alloc O2.out _) (w2.heap.size + 1) _ _ _ [xn] rfl (RdS.one w2 xn) (by omega) (by simp; omega) ?_; intro A4 c4 w4 hown4 hgrow4 hat4; have O4 := Kept.mk hown4; have X2 : Kept (w2.heap[G]? = some (.cells #[.string xn, .string xv] 57 (0, 0))) := ⟨(G2.out.block _ HG).trans X.out⟩; have X3 := Kept.mk ((Below.heap_alloc w2 (.cells #[.string xn] 9) G (by omega)).trans X2.out); have X4 := Kept.mk ((hgrow4.block G (by simp; omega) (Ne.symm (OwnS.apart (World.ownsRow.alloc O2.out _) X3.out (by decide)))).trans X3.out); have B4 := Kept.mk ((((HB.out.trans (G2.out.mono HB.out.size)).alloc (by have := HB.out.size; omega) (.cells #[.string xn] 9)).grown hgrow4 (by have := HB.out.size; simp; omega) (fun g e => (own_lt O.out g e).1))); clear hown4 hgrow4 hat4))
          go_roundw
          case rel => exact ⟨A4, _, c4, rfl, B4.out, X4.out, .inr (.inl ⟨rfl, O4.out⟩)⟩
          case measure => simp [intOf]
        · have ii := fun W => part_ix1 (.func (.func 84) #[] #[]) (.func (.func 85) #[] #[]) W
          have P1 : ∀ W, Calls Try.prog 85 #[.agg #[.string xn, .string xv]] W fun e w' => e = .returned (.string xv) ∧ ∃ q os', w' = Sort.grow (W.drewN q) os' := fun W => part2_any ⟨xn, xv⟩ W
          have hn3 : n3 ≤ 3000000000000 := by have h1 := ho.len; simp [Lb.strs_length] at h1; omega
          have O := Kept.mk ho
          clear ho
          go_wp2_with (first
            | (go_at_call 85; refine (P1 _).mono ?_; rintro e w2 ⟨rfl, g2⟩; have G2 : Kept (Below wr.heap.size wr w2) := ⟨((Below.refl _ wr).alloc (Nat.le_refl _) _).trans ((Gr.below g2).mono (by simp))⟩; have O2 := Kept.mk (own_below O.out G2.out (fun g e => (own_lt O.out g e).2)); have hz2 := G2.out.size; clear g2)
            | (at_builtin; refine wpList_appS rfl (.tmp 18) (.tmp 23) rfl w.heap.size A3 n3 c3 _ rfl (World.ownsRow.alloc O2.out _) (w2.heap.size + 1) _ _ _ [xv] rfl (RdS.one w2 xv) (by omega) (by simp; omega) ?_; intro A4 c4 w4 hown4 hgrow4 hat4; have O4 := Kept.mk hown4; have X2 : Kept (w2.heap[G]? = some (.cells #[.string xn, .string xv] 57 (0, 0))) := ⟨(G2.out.block _ HG).trans X.out⟩; have X3 := Kept.mk ((Below.heap_alloc w2 (.cells #[.string xv] 9) G (by omega)).trans X2.out); have X4 := Kept.mk ((hgrow4.block G (by simp; omega) (Ne.symm (OwnS.apart (World.ownsRow.alloc O2.out _) X3.out (by decide)))).trans X3.out); have B4 := Kept.mk ((((HB.out.trans (G2.out.mono HB.out.size)).alloc (by have := HB.out.size; omega) (.cells #[.string xv] 9)).grown hgrow4 (by have := HB.out.size; simp; omega) (fun g e => (own_lt O.out g e).1))); clear hown4 hgrow4 hat4))
          go_roundw
          case rel => exact ⟨A4, _, c4, rfl, B4.out, X4.out, .inr (.inr ⟨rfl, O4.out⟩)⟩
          case measure => simp [intOf]
        · have O := Kept.mk ho
          clear ho
          go_wp2
          go_roundw
          case rel => exact ⟨k + 1, by omega, by go_num, A3, n3, c3, rfl, by rw [hst.out]; simpa using O.out, HB.out⟩
          case measure => simp [intOf]; omega
    · obtain rfl : k = n := by omega
      have O := Kept.mk ho
      have HB := Kept.mk hb
      have ht : l.take k = l := List.take_of_length_le (by have := hn.out; omega)
      clear ho hb
      go_wp2
      go_ret
      exact ⟨A2, n2, c2, rfl, by rw [← ht]; exact O.out, HB.out⟩
end Go.Proofs.Ytglnghdomoebfaa
