/- Chapter 13: the program's reader of records: labels; lists of labels. -/
import Derived.Test.YtglnghdomoebfaaRecB
import Derived.Test.YtglnghdomoebfaaMemI
import Derived.Deep.Cut
namespace Go.Proofs.Ytglnghdomoebfaa
open Go.RowKit Go.Shelf

theorem grown_box {w w3 : World} {o : Obj} {row : Option Nat} (h : (w.alloc o).grownBy w3 row) : w.grownBy w3 row :=
  ⟨h.os, h.tape, h.output, by have := h.size; simp at this; omega, fun k hk hne => (h.block k (by simp; omega) hne).trans (Below.heap_alloc _ _ k hk)⟩
theorem grown_new_set {w w3 : World} {row : Option Nat} {g k : Nat} {v : Value} (h : w.grownBy w3 row) (hg : w.heap.size ≤ g) : w.grownBy (w3.setCell ⟨g, k, none⟩ v) row := by
  have s := grown_set w3 ⟨g, k, none⟩ v
  exact ⟨s.os.trans h.os, s.tape.trans h.tape, s.output.trans h.output, Nat.le_trans h.size s.size, fun j hj hne => (s.block j (by have := h.size; omega) (fun e => by have := Option.some.inj e; simp at this; omega)).trans (h.block j hj hne)⟩
theorem grown_of_below {w w' : World} {row : Option Nat} (h : Below w.heap.size w w') : w.grownBy w' row := ⟨h.os, h.tape, h.output, h.size, fun k hk _ => h.block k hk⟩
theorem RR.box {w : World} {q p tn tc : Nat} {TA : Option Addr} {T : List ByteArray} {l : List UInt8} (h : RR w q p TA tn tc T l) (o : Obj) : RR (w.alloc o) q p TA tn tc T l :=
  h.grown (grown_of_below ((Below.refl _ w).alloc (Nat.le_refl _) o))
theorem RR.lt {w : World} {q p tn tc : Nat} {TA : Option Addr} {T : List ByteArray} {l : List UInt8} (h : RR w q p TA tn tc T l) : q < w.heap.size := (Array.getElem?_eq_some_iff.1 h.1).1
theorem put2_row (w : World) (g : Nat) (a b : Value) {cs : Array Value} {t : TypeId} (h : w.heap[g]? = some (.cells cs t (0, 0))) (hs : cs.size = 2) : ((w.setCell ⟨g, 0, none⟩ a).setCell ⟨g, 1, none⟩ b).heap[g]? = some (.cells #[a, b] t (0, 0)) := by
  rw [heap_setCell_same _ g 1 _ t _ (heap_setCell_same w g 0 _ t _ h)]
  obtain ⟨L, rfl⟩ : ∃ L : List Value, cs = L.toArray := ⟨cs.toList, by simp⟩
  match L, hs with
  | [_, _], _ => rfl
set_option maxRecDepth 100000 in
set_option maxHeartbeats 4000000 in
theorem label_any (q p a tn tc : Nat) (TA : Option Addr) (T : List ByteArray) (l : List UInt8) (e : Int) (w : World) (hR : RR w q p TA tn tc T l) (h : Rdr w p l a e) :
    Calls Try.prog 75 #[.pointer (some ⟨q, 0, none⟩)] w fun r w' => r = .returned (.agg #[.string (Rc.lab T l a e).1.n, .string (Rc.lab T l a e).1.v]) ∧ Rdr w' p l (Rc.lab T l a e).2.1 (Rc.lab T l a e).2.2 ∧ w.grownBy w' (some p) := by
  have hpl := h.lt
  obtain ⟨W1, hW1⟩ : ∃ W1, W1 = w.alloc (.cells #[.string ⟨#[]⟩, .string ⟨#[]⟩] 57) := ⟨_, rfl⟩
  have R1 : Kept (RR W1 q p TA tn tc T l) := ⟨by rw [hW1]; exact hR.box _⟩
  have D1 : Kept (Rdr W1 p l a e) := ⟨by rw [hW1]; exact h.box _⟩
  have H1 : Kept (W1.heap[w.heap.size]? = some (.cells #[.string ⟨#[]⟩, .string ⟨#[]⟩] 57 (0, 0))) := ⟨by rw [hW1]; exact heap_alloc_new w _⟩
  have G1 : Kept (∀ W, W1.grownBy W (some p) → w.grownBy W (some p)) := ⟨fun W hg => by rw [hW1] at hg; exact grown_box hg⟩
  have HW := Kept.mk hW1.symm
  have S1 := Kept.mk (symbol_any q p a tn tc TA T l e W1 R1.out D1.out)
  have hC : Rc.lab T l a e = (⟨(Rc.sym T l a e).1, (Rc.sym T l (Rc.sym T l a e).2.1 (Rc.sym T l a e).2.2).1⟩, (Rc.sym T l (Rc.sym T l a e).2.1 (Rc.sym T l a e).2.2).2) := rfl
  rw [hC]
  generalize Rc.sym T l a e = X at *
  obtain ⟨x, a1, e1⟩ := X
  have S2 := Kept.mk (fun w2 (r : RR w2 q p TA tn tc T l) (d : Rdr w2 p l a1 e1) => symbol_any q p a1 tn tc TA T l e1 w2 r d)
  simp only [] at S1 S2 ⊢
  generalize Rc.sym T l a1 e1 = Y at *
  obtain ⟨y, a2, e2⟩ := Y
  simp only [] at S2 ⊢
  clear h hR hC hW1
  go_enter Try.func75, Try.ntmps75
  go_upto_region 1 with fail
  rw [HW.out]
  go_upto_region 3 with (first
    | (go_at_call 93; refine (S2.out w2 R2.out D2.out).mono ?_; rintro r w3 ⟨rfl, hr, hg⟩; have D3 := Kept.mk hr; have G3 := Kept.mk (G2.out.trans hg); have x3 := (hg.block w.heap.size (by have := G2.out.size; have := (Array.getElem?_eq_some_iff.1 H1.out).1; omega) (fun e => by have := Option.some.inj e; omega)).trans X2.out; have c0 := cell_of_row _ _ 0 _ _ _ x3; have c1 := cell_of_row _ _ 1 _ _ _ x3; have f0 := fun k => frozen_of_row _ _ k _ _ x3; have X3 := Kept.mk x3; clear hr hg x3)
    | (go_at_call 93; refine S1.out.mono ?_; rintro r w2 ⟨rfl, hr, hg⟩; have D2 := Kept.mk hr; have G2 := Kept.mk hg; have R2 := Kept.mk (R1.out.grown hg); have X2 := Kept.mk ((hg.block w.heap.size ((Array.getElem?_eq_some_iff.1 H1.out).1) (fun e => by have := Option.some.inj e; omega)).trans H1.out); clear hr hg S1))
  refine bodyPost_ret (v := .agg #[.string x, .string y]) ?hr rfl ⟨rfl, ?_, ?_⟩
  case hr => exact results_cell_row (fn := Try.f75) (p := 2) (ty := 57) rfl _ _ w.heap.size _ _ _ _ rfl (put2_row w3 w.heap.size _ _ X3.out rfl) Try.underlying57 rfl (by kernel_rfl)
  · exact D3.out.below (((Below.refl w.heap.size w3).setCell (p := ⟨w.heap.size, 0, none⟩) (Nat.le_refl _) _).setCell (p := ⟨w.heap.size, 1, none⟩) (Nat.le_refl _) _) hpl
  · exact grown_new_set (grown_new_set (G1.out w3 G3.out) (Nat.le_refl _)) (Nat.le_refl _)
namespace Rc
/-- the list that n readings give -/
def lst {X : Type} (rd : Nat → Int → X × Nat × Int) : Nat → List X → Nat → Int → List X × Nat × Int
  | 0, acc, a, e => (acc, a, e)
  | n + 1, acc, a, e => let r := rd a e; if r.2.2 ≠ 0 then ([], r.2.1, r.2.2) else lst rd n (acc ++ [r.1]) r.2.1 r.2.2
theorem lst_zero {X : Type} (rd : Nat → Int → X × Nat × Int) (acc : List X) (a : Nat) (e : Int) : lst rd 0 acc a e = (acc, a, e) := rfl
theorem lst_bad {X : Type} (rd : Nat → Int → X × Nat × Int) (n : Nat) (acc : List X) (a : Nat) (e : Int) (hn : 0 < n) (h : (rd a e).2.2 ≠ 0) : lst rd n acc a e = ([], (rd a e).2.1, (rd a e).2.2) := by
  obtain ⟨m, rfl⟩ : ∃ m, n = m + 1 := ⟨n - 1, by omega⟩
  unfold lst
  exact if_pos h
theorem lst_ok {X : Type} (rd : Nat → Int → X × Nat × Int) (n : Nat) (acc : List X) (a : Nat) (e : Int) (hn : 0 < n) (h : (rd a e).2.2 = 0) : lst rd n acc a e = lst rd (n - 1) (acc ++ [(rd a e).1]) (rd a e).2.1 0 := by
  obtain ⟨m, rfl⟩ : ∃ m, n = m + 1 := ⟨n - 1, by omega⟩
  rw [Nat.add_sub_cancel]
  conv => lhs; unfold lst
  refine (if_neg (by simp [h])).trans ?_
  rw [h]
def labs (T : List ByteArray) (l : List UInt8) (a : Nat) (e : Int) : List Lab × Nat × Int := lst (lab T l) (cnt l a e).1 [] (cnt l a e).2.1 (cnt l a e).2.2
def lens (l : List UInt8) (a : Nat) (e : Int) : List Nat × Nat × Int := lst (len l) (cnt l a e).1 [] (cnt l a e).2.1 (cnt l a e).2.2
theorem cnt_le (l : List UInt8) (a : Nat) (e : Int) (h : a ≤ l.length) : (cnt l a e).1 ≤ l.length := by
  unfold cnt
  simp only []
  split
  · exact Nat.zero_le _
  · split
    · exact Nat.zero_le _
    · have := Wr.uint_at l a mx e h; omega
end Rc
end Go.Proofs.Ytglnghdomoebfaa
