/- The reference's reader: what it holds; Fail, End, Byte. -/
import Derived.Test.YtknfkbgnfjfpeaaDoorWireK
import Derived.Test.YtknfkbgnfjfpeaaDoorVarC
namespace Go.Proofs.YtknfkbgnfjfpeaaDoor
open Go.RowKit Go.Shelf

/-- a reader of the reference in block p: its bytes, its offset, its error -/
def RdrQ (w : World) (p : Nat) (l : List UInt8) (at_ : Nat) (e : Int) : Prop :=
  ∃ A n c, w.heap[p]? = some (.cells #[.slice A n c, .int .i64 (at_ : Int), .int .i64 e] 50 (0, 0)) ∧ RdB w p A n c l ∧ n ≤ 140737488354000 ∧ at_ ≤ n
theorem RdrQ.lt {w : World} {p at_ : Nat} {l : List UInt8} {e : Int} (h : RdrQ w p l at_ e) : p < w.heap.size := by
  obtain ⟨A, n, c, h, _⟩ := h
  exact (Array.getElem?_eq_some_iff.1 h).1
theorem RdrQ.len {w : World} {p at_ : Nat} {l : List UInt8} {e : Int} (h : RdrQ w p l at_ e) : l.length ≤ 140737488354000 ∧ at_ ≤ l.length := by
  obtain ⟨A, n, c, _, h, h2, h3⟩ := h
  have := h.len
  omega
theorem RdrQ.below {w w' : World} {p at_ : Nat} {l : List UInt8} {e : Int} (h : RdrQ w p l at_ e) {B : Nat} (hb : Below B w w') (hB : p < B) : RdrQ w' p l at_ e := by
  obtain ⟨A, n, c, h1, h2, h3, h4⟩ := h
  exact ⟨A, n, c, (hb.block p hB).trans h1, RdB.below h2 (hb.mono (by omega)), h3, h4⟩
theorem RdrQ.grown {w w' : World} {p at_ : Nat} {l : List UInt8} {e : Int} (h : RdrQ w p l at_ e) {row : Option Nat} (hg : w.grownBy w' row) (hr : ∀ g, row = some g → p < g) : RdrQ w' p l at_ e := by
  have hp := h.lt
  obtain ⟨A, n, c, h1, h2, h3, h4⟩ := h
  refine ⟨A, n, c, (hg.block p hp (fun e => by have := hr _ e.symm; omega)).trans h1, h2.grown hg (by omega) (fun g e => by have := hr _ e; omega), h3, h4⟩
theorem RdrQ.move {w : World} {p at_ : Nat} {l : List UInt8} {e : Int} (h : RdrQ w p l at_ e) (a : Nat) (ha : a ≤ l.length) : RdrQ (w.setCell ⟨p, 1, none⟩ (.int .i64 (a : Int))) p l a e := by
  obtain ⟨A, n, c, h1, h2, h3, h4⟩ := h
  exact ⟨A, n, c, by rw [heap_setCell_same w p 1 _ _ _ h1]; rfl, h2.setCell (p := ⟨p, 1, none⟩) (Nat.le_refl _) _, h3, by have := h2.len; omega⟩
theorem RdrQ.fail {w : World} {p at_ : Nat} {l : List UInt8} {e : Int} (h : RdrQ w p l at_ e) (f : Int) : RdrQ (w.setCell ⟨p, 2, none⟩ (.int .i64 f)) p l at_ f := by
  obtain ⟨A, n, c, h1, h2, h3, h4⟩ := h
  exact ⟨A, n, c, by rw [heap_setCell_same w p 2 _ _ _ h1]; rfl, h2.setCell (p := ⟨p, 2, none⟩) (Nat.le_refl _) _, h3, h4⟩
/-- the cells -/
theorem RdrQ.cells {w : World} {p at_ : Nat} {l : List UInt8} {e : Int} (h : RdrQ w p l at_ e) : ∃ A n c, w.cell? ⟨p, 0, none⟩ = some (.slice A n c) ∧ w.cell? ⟨p, 1, none⟩ = some (.int .i64 (at_ : Int)) ∧ w.cell? ⟨p, 2, none⟩ = some (.int .i64 e) ∧
    w.frozen? ⟨p, 1, none⟩ = false ∧ w.frozen? ⟨p, 2, none⟩ = false ∧ RdB w p A n c l ∧ n ≤ 140737488354000 ∧ at_ ≤ n ∧ n ≤ c ∧ c ≤ 9223372036854775807 := by
  obtain ⟨A, n, c, h1, h2, h3, h4⟩ := h
  have hc := h2.2.1
  unfold maxLen at hc
  exact ⟨A, n, c, cell_of_row _ _ _ _ _ _ h1, cell_of_row _ _ _ _ _ _ h1, cell_of_row _ _ _ _ _ _ h1, frozen_of_row _ _ _ _ _ h1, frozen_of_row _ _ _ _ _ h1, h2, h3, h4, h2.1, by omega⟩

theorem RdrQ.box {w : World} {p a : Nat} {l : List UInt8} {e : Int} (h : RdrQ w p l a e) (o : Obj) : RdrQ (w.alloc o) p l a e := h.below ((Below.refl _ w).alloc (Nat.le_refl _) o) h.lt
theorem RdrQ.block {w : World} {p a : Nat} {l : List UInt8} {e : Int} (h : RdrQ w p l a e) : ∃ A n c, RdB w p A n c l ∧ n = l.length ∧ n ≤ 140737488354000 := by
  obtain ⟨A, n, c, _, h1, h2, _⟩ := h
  exact ⟨A, n, c, h1, h1.len, h2⟩

set_option maxHeartbeats 1000000 in
theorem failq_any (p at_ : Nat) (l : List UInt8) (e f : Int) (w : World) (h : RdrQ w p l at_ e) : Calls Tryd.prog 63 #[.pointer (some ⟨p, 0, none⟩), .int .i64 f] w fun r w' => r = .returned (.tuple #[]) ∧ w' = (if e = 0 then w.setCell ⟨p, 2, none⟩ (.int .i64 f) else w) := by
  obtain ⟨A, n, c, c0, c1, c2, f1, f2, hr, h3, h4, h5, h6⟩ := h.cells
  clear h hr
  by_cases he : e = 0
  · subst he
    rw [if_pos rfl]
    go_enter Tryd.func63, Tryd.ntmps63
    go_wp2
    go_end0
    exact ⟨rfl, rfl⟩
  · have heb : (e == 0) = false := by simpa using he
    rw [if_neg he]
    clear he
    go_enter Tryd.func63, Tryd.ntmps63
    go_wp2
    go_end0
    exact ⟨rfl, rfl⟩
set_option maxHeartbeats 1000000 in
theorem endq_any (p at_ : Nat) (l : List UInt8) (e : Int) (w : World) (h : RdrQ w p l at_ e) : Calls Tryd.prog 31 #[.pointer (some ⟨p, 0, none⟩)] w fun r w' => r = .returned (.int .i64 (Wr.fin l at_ e)) ∧ Quiet w w' := by
  obtain ⟨A, n, c, c0, c1, c2, f1, f2, hr, h3, h4, h5, h6⟩ := h.cells
  have hl := Kept.mk hr.len
  clear h hr
  by_cases he : e = 0
  · subst he
    have hfin : Kept (Wr.fin l at_ 0 = if at_ < l.length then 4 else 0) := ⟨by unfold Wr.fin; rw [if_neg (by simp)]⟩
    by_cases hlt : at_ < n
    · have hlt' : (at_ : Int) < (n : Int) := by omega
      go_enter Tryd.func31, Tryd.ntmps31
      go_wp2
      go_quiet (fail)
      go_wp2
      go_ret
      exact ⟨by rw [hfin.out, if_pos (by rw [← hl.out]; exact hlt)]; rfl, ⟨_, rfl⟩⟩
    · obtain rfl : at_ = n := by omega
      go_enter Tryd.func31, Tryd.ntmps31
      go_wp2
      go_quiet (fail)
      go_wp2
      go_ret
      exact ⟨by rw [hfin.out, if_neg (by rw [← hl.out]; omega)]; rfl, ⟨_, rfl⟩⟩
  · have heb : (e == 0) = false := by simpa using he
    have hen : (e != 0) = true := by simpa using he
    have hfin : Kept (Wr.fin l at_ e = e) := ⟨by unfold Wr.fin; rw [if_pos he]⟩
    clear he
    go_enter Tryd.func31, Tryd.ntmps31
    go_wp2
    go_quiet (fail)
    go_wp2
    go_ret
    exact ⟨by rw [hfin.out]; rfl, ⟨_, rfl⟩⟩
set_option maxHeartbeats 1000000 in
theorem byteq_any (p a : Nat) (l : List UInt8) (e : Int) (w : World) (h : RdrQ w p l a e) :
    Calls Tryd.prog 58 #[.pointer (some ⟨p, 0, none⟩)] w fun r w' => r = .returned (.int .u8 ((Wr.byte l a e).1 : Int)) ∧ RdrQ w' p l (Wr.byte l a e).2.1 (Wr.byte l a e).2.2 ∧ w.grownBy w' (some p) := by
  have H := Kept.mk h
  obtain ⟨A, n, c, c0, c1, c2, f1, f2, hr, h3, h4, h5, h6⟩ := h.cells
  have hl := Kept.mk hr.len
  by_cases he : e = 0
  · subst he
    by_cases ha : a < l.length
    · have hm : Wr.byte l a 0 = (l[a].toNat, a + 1, 0) := by unfold Wr.byte; rw [if_neg (by simp), dif_pos ha]
      rw [hm]
      obtain ⟨b, off, rfl, hb, hcell⟩ := hr.at_ ha
      have hcell1 : ∀ k, ((w.drewN k).setCell ⟨p, 1, none⟩ (.int .i64 ((a : Int) + 1))).cell? ⟨b, off + a, none⟩ = some (.int .u8 (l[a].toNat : Int)) := fun k => (World.cell?_setCell_other (w.drewN k) ⟨p, 1, none⟩ ⟨b, off + a, none⟩ _ (fun e => by injection e with e1 _ _; omega)).trans hcell
      have hlt' : (a : Int) < (n : Int) := by have := hl.out; omega
      have hge : ¬ (n : Int) ≤ (a : Int) := by omega
      have hwa : IntKind.i64.wrap (a : Int) = (a : Int) := by rw [IntKind.wrap_i64]; omega
      clear h hr hm hcell
      generalize l[a].toNat = v at *
      go_enter Tryd.func58, Tryd.ntmps58
      go_wp2
      go_quiet (fail)
      go_wp2
      go_quiet (fail)
      go_wp2
      go_ret
      exact ⟨rfl, H.out.move (a + 1) ha, ((Quiet.grown ⟨_, rfl⟩ _).trans (grown_set _ ⟨p, 1, none⟩ _)).trans (Quiet.grown ⟨_, rfl⟩ _)⟩
    · have hm : Wr.byte l a 0 = (0, a, 3) := by unfold Wr.byte; rw [if_neg (by simp), dif_neg ha]
      rw [hm]
      have hge : (n : Int) ≤ (a : Int) := by have := hl.out; omega
      have c2' : (w.setCell ⟨p, 2, none⟩ (.int .i64 3)).cell? ⟨p, 2, none⟩ = some (.int .i64 3) := (H.out.fail 3).cells.choose_spec.choose_spec.choose_spec.2.2.1
      clear h hr hm ha
      go_enter Tryd.func58, Tryd.ntmps58
      go_wp2
      go_quiet (fail)
      go_wp2_with (go_at_call 63; refine (failq_any p a l 0 3 _ (by exact H.out)).mono ?_; rintro r w1 ⟨rfl, hw1⟩; rw [if_pos rfl] at hw1; subst hw1)
      go_ret
      exact ⟨rfl, H.out.fail 3, (Quiet.grown ⟨_, rfl⟩ _).trans (grown_set _ ⟨p, 2, none⟩ _)⟩
  · have hm : Wr.byte l a e = (0, a, e) := by unfold Wr.byte; rw [if_pos he]
    rw [hm]
    have heb : (e == 0) = false := by simpa using he
    have hen : (e != 0) = true := by simpa using he
    clear h hr hm he
    go_enter Tryd.func58, Tryd.ntmps58
    go_wp2
    go_quiet (fail)
    go_wp2
    go_ret
    exact ⟨rfl, H.out, Quiet.grown ⟨_, rfl⟩ _⟩
end Go.Proofs.YtknfkbgnfjfpeaaDoor
