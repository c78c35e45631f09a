/- The reader: what it holds; Err, At, left, Fail, End. -/
import Derived.Test.YtknfkbgnfjfpeaaDoorWireB
namespace Go.Proofs.YtknfkbgnfjfpeaaDoor
open Go.RowKit Go.Shelf

theorem grown_set (w : World) (a : Addr) (v : Value) : w.grownBy (w.setCell a v) (some a.block) :=
  ⟨rfl, rfl, rfl, by simp, fun k _ hne => Below.heap_setCell w a v k (fun e => hne (by rw [e]))⟩
/-- a reader in block p: its bytes, its offset, its error -/
def Rdr (w : World) (p : Nat) (l : List UInt8) (at_ : Nat) (e : Int) : Prop :=
  ∃ A n c, w.heap[p]? = some (.cells #[.slice A n c, .int .i64 (at_ : Int), .int .i64 e] 85 (0, 0)) ∧ RdB w p A n c l ∧ n ≤ 140737488354000 ∧ at_ ≤ n
theorem Rdr.lt {w : World} {p at_ : Nat} {l : List UInt8} {e : Int} (h : Rdr w p l at_ e) : p < w.heap.size := by
  obtain ⟨A, n, c, h, _⟩ := h
  exact (Array.getElem?_eq_some_iff.1 h).1
theorem Rdr.len {w : World} {p at_ : Nat} {l : List UInt8} {e : Int} (h : Rdr w p l at_ e) : l.length ≤ 140737488354000 ∧ at_ ≤ l.length := by
  obtain ⟨A, n, c, _, h, h2, h3⟩ := h
  have := h.len
  omega
theorem Rdr.below {w w' : World} {p at_ : Nat} {l : List UInt8} {e : Int} (h : Rdr w p l at_ e) {B : Nat} (hb : Below B w w') (hB : p < B) : Rdr w' p l at_ e := by
  obtain ⟨A, n, c, h1, h2, h3, h4⟩ := h
  exact ⟨A, n, c, (hb.block p hB).trans h1, RdB.below h2 (hb.mono (by omega)), h3, h4⟩
theorem Rdr.grown {w w' : World} {p at_ : Nat} {l : List UInt8} {e : Int} (h : Rdr w p l at_ e) {row : Option Nat} (hg : w.grownBy w' row) (hr : ∀ g, row = some g → p < g) : Rdr w' p l at_ e := by
  have hp := h.lt
  obtain ⟨A, n, c, h1, h2, h3, h4⟩ := h
  refine ⟨A, n, c, (hg.block p hp (fun e => by have := hr _ e.symm; omega)).trans h1, h2.grown hg (by omega) (fun g e => by have := hr _ e; omega), h3, h4⟩
theorem Rdr.move {w : World} {p at_ : Nat} {l : List UInt8} {e : Int} (h : Rdr w p l at_ e) (a : Nat) (ha : a ≤ l.length) : Rdr (w.setCell ⟨p, 1, none⟩ (.int .i64 (a : Int))) p l a e := by
  obtain ⟨A, n, c, h1, h2, h3, h4⟩ := h
  exact ⟨A, n, c, by rw [heap_setCell_same w p 1 _ _ _ h1]; rfl, h2.setCell (p := ⟨p, 1, none⟩) (Nat.le_refl _) _, h3, by have := h2.len; omega⟩
theorem Rdr.fail {w : World} {p at_ : Nat} {l : List UInt8} {e : Int} (h : Rdr w p l at_ e) (f : Int) : Rdr (w.setCell ⟨p, 2, none⟩ (.int .i64 f)) p l at_ f := by
  obtain ⟨A, n, c, h1, h2, h3, h4⟩ := h
  exact ⟨A, n, c, by rw [heap_setCell_same w p 2 _ _ _ h1]; rfl, h2.setCell (p := ⟨p, 2, none⟩) (Nat.le_refl _) _, h3, h4⟩
/-- the cells -/
theorem Rdr.cells {w : World} {p at_ : Nat} {l : List UInt8} {e : Int} (h : Rdr w p l at_ e) : ∃ A n c, w.cell? ⟨p, 0, none⟩ = some (.slice A n c) ∧ w.cell? ⟨p, 1, none⟩ = some (.int .i64 (at_ : Int)) ∧ w.cell? ⟨p, 2, none⟩ = some (.int .i64 e) ∧
    w.frozen? ⟨p, 1, none⟩ = false ∧ w.frozen? ⟨p, 2, none⟩ = false ∧ RdB w p A n c l ∧ n ≤ 140737488354000 ∧ at_ ≤ n ∧ n ≤ c ∧ c ≤ 9223372036854775807 := by
  obtain ⟨A, n, c, h1, h2, h3, h4⟩ := h
  have hc := h2.2.1
  unfold maxLen at hc
  exact ⟨A, n, c, cell_of_row _ _ _ _ _ _ h1, cell_of_row _ _ _ _ _ _ h1, cell_of_row _ _ _ _ _ _ h1, frozen_of_row _ _ _ _ _ h1, frozen_of_row _ _ _ _ _ h1, h2, h3, h4, h2.1, by omega⟩

set_option maxHeartbeats 1000000 in
theorem err_any (p at_ : Nat) (l : List UInt8) (e : Int) (w : World) (h : Rdr w p l at_ e) : Calls Tryd.prog 25 #[.pointer (some ⟨p, 0, none⟩)] w fun r w' => r = .returned (.int .i64 e) ∧ w = w' := by
  obtain ⟨A, n, c, c0, c1, c2, f1, f2, hr, h3, h4, h5, h6⟩ := h.cells
  clear h hr
  go_enter Tryd.func25, Tryd.ntmps25
  go_wp2
  go_ret
  exact ⟨rfl, rfl⟩
set_option maxHeartbeats 1000000 in
theorem at_any (p at_ : Nat) (l : List UInt8) (e : Int) (w : World) (h : Rdr w p l at_ e) : Calls Tryd.prog 26 #[.pointer (some ⟨p, 0, none⟩)] w fun r w' => r = .returned (.int .i64 (at_ : Int)) ∧ w = w' := by
  obtain ⟨A, n, c, c0, c1, c2, f1, f2, hr, h3, h4, h5, h6⟩ := h.cells
  clear h hr
  go_enter Tryd.func26, Tryd.ntmps26
  go_wp2
  go_ret
  exact ⟨rfl, rfl⟩
set_option maxHeartbeats 1000000 in
theorem left_any (p at_ : Nat) (l : List UInt8) (e : Int) (a : Int) (w : World) (h : Rdr w p l at_ e) (h0 : 0 ≤ a) (h1 : a ≤ 9223372036854775807) : Calls Tryd.prog 53 #[.pointer (some ⟨p, 0, none⟩), .int .i64 a] w fun r w' => r = .returned (.int .i64 ((l.length : Int) - a)) ∧ w = w' := by
  obtain ⟨A, n, c, c0, c1, c2, f1, f2, hr, h3, h4, h5, h6⟩ := h.cells
  have hl := Kept.mk hr.len
  clear h hr
  go_enter Tryd.func53, Tryd.ntmps53
  go_wp2
  go_ret
  exact ⟨by rw [← hl.out]; rfl, rfl⟩
set_option maxHeartbeats 1000000 in
theorem fail_any (p at_ : Nat) (l : List UInt8) (e f : Int) (w : World) (h : Rdr w p l at_ e) : Calls Tryd.prog 33 #[.pointer (some ⟨p, 0, none⟩), .int .i64 f] w fun r w' => r = .returned (.tuple #[]) ∧ Rdr w' p l at_ (if e = 0 then f else e) ∧ w.grownBy w' (some p) := by
  obtain ⟨A, n, c, c0, c1, c2, f1, f2, hr, h3, h4, h5, h6⟩ := h.cells
  have H := Kept.mk h
  clear h hr
  by_cases he : e = 0
  · subst he
    go_enter Tryd.func33, Tryd.ntmps33
    go_wp2
    go_end0
    exact ⟨rfl, H.out.fail f, grown_set w ⟨p, 2, none⟩ _⟩
  · have heb : (e == 0) = false := by simpa using he
    have hif : Kept ((if e = 0 then f else e) = e) := ⟨if_neg he⟩
    rw [hif.out]
    clear he
    go_enter Tryd.func33, Tryd.ntmps33
    go_wp2
    go_end0
    exact ⟨rfl, H.out, World.grownBy.refl _ _⟩
def Wr.fin (l : List UInt8) (at_ : Nat) (e : Int) : Int := if e ≠ 0 then e else if at_ < l.length then 4 else 0
set_option maxHeartbeats 1000000 in
theorem end_any (p at_ : Nat) (l : List UInt8) (e : Int) (w : World) (h : Rdr w p l at_ e) : Calls Tryd.prog 29 #[.pointer (some ⟨p, 0, none⟩)] w fun r w' => r = .returned (.int .i64 (Wr.fin l at_ e)) ∧ w = w' := by
  obtain ⟨A, n, c, c0, c1, c2, f1, f2, hr, h3, h4, h5, h6⟩ := h.cells
  have H := Kept.mk h
  have hl := Kept.mk hr.len
  clear h hr
  by_cases he : e = 0
  · subst he
    have hfin : Kept (Wr.fin l at_ 0 = if at_ < l.length then 4 else 0) := ⟨by unfold Wr.fin; rw [if_neg (by simp)]⟩
    have h7 : Kept (((l.length : Int) - (at_ : Int)) = (n : Int) - (at_ : Int)) := ⟨by rw [← hl.out]⟩
    by_cases hlt : at_ < n
    · have hlt' : (at_ : Int) < (n : Int) := by omega
      go_enter Tryd.func29, Tryd.ntmps29
      go_wp2_with (first
        | (go_at_call 25; refine (err_any _ _ _ _ _ H.out).mono ?_; rintro r w1 ⟨rfl, rfl⟩)
        | (go_at_call 53; refine (left_any _ _ _ _ _ _ H.out (by omega) (by omega)).mono ?_; rintro r w1 ⟨rfl, rfl⟩; rw [h7.out]))
      go_ret
      exact ⟨by rw [hfin.out, if_pos (by rw [← hl.out]; exact hlt)]; rfl, rfl⟩
    · obtain rfl : at_ = n := by omega
      go_enter Tryd.func29, Tryd.ntmps29
      go_wp2_with (first
        | (go_at_call 25; refine (err_any _ _ _ _ _ H.out).mono ?_; rintro r w1 ⟨rfl, rfl⟩)
        | (go_at_call 53; refine (left_any _ _ _ _ _ _ H.out (by omega) (by omega)).mono ?_; rintro r w1 ⟨rfl, rfl⟩; rw [h7.out]))
      go_ret
      exact ⟨by rw [hfin.out, if_neg (by rw [← hl.out]; omega)]; rfl, rfl⟩
  · have heb : (e == 0) = false := by simpa using he
    have hen : (e != 0) = true := by simpa using he
    have hfin : Kept (Wr.fin l at_ e = e) := ⟨by unfold Wr.fin; rw [if_pos he]⟩
    clear he
    go_enter Tryd.func29, Tryd.ntmps29
    go_wp2_with (go_at_call 25; refine (err_any _ _ _ _ _ H.out).mono ?_; rintro r w1 ⟨rfl, rfl⟩)
    go_ret
    exact ⟨by rw [hfin.out]; rfl, rfl⟩
end Go.Proofs.YtknfkbgnfjfpeaaDoor
