/- Chapter 13: the program's reader of records: numbers of elements, strings of the table, labels, lengths. -/
import Derived.Test.YtglnghdomoebfaaRecW
import Derived.Test.YtglnghdomoebfaaMemS
import Derived.Test.YtglnghdomoebfaaMemL
import Derived.Test.YtglnghdomoebfaaGr
namespace Go.Proofs.Ytglnghdomoebfaa
open Go.RowKit Go.Shelf

/-- what a reading of a number leaves -/
theorem Wr.uint_le (l : List UInt8) (a m : Nat) (e : Int) : (Wr.uint l a e m).1 ≤ m := by
  unfold Wr.uint
  split
  · exact Nat.zero_le _
  · simp only []
    split
    · exact Nat.zero_le _
    · split
      · exact Nat.zero_le _
      · omega
theorem Wr.uint_zero (l : List UInt8) (a m : Nat) (e : Int) (h : (Wr.uint l a e m).2.2 ≠ 0) : (Wr.uint l a e m).1 = 0 := by
  unfold Wr.uint at h ⊢
  split
  · rfl
  · rw [if_neg (by assumption)] at h
    simp only [] at h ⊢
    split
    · rfl
    · rw [if_neg (by assumption)] at h
      split
      · rfl
      · rw [if_neg (by assumption)] at h
        exact absurd rfl h
theorem Wr.uint_at (l : List UInt8) (a m : Nat) (e : Int) (h : a ≤ l.length) : (Wr.uint l a e m).2.1 ≤ l.length := by
  unfold Wr.uint
  split
  · exact h
  · simp only []
    split
    · exact h
    · next h2 =>
      split
      · exact h
      · have h3 : (Vi.get l (a : Int)).2.2 = 0 := by simpa using h2
        generalize hg : Vi.get l (a : Int) = G at *
        obtain ⟨x, t, f⟩ := G
        have h5 : f = 0 := h3
        subst h5
        have h4 := (Vi.get_to hg).2
        show t.toNat ≤ l.length
        omega
namespace Rc
def mx : Nat := 18446744073709551615
def cnt (l : List UInt8) (a : Nat) (e : Int) : Nat × Nat × Int :=
  let r := Wr.uint l a e mx
  if r.2.2 ≠ 0 then (0, r.2.1, r.2.2) else if l.length - r.2.1 < r.1 then (0, r.2.1, 3) else r
def sym (T : List ByteArray) (l : List UInt8) (a : Nat) (e : Int) : ByteArray × Nat × Int :=
  let r := Wr.uint l a e mx
  if r.2.2 ≠ 0 then (ByteArray.empty, r.2.1, r.2.2) else if T.length ≤ r.1 then (ByteArray.empty, r.2.1, 14) else (T.getD r.1 ByteArray.empty, r.2.1, 0)
def lab (T : List ByteArray) (l : List UInt8) (a : Nat) (e : Int) : Lab × Nat × Int :=
  let r := sym T l a e
  let s := sym T l r.2.1 r.2.2
  (⟨r.1, s.1⟩, s.2)
def len (l : List UInt8) (a : Nat) (e : Int) : Nat × Nat × Int :=
  let r := Wr.uint l a e mx
  if r.1 < 1 ∨ 2147483647 < r.1 then (r.1, r.2.1, if r.2.2 = 0 then 23 else r.2.2) else r
end Rc
theorem drewN_grown {w w' : World} {n : Nat} {row : Option Nat} (h : (w.drewN n).grownBy w' row) : w.grownBy w' row := ⟨h.os, h.tape, h.output, h.size, h.block⟩
theorem drewN_grown' {row : Option Nat} (w : World) (n : Nat) : w.grownBy (w.drewN n) row := ⟨rfl, rfl, rfl, Nat.le_refl _, fun _ _ _ => rfl⟩
/-- the program's reader of records -/
def RR (w : World) (q p : Nat) (TA : Option Addr) (tn tc : Nat) (T : List ByteArray) (l : List UInt8) : Prop :=
  w.heap[q]? = some (.cells #[.pointer (some ⟨p, 0, none⟩), .slice TA tn tc, .int .i64 (l.length : Int)] 86 (0, 0)) ∧ p < q ∧ RdS w p TA tn tc T
theorem RR.grown {w w' : World} {q p tn tc : Nat} {TA : Option Addr} {T : List ByteArray} {l : List UInt8} (h : RR w q p TA tn tc T l) (hg : w.grownBy w' (some p)) : RR w' q p TA tn tc T l := by
  obtain ⟨h1, h2, h3⟩ := h
  have hq : q < w.heap.size := (Array.getElem?_eq_some_iff.1 h1).1
  exact ⟨(hg.block q hq (fun e => by have := Option.some.inj e; omega)).trans h1, h2, h3.grown hg (by omega) (fun g e => by have := Option.some.inj e; omega)⟩
theorem RR.cells {w : World} {q p tn tc : Nat} {TA : Option Addr} {T : List ByteArray} {l : List UInt8} (h : RR w q p TA tn tc T l) :
    w.cell? ⟨q, 0, none⟩ = some (.pointer (some ⟨p, 0, none⟩)) ∧ w.cell? ⟨q, 1, none⟩ = some (.slice TA tn tc) ∧ w.cell? ⟨q, 2, none⟩ = some (.int .i64 (l.length : Int)) :=
  ⟨cell_of_row _ _ _ _ _ _ h.1, cell_of_row _ _ _ _ _ _ h.1, cell_of_row _ _ _ _ _ _ h.1⟩
set_option maxRecDepth 100000 in
set_option maxHeartbeats 4000000 in
theorem count_any (q p a tn tc : Nat) (TA : Option Addr) (T : List ByteArray) (l : List UInt8) (e : Int) (w : World) (hR : RR w q p TA tn tc T l) (h : Rdr w p l a e) :
    Calls Try.prog 72 #[.pointer (some ⟨q, 0, none⟩)] w fun r w' => r = .returned (.int .i64 ((Rc.cnt l a e).1 : Int)) ∧ Rdr w' p l (Rc.cnt l a e).2.1 (Rc.cnt l a e).2.2 ∧ w.grownBy w' (some p) := by
  obtain ⟨q0, q1, q2⟩ := hR.cells
  have U := Kept.mk (uint_any p a 18446744073709551615 l e w h)
  have HR := Kept.mk hR
  have hle := Wr.uint_le l a Rc.mx e
  have hat := Wr.uint_at l a Rc.mx e h.len.2
  have hC : Rc.cnt l a e = (let r := Wr.uint l a e Rc.mx; if r.2.2 ≠ 0 then (0, r.2.1, r.2.2) else if l.length - r.2.1 < r.1 then (0, r.2.1, 3) else r) := rfl
  have hln := h.len
  unfold Rc.mx at hC hle hat
  generalize Wr.uint l a e 18446744073709551615 = X at *
  obtain ⟨x, a1, e1⟩ := X
  simp only [] at hC hle hat U
  clear h hR
  have hwu : IntKind.u64.wrap ((l.length : Int) - (a1 : Int)) = (l.length : Int) - (a1 : Int) := by simp [IntKind.wrap, IntKind.bits, IntKind.signed]; omega
  by_cases he1 : e1 = 0
  · subst he1
    rw [if_neg (by simp)] at hC
    by_cases hx : l.length - a1 < x
    · rw [if_pos hx] at hC
      rw [hC]
      have hgt : (l.length : Int) - (a1 : Int) < (x : Int) := by omega
      clear hC hx
      go_enter Try.func72, Try.ntmps72
      go_upto_region 2 with (go_at_call 91; refine U.out.mono ?_; rintro r w2 ⟨rfl, hr, hg⟩; have R2 := Kept.mk hr; have G2 := Kept.mk hg; clear hr hg)
      obtain ⟨s0, s1, s2⟩ := (HR.out.grown G2.out).cells
      go_quiet (first
        | (go_at_call 92; exact (at_any p a1 l 0 _ (by exact R2.out)).mono fun _ _ q => ⟨q.1, _, q.2.symm⟩)
        | (go_at_call 73; exact (err_any p a1 l 0 _ (by exact R2.out)).mono fun _ _ q => ⟨q.1, _, q.2.symm⟩))
      go_wp2_with (first
        | (go_at_call 78; refine (fail_any p a1 l 0 3 _ (by exact R2.out)).mono ?_; rintro r w3 ⟨rfl, hr, hg⟩; rw [if_pos rfl] at hr; have R3 := Kept.mk hr; have G3 : Kept (w2.grownBy w3 (some p)) := ⟨drewN_grown hg⟩; obtain ⟨t0, t1, t2⟩ := ((HR.out.grown G2.out).grown G3.out).cells; clear hr hg)
        | (go_at_call 73; refine (err_any p a1 l 3 _ R3.out).mono ?_; rintro r w4 ⟨rfl, rfl⟩))
      go_ret
      exact ⟨rfl, R3.out, G2.out.trans G3.out⟩
    · rw [if_neg hx] at hC
      rw [hC]
      have hgt : ¬ (l.length : Int) - (a1 : Int) < (x : Int) := by omega
      have hx1 : (x : Int) ≤ 140737488354000 := by omega
      clear hC hx
      go_enter Try.func72, Try.ntmps72
      go_upto_region 2 with (go_at_call 91; refine U.out.mono ?_; rintro r w2 ⟨rfl, hr, hg⟩; have R2 := Kept.mk hr; have G2 := Kept.mk hg; clear hr hg)
      obtain ⟨s0, s1, s2⟩ := (HR.out.grown G2.out).cells
      go_quiet (first
        | (go_at_call 92; exact (at_any p a1 l 0 _ (by exact R2.out)).mono fun _ _ q => ⟨q.1, _, q.2.symm⟩)
        | (go_at_call 73; exact (err_any p a1 l 0 _ (by exact R2.out)).mono fun _ _ q => ⟨q.1, _, q.2.symm⟩))
      go_wp2_with (go_at_call 73; refine (err_any p a1 l 0 _ (by exact R2.out)).mono ?_; rintro r w4 ⟨rfl, rfl⟩)
      go_ret
      exact ⟨by go_num, R2.out, G2.out.trans (drewN_grown' _ _)⟩
  · rw [if_pos he1] at hC
    rw [hC]
    have heb : (e1 == 0) = false := by simpa using he1
    clear hC
    go_enter Try.func72, Try.ntmps72
    go_upto_region 2 with (go_at_call 91; refine U.out.mono ?_; rintro r w2 ⟨rfl, hr, hg⟩; have R2 := Kept.mk hr; have G2 := Kept.mk hg; clear hr hg)
    obtain ⟨s0, s1, s2⟩ := (HR.out.grown G2.out).cells
    go_quiet (first
      | (go_at_call 92; exact (at_any p a1 l e1 _ (by exact R2.out)).mono fun _ _ q => ⟨q.1, _, q.2.symm⟩)
      | (go_at_call 73; exact (err_any p a1 l e1 _ (by exact R2.out)).mono fun _ _ q => ⟨q.1, _, q.2.symm⟩))
    go_wp2_with (go_at_call 73; refine (err_any p a1 l e1 _ (by exact R2.out)).mono ?_; rintro r w4 ⟨rfl, rfl⟩)
    go_ret
    exact ⟨rfl, R2.out, G2.out.trans (drewN_grown' _ _)⟩
end Go.Proofs.Ytglnghdomoebfaa
