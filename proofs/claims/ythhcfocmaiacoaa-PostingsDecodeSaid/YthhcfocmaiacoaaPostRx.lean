/- Cut by cut_tpl.py out of RecX: what this seat reaches. -/
import Derived.Test.YthhcfocmaiacoaaPostE
namespace Go.Proofs.Ythhcfocmaiacoaa
open Go.RowKit Go.Shelf

/-- a reader of the reference; its offset is known while it has no error -/
def RdrE (w : World) (p : Nat) (l : List UInt8) (a : Nat) (e : Int) : Prop := ∃ a', RdrQ w p l a' e ∧ (e = 0 → a' = a)
section
variable {w w' : World} {p a : Nat} {l : List UInt8} {e : Int}
theorem RdrE.of (h : RdrQ w p l a e) : RdrE w p l a e := ⟨a, h, fun _ => rfl⟩
theorem RdrE.lt (h : RdrE w p l a e) : p < w.heap.size := by obtain ⟨a', h, _⟩ := h; exact h.lt
theorem RdrE.len (h : RdrE w p l a e) : l.length ≤ 140737488354000 := by obtain ⟨a', h, _⟩ := h; exact h.len.1
theorem RdrE.at_ (h : RdrE w p l a 0) : RdrQ w p l a 0 := by obtain ⟨a', h, h2⟩ := h; rw [← h2 rfl]; exact h
theorem RdrE.any (h : RdrE w p l a e) (he : e ≠ 0) (b : Nat) : RdrE w p l b e := by obtain ⟨a', h, h2⟩ := h; exact ⟨a', h, fun h0 => absurd h0 he⟩
theorem RdrE.below (h : RdrE w p l a e) {B : Nat} (hb : Below B w w') (hB : p < B) : RdrE w' p l a e := by obtain ⟨a', h, h2⟩ := h; exact ⟨a', h.below hb hB, h2⟩
theorem RdrE.box (h : RdrE w p l a e) (o : Obj) : RdrE (w.alloc o) p l a e := by obtain ⟨a', h, h2⟩ := h; exact ⟨a', h.box o, h2⟩
theorem RdrE.set_new {g k : Nat} {v : Value} (h : RdrE w p l a e) (hg : p < g) : RdrE (w.setCell ⟨g, k, none⟩ v) p l a e :=
  h.below ((Below.refl g w).setCell (p := ⟨g, k, none⟩) (Nat.le_refl _) _) hg
theorem RdrE.err (h : RdrE w p l a e) : w.cell? ⟨p, 2, none⟩ = some (.int .i64 e) := by obtain ⟨a', h, h2⟩ := h; obtain ⟨A, n, c, c0, c1, c2, _⟩ := h.cells; exact c2
end
theorem Wr.uint_bad (l : List UInt8) (a m : Nat) {e : Int} (he : e ≠ 0) : Wr.uint l a e m = (0, a, e) := by unfold Wr.uint; rw [if_pos he]
theorem Rc.cnt_bad (l : List UInt8) (a : Nat) {e : Int} (he : e ≠ 0) : Rc.cnt l a e = (0, a, e) := by
  unfold Rc.cnt; rw [Wr.uint_bad l a _ he]; exact if_pos he
theorem Rc.sym_bad (T : List ByteArray) (l : List UInt8) (a : Nat) {e : Int} (he : e ≠ 0) : Rc.sym T l a e = (ByteArray.empty, a, e) := by
  unfold Rc.sym; rw [Wr.uint_bad l a _ he]; exact if_pos he
theorem uintE_any (p a m : Nat) (l : List UInt8) (e : Int) (w : World) (h : RdrE w p l a e) :
    Calls Try.prog 81 #[.pointer (some ⟨p, 0, none⟩), .int .u64 (m : Int)] w fun r w' => r = .returned (.int .u64 ((Wr.uint l a e m).1 : Int)) ∧ RdrE w' p l (Wr.uint l a e m).2.1 (Wr.uint l a e m).2.2 ∧ w.grownBy w' (some p) := by
  by_cases he : e = 0
  · subst he
    exact (uintq_any p a m l 0 w h.at_).mono fun _ _ ⟨h1, h2, h3⟩ => ⟨h1, .of h2, h3⟩
  · obtain ⟨a', h1, _⟩ := h
    rw [Wr.uint_bad l a m he]
    have := uintq_any p a' m l e w h1
    rw [Wr.uint_bad l a' m he] at this
    exact this.mono fun _ _ ⟨h1, h2, h3⟩ => ⟨h1, ⟨a', h2, fun h0 => absurd h0 he⟩, h3⟩
theorem failE_any (p a : Nat) (l : List UInt8) (e f : Int) (w : World) (h : RdrE w p l a e) : Calls Try.prog 67 #[.pointer (some ⟨p, 0, none⟩), .int .i64 f] w fun r w' => r = .returned (.tuple #[]) ∧ RdrE w' p l a (if e = 0 then f else e) ∧ w.grownBy w' (some p) := by
  by_cases he : e = 0
  · subst he
    refine (failq_any p a l 0 f w h.at_).mono ?_
    rintro r w' ⟨rfl, rfl⟩
    rw [if_pos rfl, if_pos rfl]
    exact ⟨rfl, .of (h.at_.fail f), grown_set w ⟨p, 2, none⟩ _⟩
  · obtain ⟨a', h1, h2⟩ := h
    refine (failq_any p a' l e f w h1).mono ?_
    rintro r w' ⟨rfl, rfl⟩
    rw [if_neg he, if_neg he]
    exact ⟨rfl, ⟨a', h1, h2⟩, World.grownBy.refl _ _⟩
theorem endE_any (p a : Nat) (l : List UInt8) (e : Int) (w : World) (h : RdrE w p l a e) : Calls Try.prog 68 #[.pointer (some ⟨p, 0, none⟩)] w fun r w' => r = .returned (.int .i64 (Wr.fin l a e)) ∧ Quiet w w' := by
  obtain ⟨a', h1, h2⟩ := h
  have : Wr.fin l a e = Wr.fin l a' e := by
    by_cases he : e = 0
    · rw [h2 he]
    · unfold Wr.fin; rw [if_pos he, if_pos he]
  rw [this]
  exact endq_any p a' l e w h1
set_option maxRecDepth 100000 in
set_option maxHeartbeats 4000000 in
theorem refCountQ (p a : Nat) (l : List UInt8) (e : Int) (w : World) (h : RdrQ w p l a e) :
    Calls Try.prog 78 #[.pointer (some ⟨p, 0, none⟩)] w fun r w' => r = .returned (.int .i64 ((Rc.cnt l a e).1 : Int)) ∧ RdrE w' p l (Rc.cnt l a e).2.1 (Rc.cnt l a e).2.2 ∧ w.grownBy w' (some p) := by
  have U := Kept.mk (uintq_any p a 18446744073709551615 l e w h)
  have hle := Wr.uint_le l a Rc.mx e
  have hat := Wr.uint_at l a Rc.mx e h.len.2
  have hC : Rc.cnt l a e = (let r := Wr.uint l a e Rc.mx; if r.2.2 ≠ 0 then (0, r.2.1, r.2.2) else if l.length - r.2.1 < r.1 then (0, r.2.1, 3) else r) := rfl
  have hln := h.len
  obtain ⟨A0, n0, c0, p0, p1, p2, -, -, -, -, -, -, -⟩ := h.cells
  unfold Rc.mx at hC hle hat
  generalize Wr.uint l a e 18446744073709551615 = X at *
  obtain ⟨x, a1, e1⟩ := X
  simp only [] at hC hle hat U
  have HL := Kept.mk hln
  clear h hln
  by_cases he1 : e1 = 0
  · subst he1
    rw [if_neg (by simp)] at hC
    by_cases hx : l.length - a1 < x
    · rw [if_pos hx] at hC
      rw [hC]
      have HX := Kept.mk hx
      clear hC hx
      go_enter Try.func78, Try.ntmps78
      go_upto_region 3 with (go_at_call 81; refine U.out.mono ?_; rintro r w2 ⟨rfl, hr, hg⟩; have R2 := Kept.mk hr; have G2 := Kept.mk hg; clear hr hg)
      obtain ⟨A2, n2, c2, s0, s1, s2, s3, s4, s5, s6, s7, s8, s9⟩ := R2.out.cells
      have hn2 := Kept.mk s5.len
      have hgt : (n2 : Int) - (a1 : Int) < (x : Int) := by have := hn2.out; have := HX.out; omega
      have hwu : IntKind.u64.wrap ((n2 : Int) - (a1 : Int)) = (n2 : Int) - (a1 : Int) := by simp [IntKind.wrap, IntKind.bits, IntKind.signed]; omega
      clear s5
      go_quiet (fail)
      go_wp2_with (go_at_call 67; refine (failq_any p a l 0 3 _ (by exact R2.out.move a HL.out.2)).mono ?_; rintro r w3 ⟨rfl, hw⟩; rw [if_pos rfl] at hw; have R3 : Kept (RdrQ w3 p l a 3) := ⟨by rw [hw]; exact (R2.out.move a HL.out.2).fail 3⟩; have G3 : Kept (w2.grownBy w3 (some p)) := ⟨by rw [hw]; exact (drewN_grown' w2 _).trans ((grown_set _ ⟨p, 1, none⟩ _).trans (grown_set _ ⟨p, 2, none⟩ _))⟩; clear hw; obtain ⟨A3, n3, c3, t0, t1, t2, t3, t4, t5, t6, t7, t8, t9⟩ := R3.out.cells; clear t5)
      go_ret
      exact ⟨rfl, ⟨a, R3.out, fun h0 => by cases h0⟩, G2.out.trans G3.out⟩
    · rw [if_neg hx] at hC
      rw [hC]
      have HX := Kept.mk hx
      have hx1 : (x : Int) ≤ 140737488354000 := by have := HL.out.1; omega
      clear hC hx
      go_enter Try.func78, Try.ntmps78
      go_upto_region 3 with (go_at_call 81; refine U.out.mono ?_; rintro r w2 ⟨rfl, hr, hg⟩; have R2 := Kept.mk hr; have G2 := Kept.mk hg; clear hr hg)
      obtain ⟨A2, n2, c2, s0, s1, s2, s3, s4, s5, s6, s7, s8, s9⟩ := R2.out.cells
      have hn2 := Kept.mk s5.len
      have hgt : ¬ (n2 : Int) - (a1 : Int) < (x : Int) := by have := hn2.out; have := HX.out; omega
      have hwu : IntKind.u64.wrap ((n2 : Int) - (a1 : Int)) = (n2 : Int) - (a1 : Int) := by simp [IntKind.wrap, IntKind.bits, IntKind.signed]; omega
      clear s5
      go_quiet (fail)
      go_wp2
      go_ret
      exact ⟨by go_num, .of R2.out, G2.out.trans (drewN_grown' _ _)⟩
  · rw [if_pos he1] at hC
    rw [hC]
    have heb : (e1 == 0) = false := by simpa using he1
    clear hC
    go_enter Try.func78, Try.ntmps78
    go_upto_region 3 with (go_at_call 81; refine U.out.mono ?_; rintro r w2 ⟨rfl, hr, hg⟩; have R2 := Kept.mk hr; have G2 := Kept.mk hg; clear hr hg)
    obtain ⟨A2, n2, c2, s0, s1, s2, s3, s4, s5, s6, s7, s8, s9⟩ := R2.out.cells
    clear s5
    go_quiet (fail)
    go_wp2
    go_ret
    exact ⟨rfl, .of R2.out, G2.out.trans (drewN_grown' _ _)⟩
theorem refCount_any (p a : Nat) (l : List UInt8) (e : Int) (w : World) (h : RdrE w p l a e) :
    Calls Try.prog 78 #[.pointer (some ⟨p, 0, none⟩)] w fun r w' => r = .returned (.int .i64 ((Rc.cnt l a e).1 : Int)) ∧ RdrE w' p l (Rc.cnt l a e).2.1 (Rc.cnt l a e).2.2 ∧ w.grownBy w' (some p) := by
  by_cases he : e = 0
  · subst he
    exact refCountQ p a l 0 w h.at_
  · obtain ⟨a', h1, _⟩ := h
    rw [Rc.cnt_bad l a he]
    have := refCountQ p a' l e w h1
    rw [Rc.cnt_bad l a' he] at this
    exact this.mono fun _ _ ⟨h1, h2, h3⟩ => ⟨h1, h2.any he a, h3⟩
set_option maxRecDepth 100000 in
set_option maxHeartbeats 4000000 in
theorem refSymbol_any (p a tn tc : Nat) (TA : Option Addr) (T : List ByteArray) (l : List UInt8) (e : Int) (w : World) (hT : RdS w p TA tn tc T) (h : RdrE w p l a e) :
    Calls Try.prog 79 #[.pointer (some ⟨p, 0, none⟩), .slice TA tn tc] w fun r w' => r = .returned (.string (Rc.sym T l a e).1) ∧ RdrE w' p l (Rc.sym T l a e).2.1 (Rc.sym T l a e).2.2 ∧ w.grownBy w' (some p) := by
  have U := Kept.mk (uintE_any p a 18446744073709551615 l e w h)
  have HR := Kept.mk hT
  have hpl := h.lt
  have hle := Wr.uint_le l a Rc.mx e
  have hC : Rc.sym T l a e = (let r := Wr.uint l a e Rc.mx; if r.2.2 ≠ 0 then (ByteArray.empty, r.2.1, r.2.2) else if T.length ≤ r.1 then (ByteArray.empty, r.2.1, 14) else (T.getD r.1 ByteArray.empty, r.2.1, 0)) := rfl
  have htl := hT.len
  have htm := hT.2.1
  have htc := hT.1
  unfold maxLen at htm
  unfold Rc.mx at hC hle
  generalize Wr.uint l a e 18446744073709551615 = X at *
  obtain ⟨x, a1, e1⟩ := X
  simp only [] at hC hle U
  have hwu : IntKind.u64.wrap (tn : Int) = (tn : Int) := by simp [IntKind.wrap, IntKind.bits, IntKind.signed]; omega
  have HT := Kept.mk htl
  clear h hT htl
  by_cases he1 : e1 = 0
  · subst he1
    rw [if_neg (by simp)] at hC
    by_cases hx : T.length ≤ x
    · rw [if_pos hx] at hC
      rw [hC]
      have hgt : (tn : Int) ≤ (x : Int) := by have := HT.out; omega
      have hgt2 : tn ≤ x := by omega
      clear hC hx
      go_enter Try.func79, Try.ntmps79
      go_wp2_with (first
        | (go_at_call 81; refine U.out.mono ?_; rintro r w2 ⟨rfl, hr, hg⟩; have R2 := Kept.mk hr; have G2 := Kept.mk hg; have s2 := hr.err; clear hr hg)
        | (go_at_call 67; refine (failE_any p a1 l 0 14 _ R2.out).mono ?_; rintro r w3 ⟨rfl, hr, hg⟩; rw [if_pos rfl] at hr; have R3 := Kept.mk hr; have G3 := Kept.mk hg; have s3 := hr.err; clear hr hg R2))
      go_ret
      exact ⟨rfl, R3.out, G2.out.trans G3.out⟩
    · rw [if_neg hx] at hC
      have hxl : x < T.length := by omega
      rw [show T.getD x ByteArray.empty = T[x] by simp [List.getD, hxl]] at hC
      rw [hC]
      have hgt : (x : Int) < (tn : Int) := by have := HT.out; omega
      have hgt2 : ¬ tn ≤ x := by omega
      have hgt3 : x < tn := by omega
      obtain ⟨b, off, rfl, hbp, hcell⟩ := HR.out.at_ hxl
      have CC : Kept (∀ W, w.grownBy W (some p) → W.cell? ⟨b, off + x, none⟩ = some (.string T[x])) := ⟨fun W hg => by
        obtain ⟨b', off', e', -, hc'⟩ := (HR.out.grown hg (by omega) (fun g e => by have := Option.some.inj e; omega)).at_ hxl
        simp only [Option.some.injEq, Addr.mk.injEq, and_true] at e'
        obtain ⟨rfl, rfl⟩ := e'
        exact hc'⟩
      generalize T[x] = s at *
      clear hC hx hcell
      go_enter Try.func79, Try.ntmps79
      go_wp2_with (go_at_call 81; refine U.out.mono ?_; rintro r w2 ⟨rfl, hr, hg⟩; have R2 := Kept.mk hr; have G2 := Kept.mk hg; have s2 := hr.err; clear hr hg; have cc := CC.out w2 G2.out)
      go_ret
      exact ⟨rfl, R2.out, G2.out⟩
  · rw [if_pos he1] at hC
    rw [hC]
    have heb : (e1 == 0) = false := by simpa using he1
    clear hC
    go_enter Try.func79, Try.ntmps79
    go_wp2_with (go_at_call 81; refine U.out.mono ?_; rintro r w2 ⟨rfl, hr, hg⟩; have R2 := Kept.mk hr; have G2 := Kept.mk hg; have s2 := hr.err; clear hr hg)
    go_ret
    exact ⟨rfl, R2.out, G2.out⟩
end Go.Proofs.Ythhcfocmaiacoaa
