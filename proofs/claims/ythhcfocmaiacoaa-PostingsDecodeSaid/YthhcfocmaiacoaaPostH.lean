/- Chapter 15: the program's reader of entries: strings, rows. -/
import Derived.Test.YthhcfocmaiacoaaPostE
import Derived.Deep.RegionHeld3
import Derived.StillTailTactics
import Derived.Test.YthhcfocmaiacoaaPostL
namespace Go.Proofs.Ythhcfocmaiacoaa
open Go.RowKit Go.Shelf

namespace Pe
/-- may a difference stand here -/
def okD (bnd last d : Nat) (first : Bool) : Bool := decide (d < bnd - last) && (first || decide (0 < d))
def sl (l : List UInt8) (bnd : Nat) : Nat → Nat → List Int → Nat → List Int × Nat × Int
  | 0, _, acc, a => (acc, a, 0)
  | k + 1, last, acc, a =>
    if (Wr.uint l a 0 Rc.mx).2.2 ≠ 0 then ([], (Wr.uint l a 0 Rc.mx).2.1, (Wr.uint l a 0 Rc.mx).2.2)
    else if okD bnd last (Wr.uint l a 0 Rc.mx).1 acc.isEmpty = false then ([], (Wr.uint l a 0 Rc.mx).2.1, 22)
    else sl l bnd k (last + (Wr.uint l a 0 Rc.mx).1) (acc ++ [((last + (Wr.uint l a 0 Rc.mx).1 : Nat) : Int)]) (Wr.uint l a 0 Rc.mx).2.1
def ser (l : List UInt8) (bnd a : Nat) : List Int × Nat × Int :=
  if (Rc.cnt l a 0).2.2 ≠ 0 then ([], (Rc.cnt l a 0).2.1, (Rc.cnt l a 0).2.2)
  else if (Rc.cnt l a 0).1 = 0 then ([], (Rc.cnt l a 0).2.1, 22)
  else sl l bnd (Rc.cnt l a 0).1 0 [] (Rc.cnt l a 0).2.1
end Pe
/-- the program's reader of entries -/
def RP (w : World) (q p : Nat) (TA : Option Addr) (tn tc : Nat) (T : List ByteArray) (l : List UInt8) : Prop :=
  w.heap[q]? = some (.cells #[.pointer (some ⟨p, 0, none⟩), .slice TA tn tc, .int .i64 (l.length : Int)] 120 (0, 0)) ∧ p < q ∧ RdS w p TA tn tc T
section
variable {w w' : World} {q p tn tc : Nat} {TA : Option Addr} {T : List ByteArray} {l : List UInt8}
theorem RP.grown (h : RP w q p TA tn tc T l) (hg : w.grownBy w' (some p)) : RP w' q p TA tn tc T l := by
  obtain ⟨h1, h2, h3⟩ := h
  have hq : q < w.heap.size := (Array.getElem?_eq_some_iff.1 h1).1
  exact ⟨(hg.block q hq (fun e => by have := Option.some.inj e; omega)).trans h1, h2, h3.grown hg (by omega) (fun g e => by have := Option.some.inj e; omega)⟩
theorem RP.cells (h : RP w q p TA tn tc T l) :
    w.cell? ⟨q, 0, none⟩ = some (.pointer (some ⟨p, 0, none⟩)) ∧ w.cell? ⟨q, 1, none⟩ = some (.slice TA tn tc) ∧ w.cell? ⟨q, 2, none⟩ = some (.int .i64 (l.length : Int)) :=
  ⟨cell_of_row _ _ _ _ _ _ h.1, cell_of_row _ _ _ _ _ _ h.1, cell_of_row _ _ _ _ _ _ h.1⟩
theorem RP.lt (h : RP w q p TA tn tc T l) : q < w.heap.size := (Array.getElem?_eq_some_iff.1 h.1).1
end
theorem own_past {w w' : World} {base n c sz p : Nat} {A : Option Addr} {xs : List Value} {e : TypeId} (h : w.ownsRow base e sz (.slice A n c) n xs) (hg : w.grownBy w' (some p)) (hp : p < base) : w'.ownsRow base e sz (.slice A n c) n xs :=
  own_grown h hg (by
    rcases hA : ab A with _ | g
    · exact .inl rfl
    · refine .inr fun e => ?_
      have := (own_lt h g hA).1
      have := Option.some.inj e
      omega)
set_option maxHeartbeats 1000000 in
theorem check_ok (q p a tn tc : Nat) (TA : Option Addr) (T : List ByteArray) (l : List UInt8) (e f : Int) (w : World) (hR : RP w q p TA tn tc T l) (h : Rdr w p l a e) :
    Calls Try.prog 76 #[.pointer (some ⟨q, 0, none⟩), .bool true, .int .i64 f] w fun r w' => r = .returned (.bool (e == 0)) ∧ w' = w := by
  obtain ⟨q0, q1, q2⟩ := hR.cells
  have E := Kept.mk (err_any p a l e w h)
  clear hR h
  go_enter Try.func76, Try.ntmps76
  go_wp2_with (go_at_call 62; refine E.out.mono ?_; rintro r w2 ⟨rfl, rfl⟩)
  go_ret
  exact ⟨rfl, rfl⟩
set_option maxHeartbeats 1000000 in
theorem check_no (q p a tn tc : Nat) (TA : Option Addr) (T : List ByteArray) (l : List UInt8) (e f : Int) (w : World) (hR : RP w q p TA tn tc T l) (h : Rdr w p l a e) (hf : f ≠ 0) :
    Calls Try.prog 76 #[.pointer (some ⟨q, 0, none⟩), .bool false, .int .i64 f] w fun r w' => r = .returned (.bool false) ∧ Rdr w' p l a (if e = 0 then f else e) ∧ w.grownBy w' (some p) := by
  obtain ⟨q0, q1, q2⟩ := hR.cells
  have HR := Kept.mk hR
  have E := Kept.mk (fail_any p a l e f w h)
  obtain ⟨e2, he2⟩ : ∃ e2, e2 = if e = 0 then f else e := ⟨_, rfl⟩
  rw [← he2] at E ⊢
  have hb : (e2 == 0) = false := by
    rw [he2]
    by_cases h0 : e = 0
    · rw [if_pos h0]; simpa using hf
    · rw [if_neg h0]; simpa using h0
  clear hR h he2
  go_enter Try.func76, Try.ntmps76
  go_wp2_with (first
    | (go_at_call 62; refine (err_any p a l e2 _ R2.out).mono ?_; rintro r w3 ⟨rfl, rfl⟩)
    | (go_at_call 63; refine E.out.mono ?_; rintro r w2 ⟨rfl, hr, hg⟩; have R2 := Kept.mk hr; have G2 := Kept.mk hg; obtain ⟨s0, s1, s2⟩ := (HR.out.grown hg).cells; clear hr hg E))
  go_ret
  exact ⟨rfl, R2.out, G2.out⟩
/-- the same, whatever the condition -/
theorem check_any (q p a tn tc : Nat) (TA : Option Addr) (T : List ByteArray) (l : List UInt8) (b : Bool) (e f : Int) (w : World) (hR : RP w q p TA tn tc T l) (h : Rdr w p l a e) (hf : f ≠ 0) :
    Calls Try.prog 76 #[.pointer (some ⟨q, 0, none⟩), .bool b, .int .i64 f] w fun r w' => ∃ e', r = .returned (.bool (e' == 0)) ∧ (b = true → e' = e) ∧ (b = false → e' = if e = 0 then f else e) ∧ Rdr w' p l a e' ∧ w.grownBy w' (some p) := by
  cases b with
  | true => exact (check_ok q p a tn tc TA T l e f w hR h).mono fun r w' ⟨h1, h2⟩ => ⟨e, h1, fun _ => rfl, fun h => (by cases h), (by rw [h2]; exact h), (by rw [h2]; exact World.grownBy.refl _ _)⟩
  | false =>
    refine (check_no q p a tn tc TA T l e f w hR h hf).mono fun r w' ⟨h1, h2, h3⟩ => ⟨if e = 0 then f else e, ?_, fun h => (by cases h), fun _ => rfl, h2, h3⟩
    have : ((if e = 0 then f else e) == 0) = false := by
      by_cases h0 : e = 0
      · rw [if_pos h0]; simpa using hf
      · rw [if_neg h0]; simpa using h0
    rw [this]; exact h1
set_option maxRecDepth 100000 in
set_option maxHeartbeats 4000000 in
theorem pcount_any (q p a tn tc : Nat) (TA : Option Addr) (T : List ByteArray) (l : List UInt8) (e : Int) (w : World) (hR : RP w q p TA tn tc T l) (h : Rdr w p l a e) :
    Calls Try.prog 74 #[.pointer (some ⟨q, 0, none⟩)] w fun r w' => r = .returned (.int .i64 ((Rc.cnt l a e).1 : Int)) ∧ Rdr w' p l (Rc.cnt l a e).2.1 (Rc.cnt l a e).2.2 ∧ w.grownBy w' (some p) := by
  obtain ⟨q0, q1, q2⟩ := hR.cells
  have U := Kept.mk (uint_any p a 18446744073709551615 l e w h)
  have HR := Kept.mk hR
  have hle := Wr.uint_le l a Rc.mx e
  have hze := Wr.uint_zero l a Rc.mx e
  have hat := Wr.uint_at l a Rc.mx e h.len.2
  have hC : Rc.cnt l a e = (let r := Wr.uint l a e Rc.mx; if r.2.2 ≠ 0 then (0, r.2.1, r.2.2) else if l.length - r.2.1 < r.1 then (0, r.2.1, 3) else r) := rfl
  have hln := h.len
  unfold Rc.mx at hC hle hat hze
  generalize Wr.uint l a e 18446744073709551615 = X at *
  obtain ⟨x, a1, e1⟩ := X
  simp only [] at hC hle hat U hze
  clear h hR
  have hwi : IntKind.i64.wrap ((l.length : Int) - (a1 : Int)) = (l.length : Int) - (a1 : Int) := by simp [IntKind.wrap, IntKind.bits, IntKind.signed]; omega
  have hwu : IntKind.u64.wrap ((l.length : Int) - (a1 : Int)) = (l.length : Int) - (a1 : Int) := by simp [IntKind.wrap, IntKind.bits, IntKind.signed]; omega
  by_cases he1 : e1 = 0
  · subst he1
    rw [if_neg (by simp)] at hC
    clear hze
    by_cases hx : l.length - a1 < x
    · rw [if_pos hx] at hC
      rw [hC]
      have hdb : decide ((x : Int) ≤ (l.length : Int) - (a1 : Int)) = false := decide_eq_false (by omega)
      clear hC hx
      go_enter Try.func74, Try.ntmps74
      go_upto_region 2 with (go_at_call 108; refine U.out.mono ?_; rintro r w2 ⟨rfl, hr, hg⟩; have R2 := Kept.mk hr; have G2 := Kept.mk hg; clear hr hg)
      obtain ⟨s0, s1, s2⟩ := (HR.out.grown G2.out).cells
      have RD : Kept (Rdr w2.drew p l a1 0) := ⟨R2.out⟩
      have RRD : Kept (RP w2.drew q p TA tn tc T l) := ⟨show RP w2 q p TA tn tc T l from HR.out.grown G2.out⟩
      have hgd : Kept (w2.grownBy w2.drew (some p)) := ⟨⟨rfl, rfl, rfl, Nat.le_refl _, fun _ _ _ => rfl⟩⟩
      refine wp_region_still_tail 14 (by kernel_rfl) (by kernel_rfl) ?_
      simp only [List.take_succ_cons, List.take_zero, List.drop_succ_cons, List.drop_zero]
      repeat still_step
      still_call ((at_any p a1 l 0 w2.drew RD.out).mono fun _ _ q => ⟨q.1, q.2.symm⟩)
      repeat still_step
      refine wpStill_nil ?_
      change wpList _ _ _ _ _ w2.drew
      clear s0 s1 s2
      generalize w2.drew = wd at *
      try simp only [hwi, hwu, hdb]
      obtain ⟨s0, s1, s2⟩ := RRD.out.cells
      go_wp2_with (go_at_call 76; refine (check_no q p a1 tn tc TA T l 0 3 _ RRD.out RD.out (by decide)).mono ?_; rintro r w3 ⟨rfl, hr, hg⟩; rw [if_pos rfl] at hr; have R3 := Kept.mk hr; have G3 := Kept.mk (hgd.out.trans hg); clear hr hg)
      go_ret
      exact ⟨rfl, R3.out, G2.out.trans G3.out⟩
    · rw [if_neg hx] at hC
      rw [hC]
      have hdb : decide ((x : Int) ≤ (l.length : Int) - (a1 : Int)) = true := decide_eq_true (by omega)
      have hx1 : (x : Int) ≤ 140737488354000 := by omega
      clear hC hx
      go_enter Try.func74, Try.ntmps74
      go_upto_region 2 with (go_at_call 108; refine U.out.mono ?_; rintro r w2 ⟨rfl, hr, hg⟩; have R2 := Kept.mk hr; have G2 := Kept.mk hg; clear hr hg)
      obtain ⟨s0, s1, s2⟩ := (HR.out.grown G2.out).cells
      have RD : Kept (Rdr w2.drew p l a1 0) := ⟨R2.out⟩
      have RRD : Kept (RP w2.drew q p TA tn tc T l) := ⟨show RP w2 q p TA tn tc T l from HR.out.grown G2.out⟩
      have hgd : Kept (w2.grownBy w2.drew (some p)) := ⟨⟨rfl, rfl, rfl, Nat.le_refl _, fun _ _ _ => rfl⟩⟩
      refine wp_region_still_tail 14 (by kernel_rfl) (by kernel_rfl) ?_
      simp only [List.take_succ_cons, List.take_zero, List.drop_succ_cons, List.drop_zero]
      repeat still_step
      still_call ((at_any p a1 l 0 w2.drew RD.out).mono fun _ _ q => ⟨q.1, q.2.symm⟩)
      repeat still_step
      refine wpStill_nil ?_
      change wpList _ _ _ _ _ w2.drew
      clear s0 s1 s2
      generalize w2.drew = wd at *
      try simp only [hwi, hwu, hdb]
      obtain ⟨s0, s1, s2⟩ := RRD.out.cells
      go_wp2_with (go_at_call 76; refine (check_ok q p a1 tn tc TA T l 0 3 _ RRD.out RD.out).mono ?_; rintro r w3 ⟨rfl, hw⟩; obtain rfl := hw.symm)
      go_ret
      exact ⟨by go_num, RD.out, G2.out.trans hgd.out⟩
  · rw [if_pos he1] at hC
    rw [hC]
    have heb : (e1 == 0) = false := by simpa using he1
    have hx0 := hze he1
    subst hx0
    have hdb : decide (((0 : Nat) : Int) ≤ (l.length : Int) - (a1 : Int)) = true := decide_eq_true (by omega)
    clear hC hze
    go_enter Try.func74, Try.ntmps74
    go_upto_region 2 with (go_at_call 108; refine U.out.mono ?_; rintro r w2 ⟨rfl, hr, hg⟩; have R2 := Kept.mk hr; have G2 := Kept.mk hg; clear hr hg)
    obtain ⟨s0, s1, s2⟩ := (HR.out.grown G2.out).cells
    have RD : Kept (Rdr w2.drew p l a1 e1) := ⟨R2.out⟩
    have RRD : Kept (RP w2.drew q p TA tn tc T l) := ⟨show RP w2 q p TA tn tc T l from HR.out.grown G2.out⟩
    have hgd : Kept (w2.grownBy w2.drew (some p)) := ⟨⟨rfl, rfl, rfl, Nat.le_refl _, fun _ _ _ => rfl⟩⟩
    refine wp_region_still_tail 14 (by kernel_rfl) (by kernel_rfl) ?_
    simp only [List.take_succ_cons, List.take_zero, List.drop_succ_cons, List.drop_zero]
    repeat still_step
    still_call ((at_any p a1 l e1 w2.drew RD.out).mono fun _ _ q => ⟨q.1, q.2.symm⟩)
    repeat still_step
    refine wpStill_nil ?_
    change wpList _ _ _ _ _ w2.drew
    clear s0 s1 s2
    generalize w2.drew = wd at *
    try simp only [hwi, hwu, hdb]
    obtain ⟨s0, s1, s2⟩ := RRD.out.cells
    go_wp2_with (go_at_call 76; refine (check_ok q p a1 tn tc TA T l e1 3 _ RRD.out RD.out).mono ?_; rintro r w3 ⟨rfl, hw⟩; obtain rfl := hw.symm)
    go_ret
    exact ⟨rfl, RD.out, G2.out.trans hgd.out⟩
end Go.Proofs.Ythhcfocmaiacoaa
namespace Go.Proofs.Ythhcfocmaiacoaa
open Go.RowKit Go.Shelf

set_option maxRecDepth 100000 in
set_option maxHeartbeats 4000000 in
theorem psymbol_any (q p a tn tc : Nat) (TA : Option Addr) (T : List ByteArray) (l : List UInt8) (e : Int) (w : World) (hR : RP w q p TA tn tc T l) (h : Rdr w p l a e) :
    Calls Try.prog 75 #[.pointer (some ⟨q, 0, none⟩)] w fun r w' => r = .returned (.string (Rc.sym T l a e).1) ∧ Rdr w' p l (Rc.sym T l a e).2.1 (Rc.sym T l a e).2.2 ∧ w.grownBy w' (some p) := by
  obtain ⟨q0, q1, q2⟩ := hR.cells
  have U := Kept.mk (uint_any p a 18446744073709551615 l e w h)
  have HR := Kept.mk hR
  have hle := Wr.uint_le l a Rc.mx e
  have hze := Wr.uint_zero l a Rc.mx e
  have hC : Rc.sym T l a e = (let r := Wr.uint l a e Rc.mx; if r.2.2 ≠ 0 then (ByteArray.empty, r.2.1, r.2.2) else if T.length ≤ r.1 then (ByteArray.empty, r.2.1, 14) else (T.getD r.1 ByteArray.empty, r.2.1, 0)) := rfl
  have htl := hR.2.2.len
  have htm := hR.2.2.2.1
  have htc := hR.2.2.1
  unfold maxLen at htm
  unfold Rc.mx at hC hle hze
  generalize Wr.uint l a e 18446744073709551615 = X at *
  obtain ⟨x, a1, e1⟩ := X
  simp only [] at hC hle U hze
  have hwu : IntKind.u64.wrap (tn : Int) = (tn : Int) := by simp [IntKind.wrap, IntKind.bits, IntKind.signed]; omega
  have HT := Kept.mk htl
  clear h hR htl
  by_cases he1 : e1 = 0
  · subst he1
    rw [if_neg (by simp)] at hC
    clear hze
    by_cases hx : T.length ≤ x
    · rw [if_pos hx] at hC
      rw [hC]
      have hdb : decide ((x : Int) < (tn : Int)) = false := decide_eq_false (by have := HT.out; omega)
      have hgt : ¬ (x : Int) < (tn : Int) := by have := HT.out; omega
      have hgt2 : ¬ x < tn := by omega
      clear hC hx
      go_enter Try.func75, Try.ntmps75
      go_wp2_with (first
        | (go_at_call 108; refine U.out.mono ?_; rintro r w2 ⟨rfl, hr, hg⟩; have R2 := Kept.mk hr; have G2 := Kept.mk hg; have RR2 := Kept.mk (HR.out.grown hg); obtain ⟨s0, s1, s2⟩ := (HR.out.grown hg).cells; clear hr hg)
        | (go_at_call 76; refine (check_no q p a1 tn tc TA T l 0 14 _ RR2.out R2.out (by decide)).mono ?_; rintro r w3 ⟨rfl, hr, hg⟩; rw [if_pos rfl] at hr; have R3 := Kept.mk hr; have G3 := Kept.mk hg; clear hr hg))
      go_ret
      exact ⟨rfl, R3.out, G2.out.trans G3.out⟩
    · rw [if_neg hx] at hC
      have hxl : x < T.length := by omega
      rw [show T.getD x ByteArray.empty = T[x] by simp [List.getD, hxl]] at hC
      rw [hC]
      have hgt : (x : Int) < (tn : Int) := by have := HT.out; omega
      have hgt3 : x < tn := by omega
      obtain ⟨b, off, rfl, hbp, hcell⟩ := HR.out.2.2.at_ hxl
      have CC : Kept (∀ W, w.grownBy W (some p) → W.cell? ⟨b, off + x, none⟩ = some (.string T[x])) := ⟨fun W hg => by
        obtain ⟨b', off', e', -, hc'⟩ := ((HR.out.grown hg).2.2).at_ hxl
        simp only [Option.some.injEq, Addr.mk.injEq, and_true] at e'
        obtain ⟨rfl, rfl⟩ := e'
        exact hc'⟩
      generalize T[x] = s at *
      clear hC hx hcell
      go_enter Try.func75, Try.ntmps75
      go_wp2_with (first
        | (go_at_call 108; refine U.out.mono ?_; rintro r w2 ⟨rfl, hr, hg⟩; have R2 := Kept.mk hr; have G2 := Kept.mk hg; have RR2 := Kept.mk (HR.out.grown hg); obtain ⟨s0, s1, s2⟩ := (HR.out.grown hg).cells; clear hr hg; have cc := CC.out w2 G2.out)
        | (go_at_call 76; refine (check_ok q p a1 tn tc _ T l 0 14 _ RR2.out R2.out).mono ?_; rintro r w3 ⟨rfl, hw⟩; obtain rfl := hw.symm))
      go_ret
      exact ⟨rfl, R2.out, G2.out⟩
  · rw [if_pos he1] at hC
    rw [hC]
    have heb : (e1 == 0) = false := by simpa using he1
    have hx0 := hze he1
    subst hx0
    clear hC hze
    by_cases ht0 : tn = 0
    · subst ht0
      go_enter Try.func75, Try.ntmps75
      go_wp2_with (first
        | (go_at_call 108; refine U.out.mono ?_; rintro r w2 ⟨rfl, hr, hg⟩; have R2 := Kept.mk hr; have G2 := Kept.mk hg; have RR2 := Kept.mk (HR.out.grown hg); obtain ⟨s0, s1, s2⟩ := (HR.out.grown hg).cells; clear hr hg)
        | (go_at_call 76; refine (check_no q p a1 0 tc TA T l e1 14 _ RR2.out R2.out (by decide)).mono ?_; rintro r w3 ⟨rfl, hr, hg⟩; rw [if_neg he1] at hr; have R3 := Kept.mk hr; have G3 := Kept.mk hg; clear hr hg))
      go_ret
      exact ⟨rfl, R3.out, G2.out.trans G3.out⟩
    · have hgt : (0 : Int) < (tn : Int) := by omega
      have hgt3 : 0 < tn := by omega
      go_enter Try.func75, Try.ntmps75
      go_wp2_with (first
        | (go_at_call 108; refine U.out.mono ?_; rintro r w2 ⟨rfl, hr, hg⟩; have R2 := Kept.mk hr; have G2 := Kept.mk hg; have RR2 := Kept.mk (HR.out.grown hg); obtain ⟨s0, s1, s2⟩ := (HR.out.grown hg).cells; clear hr hg)
        | (go_at_call 76; refine (check_ok q p a1 tn tc TA T l e1 14 _ RR2.out R2.out).mono ?_; rintro r w3 ⟨rfl, hw⟩; obtain rfl := hw.symm))
      go_ret
      exact ⟨rfl, R2.out, G2.out⟩
namespace Pe
theorem sl_zero (l : List UInt8) (bnd last : Nat) (acc : List Int) (a : Nat) : sl l bnd 0 last acc a = (acc, a, 0) := rfl
theorem sl_bad {l : List UInt8} {bnd last a x a1 : Nat} {acc : List Int} {e1 : Int} (k : Nat) (h : Wr.uint l a 0 Rc.mx = (x, a1, e1)) (he : e1 ≠ 0) : sl l bnd (k + 1) last acc a = ([], a1, e1) := by
  rw [sl, h]; simp [he]
theorem sl_no {l : List UInt8} {bnd last a x a1 : Nat} {acc : List Int} (k : Nat) (h : Wr.uint l a 0 Rc.mx = (x, a1, 0)) (ho : okD bnd last x acc.isEmpty = false) : sl l bnd (k + 1) last acc a = ([], a1, 22) := by
  rw [sl, h]; simp [ho]
theorem sl_ok {l : List UInt8} {bnd last a x a1 : Nat} {acc : List Int} (k : Nat) (h : Wr.uint l a 0 Rc.mx = (x, a1, 0)) (ho : okD bnd last x acc.isEmpty = true) : sl l bnd (k + 1) last acc a = sl l bnd k (last + x) (acc ++ [((last + x : Nat) : Int)]) a1 := by
  rw [sl, h]; simp [ho]
theorem cnt_z (l : List UInt8) (a : Nat) (e : Int) (h : (Rc.cnt l a e).2.2 ≠ 0) : (Rc.cnt l a e).1 = 0 := by
  unfold Rc.cnt at h ⊢
  simp only [] at h ⊢
  split at h
  · rw [if_pos (by assumption)]
  · rename_i h1
    rw [if_neg h1]
    split at h
    · rw [if_pos (by assumption)]
    · exact absurd h h1
end Pe
theorem rdr_push {w w' : World} {p a : Nat} {l : List UInt8} {e : Int} {B : Nat} (h : Rdr w p l a e) (hb : Below B w w') (hp : p < B) : Rdr w' p l a e := h.below hb hp
theorem grown_push {w w1 w' : World} {p : Nat} (h : w.grownBy w1 (some p)) (b : Below w.heap.size w1 w') : w.grownBy w' (some p) :=
  ⟨b.os.trans h.os, b.tape.trans h.tape, b.output.trans h.output, Nat.le_trans h.size b.size, fun k hk hne => (b.block k hk).trans (h.block k hk hne)⟩
set_option maxRecDepth 100000 in
set_option maxHeartbeats 8000000 in
theorem pseries_any (q p a tn tc bnd : Nat) (TA : Option Addr) (T : List ByteArray) (l : List UInt8) (w : World) (hR : RP w q p TA tn tc T l) (h : Rdr w p l a 0) (hbd : bnd < 9223372036854775808) (hl9 : l.length ≤ 20000000) :
    Calls Try.prog 77 #[.pointer (some ⟨q, 0, none⟩), .int .u64 (bnd : Int)] w fun r w' => ∃ A2 n2 c2, r = .returned (.slice A2 n2 c2) ∧ OwnI w' w.heap.size A2 n2 c2 (Pe.ser l bnd a).1 ∧ Rdr w' p l (Pe.ser l bnd a).2.1 (Pe.ser l bnd a).2.2 ∧ w.grownBy w' (some p) := by
  have HR := Kept.mk hR
  have CN := Kept.mk (pcount_any q p a tn tc TA T l 0 w hR h)
  have hln := h.len
  have hpl := h.lt
  obtain ⟨M, hM⟩ : ∃ M, M = Pe.ser l bnd a := ⟨_, rfl⟩
  rw [← hM]
  unfold Pe.ser at hM
  have hcl := Rc.cnt_le l a 0 h.len.2
  have hcz := Pe.cnt_z l a 0
  generalize Rc.cnt l a 0 = X at *
  obtain ⟨n, a1, e1⟩ := X
  simp only [] at CN hM hcl
  clear h hR
  by_cases hn0 : n = 0
  · subst hn0
    obtain ⟨e2, he2⟩ : ∃ e2, (if e1 = 0 then 22 else e1) = e2 := ⟨_, rfl⟩
    have HE2 := Kept.mk he2
    have hM2 : M = ([], a1, e2) := by
      rw [hM, ← he2]
      by_cases h0 : e1 = 0
      · simp [h0]
      · simp [h0]
    rw [hM2]
    clear hM hM2 hcz he2
    go_enter Try.func77, Try.ntmps77
    go_wp2_with (first
      | (go_at_call 74; refine CN.out.mono ?_; rintro r w2 ⟨rfl, hr, hg⟩; have R2 := Kept.mk hr; have G2 := Kept.mk hg; have RR2 := Kept.mk (HR.out.grown hg); clear hr hg)
      | (go_at_call 76; refine (check_no q p a1 tn tc TA T l e1 22 _ RR2.out R2.out (by decide)).mono ?_; rintro r w3 ⟨rfl, hr, hg⟩; rw [HE2.out] at hr; have R3 := Kept.mk hr; have G3 := Kept.mk hg; clear hr hg))
    go_loopw [6, 17] (fun o i wr => o = .slice none 0 0 ∧ i = .int .i64 0 ∧ wr = w3) (fun _ i _ => 1)
    case atStart => exact ⟨rfl, rfl, rfl⟩
    case round =>
      obtain ⟨rfl, rfl, hw⟩ := hrel
      obtain rfl := hw.symm
      go_wp2
      go_ret
      exact ⟨none, 0, 0, rfl, World.ownsRow_nil _ _ _ _, R3.out, G2.out.trans G3.out⟩
  · have he1 : e1 = 0 := Classical.byContradiction fun h => hn0 (hcz h)
    subst he1
    have HM : Kept (M = Pe.sl l bnd n 0 [] a1) := ⟨by rw [hM, if_neg (by simp), if_neg hn0]⟩
    have hgt0 : (0 : Int) < (n : Int) := by omega
    clear hM hcz
    have hn9 : n ≤ 20000000 := by omega
    have hgt1 : 0 < n := by omega
    go_enter Try.func77, Try.ntmps77
    go_wp2_with (first
      | (go_at_call 74; refine CN.out.mono ?_; rintro r w2 ⟨rfl, hr, hg⟩; have R2 := Kept.mk hr; have G2 := Kept.mk hg; have RR2 := Kept.mk (HR.out.grown hg); clear hr hg)
      | (go_at_call 76; refine (check_ok q p a1 tn tc TA T l 0 22 _ RR2.out R2.out).mono ?_; rintro r w3 ⟨rfl, hw⟩; obtain rfl := hw.symm; clear hw))
    go_loopw [6, 7, 17] (fun o la i wr => ∃ k : Nat, k ≤ n ∧ i = .int .i64 k ∧ ∃ (last at_ : Nat) (acc : List Int) (A2 : Option Addr) (c2 : Nat), la = .int .u64 (last : Int) ∧ o = .slice A2 k c2 ∧ OwnI wr w.heap.size A2 k c2 acc ∧ Rdr wr p l at_ 0 ∧ w.grownBy wr (some p) ∧ Kept (M = Pe.sl l bnd (n - k) last acc at_ ∧ acc.length = k ∧ last ≤ bnd)) (fun _ _ i _ => n - (intOf i).toNat)
    case atStart => exact ⟨0, by omega, rfl, 0, a1, [], none, 0, rfl, rfl, World.ownsRow_nil _ _ _ _, R2.out, G2.out, ⟨HM.out, rfl, by omega⟩⟩
    case round =>
      clear HM R2 G2 RR2 CN
      obtain ⟨k, hk, rfl, last, at_, acc, A2, c2, rfl, rfl, ho, hr, hg, hd⟩ := hrel
      have O := Kept.mk ho
      have R := Kept.mk hr
      have G := Kept.mk hg
      have hzr := hg.size
      obtain ⟨q0, q1, q2⟩ := (HR.out.grown hg).cells
      have RQ := Kept.mk (HR.out.grown hg)
      by_cases hlt : k < n
      · have U := Kept.mk (uint_any p at_ 18446744073709551615 l 0 wr hr)
        have hle := Wr.uint_le l at_ Rc.mx 0
        have hze := Wr.uint_zero l at_ Rc.mx 0
        obtain ⟨hd1, hd2, hd3⟩ := hd.out
        rw [show n - k = (n - (k + 1)) + 1 by omega] at hd1
        have hBAD := fun x a1 e1 (h1 : Wr.uint l at_ 0 Rc.mx = (x, a1, e1)) (h2 : e1 ≠ 0) => hd1.trans (Pe.sl_bad (n - (k + 1)) h1 h2)
        have hNO := fun x a1 (h1 : Wr.uint l at_ 0 Rc.mx = (x, a1, 0)) h2 => hd1.trans (Pe.sl_no (n - (k + 1)) h1 h2)
        have hOK := fun x a1 (h1 : Wr.uint l at_ 0 Rc.mx = (x, a1, 0)) h2 => hd1.trans (Pe.sl_ok (n - (k + 1)) h1 h2)
        have hemp : acc.isEmpty = decide (k = 0) := by
          cases acc with
          | nil => simp at hd2; simp [← hd2]
          | cons a b => simp at hd2; simp [← hd2]
        clear ho hr hg hd hd1
        unfold Rc.mx at hBAD hNO hOK hle hze
        generalize Wr.uint l at_ 0 18446744073709551615 = X at *
        obtain ⟨x, a2, e2⟩ := X
        simp only [] at U hle hze
        obtain ⟨m, hm⟩ : ∃ m, m = bnd - last := ⟨_, rfl⟩
        have hwm : IntKind.u64.wrap ((bnd : Int) - (last : Int)) = (m : Int) := by simp [IntKind.wrap, IntKind.bits, IntKind.signed]; omega
        have hmb : m ≤ bnd := by omega
        by_cases he2 : e2 = 0
        · subst he2
          by_cases hxm : x < m
          · have hxm1 : (x : Int) < (m : Int) := by omega
            by_cases hz : k = 0 ∨ 0 < x
            · have ho : Pe.okD bnd last x acc.isEmpty = true := by
                unfold Pe.okD
                rw [hemp, decide_eq_true (show x < bnd - last by omega)]
                rcases hz with h | h
                · simp [h]
                · simp [h]
              obtain ⟨s, hs⟩ : ∃ s, s = last + x := ⟨_, rfl⟩
              have hM3 := hOK x a2 rfl ho
              rw [← hs] at hM3
              have HM3 : Kept (M = Pe.sl l bnd (n - (k + 1)) s (acc ++ [(s : Int)]) a2 ∧ (acc ++ [(s : Int)]).length = k + 1 ∧ s ≤ bnd) := ⟨hM3, by simp [hd2], by omega⟩
              have hws : IntKind.u64.wrap ((last : Int) + (x : Int)) = (s : Int) := by simp [IntKind.wrap, IntKind.bits, IntKind.signed]; omega
              have hwi : IntKind.i64.wrap (s : Int) = (s : Int) := by simp [IntKind.wrap, IntKind.bits, IntKind.signed]; omega
              have hsx : s < 9223372036854775808 := by omega
              clear hBAD hNO hOK ho hM3 hs hm hemp hd2 hd3 hmb hle
              by_cases hk0 : k = 0
              · subst hk0
                clear hz
                go_wp2_with (first
                  | (go_at_call 108; refine U.out.mono ?_; rintro r w4 ⟨rfl, hr, hg⟩; have R4 := Kept.mk hr; have G4 := Kept.mk (G.out.trans hg); have RR4 := Kept.mk (RQ.out.grown hg); have O4 := Kept.mk (own_past O.out hg hpl); obtain ⟨s0, s1, s2⟩ := (RQ.out.grown hg).cells; clear hr hg)
                  | (go_at_call 76; refine (check_ok q p a2 tn tc TA T l 0 22 _ RR4.out R4.out).mono ?_; rintro r w5 ⟨rfl, hw⟩; obtain rfl := hw.symm; clear hw)
                  | (at_builtin; refine wpList_appI rfl (.tmp 44) (.tmp 47) rfl w.heap.size A2 _ c2 _ rfl (World.ownsRow.alloc O4.out _) (w4.heap.size + 1) _ _ _ [(s : Int)] rfl (RdI.one w4 s) (by omega) (by simp; have := G4.out.size; omega) ?_; intro A6 c6 w6 hown6 hgrow6 hat6; have hb6 : Below w.heap.size w4 w6 := ((Below.refl _ _).alloc G4.out.size _).grown hgrow6 (by simp; have := G4.out.size; omega) (fun g hg => (own_lt O4.out g hg).1); have O6 := Kept.mk hown6; have B6 := Kept.mk hb6; clear hown6 hgrow6 hat6 hb6))
                go_roundw
                case rel => exact ⟨1, by omega, rfl, s, a2, _, A6, c6, rfl, rfl, O6.out, rdr_push R4.out B6.out hpl, grown_push G4.out B6.out, HM3⟩
                case measure => simp [intOf]; omega
              · have hk1 : ((k : Int) == 0) = false := by simpa using hk0
                have hx1 : 0 < x := by omega
                have hx2 : (0 : Int) < (x : Int) := by omega
                clear hz
                go_wp2_with (first
                  | (go_at_call 108; refine U.out.mono ?_; rintro r w4 ⟨rfl, hr, hg⟩; have R4 := Kept.mk hr; have G4 := Kept.mk (G.out.trans hg); have RR4 := Kept.mk (RQ.out.grown hg); have O4 := Kept.mk (own_past O.out hg hpl); obtain ⟨s0, s1, s2⟩ := (RQ.out.grown hg).cells; clear hr hg)
                  | (go_at_call 76; refine (check_ok q p a2 tn tc TA T l 0 22 _ RR4.out R4.out).mono ?_; rintro r w5 ⟨rfl, hw⟩; obtain rfl := hw.symm; clear hw)
                  | (at_builtin; refine wpList_appI rfl (.tmp 44) (.tmp 47) rfl w.heap.size A2 k c2 _ rfl (World.ownsRow.alloc O4.out _) (w4.heap.size + 1) _ _ _ [(s : Int)] rfl (RdI.one w4 s) (by omega) (by simp; have := G4.out.size; omega) ?_; intro A6 c6 w6 hown6 hgrow6 hat6; have hb6 : Below w.heap.size w4 w6 := ((Below.refl _ _).alloc G4.out.size _).grown hgrow6 (by simp; have := G4.out.size; omega) (fun g hg => (own_lt O4.out g hg).1); have O6 := Kept.mk hown6; have B6 := Kept.mk hb6; clear hown6 hgrow6 hat6 hb6))
                go_roundw
                case rel => exact ⟨k + 1, by omega, by go_num, s, a2, _, A6, c6, rfl, rfl, O6.out, rdr_push R4.out B6.out hpl, grown_push G4.out B6.out, HM3⟩
                case measure => simp [intOf]; omega
            · have hk0 : ¬ k = 0 := fun h => hz (.inl h)
              have hx0 : x = 0 := by omega
              subst hx0
              have ho : Pe.okD bnd last 0 acc.isEmpty = false := by
                unfold Pe.okD
                rw [hemp, decide_eq_false hk0]
                simp
              have HM2 := Kept.mk (hNO 0 a2 rfl ho)
              have hk1 : ((k : Int) == 0) = false := by simpa using hk0
              clear hBAD hNO hOK ho hm hemp hd2 hd3 hmb hle hz
              go_wp2_with (first
                | (go_at_call 108; refine U.out.mono ?_; rintro r w4 ⟨rfl, hr, hg⟩; have R4 := Kept.mk hr; have G4 := Kept.mk (G.out.trans hg); have RR4 := Kept.mk (RQ.out.grown hg); have O4 := Kept.mk (own_past O.out hg hpl); obtain ⟨s0, s1, s2⟩ := (RQ.out.grown hg).cells; clear hr hg)
                | (go_at_call 76; refine (check_no q p a2 tn tc TA T l 0 22 _ RR4.out R4.out (by decide)).mono ?_; rintro r w5 ⟨rfl, hr, hg⟩; rw [if_pos rfl] at hr; have R5 := Kept.mk hr; have G5 := Kept.mk (G4.out.trans hg); clear hr hg))
              go_ret
              refine ⟨none, 0, 0, rfl, ?_, ?_, G5.out⟩
              · rw [HM2.out]; exact World.ownsRow_nil _ _ _ _
              · rw [HM2.out]; exact R5.out
          · have hxm1 : ¬ (x : Int) < (m : Int) := by omega
            have ho : Pe.okD bnd last x acc.isEmpty = false := by
              unfold Pe.okD
              rw [decide_eq_false (show ¬ x < bnd - last by omega)]
              simp
            have HM2 := Kept.mk (hNO x a2 rfl ho)
            clear hBAD hNO hOK ho hm hemp hd2 hd3 hmb
            go_wp2_with (first
              | (go_at_call 108; refine U.out.mono ?_; rintro r w4 ⟨rfl, hr, hg⟩; have R4 := Kept.mk hr; have G4 := Kept.mk (G.out.trans hg); have RR4 := Kept.mk (RQ.out.grown hg); have O4 := Kept.mk (own_past O.out hg hpl); obtain ⟨s0, s1, s2⟩ := (RQ.out.grown hg).cells; clear hr hg)
              | (go_at_call 76; refine (check_no q p a2 tn tc TA T l 0 22 _ RR4.out R4.out (by decide)).mono ?_; rintro r w5 ⟨rfl, hr, hg⟩; rw [if_pos rfl] at hr; have R5 := Kept.mk hr; have G5 := Kept.mk (G4.out.trans hg); clear hr hg))
            go_ret
            refine ⟨none, 0, 0, rfl, ?_, ?_, G5.out⟩
            · rw [HM2.out]; exact World.ownsRow_nil _ _ _ _
            · rw [HM2.out]; exact R5.out
        · have HM2 := Kept.mk (hBAD x a2 e2 rfl he2)
          have hx0 : x = 0 := hze he2
          subst hx0
          have heb : (e2 == 0) = false := by simpa using he2
          clear hBAD hNO hOK hemp hd2 hd3
          by_cases hm0 : m = 0
          · subst hm0
            clear hm hmb
            go_wp2_with (first
              | (go_at_call 108; refine U.out.mono ?_; rintro r w4 ⟨rfl, hr, hg⟩; have R4 := Kept.mk hr; have G4 := Kept.mk (G.out.trans hg); have RR4 := Kept.mk (RQ.out.grown hg); have O4 := Kept.mk (own_past O.out hg hpl); obtain ⟨s0, s1, s2⟩ := (RQ.out.grown hg).cells; clear hr hg)
              | (go_at_call 76; refine (check_no q p a2 tn tc TA T l e2 22 _ RR4.out R4.out (by decide)).mono ?_; rintro r w5 ⟨rfl, hr, hg⟩; rw [if_neg he2] at hr; have R5 := Kept.mk hr; have G5 := Kept.mk (G4.out.trans hg); clear hr hg))
            go_ret
            refine ⟨none, 0, 0, rfl, ?_, ?_, G5.out⟩
            · rw [HM2.out]; exact World.ownsRow_nil _ _ _ _
            · rw [HM2.out]; exact R5.out
          · have hm1 : 0 < m := by omega
            have hm2 : (0 : Int) < (m : Int) := by omega
            by_cases hk0 : k = 0
            · subst hk0
              clear hm hmb
              go_wp2_with (first
                | (go_at_call 108; refine U.out.mono ?_; rintro r w4 ⟨rfl, hr, hg⟩; have R4 := Kept.mk hr; have G4 := Kept.mk (G.out.trans hg); have RR4 := Kept.mk (RQ.out.grown hg); have O4 := Kept.mk (own_past O.out hg hpl); obtain ⟨s0, s1, s2⟩ := (RQ.out.grown hg).cells; clear hr hg)
                | (go_at_call 76; refine (check_ok q p a2 tn tc TA T l e2 22 _ RR4.out R4.out).mono ?_; rintro r w5 ⟨rfl, hw⟩; obtain rfl := hw.symm; clear hw))
              go_ret
              refine ⟨none, 0, 0, rfl, ?_, ?_, G4.out⟩
              · rw [HM2.out]; exact World.ownsRow_nil _ _ _ _
              · rw [HM2.out]; exact R4.out
            · have hk1 : ((k : Int) == 0) = false := by simpa using hk0
              clear hm hmb
              go_wp2_with (first
                | (go_at_call 108; refine U.out.mono ?_; rintro r w4 ⟨rfl, hr, hg⟩; have R4 := Kept.mk hr; have G4 := Kept.mk (G.out.trans hg); have RR4 := Kept.mk (RQ.out.grown hg); have O4 := Kept.mk (own_past O.out hg hpl); obtain ⟨s0, s1, s2⟩ := (RQ.out.grown hg).cells; clear hr hg)
                | (go_at_call 76; refine (check_no q p a2 tn tc TA T l e2 22 _ RR4.out R4.out (by decide)).mono ?_; rintro r w5 ⟨rfl, hr, hg⟩; rw [if_neg he2] at hr; have R5 := Kept.mk hr; have G5 := Kept.mk (G4.out.trans hg); clear hr hg))
              go_ret
              refine ⟨none, 0, 0, rfl, ?_, ?_, G5.out⟩
              · rw [HM2.out]; exact World.ownsRow_nil _ _ _ _
              · rw [HM2.out]; exact R5.out
      · obtain rfl : k = n := by omega
        obtain ⟨hd1, hd2, hd3⟩ := hd.out
        rw [Nat.sub_self, Pe.sl_zero] at hd1
        have HM2 := Kept.mk hd1
        clear ho hr hg hd hd1 hd2 hd3
        go_wp2
        go_ret
        refine ⟨A2, k, c2, rfl, ?_, ?_, G.out⟩
        · rw [HM2.out]; exact O.out
        · rw [HM2.out]; exact R.out
end Go.Proofs.Ythhcfocmaiacoaa
