/- Chapter 15: the program's Decode. -/
import Derived.Test.YthhcfocmaiacoaaPostH
import Derived.Test.YthhcfocmaiacoaaPostX
import Derived.Test.YthhcfocmaiacoaaPostT
namespace Go.Proofs.Ythhcfocmaiacoaa
open Go.RowKit Go.Shelf Go.Sort

namespace Pe
def ordE (acc : List EntV) (x : Lab) : Bool := match acc.getLast? with | none => true | some e => Lb.plt e.1 x
/-- the error behind the label: in order? -/
def ordErr (acc : List EntV) (r : Lab × Nat × Int) : Int := if r.2.2 ≠ 0 then r.2.2 else if ordE acc r.1 = true then 0 else 16
def el (T : List ByteArray) (l : List UInt8) (bnd : Nat) : Nat → List EntV → Nat → List EntV × Nat × Int
  | 0, acc, a => (acc, a, 0)
  | k + 1, acc, a =>
    if ordErr acc (Rc.lab T l a 0) ≠ 0 then ([], (Rc.lab T l a 0).2.1, ordErr acc (Rc.lab T l a 0))
    else if (ser l bnd (Rc.lab T l a 0).2.1).2.2 ≠ 0 then ([], (ser l bnd (Rc.lab T l a 0).2.1).2)
    else el T l bnd k (acc ++ [((Rc.lab T l a 0).1, (ser l bnd (Rc.lab T l a 0).2.1).1)]) (ser l bnd (Rc.lab T l a 0).2.1).2.1
/-- what stands behind the last entry -/
def lst (T : List ByteArray) (l : List UInt8) (bnd : Nat) : List EntV × Nat × Int := if (Rc.cnt l 0 0).2.2 ≠ 0 then ([], (Rc.cnt l 0 0).2) else el T l bnd (Rc.cnt l 0 0).1 [] (Rc.cnt l 0 0).2.1
def dec (T : List ByteArray) (n : Int) (l : List UInt8) : List EntV × Int :=
  if n < 0 then ([], 2)
  else if Wr.fin l (lst T l n.toNat).2.1 (lst T l n.toNat).2.2 ≠ 0 then ([], Wr.fin l (lst T l n.toNat).2.1 (lst T l n.toNat).2.2)
  else ((lst T l n.toNat).1, 0)
theorem el_zero (T : List ByteArray) (l : List UInt8) (bnd : Nat) (acc : List EntV) (a : Nat) : el T l bnd 0 acc a = (acc, a, 0) := rfl
theorem el_ord {T : List ByteArray} {l : List UInt8} {bnd : Nat} {acc : List EntV} {a : Nat} {X : Lab × Nat × Int} (k : Nat) (h : Rc.lab T l a 0 = X) (he : ordErr acc X ≠ 0) : el T l bnd (k + 1) acc a = ([], X.2.1, ordErr acc X) := by
  rw [el, h, if_pos he]
theorem el_ser {T : List ByteArray} {l : List UInt8} {bnd : Nat} {acc : List EntV} {a : Nat} {X : Lab × Nat × Int} {Y : List Int × Nat × Int} (k : Nat) (h : Rc.lab T l a 0 = X) (he : ordErr acc X = 0) (h2 : ser l bnd X.2.1 = Y) (he2 : Y.2.2 ≠ 0) : el T l bnd (k + 1) acc a = ([], Y.2) := by
  rw [el, h, if_neg (by simp [he]), h2, if_pos he2]
theorem el_ok {T : List ByteArray} {l : List UInt8} {bnd : Nat} {acc : List EntV} {a : Nat} {X : Lab × Nat × Int} {Y : List Int × Nat × Int} (k : Nat) (h : Rc.lab T l a 0 = X) (he : ordErr acc X = 0) (h2 : ser l bnd X.2.1 = Y) (he2 : Y.2.2 = 0) : el T l bnd (k + 1) acc a = el T l bnd k (acc ++ [(X.1, Y.1)]) Y.2.1 := by
  rw [el, h, if_neg (by simp [he]), h2, if_neg (by simp [he2])]
theorem ordE_nil (x : Lab) : ordE [] x = true := rfl
theorem ordE_at {acc : List EntV} {x : Lab} {k : Nat} (h : k = acc.length) (hk : k - 1 < acc.length) : ordE acc x = decide (Lb.pc acc[k - 1].1 x < 0) := by
  subst h
  unfold ordE
  rw [List.getLast?_eq_getElem?, List.getElem?_eq_getElem hk]
  rfl
theorem fin_err (l : List UInt8) (a : Nat) {e : Int} (h : e ≠ 0) : Wr.fin l a e = e := by
  unfold Wr.fin
  simp [h]
end Pe
/-- what stands while entries are read -/
structure Dw (w W : World) (q p : Nat) (TA : Option Addr) (tn tc : Nat) (T : List ByteArray) (l : List UInt8) (A : Option Addr) (n c : Nat) (acc : List EntV) (a : Nat) (e : Int) : Prop where
  own : OwnEn 110 W (q + 1) A n c acc
  rd : Rdr W p l a e
  rp : RP W q p TA tn tc T l
  below : Below w.heap.size w W
  hp : w.heap.size ≤ p
/-- and the box of an entry -/
structure Db (w W : World) (q p : Nat) (TA : Option Addr) (tn tc : Nat) (T : List ByteArray) (l : List UInt8) (A : Option Addr) (n c : Nat) (acc : List EntV) (a : Nat) (e : Int) (G : Nat) (cs : Array Value) : Prop where
  dw : Dw w W q p TA tn tc T l A n c acc a e
  box : W.heap[G]? = some (.cells cs 110 (0, 0))
  apart : ab A ≠ some G
  hq : q < G
section
variable {w W W' : World} {q p tn tc n c a G : Nat} {TA A : Option Addr} {T : List ByteArray} {l : List UInt8} {acc : List EntV} {e : Int} {cs : Array Value}
theorem OwnEn.apartP {t : TypeId} {base g : Nat} {cs : Array Value} {T : TypeId} {fr : Nat × Nat} (h : OwnEn t W base A n c acc) (hg : W.heap[g]? = some (.cells cs T fr)) (ht : T ≠ t) : ab A ≠ some g := by
  obtain ⟨hs, _, h2, _⟩ := h
  intro e
  rcases h2.2 with ⟨hv, _⟩ | ⟨g', cap, cur, hv, _, hg', _⟩
  · injection hv with h1; rw [h1] at e; cases e
  · injection hv with h1
    rw [h1] at e
    have : g' = g := Option.some.inj e
    subst this
    rw [hg] at hg'
    injection hg' with h2
    injection h2 with _ h3
    exact ht h3
theorem own_pastT {base sz g : Nat} {xs : List Value} {e : TypeId} {cs : Array Value} {T : TypeId} {fr : Nat × Nat} (h : W.ownsRow base e sz (.slice A n c) n xs) (hg : W.heap[g]? = some (.cells cs T fr)) (ht : T ≠ e) (hgr : W.grownBy W' (some g)) : W'.ownsRow base e sz (.slice A n c) n xs := by
  refine own_grown h hgr (.inr fun e => ?_)
  rcases h.2 with ⟨hv, _⟩ | ⟨g', cap, cur, hv, _, hg', _⟩
  · injection hv with h1; rw [h1] at e; cases e
  · injection hv with h1
    rw [h1] at e
    have : g' = g := Option.some.inj e
    subst this
    rw [hg] at hg'
    injection hg' with h2
    injection h2 with _ h3
    exact ht h3
theorem OwnEn.pastT {t : TypeId} {base g : Nat} {cs : Array Value} {T : TypeId} {fr : Nat × Nat} (h : OwnEn t W base A n c acc) (hg : W.heap[g]? = some (.cells cs T fr)) (ht : T ≠ t) (hi : T ≠ 3) (hgr : W.grownBy W' (some g)) : OwnEn t W' base A n c acc := by
  obtain ⟨hs, h1, h2, h3⟩ := h
  refine ⟨hs, h1, own_pastT h2 hg ht hgr, fun i h4 h5 => ?_⟩
  obtain ⟨A1, n1, c1, e, o⟩ := h3 i h4 h5
  exact ⟨A1, n1, c1, e, own_pastT o hg hi hgr⟩
theorem own_set1 {base sz g k : Nat} {v : Value} {xs : List Value} {e t : TypeId} {cs : Array Value} (h : W.ownsRow base e sz (.slice A n c) n xs) (hA : ab A ≠ some g) (_ : W.heap[g]? = some (.cells cs t (0, 0))) : (W.setCell ⟨g, k, none⟩ v).ownsRow base e sz (.slice A n c) n xs := by
  refine ⟨h.1, h.2.imp id fun ⟨b, cap, cur, h1, h2, h3, h4⟩ => ⟨b, cap, cur, h1, h2, ?_, h4⟩⟩
  have hbg : b ≠ g := fun e1 => by
    injection h1 with h1
    exact hA (by rw [h1, ← e1]; rfl)
  rw [Below.heap_setCell _ _ _ _ (by exact hbg)]
  exact h3
theorem own_apartT {base sz g : Nat} {xs : List Value} {e : TypeId} {cs : Array Value} {T : TypeId} {fr : Nat × Nat} (h : W.ownsRow base e sz (.slice A n c) n xs) (hg : W.heap[g]? = some (.cells cs T fr)) (ht : T ≠ e) : ab A ≠ some g := by
  intro e
  rcases h.2 with ⟨hv, _⟩ | ⟨g', cap, cur, hv, _, hg', _⟩
  · injection hv with h1; rw [h1] at e; cases e
  · injection hv with h1
    rw [h1] at e
    have : g' = g := Option.some.inj e
    subst this
    rw [hg] at hg'
    injection hg' with h2
    injection h2 with _ h3
    exact ht h3
theorem OwnEn.set1 {t : TypeId} {base g k : Nat} {v : Value} {cs : Array Value} {T : TypeId} (h : OwnEn t W base A n c acc) (hA : ab A ≠ some g) (hg : W.heap[g]? = some (.cells cs T (0, 0))) (hi : T ≠ 3) : OwnEn t (W.setCell ⟨g, k, none⟩ v) base A n c acc := by
  obtain ⟨hs, h1, h2, h3⟩ := h
  refine ⟨hs, h1, own_set1 h2 hA hg, fun i h4 h5 => ?_⟩
  obtain ⟨A1, n1, c1, e, o⟩ := h3 i h4 h5
  exact ⟨A1, n1, c1, e, own_set1 o (own_apartT o hg hi) hg⟩
theorem Dw.step (h : Dw w W q p TA tn tc T l A n c acc a e) {a' : Nat} {e' : Int} (hr : Rdr W' p l a' e') (hg : W.grownBy W' (some p)) : Dw w W' q p TA tn tc T l A n c acc a' e' := by
  obtain ⟨Ar, nr, cr, hb, _⟩ := h.rd
  exact ⟨h.own.pastT hb (by decide) (by decide) hg, hr, h.rp.grown hg, h.below.grown hg h.below.size (fun g e => by have := Option.some.inj e; have := h.hp; omega), h.hp⟩
theorem Dw.on (h : Dw w W q p TA tn tc T l A n c acc a e) (hb : Below W.heap.size W W') : Dw w W' q p TA tn tc T l A n c acc a e :=
  ⟨h.own.keep hb, h.rd.below hb h.rd.lt, h.rp.grown (grown_of_below hb), h.below.trans (hb.mono h.below.size), h.hp⟩
theorem Db.step (h : Db w W q p TA tn tc T l A n c acc a e G cs) {a' : Nat} {e' : Int} (hr : Rdr W' p l a' e') (hg : W.grownBy W' (some p)) : Db w W' q p TA tn tc T l A n c acc a' e' G cs :=
  ⟨h.dw.step hr hg, (hg.block G (Array.getElem?_eq_some_iff.1 h.box).1 (fun e => by have := Option.some.inj e; have := h.hq; have := h.dw.rp.2.1; omega)).trans h.box, h.apart, h.hq⟩
theorem Db.on (h : Db w W q p TA tn tc T l A n c acc a e G cs) (hb : Below W.heap.size W W') : Db w W' q p TA tn tc T l A n c acc a e G cs :=
  ⟨h.dw.on hb, (hb.block G (Array.getElem?_eq_some_iff.1 h.box).1).trans h.box, h.apart, h.hq⟩
theorem Db.set (h : Db w W q p TA tn tc T l A n c acc a e G cs) (k : Nat) (v : Value) : Db w (W.setCell ⟨G, k, none⟩ v) q p TA tn tc T l A n c acc a e G (cs.setIfInBounds k v) := by
  have hq := h.hq
  have hpq := h.dw.rp.2.1
  have hp := h.dw.hp
  have hg : W.grownBy (W.setCell ⟨G, k, none⟩ v) (some G) := by
    have hb : Below G W (W.setCell ⟨G, k, none⟩ v) := (Below.refl _ W).setCell (p := ⟨G, k, none⟩) (Nat.le_refl _) _
    exact ⟨hb.os, hb.tape, hb.output, hb.size, fun i _ hi => Below.heap_setCell _ _ _ _ (by exact fun e => hi (by rw [e]))⟩
  have hb : Below G W (W.setCell ⟨G, k, none⟩ v) := (Below.refl _ W).setCell (p := ⟨G, k, none⟩) (Nat.le_refl _) _
  refine ⟨⟨h.dw.own.set1 h.apart h.box (by decide), h.dw.rd.below hb (by omega), ?_, h.dw.below.setCell (p := ⟨G, k, none⟩) (by show _ ≤ G; omega) _, hp⟩, heap_setCell_same W G k _ _ _ h.box, h.apart, hq⟩
  obtain ⟨r1, r2, r3⟩ := h.dw.rp
  exact ⟨(hb.block q hq).trans r1, r2, Rd.below r3 (hb.mono (by omega))⟩
theorem Db.cells (h : Db w W q p TA tn tc T l A n c acc a e G cs) (k : Nat) : W.cell? ⟨G, k, none⟩ = cs[k]? ∧ W.frozen? ⟨G, k, none⟩ = false := ⟨cell_of_row _ _ _ _ _ _ h.box, frozen_of_row _ _ _ _ _ h.box⟩
theorem Dw.box (h : Dw w W q p TA tn tc T l A n c acc a e) (cs : Array Value) : Db w (W.alloc (.cells cs 110)) q p TA tn tc T l A n c acc a e W.heap.size cs :=
  ⟨h.on ((Below.refl _ _).alloc (Nat.le_refl _) _), heap_alloc_new W _, fun e => by
    obtain ⟨hs, _, h2, _⟩ := h.own
    have := (own_lt h2 _ e).2
    omega, h.rp.lt⟩
end
set_option maxRecDepth 100000 in
set_option maxHeartbeats 16000000 in
theorem decodeP_any (TA A : Option Addr) (tn tc n c : Nat) (bn : Int) (T : List ByteArray) (l : List UInt8) (w : World) (hT : RdS w w.heap.size TA tn tc T) (hv : RdB w w.heap.size A n c l) (hl : n ≤ 20000000) (hbn : bn < 9223372036854775808) :
    Calls Try.prog 38 #[.slice TA tn tc, .int .i64 bn, .slice A n c] w fun r w' => ∃ A2 n2 c2, r = .returned (.tuple #[.slice A2 n2 c2, .int .i64 (Pe.dec T bn l).2]) ∧ RdEn w' w'.heap.size A2 n2 c2 (Pe.dec T bn l).1 ∧ Below w.heap.size w w' := by
  have hlc := hv.1
  have hcm := hv.2.1
  unfold maxLen at hcm
  have HN := Kept.mk hv.len
  have V := Kept.mk hv
  have VT := Kept.mk hT
  clear hv hT
  rcases Int.lt_or_le bn 0 with hneg | hpos
  · have hM : Pe.dec T bn l = ([], 2) := by unfold Pe.dec; rw [if_pos hneg]
    rw [hM]
    clear hM
    go_enter Try.func38, Try.ntmps38
    go_wp2
    go_ret2
    exact ⟨none, 0, 0, rfl, RdEn.nil _ _, Below.refl _ _⟩
  · obtain ⟨bnd, rfl⟩ := Int.eq_ofNat_of_zero_le hpos
    have hge : ¬ (bnd : Int) < 0 := by omega
    have hbd : bnd < 9223372036854775808 := by omega
    obtain ⟨X, hX⟩ : ∃ X, X = Pe.lst T l bnd := ⟨_, rfl⟩
    obtain ⟨M, hM⟩ : ∃ M, M = Pe.dec T (bnd : Int) l := ⟨_, rfl⟩
    rw [← hM]
    unfold Pe.dec at hM
    rw [if_neg (by omega), Int.toNat_natCast, ← hX] at hM
    have HX := Kept.mk hX
    have HM := Kept.mk hM
    have hwb : IntKind.u64.wrap (bnd : Int) = (bnd : Int) := wrap_u64 _ (by omega) (by omega)
    have HBD := Kept.mk hbd
    have HL9 := Kept.mk hl
    clear hX hM hbd hbn hl
    go_enter Try.func38, Try.ntmps38
    go_upto_region 4 with (go_at_call 60; refine (newReader_any A n c w.heap.size l w V.out (Nat.le_refl _) (by have := HL9.out; omega)).mono ?_; rintro r w1 ⟨p, rfl, hp1, hp2, hr1, hb1⟩; have R1 := Kept.mk hr1; have B1 := Kept.mk hb1; clear hr1 hb1)
    have D0 : Kept (Dw w (w1.alloc (.cells #[.pointer (some ⟨p, 0, none⟩), .slice TA tn tc, .int .i64 (n : Int)] 120)) w1.heap.size p TA tn tc T l none 0 0 [] 0 0) :=
      ⟨⟨OwnEn.nil _ _, R1.out.box _, ⟨by rw [← HN.out]; exact heap_alloc_new w1 _, hp2, Rd.alloc (Rd.more (Rd.below VT.out B1.out) hp1) (by omega) _⟩, B1.out.alloc (by have := B1.out.size; omega) _, hp1⟩⟩
    clear R1 B1
    generalize w1.alloc (.cells #[.pointer (some ⟨p, 0, none⟩), .slice TA tn tc, .int .i64 (n : Int)] 120) = w2 at *
    generalize w1.heap.size = q at *
    have mixed : Try.prog.follows .mixedOrders = true := by kernel_rfl
    have CN := Kept.mk (pcount_any q p 0 tn tc TA T l 0 w2 D0.out.rp D0.out.rd)
    have hcl := Rc.cnt_le l 0 0 (Nat.zero_le _)
    have hcz := Pe.cnt_z l 0 0
    have hX2 := HX.out
    unfold Pe.lst at hX2
    generalize Rc.cnt l 0 0 = CT at *
    obtain ⟨m, a0, e0⟩ := CT
    simp only [] at CN hcl hcz hX2
    by_cases he0 : e0 = 0
    · subst he0
      rw [if_neg (by simp)] at hX2
      have HX2 := Kept.mk hX2
      have HM9 : Kept (m ≤ 20000000) := ⟨by have := HN.out; have := HL9.out; omega⟩
      have hmI : (m : Int) ≤ 20000000 := by have := HM9.out; omega
      clear hX2 hcz HX hcl
      go_upto_region 6 with (go_at_call 74; refine CN.out.mono ?_; rintro r w3 ⟨rfl, hr, hg⟩; have D3 := Kept.mk (D0.out.step hr hg); clear hr hg)
      go_loopw [9, 24] (fun o i wr => ∃ k : Nat, k ≤ m ∧ i = .int .i64 k ∧ ∃ (A2 : Option Addr) (c2 : Nat) (acc : List EntV) (at_ : Nat), o = .slice A2 k c2 ∧ Dw w wr q p TA tn tc T l A2 k c2 acc at_ 0 ∧ Kept (X = Pe.el T l bnd (m - k) acc at_ ∧ acc.length = k)) (fun _ i _ => m - (intOf i).toNat)
      case atStart => exact ⟨0, by omega, rfl, none, 0, [], a0, rfl, D3.out, ⟨HX2.out, rfl⟩⟩
      case round =>
        clear HX2 D3 CN D0
        obtain ⟨k, hk, rfl, A2, c2, acc, at_, rfl, hD, hd⟩ := hrel
        have D := Kept.mk hD
        have hzr := hD.below.size
        clear hD
        by_cases hlt : k < m
        · obtain ⟨hd1, hd2⟩ := hd.out
          rw [show m - k = (m - (k + 1)) + 1 by omega] at hd1
          have hORD := fun X1 h1 h2 => hd1.trans (Pe.el_ord (X := X1) (m - (k + 1)) h1 h2)
          have hSER := fun X1 Y1 h1 h2 h3 h4 => hd1.trans (Pe.el_ser (X := X1) (Y := Y1) (m - (k + 1)) h1 h2 h3 h4)
          have hOK := fun X1 Y1 h1 h2 h3 h4 => hd1.trans (Pe.el_ok (X := X1) (Y := Y1) (m - (k + 1)) h1 h2 h3 h4)
          have hLB : Rc.lab T l at_ 0 = (⟨(Rc.sym T l at_ 0).1, (Rc.sym T l (Rc.sym T l at_ 0).2.1 (Rc.sym T l at_ 0).2.2).1⟩, (Rc.sym T l (Rc.sym T l at_ 0).2.1 (Rc.sym T l at_ 0).2.2).2) := rfl
          have S1 := Kept.mk (fun W (d1 : RP W q p TA tn tc T l) (d2 : Rdr W p l at_ 0) => psymbol_any q p at_ tn tc TA T l 0 W d1 d2)
          generalize Rc.sym T l at_ 0 = Y1 at *
          obtain ⟨s1, a1, e1⟩ := Y1
          simp only [] at S1 hLB
          have S2 := Kept.mk (fun W (d1 : RP W q p TA tn tc T l) (d2 : Rdr W p l a1 e1) => psymbol_any q p a1 tn tc TA T l e1 W d1 d2)
          generalize Rc.sym T l a1 e1 = Y2 at *
          obtain ⟨s2, a2, e2⟩ := Y2
          simp only [] at S2 hLB
          have HORD := Kept.mk (hORD _ hLB)
          have HSER := Kept.mk (fun Y1 => hSER _ Y1 hLB)
          have HOK := Kept.mk (fun Y1 => hOK _ Y1 hLB)
          have HL := Kept.mk hd2
          simp only [] at HORD HSER HOK
          clear hORD hSER hOK hLB hd hd1 hd2
          go_upto_region 9 with (fail)
          have D1 := Kept.mk (D.out.box #[.string ⟨#[]⟩, .string ⟨#[]⟩, .slice none 0 0])
          have hzg : w.heap.size ≤ wr.heap.size := hzr
          clear D
          generalize wr.alloc (Obj.cells #[.string ⟨#[]⟩, .string ⟨#[]⟩, .slice none 0 0] 110) = w4 at *
          generalize wr.heap.size = G at *
          go_upto_region 10 with (go_at_call 75; refine (S1.out w4 D1.out.dw.rp D1.out.dw.rd).mono ?_; rintro r w5 ⟨rfl, hr, hg⟩; have D2 := Kept.mk (D1.out.step hr hg); obtain ⟨y0, f0⟩ := D2.out.cells 0; clear hr hg D1)
          have D3 := Kept.mk (D2.out.set 0 (.string s1))
          clear D2 y0 f0
          generalize w5.setCell ⟨G, 0, none⟩ (.string s1) = w6 at *
          go_upto_region 11 with (go_at_call 75; refine (S2.out w6 D3.out.dw.rp D3.out.dw.rd).mono ?_; rintro r w7 ⟨rfl, hr, hg⟩; have D4 := Kept.mk (D3.out.step hr hg); obtain ⟨y1, f1⟩ := D4.out.cells 1; clear hr hg D3)
          have D5 := Kept.mk (D4.out.set 1 (.string s2))
          clear D4 y1 f1
          generalize w7.setCell ⟨G, 1, none⟩ (.string s2) = w8 at *
          have D5 : Kept (Db w w8 q p TA tn tc T l A2 k c2 acc a2 e2 G #[.string s1, .string s2, .slice none 0 0]) := D5
          obtain ⟨e3, he3⟩ : ∃ e3, e3 = Pe.ordErr acc (⟨s1, s2⟩, a2, e2) := ⟨_, rfl⟩
          have HE3 := Kept.mk he3
          rw [← he3] at HORD HSER HOK
          unfold Pe.ordErr at he3
          simp only [] at he3
          have PC := Kept.mk (fun (z : Lab) W => pcompare_any z ⟨s1, s2⟩ W)
          unfold lbv at PC
          simp only [] at PC
          go_cut [51] (fun t W => t = .bool (!(e3 == 0)) ∧ Db w W q p TA tn tc T l A2 k c2 acc a2 e3 G #[.string s1, .string s2, .slice none 0 0])
          case first =>
            by_cases hk0 : k = 0
            · have hacc : acc = [] := List.eq_nil_of_length_eq_zero (by rw [HL.out, hk0])
              subst hacc
              subst hk0
              have he4 : e3 = e2 := by
                rw [he3]
                by_cases h : e2 = 0
                · simp [h, Pe.ordE_nil]
                · simp [h]
              subst he4
              have CK := Kept.mk (fun W (h : Db w W q p TA tn tc T l A2 0 c2 [] a2 e3 G #[.string s1, .string s2, .slice none 0 0]) => check_ok q p a2 tn tc TA T l e3 16 W h.dw.rp h.dw.rd)
              have DN : Kept (∀ nq, Db w (w8.drewN nq) q p TA tn tc T l A2 0 c2 [] a2 e3 G #[.string s1, .string s2, .slice none 0 0]) := ⟨fun nq => D5.out.on (below_drewN (Below.refl _ _) nq)⟩
              clear he3
              go_quiet (first | (go_at_call 76; exact (CK.out _ (DN.out _)).mono fun _ _ h => ⟨h.1, _, h.2⟩))
              go_wp2_with fail
              go_meet
              exact ⟨rfl, DN.out _⟩
            · have hk1 : k - 1 < acc.length := by rw [HL.out]; omega
              obtain ⟨b, off, A5, n5, c5, hA2, hbB, -, hcc⟩ := D5.out.dw.own.rd.cells (Nat.le_refl _) hk1
              subst hA2
              rw [Pe.ordE_at (x := ⟨s1, s2⟩) (k := k) HL.out.symm hk1] at he3
              generalize acc[k - 1] = pe at *
              obtain ⟨y, sy⟩ := pe
              simp only [] at he3 hcc
              have hGs := (Array.getElem?_eq_some_iff.1 D5.out.box).1
              have ek : (k : Int) - 1 = ((k - 1 : Nat) : Int) := by omega
              have ek2 : ((k - 1 : Nat) : Int) < (k : Int) := by omega
              have ew : IntKind.i64.wrap ((k - 1 : Nat) : Int) = ((k - 1 : Nat) : Int) := by rw [IntKind.wrap_i64]; have := HM9.out; omega
              have hk2 : ((k : Int) == 0) = false := by simpa using hk0
              have PC1 := fun W => PC.out y W
              rcases Int.lt_or_le (Lb.pc y ⟨s1, s2⟩) 0 with hq | hq
              · have he4 : e3 = e2 := by
                  rw [he3, decide_eq_true hq]
                  by_cases h : e2 = 0
                  · simp [h]
                  · simp [h]
                subst he4
                have c0 := cell_grown (w := w8) (show (⟨b, off + (k - 1) * 3, none⟩ : Addr).block < w8.heap.size by show b < _; omega) (hcc w8 (Below.refl _ _)).1
                have c1 := cell_grown (w := w8) (show (⟨b, off + (k - 1) * 3 + 1, none⟩ : Addr).block < w8.heap.size by show b < _; omega) (hcc w8 (Below.refl _ _)).2.1
                have d0 := cell_grown (w := w8) (a := ⟨G, 0, none⟩) (v := .string s1) (by show G < _; exact hGs) (D5.out.cells 0).1
                have d1 := cell_grown (w := w8) (a := ⟨G, 1, none⟩) (v := .string s2) (by show G < _; exact hGs) (D5.out.cells 1).1
                have CK := Kept.mk (fun W (h : Db w W q p TA tn tc T l (some ⟨b, off, none⟩) k c2 acc a2 e3 G #[.string s1, .string s2, .slice none 0 0]) => check_ok q p a2 tn tc TA T l e3 16 W h.dw.rp h.dw.rd)
                have DN : Kept (∀ W, Gr w8 W → Db w W q p TA tn tc T l (some ⟨b, off, none⟩) k c2 acc a2 e3 G #[.string s1, .string s2, .slice none 0 0]) := ⟨fun W g => D5.out.on g.below⟩
                clear he3 hcc
                generalize Lb.pc y ⟨s1, s2⟩ = pq at *
                go_quiet_grown (first
                  | (go_at_call 72; refine Calls.grown_of (PC1 _))
                  | (go_at_call 76; refine Calls.grown_of ((CK.out _ (DN.out _ ⟨_, _, rfl⟩)).mono fun _ _ h => ⟨h.1, by rw [h.2]; exact Gr.refl _⟩)))
                go_wp2_with fail
                go_meet
                exact ⟨rfl, DN.out _ ⟨_, _, rfl⟩⟩
              · have he4 : (if e2 = 0 then (16 : Int) else e2) = e3 := by
                  rw [he3, decide_eq_false (show ¬ Lb.pc y ⟨s1, s2⟩ < 0 by omega)]
                  by_cases h : e2 = 0
                  · simp [h]
                  · simp [h]
                have hb3 : (e3 == 0) = false := by
                  rw [← he4]
                  by_cases h : e2 = 0
                  · simp [h]
                  · simp [h]
                have hq1 : ¬ Lb.pc y ⟨s1, s2⟩ < 0 := by omega
                have HE4 := Kept.mk he4
                have HCC := Kept.mk hcc
                have HBP : Kept (b ≠ p) := ⟨fun e => by
                  obtain ⟨Ar, nr, cr, hbx, _⟩ := D5.out.dw.rd
                  exact D5.out.dw.own.apartP hbx (by decide) (by rw [← e]; rfl)⟩
                obtain ⟨c0, c1, -⟩ := hcc w8 (Below.refl _ _)
                have d0 : w8.cell? ⟨G, 0, none⟩ = some (.string s1) := (D5.out.cells 0).1
                have d1 : w8.cell? ⟨G, 1, none⟩ = some (.string s2) := (D5.out.cells 1).1
                clear he3 he4 hcc
                generalize Lb.pc y ⟨s1, s2⟩ = pq at *
                go_region_held3 (fun w' => w'.cell? ⟨b, off + (k - 1) * 3, none⟩ = some (.string y.n) ∧ w'.cell? ⟨b, off + (k - 1) * 3 + 1, none⟩ = some (.string y.v) ∧ w'.cell? ⟨G, 0, none⟩ = some (.string s1) ∧ w'.cell? ⟨G, 1, none⟩ = some (.string s2)) (first | exact ⟨c0, c1, d0, d1⟩ | exact k8 | exact k9)
                  (first
                  | (go_at_call 72; refine (PC1 _).mono ?_; rintro r w9 ⟨rfl, hg⟩; have hb9 : Below w8.heap.size w8 w9 := (by first | exact hg.below | exact below_drew_of hg.below); have D9 := Kept.mk (D5.out.on hb9); have k8 : w9.cell? ⟨b, off + (k - 1) * 3, none⟩ = some (.string y.n) ∧ w9.cell? ⟨b, off + (k - 1) * 3 + 1, none⟩ = some (.string y.v) ∧ w9.cell? ⟨G, 0, none⟩ = some (.string s1) ∧ w9.cell? ⟨G, 1, none⟩ = some (.string s2) := ⟨(HCC.out w9 hb9).1, (HCC.out w9 hb9).2.1, (D9.out.cells 0).1, (D9.out.cells 1).1⟩; have hz9 : b < w9.heap.size := Nat.lt_of_lt_of_le hbB hb9.size; clear hg hb9)
                  | (go_at_call 76; refine (check_any q p a2 tn tc TA T l _ e2 16 _ D9.out.dw.rp D9.out.dw.rd (by decide)).mono ?_; rintro r w10 ⟨e9, rfl, hT, hF, hr, hg⟩; have he9 : e9 = e3 := (hF (by simp [hq1])).trans HE4.out; subst he9; have D10 := Kept.mk (D9.out.step hr hg); have hbk : w10.heap[b]? = w9.heap[b]? := hg.block b hz9 (fun e => HBP.out (Option.some.inj e)); have k9 : w10.cell? ⟨b, off + (k - 1) * 3, none⟩ = some (.string y.n) ∧ w10.cell? ⟨b, off + (k - 1) * 3 + 1, none⟩ = some (.string y.v) ∧ w10.cell? ⟨G, 0, none⟩ = some (.string s1) ∧ w10.cell? ⟨G, 1, none⟩ = some (.string s2) := ⟨(World.cell?_of_block (a := ⟨b, off + (k - 1) * 3, none⟩) hbk).trans k8.1, (World.cell?_of_block (a := ⟨b, off + (k - 1) * 3 + 1, none⟩) hbk).trans k8.2.1, (D10.out.cells 0).1, (D10.out.cells 1).1⟩; clear hr hg hT hF hbk))
                go_wp2_with fail
                go_meet
                exact ⟨by rw [hb3]; rfl, D10.out⟩
          case rest =>
            obtain ⟨rfl, hD6⟩ := hcut
            have D6 := Kept.mk hD6
            clear D5 hD6 he3
            have hqs := D6.out.dw.rp.lt
            by_cases h3 : e3 = 0
            · subst h3
              obtain ⟨Y, hY⟩ : ∃ Y, Pe.ser l bnd a2 = Y := ⟨_, rfl⟩
              have SR := Kept.mk (pseries_any q p a2 tn tc bnd TA T l wc D6.out.dw.rp D6.out.dw.rd HBD.out (by rw [← HN.out]; exact HL9.out))
              have HSER2 := Kept.mk (HSER.out Y rfl hY)
              have HOK2 := Kept.mk (HOK.out Y rfl hY)
              rw [hY] at SR
              clear hY
              obtain ⟨sr, a4, e4⟩ := Y
              simp only [] at SR HSER2 HOK2
              go_upto_region 13 with (go_at_call 77; refine SR.out.mono ?_; rintro r w11 ⟨A8, n8, c8, rfl, ho, hr, hg⟩; have O8 := Kept.mk (show OwnI w11 0 A8 n8 c8 sr from own_rebase ho (Nat.zero_le _)); have D7 := Kept.mk (D6.out.step hr hg); obtain ⟨y2, f2⟩ := D7.out.cells 2; clear ho hr hg SR)
              have D8 := Kept.mk (D7.out.set 2 (.slice A8 n8 c8))
              have O9 := Kept.mk (show OwnI (w11.setCell ⟨G, 2, none⟩ (.slice A8 n8 c8)) 0 A8 n8 c8 sr from own_set1 O8.out (own_apartT O8.out D7.out.box (by decide)) D7.out.box)
              clear D6 D7 y2 f2 O8
              generalize w11.setCell ⟨G, 2, none⟩ (.slice A8 n8 c8) = w12 at *
              have D8 : Kept (Db w w12 q p TA tn tc T l A2 k c2 acc a4 e4 G #[.string s1, .string s2, .slice A8 n8 c8]) := D8
              have hqs2 := D8.out.dw.rp.lt
              have hpq := D8.out.dw.rp.2.1
              have hwp := D8.out.dw.hp
              obtain ⟨q0, q1, q2⟩ := D8.out.dw.rp.cells
              have z0 : w12.cell? ⟨G, 0, none⟩ = some (.string s1) := (D8.out.cells 0).1
              have z1 : w12.cell? ⟨G, 1, none⟩ = some (.string s2) := (D8.out.cells 1).1
              have z2 : w12.cell? ⟨G, 2, none⟩ = some (.slice A8 n8 c8) := (D8.out.cells 2).1
              by_cases h4 : e4 = 0
              · subst h4
                have HX3 := Kept.mk (HOK2.out rfl)
                have HOW := Kept.mk D8.out.dw.own
                go_wp2_with (first
                  | (at_builtin; refine wpList_appEP (y := ⟨s1, s2⟩) (s := sr) rfl (.tmp 63) (.tmp 65) rfl (q + 1) A2 k c2 acc rfl HOW.out _ rfl rfl O9.out (by have := HM9.out; omega) (by omega) ?_; intro A9 c9 w13 ho9 hb9; have O10 := Kept.mk ho9; have B10 := Kept.mk hb9; clear ho9 hb9)
                  | (go_at_call 62; refine (err_any p a4 l 0 _ D8.out.dw.rd).mono ?_; rintro r wE ⟨rfl, hwE⟩; obtain rfl := hwE))
                go_roundw
                case rel =>
                  refine ⟨k + 1, by omega, by go_num, A9, c9, _, a4, rfl, ⟨O10.out, D8.out.dw.rd.below B10.out (by omega), ⟨(B10.out.block q (by omega)).trans D8.out.dw.rp.1, hpq, Rd.below D8.out.dw.rp.2.2 (B10.out.mono (by omega))⟩, D8.out.dw.below.trans (B10.out.mono (by omega)), hwp⟩, ⟨HX3.out, by simp [HL.out]⟩⟩
                case measure => simp [intOf]; omega
              · have h4b : (e4 == 0) = false := by simpa using h4
                have HX3 := Kept.mk (HSER2.out h4)
                obtain ⟨F, hF⟩ : ∃ F, Wr.fin l a4 e4 = F := ⟨_, rfl⟩
                have hFe : F = e4 := by rw [← hF]; exact Pe.fin_err l a4 h4
                have hFn : (F == 0) = false := by rw [hFe]; exact h4b
                have HM2 : Kept (M = ([], F)) := ⟨by
                  have := HM.out
                  rw [HX3.out] at this
                  simp only [] at this
                  rw [hF, if_pos (by rw [hFe]; exact h4)] at this
                  exact this⟩
                have HF := Kept.mk hF
                have D9 := Kept.mk D8.out.dw
                clear hF hFe
                go_wp2_with (first
                  | (go_at_call 62; refine (err_any p a4 l e4 _ D9.out.rd).mono ?_; rintro r wE ⟨rfl, hwE⟩; obtain rfl := hwE)
                  | (go_at_call 64; refine (end_any p a4 l e4 _ D9.out.rd).mono ?_; rintro r wE ⟨hrE, hwE⟩; rw [HF.out] at hrE; subst hrE; obtain rfl := hwE))
                go_ret2
                refine ⟨none, 0, 0, ?_, ?_, D9.out.below⟩
                · rw [HM2.out]; rfl
                · rw [HM2.out]; exact RdEn.nil _ _
            · have h3b : (e3 == 0) = false := by simpa using h3
              have HX3 := Kept.mk (HORD.out h3)
              obtain ⟨F, hF⟩ : ∃ F, Wr.fin l a2 e3 = F := ⟨_, rfl⟩
              have hFe : F = e3 := by rw [← hF]; exact Pe.fin_err l a2 h3
              have hFn : (F == 0) = false := by rw [hFe]; exact h3b
              have HM2 : Kept (M = ([], F)) := ⟨by
                have := HM.out
                rw [HX3.out] at this
                simp only [] at this
                rw [hF, if_pos (by rw [hFe]; exact h3)] at this
                exact this⟩
              have HF := Kept.mk hF
              have D9 := Kept.mk D6.out.dw
              obtain ⟨q0, q1, q2⟩ := D9.out.rp.cells
              clear hF hFe
              rw [show (!(e3 == 0)) = true by rw [h3b]; rfl]
              go_wp2_with (go_at_call 64; refine (end_any p a2 l e3 _ D9.out.rd).mono ?_; rintro r wE ⟨hrE, hwE⟩; rw [HF.out] at hrE; subst hrE; obtain rfl := hwE)
              go_ret2
              refine ⟨none, 0, 0, ?_, ?_, D9.out.below⟩
              · rw [HM2.out]; rfl
              · rw [HM2.out]; exact RdEn.nil _ _
        · obtain rfl : k = m := by omega
          obtain ⟨hd1, hd2⟩ := hd.out
          rw [Nat.sub_self, Pe.el_zero] at hd1
          obtain ⟨F, hF⟩ : ∃ F, Wr.fin l at_ 0 = F := ⟨_, rfl⟩
          have HF := Kept.mk hF
          have HM1 := HM.out
          rw [hd1] at HM1
          simp only [] at HM1
          rw [hF] at HM1
          clear hd hd1 hd2 hF
          by_cases hf : F = 0
          · subst hf
            have HM2 : Kept (M = (acc, 0)) := ⟨by rw [HM1]; simp⟩
            clear HM1
            obtain ⟨q0, q1, q2⟩ := D.out.rp.cells
            go_wp2_with (go_at_call 64; refine (end_any p at_ l 0 _ D.out.rd).mono ?_; rintro r wE ⟨hrE, rfl⟩; rw [HF.out] at hrE; subst hrE)
            go_ret2
            refine ⟨A2, k, c2, ?_, ?_, D.out.below⟩
            · rw [HM2.out]; rfl
            · rw [HM2.out]; exact D.out.own.rd
          · have hfb : (F == 0) = false := by simpa using hf
            have HM2 : Kept (M = ([], F)) := ⟨by rw [HM1, if_pos hf]⟩
            clear HM1
            obtain ⟨q0, q1, q2⟩ := D.out.rp.cells
            go_wp2_with (go_at_call 64; refine (end_any p at_ l 0 _ D.out.rd).mono ?_; rintro r wE ⟨hrE, rfl⟩; rw [HF.out] at hrE; subst hrE)
            go_ret2
            refine ⟨none, 0, 0, ?_, ?_, D.out.below⟩
            · rw [HM2.out]; rfl
            · rw [HM2.out]; exact RdEn.nil _ _
    · have hm0 := hcz he0
      subst hm0
      rw [if_pos he0] at hX2
      obtain ⟨F, hF⟩ : ∃ F, Wr.fin l a0 e0 = F := ⟨_, rfl⟩
      have hFe : F = e0 := by rw [← hF]; exact Pe.fin_err l a0 he0
      have hFn : (F == 0) = false := by rw [hFe]; simpa using he0
      have HM2 : Kept (M = ([], F)) := ⟨by
        have := HM.out
        rw [hX2] at this
        simp only [] at this
        rw [hF, if_pos (by rw [hFe]; exact he0)] at this
        exact this⟩
      have HF := Kept.mk hF
      clear hF hFe hX2 hcz hcl HX
      go_upto_region 6 with (go_at_call 74; refine CN.out.mono ?_; rintro r w3 ⟨rfl, hr, hg⟩; have D9 := Kept.mk (D0.out.step hr hg); clear hr hg)
      go_loopw [9, 24] (fun o i wr => o = .slice none 0 0 ∧ i = .int .i64 0 ∧ wr = w3) (fun _ i _ => 1)
      case atStart => exact ⟨rfl, rfl, rfl⟩
      case round =>
        obtain ⟨rfl, rfl, hw⟩ := hrel
        obtain rfl := hw.symm
        obtain ⟨q0, q1, q2⟩ := D9.out.rp.cells
        go_wp2_with (go_at_call 64; refine (end_any p a0 l e0 _ D9.out.rd).mono ?_; rintro r wE ⟨hrE, hwE⟩; rw [HF.out] at hrE; subst hrE; obtain rfl := hwE)
        go_ret2
        refine ⟨none, 0, 0, ?_, ?_, D9.out.below⟩
        · rw [HM2.out]; rfl
        · rw [HM2.out]; exact RdEn.nil _ _
end Go.Proofs.Ythhcfocmaiacoaa
