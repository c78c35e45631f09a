/- Chapter 15: the reference's Decode. -/
import Derived.Test.YthhcfocmaiacoaaPostRx
import Derived.Test.YthhcfocmaiacoaaPostI
namespace Go.Proofs.Ythhcfocmaiacoaa
open Go.RowKit Go.Shelf Go.Sort

theorem RdrE.row {w : World} {p a : Nat} {l : List UInt8} {e : Int} (h : RdrE w p l a e) : ∃ cs, w.heap[p]? = some (.cells cs 103 (0, 0)) := by
  obtain ⟨a', ⟨A, n, c, h1, _⟩, _⟩ := h
  exact ⟨_, h1⟩
/-- what stands while the reference reads entries -/
structure Dq (w W : World) (p : Nat) (TA : Option Addr) (tn tc : Nat) (T : List ByteArray) (l : List UInt8) (A : Option Addr) (n c : Nat) (acc : List EntV) (a : Nat) (e : Int) : Prop where
  own : OwnEn 109 W (p + 1) A n c acc
  rd : RdrE W p l a e
  tb : RdS W p TA tn tc T
  below : Below w.heap.size w W
  hp : w.heap.size ≤ p
/-- and the entry under way, whose row is the call's own -/
structure Dr (w W : World) (p : Nat) (TA : Option Addr) (tn tc : Nat) (T : List ByteArray) (l : List UInt8) (A : Option Addr) (n c : Nat) (acc : List EntV) (a : Nat) (e : Int) (G : Nat) (s1 s2 : ByteArray) (A8 : Option Addr) (n8 c8 : Nat) (rs : List Int) : Prop where
  own : ∃ hs : List Value, hs.length = acc.length ∧ W.ownsRow (p + 1) 109 3 (.slice A n c) n (eflat acc hs) ∧ ∀ (i : Nat) (_ : i < hs.length) (_ : i < acc.length), ∃ A1 n1 c1, hs[i] = .slice A1 n1 c1 ∧ OwnI W 0 A1 n1 c1 acc[i].2 ∧ ∀ g, ab A1 = some g → g < G
  lt : ∀ g, ab A = some g → g < G
  rd : RdrE W p l a e
  tb : RdS W p TA tn tc T
  below : Below w.heap.size w W
  hp : w.heap.size ≤ p
  box : W.heap[G]? = some (.cells #[.string s1, .string s2, .slice A8 n8 c8] 109 (0, 0))
  row : OwnI W (G + 1) A8 n8 c8 rs
  hg : p < G
section
variable {w W W' : World} {p tn tc n c a G n8 c8 : Nat} {TA A A8 : Option Addr} {T : List ByteArray} {l : List UInt8} {acc : List EntV} {e : Int} {s1 s2 : ByteArray} {rs : List Int}
theorem Dq.step (h : Dq w W p TA tn tc T l A n c acc a e) {a' : Nat} {e' : Int} (hr : RdrE W' p l a' e') (hg : W.grownBy W' (some p)) : Dq w W' p TA tn tc T l A n c acc a' e' := by
  obtain ⟨cs, hb⟩ := h.rd.row
  exact ⟨h.own.pastT hb (by decide) (by decide) hg, hr, h.tb.grown hg (by have := h.rd.lt; omega) (fun g e => by have := Option.some.inj e; omega), h.below.grown hg h.below.size (fun g e => by have := Option.some.inj e; have := h.hp; omega), h.hp⟩
theorem Dr.step (h : Dr w W p TA tn tc T l A n c acc a e G s1 s2 A8 n8 c8 rs) {a' : Nat} {e' : Int} (hr : RdrE W' p l a' e') (hg : W.grownBy W' (some p)) : Dr w W' p TA tn tc T l A n c acc a' e' G s1 s2 A8 n8 c8 rs := by
  obtain ⟨cs, hb⟩ := h.rd.row
  obtain ⟨hs, h1, h2, h3⟩ := h.own
  have hpG := h.hg
  refine ⟨⟨hs, h1, own_pastT h2 hb (by decide) hg, fun i q1 q2 => ?_⟩, h.lt, hr, h.tb.grown hg (by have := h.rd.lt; omega) (fun g e => by have := Option.some.inj e; omega), h.below.grown hg h.below.size (fun g e => by have := Option.some.inj e; have := h.hp; omega), h.hp, ?_, own_past h.row hg (by omega), hpG⟩
  · obtain ⟨A1, n1, c1, e1, o, b⟩ := h3 i q1 q2
    exact ⟨A1, n1, c1, e1, own_pastT o hb (by decide) hg, b⟩
  · exact (hg.block G (Array.getElem?_eq_some_iff.1 h.box).1 (fun e => by have := Option.some.inj e; omega)).trans h.box
theorem Dr.on (h : Dr w W p TA tn tc T l A n c acc a e G s1 s2 A8 n8 c8 rs) (hb : Below W.heap.size W W') : Dr w W' p TA tn tc T l A n c acc a e G s1 s2 A8 n8 c8 rs := by
  obtain ⟨hs, h1, h2, h3⟩ := h.own
  refine ⟨⟨hs, h1, own_keep h2 hb, fun i q1 q2 => ?_⟩, h.lt, h.rd.below hb h.rd.lt, Rd.below h.tb (hb.mono (by have := h.rd.lt; omega)), h.below.trans (hb.mono h.below.size), h.hp, (hb.block G (Array.getElem?_eq_some_iff.1 h.box).1).trans h.box, own_keepI' h.row hb, h.hg⟩
  obtain ⟨A1, n1, c1, e1, o, b⟩ := h3 i q1 q2
  exact ⟨A1, n1, c1, e1, own_keepI' o hb, b⟩
/-- the row has grown -/
theorem Dr.push (h : Dr w W p TA tn tc T l A n c acc a e G s1 s2 A8 n8 c8 rs) (hb : Below (G + 1) W W') {A9 : Option Addr} {n9 c9 : Nat} {rs9 : List Int} (ho : OwnI W' (G + 1) A9 n9 c9 rs9) :
    Dr w (W'.setCell ⟨G, 2, none⟩ (.slice A9 n9 c9)) p TA tn tc T l A n c acc a e G s1 s2 A9 n9 c9 rs9 := by
  obtain ⟨hs, h1, h2, h3⟩ := h.own
  have hpG := h.hg
  have hp := h.hp
  have hbx : W'.heap[G]? = some (.cells #[.string s1, .string s2, .slice A8 n8 c8] 109 (0, 0)) := (hb.block G (by omega)).trans h.box
  have hbs : Below G W' (W'.setCell ⟨G, 2, none⟩ (.slice A9 n9 c9)) := (Below.refl _ W').setCell (p := ⟨G, 2, none⟩) (Nat.le_refl _) _
  have hlow : Below G W (W'.setCell ⟨G, 2, none⟩ (.slice A9 n9 c9)) := (hb.mono (by omega)).trans hbs
  refine ⟨⟨hs, h1, own_below h2 hlow h.lt, fun i q1 q2 => ?_⟩, h.lt, h.rd.below hlow hpG, Rd.below h.tb (hlow.mono (by omega)), h.below.trans (hlow.mono (by omega)), hp, ?_, own_set1 ho (fun e => by have := (own_lt ho _ e).1; omega) hbx, hpG⟩
  · obtain ⟨A1, n1, c1, e1, o, b⟩ := h3 i q1 q2
    exact ⟨A1, n1, c1, e1, own_below o hlow b, b⟩
  · rw [heap_setCell_same W' G 2 _ _ _ hbx]; rfl
theorem Dr.cells (h : Dr w W p TA tn tc T l A n c acc a e G s1 s2 A8 n8 c8 rs) : W.cell? ⟨G, 0, none⟩ = some (.string s1) ∧ W.cell? ⟨G, 1, none⟩ = some (.string s2) ∧ W.cell? ⟨G, 2, none⟩ = some (.slice A8 n8 c8) ∧ ∀ k, W.frozen? ⟨G, k, none⟩ = false :=
  ⟨cell_of_row _ _ 0 _ _ _ h.box, cell_of_row _ _ 1 _ _ _ h.box, cell_of_row _ _ 2 _ _ _ h.box, fun _ => frozen_of_row _ _ _ _ _ h.box⟩
theorem Dr.en (h : Dr w W p TA tn tc T l A n c acc a e G s1 s2 A8 n8 c8 rs) : OwnEn 109 W (p + 1) A n c acc := by
  obtain ⟨hs, h1, h2, h3⟩ := h.own
  refine ⟨hs, h1, h2, fun i q1 q2 => ?_⟩
  obtain ⟨A1, n1, c1, e1, o, b⟩ := h3 i q1 q2
  exact ⟨A1, n1, c1, e1, o⟩
theorem Dq.box (h : Dq w W p TA tn tc T l A n c acc a e) (s1 s2 : ByteArray) : Dr w (W.alloc (.cells #[.string s1, .string s2, .slice none 0 0] 109)) p TA tn tc T l A n c acc a e W.heap.size s1 s2 none 0 0 [] := by
  have hb : Below W.heap.size W (W.alloc (.cells #[.string s1, .string s2, .slice none 0 0] 109)) := (Below.refl _ _).alloc (Nat.le_refl _) _
  obtain ⟨hs, h1, h2, h3⟩ := h.own
  refine ⟨⟨hs, h1, own_keep h2 hb, fun i q1 q2 => ?_⟩, fun g hg => (own_lt h2 g hg).2, h.rd.below hb h.rd.lt, Rd.below h.tb (hb.mono (by have := h.rd.lt; omega)), h.below.trans (hb.mono h.below.size), h.hp, heap_alloc_new W _, World.ownsRow_nil _ _ _ _, h.rd.lt⟩
  obtain ⟨A1, n1, c1, e1, o⟩ := h3 i q1 q2
  exact ⟨A1, n1, c1, e1, own_keepI' o hb, fun g hg => (own_lt o g hg).2⟩
end
namespace Pe
/-- the error of a difference -/
theorem ser_of {l : List UInt8} {bnd a k a1 : Nat} (h : Rc.cnt l a 0 = (k, a1, 0)) (hk : k ≠ 0) : ser l bnd a = sl l bnd k 0 [] a1 := by
  unfold ser; rw [h]; simp [hk]
theorem ser_err {l : List UInt8} {bnd a k a1 : Nat} {e : Int} (h : Rc.cnt l a 0 = (k, a1, e)) (he : e ≠ 0) : ser l bnd a = ([], a1, e) := by
  unfold ser; rw [h]; simp [he]
/-- an entry without numbers: an error -/
structure ZC (X : List EntV × Nat × Int) (l : List UInt8) (e5 : Int) : Prop where
  ne : e5 ≠ 0
  err : X.2.2 = e5
theorem ZC.fin {X : List EntV × Nat × Int} {l : List UInt8} {e5 : Int} {M : List EntV × Int} (h : ZC X l e5) (hM : M = if Wr.fin l X.2.1 X.2.2 ≠ 0 then ([], Wr.fin l X.2.1 X.2.2) else (X.1, 0)) : M = ([], e5) ∧ e5 ≠ 0 := by
  have h1 : Wr.fin l X.2.1 X.2.2 = e5 := by rw [h.err]; exact fin_err l _ h.ne
  rw [h1, if_pos h.ne] at hM
  exact ⟨hM, h.ne⟩
theorem ser_nil {l : List UInt8} {bnd a a1 : Nat} (h : Rc.cnt l a 0 = (0, a1, 0)) : ser l bnd a = ([], a1, 22) := by
  unfold ser; rw [h]; simp
theorem zero_case {T : List ByteArray} {l : List UInt8} {bnd k : Nat} {acc : List EntV} {at_ a2 a3 : Nat} {x : Lab} {e2 e4 : Int} {X : List EntV × Nat × Int} (hX : X = el T l bnd (k + 1) acc at_) (hL : Rc.lab T l at_ 0 = (x, a2, e2))
    (hk : Rc.cnt l a2 (ordErr acc (x, a2, e2)) = (0, a3, e4)) : ZC X l (if e4 = 0 then 22 else e4) := by
  by_cases he : ordErr acc (x, a2, e2) = 0
  · rw [he] at hk
    by_cases h4 : e4 = 0
    · subst h4
      have := el_ser (bnd := bnd) k hL he (ser_nil hk) (by simp)
      rw [if_pos rfl]
      exact ⟨by simp, by rw [hX, this]⟩
    · have := el_ser (bnd := bnd) k hL he (ser_err hk h4) h4
      rw [if_neg h4]
      exact ⟨h4, by rw [hX, this]⟩
  · rw [Rc.cnt_bad l a2 he] at hk
    simp only [Prod.mk.injEq] at hk
    have := el_ord (l := l) (bnd := bnd) k hL he
    rw [← hk.2.2, if_neg he]
    exact ⟨he, by rw [hX, this]⟩
end Pe
set_option maxRecDepth 100000 in
set_option maxHeartbeats 16000000 in
theorem refDecode15_any (TA A : Option Addr) (tn tc n c : Nat) (bn : Int) (T : List ByteArray) (l : List UInt8) (w : World) (hT : RdS w w.heap.size TA tn tc T) (hv : RdB w w.heap.size A n c l) (hl : n ≤ 20000000) (hbn : bn < 9223372036854775808) :
    Calls Try.prog 39 #[.slice TA tn tc, .int .i64 bn, .slice A n c] w fun r w' => ∃ A2 n2 c2, r = .returned (.tuple #[.slice A2 n2 c2, .int .i64 (Pe.dec T bn l).2]) ∧ RdEn w' w'.heap.size A2 n2 c2 (Pe.dec T bn l).1 ∧ Below w.heap.size w w' := by
  have hlc := hv.1
  have hcm := hv.2.1
  unfold maxLen at hcm
  have HN := Kept.mk hv.len
  have V := Kept.mk hv
  have VT := Kept.mk hT
  clear hv hT
  rcases Int.lt_or_le bn 0 with hneg | hpos
  · have hM : Pe.dec T bn l = ([], 2) := by unfold Pe.dec; rw [if_pos hneg]
    rw [hM]
    clear hM
    go_enter Try.func39, Try.ntmps39
    go_wp2
    go_ret2
    exact ⟨none, 0, 0, rfl, RdEn.nil _ _, Below.refl _ _⟩
  · obtain ⟨bnd, rfl⟩ := Int.eq_ofNat_of_zero_le hpos
    have hge : ¬ (bnd : Int) < 0 := by omega
    have hbd : bnd < 9223372036854775808 := by omega
    obtain ⟨X, hX⟩ : ∃ X, X = Pe.lst T l bnd := ⟨_, rfl⟩
    obtain ⟨M, hM⟩ : ∃ M, M = Pe.dec T (bnd : Int) l := ⟨_, rfl⟩
    rw [← hM]
    unfold Pe.dec at hM
    rw [if_neg (by omega), Int.toNat_natCast, ← hX] at hM
    have HX := Kept.mk hX
    have HM := Kept.mk hM
    have hwb : IntKind.u64.wrap (bnd : Int) = (bnd : Int) := wrap_u64 _ (by omega) (by omega)
    have HBD := Kept.mk hbd
    have HL9 := Kept.mk hl
    have mixed : Try.prog.follows .mixedOrders = true := by kernel_rfl
    have D0 : Kept (Dq w (w.alloc (.cells #[.slice A n c, .int .i64 0, .int .i64 0] 103)) w.heap.size TA tn tc T l none 0 0 [] 0 0) :=
      ⟨⟨OwnEn.nil _ _, .of ⟨A, n, c, heap_alloc_new w _, Rd.alloc V.out (Nat.le_refl _) _, by omega, by omega⟩, Rd.alloc VT.out (Nat.le_refl _) _, (Below.refl _ _).alloc (Nat.le_refl _) _, Nat.le_refl _⟩⟩
    clear hX hM hbd hbn hl
    go_enter Try.func39, Try.ntmps39
    go_upto_region 4 with (fail)
    generalize w.alloc (.cells #[.slice A n c, .int .i64 0, .int .i64 0] 103) = w1 at *
    have hpw := Kept.mk (And.intro (Nat.le_refl w.heap.size) (And.intro VT.out V.out))
    have CN := Kept.mk (refCount_any w.heap.size 0 l 0 w1 D0.out.rd)
    have hcl := Rc.cnt_le l 0 0 (Nat.zero_le _)
    have hcz := Pe.cnt_z l 0 0
    have hX2 := HX.out
    unfold Pe.lst at hX2
    generalize Rc.cnt l 0 0 = CT at *
    obtain ⟨m, a0, e0⟩ := CT
    simp only [] at CN hcl hcz hX2
    have HM9 : Kept (m ≤ 20000000) := ⟨by have := HN.out; have := HL9.out; omega⟩
    have hmI : (m : Int) ≤ 20000000 := by have := HM9.out; omega
    have HINV : Kept ((e0 = 0 ∧ X = Pe.el T l bnd m [] a0) ∨ (e0 ≠ 0 ∧ M = ([], e0))) := ⟨by
      by_cases he0 : e0 = 0
      · rw [if_neg (by simp [he0])] at hX2
        exact .inl ⟨he0, hX2⟩
      · rw [if_pos he0] at hX2
        refine .inr ⟨he0, ?_⟩
        have := HM.out
        rw [hX2] at this
        simp only [] at this
        rw [Pe.fin_err l a0 he0, if_pos he0] at this
        exact this⟩
    clear hX2 hcz hcl HX
    go_upto_region 7 with (go_at_call 78; refine CN.out.mono ?_; rintro r w3 ⟨rfl, hr, hg⟩; have D3 := Kept.mk (D0.out.step hr hg); clear hr hg)
    -- the loop
    go_loopw [10, 11] (fun o i wr => ∃ k : Nat, k ≤ m ∧ i = .int .i64 k ∧ ∃ (A2 : Option Addr) (n2 c2 : Nat) (acc : List EntV) (at_ : Nat) (e : Int), o = .slice A2 n2 c2 ∧ Dq w wr w.heap.size TA tn tc T l A2 n2 c2 acc at_ e ∧ Kept ((e = 0 ∧ X = Pe.el T l bnd (m - k) acc at_ ∧ acc.length = k) ∨ (e ≠ 0 ∧ M = ([], e))) ∧ n2 ≤ k) (fun _ i _ => m - (intOf i).toNat)
    case atStart => exact ⟨0, by omega, rfl, none, 0, 0, [], a0, e0, rfl, D3.out, ⟨HINV.out.imp (fun h => ⟨h.1, h.2, rfl⟩) id⟩, by omega⟩
    case round =>
      clear HINV D3 CN D0
      obtain ⟨k, hk, rfl, A2, n2, c2, acc, at_, e, rfl, hD, hI, hn2⟩ := hrel
      have D := Kept.mk hD
      have hzr := hD.below.size
      have er := hD.rd.err
      have hwl := hD.rd.lt
      clear hD
      by_cases he : e = 0
      · subst he
        obtain ⟨-, hd1, hd2⟩ := hI.out.resolve_right (fun h => h.1 rfl)
        clear hI
        by_cases hlt : k < m
        · rw [show m - k = (m - (k + 1)) + 1 by omega] at hd1
          have hX1 := hd1
          have hLB : Rc.lab T l at_ 0 = (⟨(Rc.sym T l at_ 0).1, (Rc.sym T l (Rc.sym T l at_ 0).2.1 (Rc.sym T l at_ 0).2.2).1⟩, (Rc.sym T l (Rc.sym T l at_ 0).2.1 (Rc.sym T l at_ 0).2.2).2) := rfl
          have S1 := Kept.mk (fun W (d1 : RdS W w.heap.size TA tn tc T) (d2 : RdrE W w.heap.size l at_ 0) => refSymbol_any w.heap.size at_ tn tc TA T l 0 W d1 d2)
          generalize Rc.sym T l at_ 0 = Y1 at *
          obtain ⟨s1, a1, e1⟩ := Y1
          simp only [] at S1 hLB
          have S2 := Kept.mk (fun W (d1 : RdS W w.heap.size TA tn tc T) (d2 : RdrE W w.heap.size l a1 e1) => refSymbol_any w.heap.size a1 tn tc TA T l e1 W d1 d2)
          generalize Rc.sym T l a1 e1 = Y2 at *
          obtain ⟨s2, a2, e2⟩ := Y2
          simp only [] at S2 hLB
          have hLB2 := Kept.mk hLB
          have HL := Kept.mk hd2
          have HX1 := Kept.mk hX1
          clear hLB hd1 hd2 hX1
          go_upto_region 10 with (go_at_call 79; refine (S1.out wr D.out.tb D.out.rd).mono ?_; rintro r w5 ⟨rfl, hr, hg⟩; have D1 := Kept.mk (D.out.step hr hg); clear hr hg)
          go_upto_region 11 with (go_at_call 79; refine (S2.out w5 D1.out.tb D1.out.rd).mono ?_; rintro r w6 ⟨rfl, hr, hg⟩; have D2 := Kept.mk (D1.out.step hr hg); clear hr hg)
          have D5 := Kept.mk (D2.out.box s1 s2)
          have hzG := D2.out.below.size
          clear D D1 D2 S1 S2 er hwl
          generalize w6.alloc (Obj.cells #[.string s1, .string s2, .slice none 0 0] 109) = w8 at *
          generalize w6.heap.size = G at *
          have hGs := (Array.getElem?_eq_some_iff.1 D5.out.box).1
          have hX1 := HX1.out
          obtain ⟨e3, he3⟩ : ∃ e3, e3 = Pe.ordErr acc (⟨s1, s2⟩, a2, e2) := ⟨_, rfl⟩
          have HE3 := Kept.mk he3
          unfold Pe.ordErr at he3
          simp only [] at he3
          have PC := Kept.mk (fun (z : Lab) W => compare15_any z ⟨s1, s2⟩ W)
          unfold lbv at PC
          simp only [] at PC
          obtain ⟨bb, hbb⟩ : ∃ bb : Bool, bb = !(Pe.ordE acc ⟨s1, s2⟩) := ⟨_, rfl⟩
          go_cut [59] (fun t W => t = .bool bb ∧ Dr w W w.heap.size TA tn tc T l A2 n2 c2 acc a2 e2 G s1 s2 none 0 0 [])
          case first =>
            by_cases hk0 : k = 0
            · have hacc : acc = [] := List.eq_nil_of_length_eq_zero (by rw [HL.out, hk0])
              subst hacc
              subst hk0
              have hbf : bb = false := by rw [hbb, Pe.ordE_nil]; rfl
              subst hbf
              have DN : Kept (∀ nq, Dr w (w8.drewN nq) w.heap.size TA tn tc T l A2 n2 c2 [] a2 e2 G s1 s2 none 0 0 []) := ⟨fun nq => D5.out.on (below_drewN (Below.refl _ _) nq)⟩
              clear he3 hbb
              go_quiet (fail)
              go_wp2_with fail
              go_meet
              exact ⟨rfl, DN.out _⟩
            · have hk1 : k - 1 < acc.length := by rw [HL.out]; omega
              have hn2' : n2 = k := by have := D5.out.en.len; have := HL.out; omega
              obtain ⟨b, off, A5, n5, c5, hA2, hbB, -, hcc⟩ := D5.out.en.rd.cells (Nat.le_refl _) hk1
              subst hA2
              rw [Pe.ordE_at (x := ⟨s1, s2⟩) (k := k) HL.out.symm hk1] at hbb
              generalize acc[k - 1] = pe at *
              obtain ⟨y, sy⟩ := pe
              simp only [] at hbb hcc
              have ek : (k : Int) - 1 = ((k - 1 : Nat) : Int) := by omega
              have ek2 : ((k - 1 : Nat) : Int) < (n2 : Int) := by omega
              have ew : IntKind.i64.wrap ((k - 1 : Nat) : Int) = ((k - 1 : Nat) : Int) := by rw [IntKind.wrap_i64]; omega
              have ek0 : (0 : Int) < (k : Int) := by omega
              have ek1 : 0 < k := by omega
              have PC1 := fun W => PC.out y W
              have c0 := cell_grown (w := w8) (show (⟨b, off + (k - 1) * 3, none⟩ : Addr).block < w8.heap.size by show b < _; omega) (hcc w8 (Below.refl _ _)).1
              have c1 := cell_grown (w := w8) (show (⟨b, off + (k - 1) * 3 + 1, none⟩ : Addr).block < w8.heap.size by show b < _; omega) (hcc w8 (Below.refl _ _)).2.1
              have d0 := cell_grown (w := w8) (a := ⟨G, 0, none⟩) (v := .string s1) (by show G < _; exact hGs) D5.out.cells.1
              have d1 := cell_grown (w := w8) (a := ⟨G, 1, none⟩) (v := .string s2) (by show G < _; exact hGs) D5.out.cells.2.1
              have DN : Kept (∀ W, Gr w8 W → Dr w W w.heap.size TA tn tc T l (some ⟨b, off, none⟩) n2 c2 acc a2 e2 G s1 s2 none 0 0 []) := ⟨fun W g => D5.out.on g.below⟩
              clear he3 hcc hn2'
              generalize Lb.pc y ⟨s1, s2⟩ = pq at *
              rcases Int.lt_or_le pq 0 with hq | hq
              · have hbf : bb = false := by rw [hbb, decide_eq_true hq]; rfl
                subst hbf
                have hq1 : ¬ 0 ≤ pq := by omega
                clear hbb
                go_quiet_grown (first | (go_at_call 80; refine Calls.grown_of (PC1 _)))
                go_wp2_with fail
                go_meet
                exact ⟨rfl, DN.out _ ⟨_, _, rfl⟩⟩
              · have hbf : bb = true := by rw [hbb, decide_eq_false (show ¬ pq < 0 by omega)]; rfl
                subst hbf
                have hq1 : ¬ pq < 0 := by omega
                clear hbb
                go_quiet_grown (first | (go_at_call 80; refine Calls.grown_of (PC1 _)))
                go_wp2_with fail
                go_meet
                exact ⟨rfl, DN.out _ ⟨_, _, rfl⟩⟩
          case rest =>
            obtain ⟨rfl, hD6⟩ := hcut
            have D6 := Kept.mk hD6
            clear D5 hD6 PC hGs
            cases bb with
            | true =>
              have ho : Pe.ordE acc ⟨s1, s2⟩ = false := by simpa using hbb.symm
              have he4 : (if e2 = 0 then (16 : Int) else e2) = e3 := by
                rw [he3, ho]
                by_cases h : e2 = 0
                · simp [h]
                · simp [h]
              have hn3 : e3 ≠ 0 := by
                rw [← he4]
                by_cases h : e2 = 0
                · simp [h]
                · simp [h]
              have HE4 := Kept.mk he4
              rw [HE3.out] at hn3
              have hk0 := Kept.mk (Rc.cnt_bad l a2 hn3)
              rw [← HE3.out] at hk0 hn3
              clear he3 ho hbb he4
              go_upto_region 13 with (go_at_call 67; refine (failE_any w.heap.size a2 l e2 16 _ D6.out.rd).mono ?_; rintro r w9 ⟨rfl, hr, hg⟩; rw [HE4.out] at hr; have D7 := Kept.mk (D6.out.step hr hg); clear hr hg)
              obtain ⟨a3, ha3⟩ : ∃ a3, a3 = a2 := ⟨_, rfl⟩
              obtain ⟨e4, he4⟩ : ∃ e4, e4 = e3 := ⟨_, rfl⟩
              have hk0 : Kept (Rc.cnt l a2 e3 = (0, a3, e4)) := ⟨by rw [ha3, he4]; exact hk0.out⟩
              rw [HE3.out] at hk0
              clear ha3 he4
              have hX1 := HX1.out
              have D7 : Kept (Dr w w9 w.heap.size TA tn tc T l A2 n2 c2 acc a2 (Pe.ordErr acc (⟨s1, s2⟩, a2, e2)) G s1 s2 none 0 0 []) := ⟨by rw [← HE3.out]; exact D7.out⟩
              clear hn3
              generalize hoe : Pe.ordErr acc (⟨s1, s2⟩, a2, e2) = oe at *
              have hk0 : Kept (Rc.cnt l a2 (Pe.ordErr acc (⟨s1, s2⟩, a2, e2)) = (0, a3, e4)) := ⟨by rw [hoe]; exact hk0.out⟩
              have D7 : Kept (Dr w w9 w.heap.size TA tn tc T l A2 n2 c2 acc a2 (Pe.ordErr acc (⟨s1, s2⟩, a2, e2)) G s1 s2 none 0 0 []) := ⟨by rw [hoe]; exact D7.out⟩
              clear hoe
              have hcn := Pe.zero_case hX1 hLB2.out hk0.out
              have CN2 := Kept.mk (refCount_any w.heap.size a2 l (Pe.ordErr acc (⟨s1, s2⟩, a2, e2)) w9 D7.out.rd)
              rw [hk0.out] at CN2
              simp only [] at CN2
              have HMz : Kept (M = ([], if e4 = 0 then 22 else e4) ∧ (if e4 = 0 then (22 : Int) else e4) ≠ 0) := ⟨hcn.fin HM.out⟩
              obtain ⟨e5, he5⟩ : ∃ e5, (if e4 = 0 then (22 : Int) else e4) = e5 := ⟨_, rfl⟩
              rw [he5] at HMz
              have HE5 := Kept.mk he5
              clear hcn he5
              go_upto_region 18 with (first
                | (go_at_call 67; refine (failE_any w.heap.size a3 l e4 22 _ D11.out.rd).mono ?_; rintro r w12 ⟨rfl, hr, hg⟩; rw [HE5.out] at hr; have D12 := Kept.mk (D11.out.step hr hg); clear hr hg)
                | (go_at_call 78; refine CN2.out.mono ?_; rintro r w11 ⟨rfl, hr, hg⟩; have D11 := Kept.mk (D7.out.step hr hg); clear hr hg CN2))
              go_loopw [15, 16] (fun la j wi => la = .int .u64 0 ∧ j = .int .i64 0 ∧ wi = w12) (fun _ j _ => 1)
              case atStart => exact ⟨rfl, rfl, rfl⟩
              case round =>
                obtain ⟨rfl, rfl, hw⟩ := hrel
                obtain rfl := hw.symm
                obtain ⟨z0, z1, z2, zf⟩ := D12.out.cells
                go_wp2_with (at_builtin; refine wpList_appER (y := ⟨s1, s2⟩) (s := []) rfl (.tmp 114) (.tmp 116) rfl (w.heap.size + 1) A2 n2 c2 acc rfl D12.out.en _ rfl rfl (show OwnI _ 0 _ _ _ [] from own_rebase D12.out.row (Nat.zero_le _)) (by have := HM9.out; omega) (by have := D12.out.below.size; have := D12.out.rd.lt; omega) ?_; intro A9 c9 w13 ho9 hb9; have O10 := Kept.mk ho9; have B10 := Kept.mk hb9; clear ho9 hb9)
                go_roundw
                case rel => exact ⟨k + 1, by omega, by go_num, A9, n2 + 1, c9, _, a3, e5, rfl, ⟨O10.out, D12.out.rd.below B10.out (by omega), Rd.below D12.out.tb (B10.out.mono (by omega)), D12.out.below.trans (B10.out.mono (by omega)), Nat.le_refl _⟩, ⟨.inr ⟨HMz.out.2, HMz.out.1⟩⟩, by omega⟩
                case measure => simp [intOf]; omega
            | false =>
              have ho : Pe.ordE acc ⟨s1, s2⟩ = true := by simpa using hbb.symm
              have he4 : e3 = e2 := by
                rw [he3, ho]
                by_cases h : e2 = 0
                · simp [h]
                · simp [h]
              clear he3 ho hbb
              obtain ⟨CT2, hCT⟩ : ∃ CT2, Rc.cnt l a2 (Pe.ordErr acc (⟨s1, s2⟩, a2, e2)) = CT2 := ⟨_, rfl⟩
              obtain ⟨kk, a3, e4⟩ := CT2
              have D7 : Kept (Dr w wc w.heap.size TA tn tc T l A2 n2 c2 acc a2 (Pe.ordErr acc (⟨s1, s2⟩, a2, e2)) G s1 s2 none 0 0 []) := ⟨by rw [← HE3.out, he4]; exact D6.out⟩
              have hX1 := HX1.out
              clear he4 D6 HE3
              by_cases hkk : kk = 0
              · subst hkk
                have hk0 := Kept.mk hCT
                clear hCT
                go_upto_region 13 with (fail)
                have hcn := Pe.zero_case hX1 hLB2.out hk0.out
                have CN2 := Kept.mk (refCount_any w.heap.size a2 l (Pe.ordErr acc (⟨s1, s2⟩, a2, e2)) wc D7.out.rd)
                rw [hk0.out] at CN2
                simp only [] at CN2
                have HMz : Kept (M = ([], if e4 = 0 then 22 else e4) ∧ (if e4 = 0 then (22 : Int) else e4) ≠ 0) := ⟨hcn.fin HM.out⟩
                obtain ⟨e5, he5⟩ : ∃ e5, (if e4 = 0 then (22 : Int) else e4) = e5 := ⟨_, rfl⟩
                rw [he5] at HMz
                have HE5 := Kept.mk he5
                clear hcn he5
                go_upto_region 18 with (first
                  | (go_at_call 67; refine (failE_any w.heap.size a3 l e4 22 _ D11.out.rd).mono ?_; rintro r w12 ⟨rfl, hr, hg⟩; rw [HE5.out] at hr; have D12 := Kept.mk (D11.out.step hr hg); clear hr hg)
                  | (go_at_call 78; refine CN2.out.mono ?_; rintro r w11 ⟨rfl, hr, hg⟩; have D11 := Kept.mk (D7.out.step hr hg); clear hr hg CN2))
                go_loopw [15, 16] (fun la j wi => la = .int .u64 0 ∧ j = .int .i64 0 ∧ wi = w12) (fun _ j _ => 1)
                case atStart => exact ⟨rfl, rfl, rfl⟩
                case round =>
                  obtain ⟨rfl, rfl, hw⟩ := hrel
                  obtain rfl := hw.symm
                  obtain ⟨z0, z1, z2, zf⟩ := D12.out.cells
                  go_wp2_with (at_builtin; refine wpList_appER (y := ⟨s1, s2⟩) (s := []) rfl (.tmp 114) (.tmp 116) rfl (w.heap.size + 1) A2 n2 c2 acc rfl D12.out.en _ rfl rfl (show OwnI _ 0 _ _ _ [] from own_rebase D12.out.row (Nat.zero_le _)) (by have := HM9.out; omega) (by have := D12.out.below.size; have := D12.out.rd.lt; omega) ?_; intro A9 c9 w13 ho9 hb9; have O10 := Kept.mk ho9; have B10 := Kept.mk hb9; clear ho9 hb9)
                  go_roundw
                  case rel => exact ⟨k + 1, by omega, by go_num, A9, n2 + 1, c9, _, a3, e5, rfl, ⟨O10.out, D12.out.rd.below B10.out (by omega), Rd.below D12.out.tb (B10.out.mono (by omega)), D12.out.below.trans (B10.out.mono (by omega)), Nat.le_refl _⟩, ⟨.inr ⟨HMz.out.2, HMz.out.1⟩⟩, by omega⟩
                  case measure => simp [intOf]; omega
              · have hcnt := hCT
                have he3z : Pe.ordErr acc (⟨s1, s2⟩, a2, e2) = 0 := by
                  by_cases h : Pe.ordErr acc (⟨s1, s2⟩, a2, e2) = 0
                  · exact h
                  · rw [Rc.cnt_bad l a2 h] at hCT
                    simp only [Prod.mk.injEq] at hCT
                    exact absurd hCT.1.symm hkk
                have he4z : e4 = 0 := by
                  by_cases h : e4 = 0
                  · exact h
                  · have := Pe.cnt_z l a2 (Pe.ordErr acc (⟨s1, s2⟩, a2, e2)) (by rw [hCT]; exact h)
                    rw [hCT] at this
                    exact absurd this hkk
                subst he4z
                have CN2 := Kept.mk (refCount_any w.heap.size a2 l (Pe.ordErr acc (⟨s1, s2⟩, a2, e2)) wc D7.out.rd)
                rw [hCT] at CN2
                simp only [] at CN2
                rw [he3z] at hcnt
                have hser := Pe.ser_of (bnd := bnd) hcnt hkk
                have hSER := Kept.mk (And.intro he3z hser)
                have HK9 : Kept (kk ≤ 20000000) := ⟨by
                  have h7 := D7.out.rd
                  rw [he3z] at h7
                  have hle := Rc.cnt_le l a2 0 h7.at_.len.2
                  rw [hcnt] at hle
                  simp only [] at hle
                  have := HN.out
                  have := HL9.out
                  omega⟩
                have hkI : (kk : Int) ≤ 20000000 := by have := HK9.out; omega
                have hkb : ((kk : Int) == 0) = false := by simpa using hkk
                have hk0i : (0 : Int) < (kk : Int) := by omega
                have HXX := Kept.mk hX1
                clear hCT hcnt he3z hser hX1
                go_upto_region 18 with (go_at_call 78; refine CN2.out.mono ?_; rintro r wd ⟨rfl, hr, hg⟩; have D8 := Kept.mk (D7.out.step hr hg); clear hr hg CN2)
                go_loopw [15, 16] (fun la jj wi => ∃ j : Nat, j ≤ kk ∧ jj = .int .i64 j ∧ ∃ (lv : Int) (A8 : Option Addr) (n8 c8 : Nat) (rs : List Int) (a4 : Nat) (e6 : Int), la = .int .u64 lv ∧ Dr w wi w.heap.size TA tn tc T l A2 n2 c2 acc a4 e6 G s1 s2 A8 n8 c8 rs ∧ n8 ≤ j ∧ Kept ((e6 = 0 ∧ ∃ last : Nat, lv = (last : Int) ∧ last ≤ bnd ∧ rs.length = j ∧ Pe.ser l bnd a2 = Pe.sl l bnd (kk - j) last rs a4) ∨ (e6 ≠ 0 ∧ M = ([], e6)))) (fun _ j _ => kk - (intOf j).toNat)
                case atStart => exact ⟨0, by omega, rfl, 0, none, 0, 0, [], a3, 0, rfl, D8.out, Nat.le_refl _, ⟨.inl ⟨rfl, 0, rfl, by omega, rfl, hSER.out.2⟩⟩⟩
                case round =>
                  obtain ⟨j, hj, rfl, lv, A8, n8, c8, rs, a4, e6, rfl, hDI, hn8, hJ⟩ := hrel
                  have DI := Kept.mk hDI
                  have er6 := hDI.rd.err
                  have hgw := (Array.getElem?_eq_some_iff.1 hDI.box).1
                  have hpG := hDI.hg
                  have hbq := HBD.out
                  clear hDI
                  by_cases he6 : e6 = 0
                  · subst he6
                    obtain ⟨-, last, rfl, hlb, hrl, hsl⟩ := hJ.out.resolve_right (fun h => h.1 rfl)
                    clear hJ
                    by_cases hjk : j < kk
                    · have hjI : (j : Int) < (kk : Int) := by omega
                      have UI := Kept.mk (uintE_any w.heap.size a4 18446744073709551615 l 0 wr DI.out.rd)
                      have hle := Wr.uint_le l a4 Rc.mx 0
                      have hze := Wr.uint_zero l a4 Rc.mx 0
                      rw [show kk - j = (kk - (j + 1)) + 1 by omega] at hsl
                      have hBAD := fun x a1 e1 (h1 : Wr.uint l a4 0 Rc.mx = (x, a1, e1)) (h2 : e1 ≠ 0) => hsl.trans (Pe.sl_bad (kk - (j + 1)) h1 h2)
                      have hNO := fun x a1 (h1 : Wr.uint l a4 0 Rc.mx = (x, a1, 0)) h2 => hsl.trans (Pe.sl_no (kk - (j + 1)) h1 h2)
                      have hOK := fun x a1 (h1 : Wr.uint l a4 0 Rc.mx = (x, a1, 0)) h2 => hsl.trans (Pe.sl_ok (kk - (j + 1)) h1 h2)
                      have hemp : rs.isEmpty = decide (j = 0) := by
                        cases rs with
                        | nil => simp at hrl; simp [← hrl]
                        | cons a b => simp at hrl; simp [← hrl]
                      have ERR : ∀ (a1 : Nat) (e1 : Int), Pe.ser l bnd a2 = ([], a1, e1) → e1 ≠ 0 → M = ([], e1) := fun a1 e1 h1 h2 => by
                        have h3 := HXX.out.trans (Pe.el_ser (m - (k + 1)) hLB2.out hSER.out.1 h1 h2)
                        have h4 := HM.out
                        rw [h3] at h4
                        simp only [] at h4
                        rw [Pe.fin_err l a1 h2, if_pos h2] at h4
                        exact h4
                      unfold Rc.mx at hBAD hNO hOK hle hze
                      generalize Wr.uint l a4 0 18446744073709551615 = XU at *
                      obtain ⟨x, a5, e6⟩ := XU
                      simp only [] at UI hle hze
                      have hxm : x < 18446744073709551616 := by omega
                      have hr1 : j + 1 ≤ kk := hjk
                      have hn9 : n8 + 1 ≤ j + 1 := by omega
                      clear hsl hle
                      by_cases hok : e6 = 0 ∧ Pe.okD bnd last x rs.isEmpty = true
                      · obtain ⟨rfl, ho⟩ := hok
                        obtain ⟨s, hs⟩ : ∃ s, s = last + x := ⟨_, rfl⟩
                        have hM3 := hOK x a5 rfl ho
                        unfold Pe.okD at ho
                        rw [hemp] at ho
                        have ho1 : x < bnd - last := by
                          by_cases h : x < bnd - last
                          · exact h
                          · simp [h] at ho
                        rw [← hs] at hM3
                        have HM3 : Kept ((0 : Int) = 0 ∧ ∃ last' : Nat, (s : Int) = (last' : Int) ∧ last' ≤ bnd ∧ (rs ++ [(s : Int)]).length = j + 1 ∧ Pe.ser l bnd a2 = Pe.sl l bnd (kk - (j + 1)) last' (rs ++ [(s : Int)]) a5) := ⟨rfl, s, rfl, by omega, by simp [hrl], hM3⟩
                        have hws : IntKind.u64.wrap ((last : Int) + (x : Int)) = (s : Int) := by simp [IntKind.wrap, IntKind.bits, IntKind.signed]; omega
                        have hwi : IntKind.i64.wrap (s : Int) = (s : Int) := by simp [IntKind.wrap, IntKind.bits, IntKind.signed]; omega
                        have hx1 : ¬ (bnd : Int) ≤ (x : Int) := by omega
                        have hx2 : (x : Int) < (bnd : Int) := by omega
                        have hs1 : ¬ (bnd : Int) ≤ (s : Int) := by omega
                        have hs2 : (s : Int) < (bnd : Int) := by omega
                        clear hBAD hNO hOK ERR hM3 hs hze ho1
                        by_cases hj0 : j = 0
                        · subst hj0
                          clear ho hemp
                          go_wp2_with (first
                            | (at_builtin; refine wpList_appI rfl (.tmp 108) (.tmp 111) rfl (G + 1) A8 n8 c8 rs rfl (World.ownsRow.alloc DF.out.row _) (wf.heap.size + 1) _ _ _ [_] rfl (RdI.one wf _) (by have := HM9.out; have := HK9.out; omega) (by simp; have := (Array.getElem?_eq_some_iff.1 DF.out.box).1; omega) ?_; intro A9 c9 w6 hown hgrow hat; have hb6 : Below (G + 1) wf w6 := ((Below.refl _ _).alloc (by have := (Array.getElem?_eq_some_iff.1 DF.out.box).1; omega) _).grown hgrow (by simp; have := (Array.getElem?_eq_some_iff.1 DF.out.box).1; omega) (fun g hg => (own_lt DF.out.row g hg).1); have DP := Kept.mk (DF.out.push hb6 hown); have hx6 := (hb6.block G (by omega)).trans DF.out.box; have q2 := cell_of_row _ _ 2 _ _ _ hx6; have qf := fun k => frozen_of_row _ _ k _ _ hx6; clear hown hgrow hat hb6 hx6)
                            | (go_at_call 81; refine UI.out.mono ?_; rintro r wf ⟨rfl, hr, hg⟩; have DF := Kept.mk (DI.out.step hr hg); obtain ⟨z0, z1, z2, zf⟩ := DF.out.cells; clear hr hg UI))
                          go_roundw
                          case rel => exact ⟨1, by omega, rfl, _, A9, n8 + 1, c9, _, a5, 0, rfl, DP.out, by omega, ⟨.inl ⟨rfl, HM3.out.2⟩⟩⟩
                          case measure => simp [intOf]; omega
                        · have hj1 : (0 : Int) < (j : Int) := by omega
                          have hx0 : x ≠ 0 := by
                            simp [hj0] at ho
                            omega
                          have hx0' : ((x : Int) == 0) = false := by simpa using hx0
                          clear ho hemp
                          go_wp2_with (first
                            | (at_builtin; refine wpList_appI rfl (.tmp 108) (.tmp 111) rfl (G + 1) A8 n8 c8 rs rfl (World.ownsRow.alloc DF.out.row _) (wf.heap.size + 1) _ _ _ [_] rfl (RdI.one wf _) (by have := HM9.out; have := HK9.out; omega) (by simp; have := (Array.getElem?_eq_some_iff.1 DF.out.box).1; omega) ?_; intro A9 c9 w6 hown hgrow hat; have hb6 : Below (G + 1) wf w6 := ((Below.refl _ _).alloc (by have := (Array.getElem?_eq_some_iff.1 DF.out.box).1; omega) _).grown hgrow (by simp; have := (Array.getElem?_eq_some_iff.1 DF.out.box).1; omega) (fun g hg => (own_lt DF.out.row g hg).1); have DP := Kept.mk (DF.out.push hb6 hown); have hx6 := (hb6.block G (by omega)).trans DF.out.box; have q2 := cell_of_row _ _ 2 _ _ _ hx6; have qf := fun k => frozen_of_row _ _ k _ _ hx6; clear hown hgrow hat hb6 hx6)
                            | (go_at_call 81; refine UI.out.mono ?_; rintro r wf ⟨rfl, hr, hg⟩; have DF := Kept.mk (DI.out.step hr hg); obtain ⟨z0, z1, z2, zf⟩ := DF.out.cells; clear hr hg UI))
                          go_roundw
                          case rel => exact ⟨j + 1, by omega, by go_num, _, A9, n8 + 1, c9, _, a5, 0, rfl, DP.out, by omega, ⟨.inl ⟨rfl, HM3.out.2⟩⟩⟩
                          case measure => simp [intOf]; omega
                      · obtain ⟨e7, he7⟩ : ∃ e7, (if e6 = 0 then (22 : Int) else e6) = e7 := ⟨_, rfl⟩
                        have HE7 := Kept.mk he7
                        have HMF : Kept (e7 ≠ 0 ∧ M = ([], e7)) := ⟨by
                          by_cases h6 : e6 = 0
                          · subst h6
                            rw [if_pos rfl] at he7
                            subst he7
                            have ho : Pe.okD bnd last x rs.isEmpty = false := by
                              cases hq : Pe.okD bnd last x rs.isEmpty with
                              | false => rfl
                              | true => exact absurd ⟨rfl, hq⟩ hok
                            exact ⟨by simp, ERR a5 22 (hNO x a5 rfl ho) (by simp)⟩
                          · rw [if_neg h6] at he7
                            subst he7
                            exact ⟨h6, ERR a5 e6 (hBAD x a5 e6 rfl h6) h6⟩⟩
                        have hcase : ¬ (x < bnd ∧ last + x < bnd ∧ (j = 0 ∨ 0 < x)) ∨ (e6 ≠ 0 ∧ x = 0 ∧ 0 < bnd ∧ last < bnd ∧ j = 0) := by
                          by_cases hc : x < bnd ∧ last + x < bnd ∧ (j = 0 ∨ 0 < x)
                          · by_cases h6 : e6 = 0
                            · refine absurd ⟨h6, ?_⟩ hok
                              unfold Pe.okD
                              rw [hemp, decide_eq_true (show x < bnd - last by omega)]
                              rcases hc.2.2 with h | h
                              · simp [h]
                              · simp [h]
                            · have hx0 := hze h6
                              refine .inr ⟨h6, hx0, by omega, by omega, by omega⟩
                          · exact .inl hc
                        clear hBAD hNO hOK ERR hze hemp hok he7 hrl
                        obtain ⟨s, hs⟩ : ∃ s : Nat, s = (last + x) % 18446744073709551616 := ⟨_, rfl⟩
                        have hws : IntKind.u64.wrap ((last : Int) + (x : Int)) = (s : Int) := by simp [IntKind.wrap, IntKind.bits, IntKind.signed]; omega
                        rcases hcase with hc | ⟨h6, rfl, hb0, hlb0, rfl⟩
                        · by_cases hx : x < bnd
                          · have hx1 : ¬ (bnd : Int) ≤ (x : Int) := by omega
                            have hx2 : (x : Int) < (bnd : Int) := by omega
                            have hss : s = last + x := by omega
                            by_cases hlx : last + x < bnd
                            · have hj0 : j ≠ 0 := fun h => hc ⟨hx, hlx, .inl h⟩
                              have hx0 : x = 0 := by
                                by_cases h : 0 < x
                                · exact absurd ⟨hx, hlx, .inr h⟩ hc
                                · omega
                              have hj1 : (0 : Int) < (j : Int) := by omega
                              subst hx0
                              obtain rfl : s = last := by omega
                              clear hx1 hx2
                              have hb0 : 0 < bnd := by omega
                              have hlb0 : s < bnd := by omega
                              have hx1 : ¬ (bnd : Int) ≤ 0 := by omega
                              have hx2 : (0 : Int) < (bnd : Int) := by omega
                              have hs1 : ¬ (bnd : Int) ≤ (s : Int) := by omega
                              have hs2 : (s : Int) < (bnd : Int) := by omega
                              clear hc hss hs hlx hx
                              go_wp2_with (first
                                | (at_builtin; refine wpList_appI rfl (.tmp 108) (.tmp 111) rfl (G + 1) A8 n8 c8 rs rfl (World.ownsRow.alloc DF.out.row _) (wf.heap.size + 1) _ _ _ [_] rfl (RdI.one wf _) (by have := HM9.out; have := HK9.out; omega) (by simp; have := (Array.getElem?_eq_some_iff.1 DF.out.box).1; omega) ?_; intro A9 c9 w6 hown hgrow hat; have hb6 : Below (G + 1) wf w6 := ((Below.refl _ _).alloc (by have := (Array.getElem?_eq_some_iff.1 DF.out.box).1; omega) _).grown hgrow (by simp; have := (Array.getElem?_eq_some_iff.1 DF.out.box).1; omega) (fun g hg => (own_lt DF.out.row g hg).1); have DP := Kept.mk (DF.out.push hb6 hown); have hx6 := (hb6.block G (by omega)).trans DF.out.box; have q2 := cell_of_row _ _ 2 _ _ _ hx6; have qf := fun k => frozen_of_row _ _ k _ _ hx6; clear hown hgrow hat hb6 hx6)
                                | (go_at_call 67; refine (failE_any w.heap.size a5 l e6 22 _ DU.out.rd).mono ?_; rintro r wf ⟨rfl, hr, hg⟩; rw [HE7.out] at hr; have DF := Kept.mk (DU.out.step hr hg); obtain ⟨z0, z1, z2, zf⟩ := DF.out.cells; clear hr hg)
                                | (go_at_call 81; refine UI.out.mono ?_; rintro r wu ⟨rfl, hr, hg⟩; have DU := Kept.mk (DI.out.step hr hg); clear hr hg UI))
                              go_roundw
                              case rel => exact ⟨j + 1, by omega, by go_num, _, A9, n8 + 1, c9, _, a5, e7, rfl, DP.out, by omega, ⟨.inr HMF.out⟩⟩
                              case measure => simp [intOf]; omega
                            · have hs1 : (bnd : Int) ≤ (s : Int) := by omega
                              have hs2 : ¬ (s : Int) < (bnd : Int) := by omega
                              clear hc hss hs hlx
                              go_wp2_with (first
                                | (at_builtin; refine wpList_appI rfl (.tmp 108) (.tmp 111) rfl (G + 1) A8 n8 c8 rs rfl (World.ownsRow.alloc DF.out.row _) (wf.heap.size + 1) _ _ _ [_] rfl (RdI.one wf _) (by have := HM9.out; have := HK9.out; omega) (by simp; have := (Array.getElem?_eq_some_iff.1 DF.out.box).1; omega) ?_; intro A9 c9 w6 hown hgrow hat; have hb6 : Below (G + 1) wf w6 := ((Below.refl _ _).alloc (by have := (Array.getElem?_eq_some_iff.1 DF.out.box).1; omega) _).grown hgrow (by simp; have := (Array.getElem?_eq_some_iff.1 DF.out.box).1; omega) (fun g hg => (own_lt DF.out.row g hg).1); have DP := Kept.mk (DF.out.push hb6 hown); have hx6 := (hb6.block G (by omega)).trans DF.out.box; have q2 := cell_of_row _ _ 2 _ _ _ hx6; have qf := fun k => frozen_of_row _ _ k _ _ hx6; clear hown hgrow hat hb6 hx6)
                                | (go_at_call 67; refine (failE_any w.heap.size a5 l e6 22 _ DU.out.rd).mono ?_; rintro r wf ⟨rfl, hr, hg⟩; rw [HE7.out] at hr; have DF := Kept.mk (DU.out.step hr hg); obtain ⟨z0, z1, z2, zf⟩ := DF.out.cells; clear hr hg)
                                | (go_at_call 81; refine UI.out.mono ?_; rintro r wu ⟨rfl, hr, hg⟩; have DU := Kept.mk (DI.out.step hr hg); clear hr hg UI))
                              go_roundw
                              case rel => exact ⟨j + 1, by omega, by go_num, _, A9, n8 + 1, c9, _, a5, e7, rfl, DP.out, by omega, ⟨.inr HMF.out⟩⟩
                              case measure => simp [intOf]; omega
                          · have hx1 : (bnd : Int) ≤ (x : Int) := by omega
                            have hx2 : ¬ (x : Int) < (bnd : Int) := by omega
                            clear hc hs
                            go_wp2_with (first
                              | (at_builtin; refine wpList_appI rfl (.tmp 108) (.tmp 111) rfl (G + 1) A8 n8 c8 rs rfl (World.ownsRow.alloc DF.out.row _) (wf.heap.size + 1) _ _ _ [_] rfl (RdI.one wf _) (by have := HM9.out; have := HK9.out; omega) (by simp; have := (Array.getElem?_eq_some_iff.1 DF.out.box).1; omega) ?_; intro A9 c9 w6 hown hgrow hat; have hb6 : Below (G + 1) wf w6 := ((Below.refl _ _).alloc (by have := (Array.getElem?_eq_some_iff.1 DF.out.box).1; omega) _).grown hgrow (by simp; have := (Array.getElem?_eq_some_iff.1 DF.out.box).1; omega) (fun g hg => (own_lt DF.out.row g hg).1); have DP := Kept.mk (DF.out.push hb6 hown); have hx6 := (hb6.block G (by omega)).trans DF.out.box; have q2 := cell_of_row _ _ 2 _ _ _ hx6; have qf := fun k => frozen_of_row _ _ k _ _ hx6; clear hown hgrow hat hb6 hx6)
                              | (go_at_call 67; refine (failE_any w.heap.size a5 l e6 22 _ DU.out.rd).mono ?_; rintro r wf ⟨rfl, hr, hg⟩; rw [HE7.out] at hr; have DF := Kept.mk (DU.out.step hr hg); obtain ⟨z0, z1, z2, zf⟩ := DF.out.cells; clear hr hg)
                              | (go_at_call 81; refine UI.out.mono ?_; rintro r wu ⟨rfl, hr, hg⟩; have DU := Kept.mk (DI.out.step hr hg); clear hr hg UI))
                            go_roundw
                            case rel => exact ⟨j + 1, by omega, by go_num, _, A9, n8 + 1, c9, _, a5, e7, rfl, DP.out, by omega, ⟨.inr HMF.out⟩⟩
                            case measure => simp [intOf]; omega
                        · have hx1 : ¬ (bnd : Int) ≤ 0 := by omega
                          have hx2 : (0 : Int) < (bnd : Int) := by omega
                          have hsl0 : s = last := by omega
                          subst hsl0
                          have hs1 : ¬ (bnd : Int) ≤ (s : Int) := by omega
                          have hs2 : (s : Int) < (bnd : Int) := by omega
                          have HMG : Kept (e6 ≠ 0 ∧ M = ([], e6)) := ⟨by have := HMF.out; rw [← HE7.out, if_neg h6] at this; exact this⟩
                          clear hs h6
                          go_wp2_with (first
                            | (at_builtin; refine wpList_appI rfl (.tmp 108) (.tmp 111) rfl (G + 1) A8 n8 c8 rs rfl (World.ownsRow.alloc DF.out.row _) (wf.heap.size + 1) _ _ _ [_] rfl (RdI.one wf _) (by have := HM9.out; have := HK9.out; omega) (by simp; have := (Array.getElem?_eq_some_iff.1 DF.out.box).1; omega) ?_; intro A9 c9 w6 hown hgrow hat; have hb6 : Below (G + 1) wf w6 := ((Below.refl _ _).alloc (by have := (Array.getElem?_eq_some_iff.1 DF.out.box).1; omega) _).grown hgrow (by simp; have := (Array.getElem?_eq_some_iff.1 DF.out.box).1; omega) (fun g hg => (own_lt DF.out.row g hg).1); have DP := Kept.mk (DF.out.push hb6 hown); have hx6 := (hb6.block G (by omega)).trans DF.out.box; have q2 := cell_of_row _ _ 2 _ _ _ hx6; have qf := fun k => frozen_of_row _ _ k _ _ hx6; clear hown hgrow hat hb6 hx6)
                            | (go_at_call 81; refine UI.out.mono ?_; rintro r wf ⟨rfl, hr, hg⟩; have DF := Kept.mk (DI.out.step hr hg); obtain ⟨z0, z1, z2, zf⟩ := DF.out.cells; clear hr hg UI))
                          go_roundw
                          case rel => exact ⟨1, by omega, rfl, _, A9, n8 + 1, c9, _, a5, e6, rfl, DP.out, by omega, ⟨.inr HMG.out⟩⟩
                          case measure => simp [intOf]; omega
                    · obtain rfl : j = kk := by omega
                      rw [Nat.sub_self, Pe.sl_zero] at hsl
                      have HXF := HXX.out.trans (Pe.el_ok (m - (k + 1)) hLB2.out hSER.out.1 hsl rfl)
                      simp only [] at HXF
                      have HXG := Kept.mk HXF
                      have haL : (acc ++ [((⟨s1, s2⟩ : Lab), rs)]).length = k + 1 := by have := HL.out; simp [this]
                      clear hsl HXF
                      obtain ⟨z0, z1, z2, zf⟩ := DI.out.cells
                      go_wp2_with (at_builtin; refine wpList_appER (y := ⟨s1, s2⟩) (s := rs) rfl (.tmp 114) (.tmp 116) rfl (w.heap.size + 1) A2 n2 c2 acc rfl DI.out.en _ rfl rfl (show OwnI _ 0 _ _ _ rs from own_rebase DI.out.row (Nat.zero_le _)) (by have := HM9.out; omega) (by have := DI.out.below.size; have := DI.out.rd.lt; omega) ?_; intro A9 c9 w13 ho9 hb9; have O10 := Kept.mk ho9; have B10 := Kept.mk hb9; clear ho9 hb9)
                      go_roundw
                      case rel => exact ⟨k + 1, by omega, by go_num, A9, n2 + 1, c9, _, a4, 0, rfl, ⟨O10.out, DI.out.rd.below B10.out (by omega), Rd.below DI.out.tb (B10.out.mono (by omega)), DI.out.below.trans (B10.out.mono (by omega)), Nat.le_refl _⟩, ⟨.inl ⟨rfl, HXG.out, haL⟩⟩, by omega⟩
                      case measure => simp [intOf]; omega
                  · have HMe := Kept.mk (hJ.out.resolve_left (fun h => he6 h.1)).2
                    have he6b : (e6 == 0) = false := by simpa using he6
                    have HE6 := Kept.mk he6
                    clear hJ
                    obtain ⟨z0, z1, z2, zf⟩ := DI.out.cells
                    by_cases hjk : j < kk
                    · have hjI : (j : Int) < (kk : Int) := by omega
                      go_wp2_with (at_builtin; refine wpList_appER (y := ⟨s1, s2⟩) (s := rs) rfl (.tmp 114) (.tmp 116) rfl (w.heap.size + 1) A2 n2 c2 acc rfl DI.out.en _ rfl rfl (show OwnI _ 0 _ _ _ rs from own_rebase DI.out.row (Nat.zero_le _)) (by have := HM9.out; omega) (by have := DI.out.below.size; have := DI.out.rd.lt; omega) ?_; intro A9 c9 w13 ho9 hb9; have O10 := Kept.mk ho9; have B10 := Kept.mk hb9; clear ho9 hb9)
                      go_roundw
                      case rel => exact ⟨k + 1, by omega, by go_num, A9, n2 + 1, c9, _, a4, e6, rfl, ⟨O10.out, DI.out.rd.below B10.out (by omega), Rd.below DI.out.tb (B10.out.mono (by omega)), DI.out.below.trans (B10.out.mono (by omega)), Nat.le_refl _⟩, ⟨.inr ⟨HE6.out, HMe.out⟩⟩, by omega⟩
                      case measure => simp [intOf]; omega
                    · obtain rfl : j = kk := by omega
                      go_wp2_with (at_builtin; refine wpList_appER (y := ⟨s1, s2⟩) (s := rs) rfl (.tmp 114) (.tmp 116) rfl (w.heap.size + 1) A2 n2 c2 acc rfl DI.out.en _ rfl rfl (show OwnI _ 0 _ _ _ rs from own_rebase DI.out.row (Nat.zero_le _)) (by have := HM9.out; omega) (by have := DI.out.below.size; have := DI.out.rd.lt; omega) ?_; intro A9 c9 w13 ho9 hb9; have O10 := Kept.mk ho9; have B10 := Kept.mk hb9; clear ho9 hb9)
                      go_roundw
                      case rel => exact ⟨k + 1, by omega, by go_num, A9, n2 + 1, c9, _, a4, e6, rfl, ⟨O10.out, DI.out.rd.below B10.out (by omega), Rd.below DI.out.tb (B10.out.mono (by omega)), DI.out.below.trans (B10.out.mono (by omega)), Nat.le_refl _⟩, ⟨.inr ⟨HE6.out, HMe.out⟩⟩, by omega⟩
                      case measure => simp [intOf]; omega
        · obtain rfl : k = m := by omega
          rw [Nat.sub_self, Pe.el_zero] at hd1
          obtain ⟨F, hF⟩ : ∃ F, Wr.fin l at_ 0 = F := ⟨_, rfl⟩
          have HF := Kept.mk hF
          have HM1 := HM.out
          rw [hd1] at HM1
          simp only [] at HM1
          rw [hF] at HM1
          clear hd1 hd2 hF
          by_cases hf : F = 0
          · subst hf
            have HM2 : Kept (M = (acc, 0)) := ⟨by rw [HM1]; simp⟩
            clear HM1
            go_wp2_with (go_at_call 68; refine (endE_any w.heap.size at_ l 0 _ D.out.rd).mono ?_; rintro r wE ⟨hrE, hq⟩; rw [HF.out] at hrE; subst hrE; have BQ := Kept.mk (hq.below wr.heap.size); clear hq)
            go_ret2
            refine ⟨A2, n2, c2, ?_, ?_, D.out.below.trans (BQ.out.mono hzr)⟩
            · rw [HM2.out]; rfl
            · rw [HM2.out]; exact D.out.own.rd.on BQ.out
          · have hfb : (F == 0) = false := by simpa using hf
            have hfn : (F != 0) = true := by simpa using hf
            have HM2 : Kept (M = ([], F)) := ⟨by rw [HM1, if_pos hf]⟩
            clear HM1
            go_wp2_with (first
              | (go_at_call 68; refine (endE_any w.heap.size at_ l 0 _ R2.out).mono ?_; rintro r wF ⟨hrE, hq⟩; rw [HF.out] at hrE; subst hrE; have BQ2 := Kept.mk (BQ.out.trans ((hq.below wE.heap.size).mono BQ.out.size)); clear hq)
              | (go_at_call 68; refine (endE_any w.heap.size at_ l 0 _ D.out.rd).mono ?_; rintro r wE ⟨hrE, hq⟩; rw [HF.out] at hrE; subst hrE; have BQ := Kept.mk (hq.below wr.heap.size); have R2 := Kept.mk (D.out.rd.below BQ.out D.out.rd.lt); clear hq))
            go_ret2
            refine ⟨none, 0, 0, ?_, ?_, D.out.below.trans (BQ2.out.mono hzr)⟩
            · rw [HM2.out]; rfl
            · rw [HM2.out]; exact RdEn.nil _ _
      · have HMe := Kept.mk (hI.out.resolve_left (fun h => he h.1)).2
        have heb : (e == 0) = false := by simpa using he
        obtain ⟨F, hF⟩ : ∃ F, Wr.fin l at_ e = F := ⟨_, rfl⟩
        have HF := Kept.mk hF
        have hFe : F = e := by rw [← hF]; exact Pe.fin_err l at_ he
        have hf : F ≠ 0 := by rw [hFe]; exact he
        have hfb : (F == 0) = false := by simpa using hf
        have hfn : (F != 0) = true := by simpa using hf
        have HM2 : Kept (M = ([], F)) := ⟨by rw [hFe]; exact HMe.out⟩
        clear hF hFe hI
        by_cases hlt : k < m
        · go_wp2_with (first
            | (go_at_call 68; refine (endE_any w.heap.size at_ l e _ R2.out).mono ?_; rintro r wF ⟨hrE, hq⟩; rw [HF.out] at hrE; subst hrE; have BQ2 := Kept.mk (BQ.out.trans ((hq.below wE.heap.size).mono BQ.out.size)); clear hq)
            | (go_at_call 68; refine (endE_any w.heap.size at_ l e _ D.out.rd).mono ?_; rintro r wE ⟨hrE, hq⟩; rw [HF.out] at hrE; subst hrE; have BQ := Kept.mk (hq.below wr.heap.size); have R2 := Kept.mk (D.out.rd.below BQ.out D.out.rd.lt); clear hq))
          go_ret2
          refine ⟨none, 0, 0, ?_, ?_, D.out.below.trans (BQ2.out.mono hzr)⟩
          · rw [HM2.out]; rfl
          · rw [HM2.out]; exact RdEn.nil _ _
        · obtain rfl : k = m := by omega
          go_wp2_with (first
            | (go_at_call 68; refine (endE_any w.heap.size at_ l e _ R2.out).mono ?_; rintro r wF ⟨hrE, hq⟩; rw [HF.out] at hrE; subst hrE; have BQ2 := Kept.mk (BQ.out.trans ((hq.below wE.heap.size).mono BQ.out.size)); clear hq)
            | (go_at_call 68; refine (endE_any w.heap.size at_ l e _ D.out.rd).mono ?_; rintro r wE ⟨hrE, hq⟩; rw [HF.out] at hrE; subst hrE; have BQ := Kept.mk (hq.below wr.heap.size); have R2 := Kept.mk (D.out.rd.below BQ.out D.out.rd.lt); clear hq))
          go_ret2
          refine ⟨none, 0, 0, ?_, ?_, D.out.below.trans (BQ2.out.mono hzr)⟩
          · rw [HM2.out]; rfl
          · rw [HM2.out]; exact RdEn.nil _ _
end Go.Proofs.Ythhcfocmaiacoaa
