/- Chapter 15: the program's Encode. -/
import Derived.Test.YthhcfocmaiacoaaPostA
import Derived.Test.YthhcfocmaiacoaaSymL
import Derived.Test.YthhcfocmaiacoaaSymD
namespace Go.Proofs.Ythhcfocmaiacoaa
open Go.RowKit Go.Shelf

namespace Pe
/-- the differences of a row -/
def gap : Int → List Int → List UInt8
  | _, [] => []
  | a, x :: r => Vi.enc (x - a).toNat ++ gap x r
/-- a row that does not fall, from a number on -/
def Up : Int → List Int → Prop
  | _, [] => True
  | a, x :: r => a ≤ x ∧ x < 9223372036854775808 ∧ Up x r
def okE (T : List ByteArray) (e : EntV) : Bool := (Sy.idx T e.1.n).isSome && (Sy.idx T e.1.v).isSome
def entE (T : List ByteArray) (e : EntV) : List UInt8 := Rc.symE T e.1.n ++ Rc.symE T e.1.v ++ (Vi.enc e.2.length ++ gap 0 e.2)
def encB (T : List ByteArray) (E : List EntV) : List UInt8 := Vi.enc E.length ++ E.flatMap (entE T)
def enc (T : List ByteArray) (E : List EntV) : List UInt8 × Int := if E.all (okE T) = true then (encB T E, 0) else ([], 14)
theorem Up.get : ∀ {l : List Int} {a : Int} (_ : Up a l) {k : Nat} (hk : k < l.length), (a :: l)[k]'(by simp; omega) ≤ l[k] ∧ l[k] < 9223372036854775808
  | x :: r, a, h, 0, _ => ⟨h.1, h.2.1⟩
  | x :: r, a, h, k + 1, hk => by
    have := Up.get (a := x) h.2.2 (k := k) (by simpa using hk)
    simpa using this
theorem Up.nn : ∀ {l : List Int} {a : Int} (_ : Up a l) (_ : 0 ≤ a) {k : Nat} (hk : k < l.length + 1), 0 ≤ (a :: l)[k]'(by simpa using hk)
  | [], a, _, h0, 0, _ => h0
  | x :: r, a, _, h0, 0, _ => h0
  | x :: r, a, h, h0, k + 1, hk => by
    have := Up.nn (a := x) h.2.2 (by have := h.1; omega) (k := k) (by simpa using hk)
    simpa using this
theorem gap_at {l : List Int} {a : Int} {k : Nat} (hk : k < l.length) : gap ((a :: l)[k]'(by simp; omega)) (l.drop k) = Vi.enc (l[k] - (a :: l)[k]'(by simp; omega)).toNat ++ gap ((a :: l)[k + 1]'(by simp; omega)) (l.drop (k + 1)) := by
  rw [List.drop_eq_getElem_cons hk, gap, List.getElem_cons_succ]
end Pe
/-- what stays while the bytes grow: the box of the entry and the row of its two strings -/
structure Be (w W : World) (A : Option Addr) (n c : Nat) (l : List UInt8) (G H : Nat) (x y : ByteArray) (u : Value) : Prop where
  own : OwnB W w.heap.size A n c l
  below : Below w.heap.size w W
  box : W.heap[G]? = some (.cells #[.string x, .string y, u] 110 (0, 0))
  strs : W.heap[H]? = some (.cells #[.string x, .string y] 9 (0, 0))
theorem Be.cells {w W : World} {A : Option Addr} {n c G H : Nat} {l : List UInt8} {x y : ByteArray} {u : Value} (h : Be w W A n c l G H x y u) :
    W.cell? ⟨G, 0, none⟩ = some (.string x) ∧ W.cell? ⟨G, 1, none⟩ = some (.string y) ∧ W.cell? ⟨G, 2, none⟩ = some u ∧ W.cell? ⟨H, 0, none⟩ = some (.string x) ∧ W.cell? ⟨H, 1, none⟩ = some (.string y) :=
  ⟨cell_row W G 0 _ _ _ h.box, cell_row W G 1 _ _ _ h.box, cell_row W G 2 _ _ _ h.box, cell_row W H 0 _ _ _ h.strs, cell_row W H 1 _ _ _ h.strs⟩
theorem Be.drewN {w W : World} {A : Option Addr} {n c G H : Nat} {l : List UInt8} {x y : ByteArray} {u : Value} (h : Be w W A n c l G H x y u) (q : Nat) : Be w (W.drewN q) A n c l G H x y u :=
  ⟨h.own, below_drewN h.below q, h.box, h.strs⟩
theorem be_app {w W : World} {A : Option Addr} {n c G H k : Nat} {l : List UInt8} {x y : ByteArray} {u : Value} (h : Be w W A n c l G H x y u) (hx : k < 18446744073709551616) (hn : n ≤ 140737488355000) :
    Calls Try.prog 52 #[.slice A n c, .int .u64 (k : Int)] W fun e w' => ∃ A3 n3 c3, e = .returned (.slice A3 n3 c3) ∧ Be w w' A3 n3 c3 (l ++ Vi.enc k) G H x y u :=
  (vappend_any A n c w.heap.size k l W h.own h.below.size hx hn).mono fun e w' ⟨A3, n3, c3, h1, h2, h3, _⟩ =>
    ⟨A3, n3, c3, h1, h2, h.below.trans (own_grown_below h.own h.below.size h3),
      (h3.block G (Array.getElem?_eq_some_iff.1 h.box).1 (Ne.symm (h.own.apartT h.box (by decide)))).trans h.box,
      (h3.block H (Array.getElem?_eq_some_iff.1 h.strs).1 (Ne.symm (h.own.apartT h.strs (by decide)))).trans h.strs⟩
theorem Up_step {a x : Int} (h0 : 0 ≤ a) (h1 : a ≤ x) (h2 : x < 9223372036854775808) : ∃ g : Nat, (x - a).toNat = g ∧ IntKind.i64.wrap (x - a) = (g : Int) ∧ IntKind.u64.wrap (g : Int) = (g : Int) ∧ g < 18446744073709551616 := by
  refine ⟨(x - a).toNat, rfl, ?_, ?_, by omega⟩
  · rw [Int.toNat_of_nonneg (by omega)]
    simp [IntKind.wrap, IntKind.bits, IntKind.signed]; omega
  · exact wrap_u64 _ (by omega) (by omega)
theorem own_keepI' {w w' : World} {base n c : Nat} {A : Option Addr} {l : List Int} (h : OwnI w base A n c l) (hb : Below w.heap.size w w') : OwnI w' base A n c l := own_keep h hb
set_option maxRecDepth 100000 in
set_option maxHeartbeats 8000000 in
theorem encodeP_any (TA A : Option Addr) (tn tc n c : Nat) (T : List ByteArray) (es : List EntV) (w : World) (hT : RdS w w.heap.size TA tn tc T) (hS : Sy.Srt T) (hv : RdEn w w.heap.size A n c es) (htn : tn ≤ 1000000)
    (hn : n ≤ 1000000) (hr : ∀ e ∈ es, e.2.length ≤ 1000000 ∧ Pe.Up 0 e.2) (hsz : (Pe.encB T es).length ≤ 1000000000) :
    Calls Try.prog 35 #[.slice TA tn tc, .slice A n c] w fun e w' => ∃ A3 n3 c3, e = .returned (.tuple #[.slice A3 n3 c3, .int .i64 (Pe.enc T es).2]) ∧ OwnB w' w.heap.size A3 n3 c3 (Pe.enc T es).1 ∧ Below w.heap.size w w' := by
  obtain ⟨hlc, hcm⟩ := hv.cap
  unfold maxLen at hcm
  have HN := Kept.mk hv.len
  have V := Kept.mk hv
  have VT := Kept.mk hT
  have HR := Kept.mk hr
  have HS := Kept.mk hS
  obtain ⟨M, hM⟩ : ∃ M, M = Pe.enc T es := ⟨_, rfl⟩
  rw [← hM]
  obtain ⟨E, hE⟩ : ∃ E, E = Pe.encB T es := ⟨_, rfl⟩
  rw [← hE] at hsz
  have HE := Kept.mk hE
  have HM : Kept (M = if es.all (Pe.okE T) = true then (E, 0) else ([], 14)) := ⟨by rw [hM, hE]; rfl⟩
  have SZ := Kept.mk hsz
  have hwn := wrap_u64 (n : Int) (by omega) (by omega)
  clear hv hT hr hM hE hS hsz
  go_enter Try.func35, Try.ntmps35
  go_upto_region 3 with (go_at_call 52; refine (vappend_any none 0 0 w.heap.size n [] _ (OwnB.nil _ _) (Nat.le_refl _) (by omega) (by omega)).mono ?_; rintro e w1 ⟨A1, n1, c1, rfl, ho1, hg1, -⟩; have O1 := Kept.mk ho1; have B1 := Kept.mk (own_grown_below (OwnB.nil w w.heap.size) (Nat.le_refl _) hg1); clear ho1 hg1)
  go_loopw [6, 22] (fun b i wr => ∃ k : Nat, k ≤ n ∧ i = .int .i64 k ∧ ∃ (A2 : Option Addr) (n2 c2 : Nat) (bl : List UInt8), b = .slice A2 n2 c2 ∧ OwnB wr w.heap.size A2 n2 c2 bl ∧ Below w.heap.size w wr ∧ Kept (bl ++ (es.drop k).flatMap (Pe.entE T) = E ∧ es.all (Pe.okE T) = (es.drop k).all (Pe.okE T))) (fun _ i _ => n - (intOf i).toNat)
  case atStart => exact ⟨0, by omega, rfl, A1, n1, c1, _, rfl, O1.out, B1.out, ⟨by rw [HE.out, Pe.encB, HN.out]; simp, rfl⟩⟩
  case round =>
    clear O1 B1
    obtain ⟨k, hk, rfl, A2, n2, c2, bl, rfl, ho, hb, hd⟩ := hrel
    by_cases hlt : k < n
    · have hkl : k < es.length := by rw [← HN.out]; exact hlt
      obtain ⟨b, off, A3, n3, c3, rfl, hbB, hL, hc⟩ := V.out.cells (Nat.le_refl _) hkl
      obtain ⟨r0, r1, r2⟩ := hc wr hb
      obtain ⟨h6a, h6b⟩ := HR.out _ (List.getElem_mem hkl)
      have hdg := Rc.drop_get es k hkl
      have hd1 := hd.out.1
      have hd2 := hd.out.2
      rw [hdg] at hd1 hd2
      rw [List.flatMap_cons] at hd1
      rw [List.all_cons] at hd2
      unfold Pe.entE at hd1
      clear hd hdg hc
      obtain ⟨R, hRR⟩ : ∃ R, R = (es.drop (k + 1)).flatMap (Pe.entE T) := ⟨_, rfl⟩
      have HRR := Kept.mk hRR
      unfold Pe.entE at hRR
      rw [← hRR] at hd1
      clear hRR
      obtain ⟨Q, hQQ⟩ : ∃ Q, Q = (es.drop (k + 1)).all (Pe.okE T) := ⟨_, rfl⟩
      have HQQ := Kept.mk hQQ
      rw [← hQQ] at hd2
      clear hQQ
      generalize es[k] = ek at *
      obtain ⟨⟨xn, xv⟩, s⟩ := ek
      simp only [] at hL h6a h6b hd1 hd2 r0 r1 r2
      have HL := Kept.mk hL
      have hl3 := OwnI.len hL
      have hc3 := (OwnI.rd hL).1
      have hm3 := (OwnI.rd hL).2.1
      unfold maxLen at hm3
      have h36 : n3 ≤ 1000000 := by omega
      have hw3 := wrap_u64 (n3 : Int) (by omega) (by omega)
      have H3 := Kept.mk hl3
      have UP := Kept.mk h6b
      have hbz := hb.size
      obtain ⟨TL, hTL⟩ : ∃ TL, TL = Vi.enc s.length ++ (Pe.gap 0 s ++ R) := ⟨_, rfl⟩
      have D1 : Kept (bl ++ (([xn, xv] : List ByteArray).flatMap (Rc.symE T) ++ TL) = E) := ⟨by rw [← hd1, hTL]; simp⟩
      have D2 : Kept (es.all (Pe.okE T) = (([xn, xv] : List ByteArray).all (fun z => (Sy.idx T z).isSome) && Q)) := ⟨by rw [hd2]; simp [Pe.okE]⟩
      have HTL := Kept.mk hTL
      have X1 : Kept (Be w ((wr.alloc (.cells #[.string xn, .string xv, .slice A3 n3 c3] 110)).alloc (.cells #[.string xn, .string xv] 9)) A2 n2 c2 bl wr.heap.size (wr.heap.size + 1) xn xv (.slice A3 n3 c3)) :=
        ⟨⟨World.ownsRow.alloc (World.ownsRow.alloc ho _) _, (hb.alloc hbz _).alloc (by simp; omega) _,
          (Below.heap_alloc _ _ _ (by simp)).trans (heap_alloc_new wr _), by
            have := heap_alloc_new (wr.alloc (.cells #[.string xn, .string xv, .slice A3 n3 c3] 110)) (.cells #[.string xn, .string xv] 9)
            rw [World.size_alloc] at this; exact this⟩⟩
      clear hd1 hd2 hl3 hTL hL ho hb h6a h6b
      go_upto_region 6 with (fail)
      clear r0 r1 r2 hbz
      generalize (wr.alloc (.cells #[.string xn, .string xv, .slice A3 n3 c3] 110)).alloc (.cells #[.string xn, .string xv] 9) = w2 at *
      generalize wr.heap.size + 1 = H at *
      generalize wr.heap.size = G at *
      go_loopw [6, 34] (fun b j wi => ∃ i : Nat, i ≤ 2 ∧ j = .int .i64 i ∧ ∃ (A7 : Option Addr) (n7 c7 : Nat) (bm : List UInt8), b = .slice A7 n7 c7 ∧ Be w wi A7 n7 c7 bm G H xn xv (.slice A3 n3 c3) ∧ Kept (bm ++ ((([xn, xv] : List ByteArray).drop i).flatMap (Rc.symE T) ++ TL) = E ∧ es.all (Pe.okE T) = ((([xn, xv] : List ByteArray).drop i).all (fun z => (Sy.idx T z).isSome) && Q))) (fun _ j _ => 2 - (intOf j).toNat)
      case atStart => exact ⟨0, by omega, rfl, A2, n2, c2, bl, rfl, X1.out, ⟨D1.out, D2.out⟩⟩
      case round =>
        clear X1 D1 D2
        obtain ⟨i, hi, rfl, A7, n7, c7, bm, rfl, hx, hd⟩ := hrel
        have hn7 : n7 ≤ 1000000000 := by
          have h1 := hx.own.len
          have h2 := SZ.out
          rw [← hd.out.1] at h2
          simp at h2
          omega
        by_cases hlt2 : i < 2
        · have hil : i < ([xn, xv] : List ByteArray).length := hlt2
          have z0 : wr.cell? ⟨H, i, none⟩ = some (.string ([xn, xv] : List ByteArray)[i]) := by
            obtain ⟨-, -, -, h3, h4⟩ := hx.cells
            match i, hil with
            | 0, _ => exact h3
            | 1, _ => exact h4
          have hd1 := hd.out.1
          have hd2 := hd.out.2
          rw [Rc.drop_get _ i hil] at hd1 hd2
          rw [List.flatMap_cons] at hd1
          rw [List.all_cons] at hd2
          have X := Kept.mk hx
          have SI := fun s => Kept.mk (sindex_any TA tn tc T s wr ((VT.out.below hx.below).more hx.below.size) HS.out htn)
          have hsT : Rc.symE T ([xn, xv] : List ByteArray)[i] = Vi.enc ((Sy.idx T ([xn, xv] : List ByteArray)[i]).getD 0) := rfl
          rw [hsT] at hd1
          have SI1 := SI ([xn, xv] : List ByteArray)[i]
          have hIX := fun k (h : Sy.idx T ([xn, xv] : List ByteArray)[i] = some k) => Sy.idx_some h
          clear hx SI hsT hd
          generalize ([xn, xv] : List ByteArray)[i] = s2 at *
          generalize Sy.idx T s2 = o at *
          cases o with
          | none =>
            simp only [Option.isSome_none, Option.getD_none] at SI1
            have HM2 : Kept (M = ([], 14)) := ⟨by rw [HM.out, hd2]; simp⟩
            clear hd1 hd2 hIX
            go_wp2_with (go_at_call 19; refine SI1.out.mono ?_; rintro e w4 ⟨rfl, q, rfl⟩)
            go_ret2
            refine ⟨none, 0, 0, ?_, ?_, below_drewN X.out.below q⟩
            · rw [HM2.out]; rfl
            · rw [HM2.out]; exact OwnB.nil _ _
          | some k2 =>
            obtain ⟨hk2, -, -⟩ := hIX k2 rfl
            have hk3 : k2 ≤ 1000000 := by have := VT.out.len; omega
            have hwk := wrap_u64 (k2 : Int) (by omega) (by omega)
            simp only [Option.isSome_some, Option.getD_some] at SI1 hd1
            have HD : Kept (bm ++ Vi.enc k2 ++ ((([xn, xv] : List ByteArray).drop (i + 1)).flatMap (Rc.symE T) ++ TL) = E ∧ es.all (Pe.okE T) = ((([xn, xv] : List ByteArray).drop (i + 1)).all (fun z => (Sy.idx T z).isSome) && Q)) := ⟨by rw [← hd1]; simp, by rw [hd2]; simp⟩
            clear hd1 hd2 hIX hk2
            go_wp2_with (first
              | (go_at_call 19; refine SI1.out.mono ?_; rintro e w4 ⟨rfl, q, rfl⟩; have X4 := Kept.mk (X.out.drewN q))
              | (go_at_call 52; refine (be_app X4.out (by omega) (by omega)).mono ?_; rintro e w5 ⟨A8, n8, c8, rfl, hx⟩; have X5 := Kept.mk hx; clear hx))
            go_roundw
            case rel => exact ⟨i + 1, by omega, by go_num, A8, n8, c8, _, rfl, X5.out, HD⟩
            case measure => simp [intOf]; omega
        · obtain rfl : i = 2 := by omega
          have hd1 := hd.out.1
          have hd2 := hd.out.2
          simp only [List.drop_succ_cons, List.drop_nil, List.flatMap_nil, List.nil_append, List.all_nil, Bool.true_and] at hd1 hd2
          rw [HTL.out] at hd1
          have D3 : Kept (bm ++ Vi.enc n3 ++ (Pe.gap 0 s ++ R) = E) := ⟨by rw [← hd1, H3.out]; simp⟩
          have D4 : Kept (es.all (Pe.okE T) = (es.drop (k + 1)).all (Pe.okE T)) := ⟨by rw [hd2, HQQ.out]⟩
          have X := Kept.mk hx
          obtain ⟨y0, y1, y2, -, -⟩ := hx.cells
          clear hd hd1 hd2 hx
          go_upto_region 16 with (go_at_call 52; refine (be_app X.out (by omega) (by omega)).mono ?_; rintro e w5 ⟨A8, n8, c8, rfl, hx⟩; obtain ⟨x0, x1, x2, -, -⟩ := hx.cells; have X5 := Kept.mk hx; clear hx X)
          clear y0 y1 y2 x0 x1 x2
          go_loopw [6, 13, 60] (fun b la j wi => ∃ i : Nat, i ≤ n3 ∧ j = .int .i64 i ∧ ∃ (a : Int) (A7 : Option Addr) (n7 c7 : Nat) (bm : List UInt8), la = .int .i64 a ∧ b = .slice A7 n7 c7 ∧ Be w wi A7 n7 c7 bm G H xn xv (.slice A3 n3 c3) ∧ Kept ((0 :: s)[i]? = some a ∧ bm ++ (Pe.gap a (s.drop i) ++ R) = E)) (fun _ _ j _ => n3 - (intOf j).toNat)
          case atStart => exact ⟨0, by omega, rfl, 0, A8, n8, c8, _, rfl, rfl, X5.out, ⟨rfl, D3.out⟩⟩
          case round =>
            clear X5 D3 hn7
            obtain ⟨i2, hi2, rfl, a, A7, n7, c7, bm, rfl, rfl, hx, hd⟩ := hrel
            have hd1 := hd.out.2
            have hda := hd.out.1
            have hn7 : n7 ≤ 1000000000 := by
              have h1 := hx.own.len
              have h2 := SZ.out
              rw [← hd1] at h2
              simp at h2
              omega
            clear hd
            by_cases hlt3 : i2 < n3
            · have hil : i2 < s.length := by rw [← H3.out]; exact hlt3
              have hS2 := OwnI.rd (own_keepI' HL.out hx.below)
              obtain ⟨b4, off4, rfl, -, z0⟩ := hS2.at_ hil
              have hila : i2 < (0 :: s).length := by simp; omega
              have haa : (0 :: s)[i2] = a := by rw [List.getElem?_eq_getElem hila] at hda; exact Option.some.inj hda
              have hup := Pe.Up.get UP.out hil
              have hnn := Pe.Up.nn UP.out (Int.le_refl 0) (k := i2) (by omega)
              have hga := Pe.gap_at (a := 0) hil
              rw [haa] at hup hnn hga
              rw [hga] at hd1
              have hnx : (0 :: s)[i2 + 1]? = some s[i2] := by simp [hil]
              rw [List.getElem_cons_succ] at hd1
              have X := Kept.mk hx
              clear hx hS2 hga haa hda
              generalize s[i2] = x at *
              obtain ⟨g, hg, hs1, hs2, hs3⟩ := Up_step hnn hup.1 hup.2
              rw [hg] at hd1
              have HD : Kept ((0 :: s)[i2 + 1]? = some x ∧ bm ++ Vi.enc g ++ (Pe.gap x (s.drop (i2 + 1)) ++ R) = E) := ⟨hnx, by rw [← hd1]; simp⟩
              clear hg
              clear hd1 hnx hup hnn
              go_wp2_with (go_at_call 52; refine (be_app X.out hs3 (by omega)).mono ?_; rintro e w5 ⟨A8, n8, c8, rfl, hx⟩; have X5 := Kept.mk hx; clear hx)
              go_roundw
              case rel => exact ⟨i2 + 1, by omega, by go_num, x, A8, n8, c8, _, rfl, rfl, X5.out, HD⟩
              case measure => simp [intOf]; omega
            · obtain rfl : i2 = n3 := by omega
              have X := Kept.mk hx
              rw [List.drop_eq_nil_of_le (by have := H3.out; omega), Pe.gap, List.nil_append, HRR.out] at hd1
              have D5 : Kept (bm ++ (es.drop (k + 1)).flatMap (Pe.entE T) = E ∧ es.all (Pe.okE T) = (es.drop (k + 1)).all (Pe.okE T)) := ⟨hd1, D4.out⟩
              clear hx hda hd1
              go_wp2
              go_roundw
              case rel => exact ⟨k + 1, by omega, by go_num, A7, n7, c7, bm, rfl, X.out.own, X.out.below, D5⟩
              case measure => simp [intOf]; omega
    · obtain rfl : k = n := by omega
      have hd1 := hd.out.1
      have hd2 := hd.out.2
      rw [List.drop_eq_nil_of_le (by have := HN.out; omega)] at hd1 hd2
      rw [List.flatMap_nil, List.append_nil] at hd1
      have HM2 : Kept (M = (E, 0)) := ⟨by rw [HM.out, hd2]; rfl⟩
      have O := Kept.mk ho
      have HB := Kept.mk hb
      have HD1 := Kept.mk hd1
      clear ho hb hd hd1 hd2
      go_wp2
      go_ret2
      refine ⟨A2, n2, c2, ?_, ?_, HB.out⟩
      · rw [HM2.out]; rfl
      · rw [HM2.out]; show OwnB _ _ _ _ _ E; rw [← HD1.out]; exact O.out
end Go.Proofs.Ythhcfocmaiacoaa
