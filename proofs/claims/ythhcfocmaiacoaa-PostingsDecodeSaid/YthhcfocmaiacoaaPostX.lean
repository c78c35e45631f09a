/- Chapter 15: the reference's Build. -/
import Derived.Test.YthhcfocmaiacoaaPostA
import Derived.Test.YthhcfocmaiacoaaPostC
import Derived.Test.YthhcfocmaiacoaaPostL
namespace Go.Proofs.Ythhcfocmaiacoaa
open Go.RowKit Go.Shelf Go.Sort

/-- append of one entry, just laid: the reference's type -/
theorem wpList_appER {w : World} {ops : Array Oper} {rest : List Oper} {o : Oper} {a : Act} {Q : Exit → Act → World → Prop} {y : Lab} {s : List Int} {A1 : Option Addr} {n1 c1 : Nat} (hgd : Region.wanted o (yielded ops a.tmps) = true) (p q : Operand)
    (ho : o.op = .call { callee := .builtin .append, args := #[p, q], argTypes := #[49, 49] })
    (base : Nat) (A : Option Addr) (n c : Nat) (es : List EntV) (hp : a.eval p = .slice A n c) (hown : OwnEn 109 w base A n c es)
    (g : Nat) (hq : a.eval q = .slice (some ⟨g, 0, none⟩) 1 1) (hgz : g = w.heap.size) (hS : OwnI w 0 A1 n1 c1 s)
    (hlen : n ≤ 1000000000) (hbase : base ≤ w.heap.size)
    (h : ∀ A2 c2 w', OwnEn 109 w' base A2 (n + 1) c2 (es ++ [(y, s)]) → Below base w w' → wpList Try.prog ops Q rest (a.put o.dst (.slice A2 (n + 1) c2)) w') :
    wpList Try.prog ops Q (o :: rest) a (w.alloc (.cells #[.string y.n, .string y.v, .slice A1 n1 c1] 109)) := by
  obtain ⟨i0, hi0, hz0, hz1, hz2⟩ := info_parts infoEr
  obtain ⟨hs, h1, h2, h3⟩ := hown
  subst hgz
  refine wpList_app _ hgd p q _ ho base 109 i0 _ 3 56 Try.underlying49 hi0 hz0 hz1 hz2 rfl (by decide) A n c _ hp (World.ownsRow.alloc h2 _) _ _ 1 1 _ hq (Rd.ent w (.string y.n) (.string y.v) (.slice A1 n1 c1) _) (by simp [Value.oneCell']) (by unfold maxLen; omega) (by omega) (by simp; omega) ?_
  intro A2 c2 w' hown2 hg hat
  exact h A2 c2 w' (OwnEn.push1 (by decide) h1 h2 h3 hS hg hown2) (((Below.refl _ w).alloc hbase _).grown hg (by simp; omega) (fun g e => (own_lt h2 g e).1))
/-- append of one entry, just laid: the program's type -/
theorem wpList_appEP {w : World} {ops : Array Oper} {rest : List Oper} {o : Oper} {a : Act} {Q : Exit → Act → World → Prop} {y : Lab} {s : List Int} {A1 : Option Addr} {n1 c1 : Nat} (hgd : Region.wanted o (yielded ops a.tmps) = true) (p q : Operand)
    (ho : o.op = .call { callee := .builtin .append, args := #[p, q], argTypes := #[51, 51] })
    (base : Nat) (A : Option Addr) (n c : Nat) (es : List EntV) (hp : a.eval p = .slice A n c) (hown : OwnEn 110 w base A n c es)
    (g : Nat) (hq : a.eval q = .slice (some ⟨g, 0, none⟩) 1 1) (hgz : g = w.heap.size) (hS : OwnI w 0 A1 n1 c1 s)
    (hlen : n ≤ 1000000000) (hbase : base ≤ w.heap.size)
    (h : ∀ A2 c2 w', OwnEn 110 w' base A2 (n + 1) c2 (es ++ [(y, s)]) → Below base w w' → wpList Try.prog ops Q rest (a.put o.dst (.slice A2 (n + 1) c2)) w') :
    wpList Try.prog ops Q (o :: rest) a (w.alloc (.cells #[.string y.n, .string y.v, .slice A1 n1 c1] 110)) := by
  obtain ⟨i0, hi0, hz0, hz1, hz2⟩ := info_parts infoEp
  obtain ⟨hs, h1, h2, h3⟩ := hown
  subst hgz
  refine wpList_app _ hgd p q _ ho base 110 i0 _ 3 56 Try.underlying51 hi0 hz0 hz1 hz2 rfl (by decide) A n c _ hp (World.ownsRow.alloc h2 _) _ _ 1 1 _ hq (Rd.ent w (.string y.n) (.string y.v) (.slice A1 n1 c1) _) (by simp [Value.oneCell']) (by unfold maxLen; omega) (by omega) (by simp; omega) ?_
  intro A2 c2 w' hown2 hg hat
  exact h A2 c2 w' (OwnEn.push1 (by decide) h1 h2 h3 hS hg hown2) (((Below.refl _ w).alloc hbase _).grown hg (by simp; omega) (fun g e => (own_lt h2 g e).1))
theorem OwnI.one (w : World) (base : Nat) (v : Int) (h : base ≤ w.heap.size) : OwnI (w.alloc (.cells #[.int .i64 v] 3)) base (some ⟨w.heap.size, 0, none⟩) 1 1 [v] := by
  exact ⟨rfl, .inr ⟨w.heap.size, 1, #[.int .i64 v], rfl, h, heap_alloc_new w _, Nat.le_refl _, by unfold maxLen; omega, rfl, rfl⟩⟩
theorem pc_cmpE (x y : Lab) : Lb.pc x y = Lb.cmpE x y := rfl
theorem pc_one (x y : Lab) : Lb.cmpL [x] [y] = Lb.pc x y := by
  rw [pc_cmpE, Lb.cmpL]
  split
  · next h => rw [h]; rfl
  · rfl
theorem two_boxes (w : World) (x y : Lab) :
    let W := (w.alloc (Obj.cells #[.string x.n, .string x.v] 67)).alloc (Obj.cells #[.string y.n, .string y.v] 67)
    Gr w W ∧ W.heap.size = w.heap.size + 2 ∧ W.cell? ⟨w.heap.size, 0, none⟩ = some (.string x.n) ∧ W.cell? ⟨w.heap.size, 1, none⟩ = some (.string x.v) ∧ W.cell? ⟨w.heap.size + 1, 0, none⟩ = some (.string y.n) ∧ W.cell? ⟨w.heap.size + 1, 1, none⟩ = some (.string y.v) := by
  intro W
  refine ⟨((Gr.refl w).alloc _).alloc _, by simp [W], ?_, ?_, ?_, ?_⟩
  · exact (World.cell?_alloc_lt _ _ ⟨w.heap.size, 0, none⟩ (by simp)).trans (World.cell?_alloc_mark w _ _ _ 0)
  · exact (World.cell?_alloc_lt _ _ ⟨w.heap.size, 1, none⟩ (by simp)).trans (World.cell?_alloc_mark w _ _ _ 1)
  · have := World.cell?_alloc_mark (w.alloc (Obj.cells #[.string x.n, .string x.v] 67)) #[.string y.n, .string y.v] 67 (0, 0) 0
    rw [World.size_alloc] at this; exact this
  · have := World.cell?_alloc_mark (w.alloc (Obj.cells #[.string x.n, .string x.v] 67)) #[.string y.n, .string y.v] 67 (0, 0) 1
    rw [World.size_alloc] at this; exact this
theorem RdL.lit1 (w : World) (x : Lab) : RdL (w.alloc (.cells #[.string x.n, .string x.v] 67)) (w.heap.size + 1) (some ⟨w.heap.size, 0, none⟩) 1 1 [x] := RdL.lit w [x] (0, 0) (by simp)
set_option maxHeartbeats 2000000 in
theorem compare15_any (x y : Lab) (w : World) : Calls Try.prog 80 #[lbv x, lbv y] w fun e w' => e = .returned (.int .i64 (Lb.pc x y)) ∧ Gr w w' := by
  unfold lbv
  go_enter Try.func80, Try.ntmps80
  go_upto_region 1 with (fail)
  obtain ⟨gW, hz, c0, c1, c2, c3⟩ := two_boxes w x y
  generalize (w.alloc (Obj.cells #[.string x.n, .string x.v] 67)).alloc (Obj.cells #[.string y.n, .string y.v] 67) = w2 at *
  have r1 : RdL ((w2.alloc (.cells #[.string x.n, .string x.v] 67)).alloc (.cells #[.string y.n, .string y.v] 67)) ((w2.alloc (.cells #[.string x.n, .string x.v] 67)).alloc (.cells #[.string y.n, .string y.v] 67)).heap.size (some ⟨w2.heap.size, 0, none⟩) 1 1 [x] :=
    ((RdL.lit1 w2 x).alloc (by simp) _).more (by simp)
  have r2 : RdL ((w2.alloc (.cells #[.string x.n, .string x.v] 67)).alloc (.cells #[.string y.n, .string y.v] 67)) ((w2.alloc (.cells #[.string x.n, .string x.v] 67)).alloc (.cells #[.string y.n, .string y.v] 67)).heap.size (some ⟨w2.heap.size + 1, 0, none⟩) 1 1 [y] := by
    have := RdL.lit1 (w2.alloc (.cells #[.string x.n, .string x.v] 67)) y
    rw [World.size_alloc] at this
    exact this.more (by simp)
  have CM := Kept.mk (refCompare_any _ _ 1 1 1 1 [x] [y] _ r1 r2)
  rw [pc_one] at CM
  have G := Kept.mk gW
  have hz2 : w.heap.size + 1 < w2.heap.size := by omega
  clear r1 r2 gW hz
  go_wp2_with (go_at_call 110; refine CM.out.mono ?_; rintro e w3 ⟨rfl, hg⟩; have G3 := Kept.mk hg; clear hg)
  go_ret
  exact ⟨rfl, ((G.out.alloc _).alloc _).trans G3.out⟩
namespace Ps
/-- what is laid from here on: the entries, and the new one in its place -/
def insG (x : Lab) (v : Int) : List EntV → Bool → List EntV
  | [], d => if d then [] else [(x, [v])]
  | e :: r, d =>
    if 0 < Lb.pc e.1 x then (if d then [] else [(x, [v])]) ++ e :: insG x v r true
    else if Lb.pc e.1 x = 0 then (x, Ls.ins e.2 v) :: insG x v r true
    else e :: insG x v r d
theorem insG_lt {x : Lab} {v : Int} {e : EntV} {r : List EntV} {d : Bool} (h : Lb.pc e.1 x < 0) : insG x v (e :: r) d = e :: insG x v r d := by
  rw [insG, if_neg (by omega), if_neg (by omega)]
theorem insG_eq {x : Lab} {v : Int} {e : EntV} {r : List EntV} {d : Bool} (h : Lb.pc e.1 x = 0) : insG x v (e :: r) d = (x, Ls.ins e.2 v) :: insG x v r true := by
  rw [insG, if_neg (by omega), if_pos h]
theorem insG_gt {x : Lab} {v : Int} {e : EntV} {r : List EntV} (h : 0 < Lb.pc e.1 x) : insG x v (e :: r) false = (x, [v]) :: e :: insG x v r true := by
  rw [insG, if_pos h]; rfl
theorem insG_gt' {x : Lab} {v : Int} {e : EntV} {r : List EntV} (h : 0 < Lb.pc e.1 x) : insG x v (e :: r) true = e :: insG x v r true := by
  rw [insG, if_pos h]; rfl
end Ps
theorem OwnEn.rebase {w : World} {b1 b2 n c : Nat} {A : Option Addr} {es : List EntV} {t : TypeId} (h : OwnEn t w b1 A n c es) (hb : b2 ≤ b1) : OwnEn t w b2 A n c es := by
  obtain ⟨hs, h1, h2, h3⟩ := h
  exact ⟨hs, h1, own_rebase h2 hb, h3⟩
theorem own_keepI {w w' : World} {base n c : Nat} {A : Option Addr} {l : List Int} (h : OwnI w base A n c l) (hb : Below w.heap.size w w') : OwnI w' base A n c l := own_keep h hb
/-- an entry's box, written anew -/
theorem put3_row (w : World) (g : Nat) (a b z : Value) {cs : Array Value} {t : TypeId} (h : w.heap[g]? = some (.cells cs t (0, 0))) (hs : cs.size = 3) :
    (((w.setCell ⟨g, 0, none⟩ a).setCell ⟨g, 1, none⟩ b).setCell ⟨g, 2, none⟩ z).heap[g]? = some (.cells #[a, b, z] t (0, 0)) := by
  rw [heap_setCell_same _ g 2 _ t _ (heap_setCell_same _ g 1 _ t _ (heap_setCell_same w g 0 _ t _ h))]
  obtain ⟨L, rfl⟩ : ∃ L : List Value, cs = L.toArray := ⟨cs.toList, by simp⟩
  match L, hs with
  | [_, _, _], _ => rfl
theorem put3_below (w : World) (g : Nat) (a b z : Value) {B : Nat} (h : B ≤ g) : Below B w (((w.setCell ⟨g, 0, none⟩ a).setCell ⟨g, 1, none⟩ b).setCell ⟨g, 2, none⟩ z) :=
  (((Below.refl _ w).setCell (p := ⟨g, 0, none⟩) h _).setCell (p := ⟨g, 1, none⟩) h _).setCell (p := ⟨g, 2, none⟩) h _
theorem own_past3 {w : World} {base sz n c g : Nat} {A : Option Addr} {xs : List Value} {e t : TypeId} {u v z : Value} {cs : Array Value} (h : w.ownsRow base e sz (.slice A n c) n xs) (hne : e ≠ t) (hg : w.heap[g]? = some (.cells cs t (0, 0))) :
    (((w.setCell ⟨g, 0, none⟩ u).setCell ⟨g, 1, none⟩ v).setCell ⟨g, 2, none⟩ z).ownsRow base e sz (.slice A n c) n xs := by
  refine ⟨h.1, h.2.imp id fun ⟨b, cap, cur, h1, h2, h3, h4⟩ => ⟨b, cap, cur, h1, h2, ?_, h4⟩⟩
  have hbg : b ≠ g := fun e1 => by
    rw [e1, hg] at h3
    simp only [Option.some.injEq, Obj.cells.injEq] at h3
    exact hne h3.2.1.symm
  rw [Below.heap_setCell _ _ _ _ (by exact hbg), Below.heap_setCell _ _ _ _ (by exact hbg), Below.heap_setCell _ _ _ _ (by exact hbg)]
  exact h3
theorem OwnEn.past3 {w : World} {base n c g : Nat} {A : Option Addr} {es : List EntV} {t T : TypeId} {u v z : Value} {cs : Array Value} (h : OwnEn T w base A n c es) (hA : ab A ≠ some g) (hne : (3 : TypeId) ≠ t) (hg : w.heap[g]? = some (.cells cs t (0, 0))) :
    OwnEn T (((w.setCell ⟨g, 0, none⟩ u).setCell ⟨g, 1, none⟩ v).setCell ⟨g, 2, none⟩ z) base A n c es := by
  obtain ⟨hs, h1, h2, h3⟩ := h
  have hO : (((w.setCell ⟨g, 0, none⟩ u).setCell ⟨g, 1, none⟩ v).setCell ⟨g, 2, none⟩ z).ownsRow base T 3 (.slice A n c) n (eflat es hs) := by
    refine ⟨h2.1, h2.2.imp id fun ⟨b, cap, cur, e1, e2, e3, e4⟩ => ⟨b, cap, cur, e1, e2, ?_, e4⟩⟩
    have hbg : b ≠ g := fun e => by
      injection e1 with e1
      exact hA (by rw [e1, ← e]; rfl)
    rw [Below.heap_setCell _ _ _ _ (by exact hbg), Below.heap_setCell _ _ _ _ (by exact hbg), Below.heap_setCell _ _ _ _ (by exact hbg)]
    exact e3
  refine ⟨hs, h1, hO, fun i hi hi' => ?_⟩
  obtain ⟨A1, n1, c1, e, o⟩ := h3 i hi hi'
  exact ⟨A1, n1, c1, e, own_past3 o hne hg⟩
theorem OwnI.past3 {w : World} {base n c g : Nat} {A : Option Addr} {l : List Int} {t : TypeId} {u v z : Value} {cs : Array Value} (h : OwnI w base A n c l) (hne : (3 : TypeId) ≠ t) (hg : w.heap[g]? = some (.cells cs t (0, 0))) :
    OwnI (((w.setCell ⟨g, 0, none⟩ u).setCell ⟨g, 1, none⟩ v).setCell ⟨g, 2, none⟩ z) base A n c l := own_past3 h hne hg
set_option maxRecDepth 100000 in
set_option maxHeartbeats 8000000 in
theorem insert15_any (A : Option Addr) (n c : Nat) (l : List EntV) (x : Lab) (v : Int) (w : World) (hv : RdEn w w.heap.size A n c l) (hn1 : n ≤ 1000000) (hs : ∀ e ∈ l, e.2.length ≤ 1000000) :
    Calls Try.prog 73 #[.slice A n c, lbv x, .int .i64 v] w fun r w' => ∃ A2 n2 c2, r = .returned (.slice A2 n2 c2) ∧ OwnEn 109 w' w.heap.size A2 n2 c2 (Ps.insG x v l false) ∧ Below w.heap.size w w' := by
  have hcc := hv.cap
  have hlc := hcc.1
  have hcm := hcc.2
  unfold maxLen at hcm
  have V := Kept.mk hv
  have HN := Kept.mk hv.len
  have HS := Kept.mk hs
  have mixed : Try.prog.follows .mixedOrders = true := by kernel_rfl
  have CP := Kept.mk (fun y W => compare15_any y x W)
  unfold lbv at CP
  unfold lbv
  clear hv hs hcc
  go_enter Try.func73, Try.ntmps73
  go_wp2
  have d0 : (w.alloc (Obj.cells #[.string x.n, .string x.v] 67)).cell? ⟨w.heap.size, 0, none⟩ = some (.string x.n) := World.cell?_alloc_mark w _ _ _ 0
  have d1 : (w.alloc (Obj.cells #[.string x.n, .string x.v] 67)).cell? ⟨w.heap.size, 1, none⟩ = some (.string x.v) := World.cell?_alloc_mark w _ _ _ 1
  have hb0 : Below w.heap.size w (w.alloc (Obj.cells #[.string x.n, .string x.v] 67)) := (Below.refl _ _).alloc (Nat.le_refl _) _
  have V1 := Kept.mk (V.out.on hb0)
  have HB0 := Kept.mk hb0
  have hz1 : w.heap.size < (w.alloc (Obj.cells #[.string x.n, .string x.v] 67)).heap.size := by simp
  clear hb0 V
  generalize w.alloc (Obj.cells #[.string x.n, .string x.v] 67) = w1 at *
  have HD : Kept (∀ W, Below w1.heap.size w1 W → W.cell? ⟨w.heap.size, 0, none⟩ = some (.string x.n) ∧ W.cell? ⟨w.heap.size, 1, none⟩ = some (.string x.v)) := ⟨fun W hW => ⟨(hW.cell (p := ⟨w.heap.size, 0, none⟩) hz1).trans d0, (hW.cell (p := ⟨w.heap.size, 1, none⟩) hz1).trans d1⟩⟩
  clear d0 d1
  go_loopw [7, 8, 9] (fun o d i wr => ∃ k : Nat, k ≤ n ∧ i = .int .i64 k ∧ ∃ (b : Bool) (A2 : Option Addr) (n2 c2 : Nat) (pre : List EntV), d = .bool b ∧ o = .slice A2 n2 c2 ∧ OwnEn 109 wr w1.heap.size A2 n2 c2 pre ∧ Kept (pre ++ Ps.insG x v (l.drop k) b = Ps.insG x v l false) ∧ n2 ≤ 2 * k ∧ Below w1.heap.size w1 wr) (fun _ _ i _ => n - (intOf i).toNat)
  case atStart => exact ⟨0, by omega, rfl, false, none, 0, 0, [], rfl, rfl, OwnEn.nil _ _, ⟨by simp⟩, by omega, Below.refl _ _⟩
  case round =>
    obtain ⟨k, hk, rfl, d, A2, n2, c2, pre, rfl, rfl, ho, hd, hn2, hb⟩ := hrel
    have O := Kept.mk ho
    have HB := Kept.mk hb
    have hzr := hb.size
    by_cases hlt : k < n
    · have hkl : k < l.length := by rw [← HN.out]; exact hlt
      obtain ⟨b, off, A1, n1, c1, rfl, hbB, hS, hc⟩ := V1.out.cells (Nat.le_refl _) hkl
      have hdr := Kept.mk (List.drop_eq_getElem_cons hkl)
      have hsl := HS.out _ (List.getElem_mem hkl)
      have hn1' := hS.len
      rw [← hn1'] at hsl
      have HC := Kept.mk hc
      have SS := Kept.mk hS
      clear ho hb hc hS hn1'
      generalize l[k] = e at *
      obtain ⟨y, s⟩ := e
      simp only [] at HC SS
      have c0 := cell_grown (w := wr) (show (⟨b, off + k * 3, none⟩ : Addr).block < wr.heap.size by show b < _; omega) (HC.out wr HB.out).1
      have c1' := cell_grown (w := wr) (show (⟨b, off + k * 3 + 1, none⟩ : Addr).block < wr.heap.size by show b < _; omega) (HC.out wr HB.out).2.1
      have d0 := cell_grown (w := wr) (show (⟨w.heap.size, 0, none⟩ : Addr).block < wr.heap.size by show w.heap.size < _; omega) (HD.out wr HB.out).1
      have d1 := cell_grown (w := wr) (show (⟨w.heap.size, 1, none⟩ : Addr).block < wr.heap.size by show w.heap.size < _; omega) (HD.out wr HB.out).2
      go_wp2_with fail
      go_quiet_grown (first | (go_at_call 80; refine Calls.grown_of (CP.out _ _)))
      have hgr : Gr wr (grow (wr.drewN nq) osq) := ⟨_, _, rfl⟩
      have hbg : Below w1.heap.size w1 (grow (wr.drewN nq) osq) := HB.out.trans (hgr.below.mono hzr)
      have O2 := Kept.mk (O.out.keep hgr.below)
      clear c0 c1' d0 d1 hgr O
      generalize grow (wr.drewN nq) osq = wg at *
      obtain ⟨c0, c1', c2'⟩ := HC.out wg hbg
      obtain ⟨d0, d1⟩ := HD.out wg hbg
      have hzg := hbg.size
      have HG := Kept.mk hbg
      have hba : Below wg.heap.size wg (wg.alloc (Obj.cells #[.string y.n, .string y.v, .slice A1 n1 c1] 109)) := (Below.refl _ _).alloc (Nat.le_refl _) _
      have O3 := Kept.mk (O2.out.keep hba)
      have SG := Kept.mk (own_keepI SS.out hbg)
      have S3 := Kept.mk (own_keepI SG.out hba)
      clear hbg hba
      rcases Int.lt_trichotomy (Lb.pc y x) 0 with hq | hq | hq
      · have hd2 := hd.out
        rw [hdr.out, Ps.insG_lt hq] at hd2
        have HD2 := Kept.mk hd2
        have hq1 : ¬ 0 < Lb.pc y x := by omega
        have hq2 : ¬ Lb.pc y x = 0 := by omega
        clear hd2
        generalize Lb.pc y x = q at *
        go_wp2_with (at_builtin; refine wpList_appER (y := y) (s := s) rfl (.tmp 50) (.tmp 52) rfl w1.heap.size A2 n2 c2 _ rfl O3.out _ rfl (by simp) S3.out (by omega) (by simp; omega) ?_; intro A4 c4 w4 ho4 hb4; have O4 := Kept.mk ho4; have B4 := Kept.mk hb4; clear ho4 hb4)
        go_roundw
        case rel => exact ⟨k + 1, by omega, by go_num, d, A4, n2 + 1, c4, pre ++ [(y, s)], rfl, rfl, O4.out, ⟨by simpa using HD2.out⟩, by omega, (HG.out.alloc hzg _).trans B4.out⟩
        case measure => simp [intOf]; omega
      · have hd2 := hd.out
        rw [hdr.out, Ps.insG_eq hq] at hd2
        have HD2 := Kept.mk hd2
        clear hd2
        have X0 : (wg.alloc (Obj.cells #[.string y.n, .string y.v, .slice A1 n1 c1] 109)).heap[wg.heap.size]? = some (.cells #[.string y.n, .string y.v, .slice A1 n1 c1] 109 (0, 0)) := heap_alloc_new wg _
        have XX := Kept.mk X0
        have HBA : Kept (Below w1.heap.size w1 (wg.alloc (Obj.cells #[.string y.n, .string y.v, .slice A1 n1 c1] 109))) := ⟨HG.out.alloc hzg _⟩
        have hgz : wg.heap.size < (wg.alloc (Obj.cells #[.string y.n, .string y.v, .slice A1 n1 c1] 109)).heap.size := by simp
        have HAG : Kept (ab A2 ≠ some wg.heap.size) := ⟨fun e => by
          obtain ⟨hs, _, h2, _⟩ := O2.out
          have := (own_lt h2 _ e).2
          omega⟩
        clear X0
        generalize Lb.pc y x = q at *
        subst hq
        go_upto_region 12 with (fail)
        generalize hwa : wg.alloc (Obj.cells #[.string y.n, .string y.v, .slice A1 n1 c1] 109) = wa at *
        clear hwa
        generalize wg.heap.size = g at *
        obtain ⟨d0', d1'⟩ := HD.out wa HBA.out
        have x0 := cell_of_row _ _ 0 _ _ _ XX.out
        have x1 := cell_of_row _ _ 1 _ _ _ XX.out
        have x2 := cell_of_row _ _ 2 _ _ _ XX.out
        have hfz := fun k => frozen_of_row _ _ k _ _ XX.out
        have hgw : w1.heap.size ≤ wa.heap.size := by omega
        go_region_with (go_at_call 107; refine (refInsert_any A1 n1 c1 0 s v _ (by exact S3.out) (Nat.zero_le _) hsl).mono ?_; rintro r w3 ⟨A6, n6, c6, rfl, -, ho6, hb6'⟩; have hb6 : Below wa.heap.size wa w3 := below_drew_of hb6'; have X6 := Kept.mk ((hb6.block g hgz).trans XX.out); have y0 := cell_of_row _ _ 0 _ _ _ X6.out; have y1 := cell_of_row _ _ 1 _ _ _ X6.out; have y2 := cell_of_row _ _ 2 _ _ _ X6.out; have hfy := fun k => frozen_of_row _ _ k _ _ X6.out; have B6 := Kept.mk (HBA.out.trans (hb6.mono hgw)); obtain ⟨e0, e1⟩ := HD.out w3 B6.out; have S6 := Kept.mk ho6; have O6 := Kept.mk (O3.out.keep hb6); clear ho6 hb6 hb6')
        all_goals
          have X7 := Kept.mk (put3_row w3 g (.string x.n) (.string x.v) (.slice A6 n6 c6) X6.out rfl)
          have hb7 := put3_below w3 g (.string x.n) (.string x.v) (.slice A6 n6 c6) (B := w1.heap.size) hzg
          have B7 := Kept.mk (B6.out.trans hb7)
          have O7 := Kept.mk (show OwnEn 109 (((w3.setCell ⟨g, 0, none⟩ (.string x.n)).setCell ⟨g, 1, none⟩ (.string x.v)).setCell ⟨g, 2, none⟩ (.slice A6 n6 c6)) w1.heap.size A2 n2 c2 pre from OwnEn.past3 O6.out HAG.out (by decide) X6.out)
          have S7 := Kept.mk (show OwnI (((w3.setCell ⟨g, 0, none⟩ (.string x.n)).setCell ⟨g, 1, none⟩ (.string x.v)).setCell ⟨g, 2, none⟩ (.slice A6 n6 c6)) 0 A6 n6 c6 (Ls.ins s v) from OwnI.past3 S6.out (by decide) X6.out)
          clear hb7 y0 y1 y2 hfy e0 e1 x0 x1 x2 hfz d0' d1' S6 O6 X6
          generalize ((w3.setCell ⟨g, 0, none⟩ (.string x.n)).setCell ⟨g, 1, none⟩ (.string x.v)).setCell ⟨g, 2, none⟩ (.slice A6 n6 c6) = w7 at *
          have z0 := cell_of_row _ _ 0 _ _ _ X7.out
          have z1 := cell_of_row _ _ 1 _ _ _ X7.out
          have z2 := cell_of_row _ _ 2 _ _ _ X7.out
          have hz7 := B7.out.size
          go_wp2_with (at_builtin; refine wpList_appER (y := x) (s := Ls.ins s v) rfl (.tmp 50) (.tmp 52) rfl w1.heap.size A2 n2 c2 _ rfl O7.out _ rfl rfl S7.out (by omega) (by omega) ?_; intro A4 c4 w4 ho4 hb4; have O4 := Kept.mk ho4; have B4 := Kept.mk hb4; clear ho4 hb4)
          go_roundw
          (case rel => exact ⟨k + 1, by omega, by go_num, true, A4, n2 + 1, c4, pre ++ [(x, Ls.ins s v)], rfl, rfl, O4.out, ⟨by simpa using HD2.out⟩, by omega, B7.out.trans B4.out⟩)
          (case measure => simp [intOf]; omega)
      · have hq1 : 0 < Lb.pc y x := hq
        have hq2 : ¬ Lb.pc y x = 0 := by omega
        cases d with
        | true =>
          have hd2 := hd.out
          rw [hdr.out, Ps.insG_gt' hq] at hd2
          have HD2 := Kept.mk hd2
          clear hd2
          generalize Lb.pc y x = q at *
          go_wp2_with (at_builtin; refine wpList_appER (y := y) (s := s) rfl (.tmp 50) (.tmp 52) rfl w1.heap.size A2 n2 c2 _ rfl O3.out _ rfl (by simp) S3.out (by omega) (by simp; omega) ?_; intro A4 c4 w4 ho4 hb4; have O4 := Kept.mk ho4; have B4 := Kept.mk hb4; clear ho4 hb4)
          go_roundw
          case rel => exact ⟨k + 1, by omega, by go_num, true, A4, n2 + 1, c4, pre ++ [(y, s)], rfl, rfl, O4.out, ⟨by simpa using HD2.out⟩, by omega, (HG.out.alloc hzg _).trans B4.out⟩
          case measure => simp [intOf]; omega
        | false =>
          have hd2 := hd.out
          rw [hdr.out, Ps.insG_gt hq] at hd2
          have HD2 := Kept.mk hd2
          have OI := Kept.mk (O2.out.keep ((Below.refl _ _).alloc (Nat.le_refl _) (Obj.cells #[.int .i64 v] 3)))
          have SI := Kept.mk (OwnI.one wg 0 v (Nat.zero_le _))
          clear hd2 O3 S3
          generalize Lb.pc y x = q at *
          go_wp2_with (first
            | (at_builtin; refine wpList_appER (y := y) (s := s) rfl (.tmp 50) (.tmp 52) rfl w1.heap.size A5 (n2 + 1) c5 _ rfl O6.out _ rfl (by simp) S6.out (by omega) (by simp; have := B5.out.size; omega) ?_; intro A4 c4 w4 ho4 hb4; have O4 := Kept.mk ho4; have B4 := Kept.mk hb4; clear ho4 hb4)
            | (at_builtin; refine wpList_appER (y := x) (s := [v]) rfl (.tmp 31) (.tmp 36) rfl w1.heap.size A2 n2 c2 _ rfl OI.out _ rfl (by simp) SI.out (by omega) (by simp; omega) ?_; intro A5 c5 w5 ho5 hb5; have B5 := Kept.mk ((HG.out.alloc hzg _).trans hb5); have O6 := Kept.mk (ho5.keep ((Below.refl _ _).alloc (Nat.le_refl _) (Obj.cells #[.string y.n, .string y.v, .slice A1 n1 c1] 109))); have S6 := Kept.mk (own_keepI (own_keepI SS.out B5.out) ((Below.refl _ _).alloc (Nat.le_refl _) (Obj.cells #[.string y.n, .string y.v, .slice A1 n1 c1] 109))); obtain ⟨e0, e1, e2⟩ := HC.out w5 B5.out; clear ho5 hb5 OI SI))
          go_roundw
          case rel => exact ⟨k + 1, by omega, by go_num, true, A4, n2 + 1 + 1, c4, pre ++ [(x, [v])] ++ [(y, s)], rfl, rfl, O4.out, ⟨by simpa using HD2.out⟩, by omega, (B5.out.alloc B5.out.size _).trans B4.out⟩
          case measure => simp [intOf]; omega
    · obtain rfl : k = n := by omega
      have hnil : l.drop k = [] := List.drop_eq_nil_of_le (by have := HN.out; omega)
      have hd2 := hd.out
      rw [hnil] at hd2
      have HD2 := Kept.mk hd2
      clear hd2 hnil
      cases d with
      | true =>
        go_wp2
        go_ret
        have := HD2.out
        simp only [Ps.insG, if_true, List.append_nil] at this
        exact ⟨A2, n2, c2, rfl, by rw [← this]; exact O.out.rebase (by omega), HB0.out.trans (HB.out.mono (by omega))⟩
      | false =>
        obtain ⟨d0, d1⟩ := HD.out wr HB.out
        have O3 := Kept.mk (O.out.keep ((Below.refl _ _).alloc (Nat.le_refl _) (Obj.cells #[.int .i64 v] 3)))
        have S3 := Kept.mk (OwnI.one wr 0 v (Nat.zero_le _))
        go_wp2_with (at_builtin; refine wpList_appER (y := x) (s := [v]) rfl (.tmp 56) (.tmp 61) rfl w1.heap.size A2 n2 c2 _ rfl O3.out _ rfl (by simp) S3.out (by omega) (by simp; omega) ?_; intro A4 c4 w4 ho4 hb4; have O4 := Kept.mk ho4; have B4 := Kept.mk hb4; clear ho4 hb4)
        go_ret
        have := HD2.out
        simp only [Ps.insG, Bool.false_eq_true, if_false] at this
        exact ⟨A4, n2 + 1, c4, rfl, by rw [← this]; exact O4.out.rebase (by omega), HB0.out.trans (((HB.out.alloc hzr _).trans B4.out).mono (by omega))⟩
end Go.Proofs.Ythhcfocmaiacoaa
