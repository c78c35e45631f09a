/- Cut by cut_tpl.py out of LabA, LabB, LabC, LabD, LabE, LabF, Large, RecH: what this seat reaches. -/
import Derived.Test.YthhcfocmaiacoaaLabMath
import Derived.Test.YthhcfocmaiacoaaGr
import Derived.Shelf.SlSortCmp.QuietGrown
import Derived.BigQuiet
import Derived.Deep.DeepCutAuto
import Derived.Deep.Cut
import Derived.Laws.EntriesVeiled
import Derived.Test.YthhcfocmaiacoaaMemS
import Derived.Deep.RegionHeld3
import Derived.Test.YthhcfocmaiacoaaMemL
import Derived.Test.YthhcfocmaiacoaaSymMath
import Derived.Test.YthhcfocmaiacoaaShelfS
namespace Go.Proofs.Ythhcfocmaiacoaa
open Go.RowKit Go.Shelf

/-- a label as a value -/
def lbv (x : Lab) : Value := .agg #[.string x.n, .string x.v]
theorem ne_self (x : ByteArray) : (!(x.toList == x.toList)) = false := by simp
set_option maxHeartbeats 1000000 in
theorem isNaN_str (x : ByteArray) (w : World) : Calls Try.prog 112 #[.string x] w fun e w' => e = .returned (.bool false) ∧ w' = w := by
  go_enter Try.func112, Try.ntmps112
  go_wp2
  go_ret
  exact ⟨by simp, rfl⟩
set_option maxHeartbeats 1000000 in
theorem compare_str (x y : ByteArray) (w : World) : Calls Try.prog 106 #[.string x, .string y] w fun e w' => e = .returned (.int .i64 (St.cmp x y)) ∧ w' = w := by
  have h1 : Op.bytesLess x.toList y.toList = St.lt x y := rfl
  have h2 : (!(Op.bytesLess x.toList y.toList || x.toList == y.toList)) = (!(St.lt x y) && St.lt y x) := by
    rw [h1, St.eq_iff]
    by_cases e : x = y
    · subst e; simp [St.irrefl]
    · cases a : St.lt x y with
      | true => simp
      | false =>
        cases b : St.lt y x with
        | true => simp [e]
        | false => exact absurd (St.total a b) e
  by_cases a : St.lt x y = true
  · go_enter Try.func106, Try.ntmps106
    have a2 : Op.bytesLess x.toList y.toList = true := a
    go_wp2_with (go_at_call 112; refine (isNaN_str _ _).mono ?_; rintro e w' ⟨rfl, rfl⟩)
    go_ret
    exact ⟨by simp [St.cmp, a], rfl⟩
  · have a' : St.lt x y = false := by simpa using a
    have a2 : Op.bytesLess x.toList y.toList = false := a'
    rw [a'] at h2
    by_cases b : St.lt y x = true
    · rw [b] at h2
      rw [a2] at h2
      have h3 : (x.toList == y.toList) = false := by simpa using h2
      go_enter Try.func106, Try.ntmps106
      go_wp2_with (go_at_call 112; refine (isNaN_str _ _).mono ?_; rintro e w' ⟨rfl, rfl⟩)
      go_ret
      exact ⟨by simp [St.cmp, a', b], rfl⟩
    · have b' : St.lt y x = false := by simpa using b
      rw [b', a2] at h2
      have h3 : (x.toList == y.toList) = true := by simpa using h2
      go_enter Try.func106, Try.ntmps106
      go_wp2_with (go_at_call 112; refine (isNaN_str _ _).mono ?_; rintro e w' ⟨rfl, rfl⟩)
      go_ret
      exact ⟨by simp [St.cmp, a', b'], rfl⟩

theorem Gr.box0 {w0 w : World} (h : Gr w0 w) {B : Nat} {v : Value} (hB : B < w0.heap.size) (hc : w0.cell? ⟨B, 0, none⟩ = some v) : w.cell? ⟨B, 0, none⟩ = some v := (h.cell B 0 hB).trans hc

theorem RdL.cells {w : World} {B n c k : Nat} {A : Option Addr} {l : List Lab} (h : RdL w B A n c l) (hB : B ≤ w.heap.size) (hk : k < l.length) :
    ∃ b off, A = some ⟨b, off, none⟩ ∧ ∀ W, Below w.heap.size w W → W.cell? ⟨b, off + k * 2, none⟩ = some (.string l[k].n) ∧ W.cell? ⟨b, off + k * 2 + 1, none⟩ = some (.string l[k].v) := by
  obtain ⟨b, off, e, hb, h1, h2⟩ := h.at_ hk
  exact ⟨b, off, e, fun W hW => ⟨(hW.cell (p := ⟨b, _, none⟩) (by show b < _; omega)).trans h1, (hW.cell (p := ⟨b, _, none⟩) (by show b < _; omega)).trans (by rw [Nat.add_assoc]; exact h2)⟩⟩
set_option maxHeartbeats 1000000 in
theorem order_any (x y : ByteArray) (w : World) : Calls Try.prog 122 #[.string x, .string y] w fun e w' => e = .returned (.int .i64 (St.cmp x y)) ∧ w' = w := by
  have h1 : Op.bytesLess x.toList y.toList = St.lt x y := rfl
  have h2 : (!(Op.bytesLess x.toList y.toList || x.toList == y.toList)) = (!(St.lt x y) && St.lt y x) := by
    rw [h1, St.eq_iff]
    by_cases e : x = y
    · subst e; simp [St.irrefl]
    · cases a : St.lt x y with
      | true => simp
      | false =>
        cases b : St.lt y x with
        | true => simp [e]
        | false => exact absurd (St.total a b) e
  by_cases a : St.lt x y = true
  · go_enter Try.func122, Try.ntmps122
    have a2 : Op.bytesLess x.toList y.toList = true := a
    go_wp2
    go_ret
    exact ⟨by simp [St.cmp, a], rfl⟩
  · have a' : St.lt x y = false := by simpa using a
    have a2 : Op.bytesLess x.toList y.toList = false := a'
    rw [a'] at h2
    by_cases b : St.lt y x = true
    · rw [b] at h2
      rw [a2] at h2
      have h3 : (x.toList == y.toList) = false := by simpa using h2
      go_enter Try.func122, Try.ntmps122
      go_wp2
      go_ret
      exact ⟨by simp [St.cmp, a', b], rfl⟩
    · have b' : St.lt y x = false := by simpa using b
      rw [b', a2] at h2
      have h3 : (x.toList == y.toList) = true := by simpa using h2
      go_enter Try.func122, Try.ntmps122
      go_wp2
      go_ret
      exact ⟨by simp [St.cmp, a', b'], rfl⟩
set_option maxRecDepth 100000 in
set_option maxHeartbeats 2000000 in
theorem refCompare_any (A A2 : Option Addr) (n c n2 c2 : Nat) (l l2 : List Lab) (w : World) (hv : RdL w w.heap.size A n c l) (hv2 : RdL w w.heap.size A2 n2 c2 l2) :
    Calls Try.prog 110 #[.slice A n c, .slice A2 n2 c2] w fun e w' => e = .returned (.int .i64 (Lb.cmpL l l2)) ∧ Gr w w' := by
  have hlc := hv.1
  have hcm := hv.2.1
  have hlc2 := hv2.1
  have hcm2 := hv2.2.1
  unfold maxLen at hcm hcm2
  have hn := Kept.mk hv.len
  have hn2 := Kept.mk hv2.len
  have V := Kept.mk hv
  have V2 := Kept.mk hv2
  clear hv hv2
  obtain ⟨r, hr⟩ : ∃ r, r = Lb.cmpL l l2 := ⟨_, rfl⟩
  rw [← hr]
  have HR := Kept.mk hr
  clear hr
  go_enter Try.func110, Try.ntmps110
  go_wp2
  go_loopw [5] (fun i wr => ∃ k : Nat, k ≤ n ∧ k ≤ n2 ∧ i = .int .i64 k ∧ Kept (r = Lb.cmpL (l.drop k) (l2.drop k)) ∧ Gr w wr) (fun i _ => n - (intOf i).toNat)
  case atStart => exact ⟨0, by omega, by omega, rfl, ⟨HR.out⟩, Gr.refl w⟩
  case round =>
    obtain ⟨k, hk, hk2, rfl, hd, gr⟩ := hrel
    by_cases hlt : k < n
    · have hkl : k < l.length := by rw [← hn.out]; exact hlt
      obtain ⟨b, off, rfl, hc⟩ := V.out.cells (Nat.le_refl _) hkl
      by_cases hlt2 : k < n2
      · have hkl2 : k < l2.length := by rw [← hn2.out]; exact hlt2
        obtain ⟨b2, off2, rfl, hc2⟩ := V2.out.cells (Nat.le_refl _) hkl2
        obtain ⟨c0, c1⟩ := hc wr gr.below
        obtain ⟨d0, d1⟩ := hc2 wr gr.below
        clear hc hc2
        have hd2 := Kept.mk (hd.out.trans (Lb.cmpL_drop l l2 k hkl hkl2))
        generalize l[k] = x at *
        generalize l2[k] = y at *
        obtain ⟨xn, xv⟩ := x
        obtain ⟨yn, yv⟩ := y
        have O1 := fun W => order_any xn yn W
        have O2 := fun W => order_any xv yv W
        have HE : Kept (Lb.cmpE ⟨xn, xv⟩ ⟨yn, yv⟩ = if St.cmp xn yn = 0 then St.cmp xv yv else St.cmp xn yn) := ⟨rfl⟩
        generalize Lb.cmpE ⟨xn, xv⟩ ⟨yn, yv⟩ = s at *
        generalize St.cmp xn yn = s1 at *
        generalize St.cmp xv yv = s2 at *
        have G := Kept.mk gr
        clear gr
        by_cases hz1 : s1 = 0
        · have hs : Kept (s = s2) := ⟨by rw [HE.out, if_pos hz1]⟩
          by_cases hz2 : s2 = 0
          · have hd3 : Kept (r = Lb.cmpL (l.drop (k + 1)) (l2.drop (k + 1))) := ⟨by rw [hd2.out, if_pos (by rw [hs.out]; exact hz2)]⟩
            subst hz1 hz2
            go_wp2_with fail
            go_quiet (first | (go_at_call 122; exact (O1 _).mono fun _ _ q => ⟨q.1, _, q.2⟩))
            go_wp2_with fail
            go_quiet (first | (go_at_call 122; exact (O2 _).mono fun _ _ q => ⟨q.1, _, q.2⟩))
            go_wp2
            go_roundw
            case rel => exact ⟨k + 1, by omega, by omega, by go_num, hd3, G.out.drewN _⟩
            case measure => simp [intOf]; omega
          · have hd3 : Kept (r = s2) := ⟨by rw [hd2.out, if_neg (by rw [hs.out]; exact hz2), hs.out]⟩
            subst hz1
            go_wp2_with fail
            go_quiet (first | (go_at_call 122; exact (O1 _).mono fun _ _ q => ⟨q.1, _, q.2⟩))
            go_wp2_with fail
            go_quiet (first | (go_at_call 122; exact (O2 _).mono fun _ _ q => ⟨q.1, _, q.2⟩))
            go_wp2
            go_ret
            exact ⟨by rw [hd3.out]; rfl, G.out.drewN _⟩
        · have hd3 : Kept (r = s1) := ⟨by rw [hd2.out, if_neg (by rw [HE.out, if_neg hz1]; exact hz1), HE.out, if_neg hz1]⟩
          go_wp2_with fail
          go_quiet (first | (go_at_call 122; exact (O1 _).mono fun _ _ q => ⟨q.1, _, q.2⟩))
          go_wp2
          go_ret
          exact ⟨by rw [hd3.out]; rfl, G.out.drewN _⟩
      · have hd3 : Kept (r = 1) := ⟨by rw [hd.out, Lb.cmpL_end2 l l2 k hkl (by have := hn2.out; omega)]⟩
        have G := Kept.mk gr
        have hge : (n2 : Int) ≤ (k : Int) := by omega
        have hge2 : ¬ (n : Int) < (n2 : Int) := by omega
        have hge3 : (n2 : Int) < (n : Int) := by omega
        clear gr
        go_wp2
        go_ret
        exact ⟨by rw [hd3.out]; rfl, G.out⟩
    · have G := Kept.mk gr
      clear gr
      by_cases hlt2 : n < n2
      · have hd3 : Kept (r = -1) := ⟨by rw [hd.out, Lb.cmpL_end1 l l2 k (by have := hn.out; omega) (by have := hn2.out; omega)]⟩
        go_wp2
        go_ret
        exact ⟨by rw [hd3.out]; rfl, G.out⟩
      · have hd3 : Kept (r = 0) := ⟨by rw [hd.out, Lb.cmpL_end0 l l2 k (by have := hn.out; omega) (by have := hn2.out; omega)]⟩
        have hge3 : (n2 : Int) ≤ (n : Int) := by omega
        go_wp2
        go_ret
        exact ⟨by rw [hd3.out]; rfl, G.out⟩

set_option maxRecDepth 100000 in
set_option maxHeartbeats 2000000 in
theorem refGet_any (A : Option Addr) (n c : Nat) (l : List Lab) (x : ByteArray) (w : World) (hv : RdL w w.heap.size A n c l) :
    Calls Try.prog 44 #[.slice A n c, .string x] w fun e w' => e = .returned (.tuple #[.string ((Lb.get l x).getD ByteArray.empty), .bool (Lb.get l x).isSome]) ∧ Gr w w' := by
  have hlc := hv.1
  have hcm := hv.2.1
  unfold maxLen at hcm
  have hn := Kept.mk hv.len
  have V := Kept.mk hv
  clear hv
  obtain ⟨r, hr⟩ : ∃ r, r = Lb.get l x := ⟨_, rfl⟩
  rw [← hr]
  have HR := Kept.mk hr
  clear hr
  go_enter Try.func44, Try.ntmps44
  go_wp2
  go_loopw [6] (fun i wr => ∃ k : Nat, k ≤ n ∧ i = .int .i64 k ∧ Kept (∀ j (hj : j < l.length), j < k → l[j].n ≠ x) ∧ Gr w wr) (fun i _ => n - (intOf i).toNat)
  case atStart => exact ⟨0, by omega, rfl, ⟨fun j _ hj => by omega⟩, Gr.refl w⟩
  case round =>
    obtain ⟨k, hk, rfl, hd, gr⟩ := hrel
    by_cases hlt : k < n
    · have hkl : k < l.length := by rw [← hn.out]; exact hlt
      obtain ⟨b, off, rfl, hc⟩ := V.out.cells (Nat.le_refl _) hkl
      obtain ⟨c0, c1⟩ := hc wr gr.below
      clear hc
      have hq := St.eq_iff l[k].n x
      by_cases hx : l[k].n = x
      · rw [decide_eq_true hx] at hq
        have hr : Kept (r = some l[k].v) := ⟨HR.out.trans (Lb.get_at l x k hkl hd.out hx)⟩
        clear hx
        have G := Kept.mk gr
        clear gr
        generalize l[k].n = y at *
        generalize l[k].v = z at *
        go_wp2
        go_ret2
        exact ⟨by rw [hr.out]; rfl, G.out⟩
      · rw [decide_eq_false hx] at hq
        have hd2 : Kept (∀ j (hj : j < l.length), j < k + 1 → l[j].n ≠ x) := ⟨fun j hj hjk => by
          by_cases e : j = k
          · subst e; exact hx
          · exact hd.out j hj (by omega)⟩
        clear hx
        have G := Kept.mk gr
        clear gr
        generalize l[k].n = y at *
        generalize l[k].v = z at *
        go_wp2
        go_roundw
        case rel => exact ⟨k + 1, by omega, by go_num, hd2, G.out⟩
        case measure => simp [intOf]; omega
    · have hr : Kept (r = none) := ⟨HR.out.trans (Lb.get_none l x fun j hj => hd.out j hj (by have := hn.out; omega))⟩
      have G := Kept.mk gr
      clear gr
      go_wp2
      go_ret2
      exact ⟨by rw [hr.out]; rfl, G.out⟩

theorem step_appS {w : World} {ops : Array Oper} {o : Oper} {a : Act} {K : Act → World → Prop} {Q : Exit → Act → World → Prop} {E : Prop} (hgd : o.guard = none) (s x : Operand)
    (ho : o.op = .call { callee := .builtin .append, args := #[s, x], argTypes := #[22, 22] })
    (base : Nat) (A : Option Addr) (n c : Nat) (l : List ByteArray) (hs : a.eval s = .slice A n c) (hown : OwnS w base A n c l)
    (B : Nat) (S : Option Addr) (m d : Nat) (k : List ByteArray) (hx : a.eval x = .slice S m d) (hr : RdS w B S m d k)
    (hlen : n + m ≤ 8796093022208) (hbase : base ≤ w.heap.size)
    (h : ∀ A2 c2 w', OwnS w' base A2 (n + m) c2 (l ++ k) → w.grownBy w' (ab A) → (ab A2 = ab A ∨ ab A2 = some w.heap.size) → K (a.put o.dst (.slice A2 (n + m) c2)) w') :
    if Region.wanted o (yielded ops a.tmps) = true then Oper.wp Try.prog o a w K Q else E := by
  have hw : Region.wanted o (yielded ops a.tmps) = true := by simp [Region.wanted, hgd]
  rw [if_pos hw]
  obtain ⟨i0, hi0, hz0, hz1, hz2⟩ := info_parts infoS
  refine wp_app w s x _ ho base 9 i0 (.string ByteArray.empty) 1 16 Try.underlying22 hi0 hz0 hz1 hz2 rfl (by decide) A n c (svs l) hs hown B S m d (svs k) hx hr (svs_one k) (by unfold maxLen; omega) (by omega) hbase ?_
  rw [← svs_append]
  exact h
theorem OwnS.nil (w : World) (base : Nat) : OwnS w base none 0 0 [] := ⟨rfl, .inl ⟨rfl, rfl⟩⟩
theorem RdS.two (w : World) (x y : ByteArray) : RdS (w.alloc (.cells #[.string x, .string y] 9)) (w.heap.size + 1) (some ⟨w.heap.size, 0, none⟩) 2 2 [x, y] := RdS.lit w [x, y] (by simp)
theorem ownS_grown_below {w w' : World} {base n c : Nat} {A : Option Addr} {l : List ByteArray} (h : OwnS w base A n c l) (hb : base ≤ w.heap.size) (hg : w.grownBy w' (ab A)) : Below base w w' :=
  (Below.refl base w).grown hg hb fun g e => (own_lt h g e).1
theorem below_alloc_grown {base : Nat} {w w' : World} {o : Obj} {row : Option Nat} (hb : base ≤ w.heap.size) (hg : (w.alloc o).grownBy w' row) (hr : ∀ g, row = some g → base ≤ g) : Below base w w' :=
  ((Below.refl base w).alloc hb o).grown hg (by simp; omega) hr
set_option maxRecDepth 100000 in
set_option maxHeartbeats 2000000 in
theorem refStrings_any (A : Option Addr) (n c : Nat) (l : List Lab) (w : World) (hv : RdL w w.heap.size A n c l) (hcap : n ≤ 1000000000000) :
    Calls Try.prog 83 #[.slice A n c] w fun e w' => ∃ A2 n2 c2, e = .returned (.slice A2 n2 c2) ∧ OwnS w' w.heap.size A2 n2 c2 (Lb.strs l) ∧ Below w.heap.size w w' := by
  have hlc := hv.1
  have hcm := hv.2.1
  unfold maxLen at hcm
  have hn := Kept.mk hv.len
  have V := Kept.mk hv
  clear hv
  go_enter Try.func83, Try.ntmps83
  go_wp2
  go_loopw [3, 4] (fun o i wr => ∃ k : Nat, k ≤ n ∧ i = .int .i64 k ∧ ∃ A2 n2 c2, o = .slice A2 n2 c2 ∧ OwnS wr w.heap.size A2 n2 c2 (Lb.strs (l.take k)) ∧ Below w.heap.size w wr) (fun _ i _ => n - (intOf i).toNat)
  case atStart => exact ⟨0, by omega, rfl, none, 0, 0, rfl, by simpa [Lb.strs] using OwnS.nil w w.heap.size, Below.refl _ _⟩
  case round =>
    obtain ⟨k, hk, rfl, A2, n2, c2, rfl, ho, hb⟩ := hrel
    by_cases hlt : k < n
    · have hkl : k < l.length := by rw [← hn.out]; exact hlt
      obtain ⟨b, off, rfl, hc⟩ := V.out.cells (Nat.le_refl _) hkl
      have hn2 : n2 ≤ 2000000000000 := by
        have h1 := ho.len
        rw [Lb.strs_length, List.length_take] at h1; omega
      have hst := Kept.mk (Lb.strs_take l k hkl)
      have hz := hb.size
      have HC := Kept.mk hc
      obtain ⟨c0, c1⟩ := hc wr hb
      have d0 := fun o => (HC.out (wr.alloc o) (hb.alloc hz o)).1
      have d1 := fun o => (HC.out (wr.alloc o) (hb.alloc hz o)).2
      have O := Kept.mk ho
      have HB := Kept.mk hb
      clear hc ho hb
      generalize l[k].n = xn at *
      generalize l[k].v = xv at *
      have HA : Kept (Below w.heap.size w (wr.alloc (.cells #[.string xn, .string xv] 9))) := ⟨HB.out.alloc hz _⟩
      go_wp2_with fail
      go_region_held3 (fun w' => w'.cell? ⟨b, off + k * 2, none⟩ = some (.string xn) ∧ w'.cell? ⟨b, off + k * 2 + 1, none⟩ = some (.string xv)) (first | exact ⟨c0, c1⟩ | exact ⟨d0 _, d1 _⟩ | exact k9)
        ((refine step_appS ?g1 (.tmp 11) (.tmp 22) ?g2 w.heap.size A2 n2 c2 (Lb.strs (l.take k)) ?g3 ?g4 (wr.heap.size + 1) (some ⟨wr.heap.size, 0, none⟩) 2 2 [xn, xv] ?g5 ?g6 ?g7 ?g8 ?_;
          (case g1 => rfl);
          (case g2 => rfl);
          (case g3 => rfl);
          (case g5 => rfl);
          (case g4 => exact World.ownsRow.alloc O.out _);
          (case g6 => exact RdS.two _ xn xv);
          (case g7 => omega);
          (case g8 => (simp; omega));
          intro A3 c3 w3 hown hgrow hat;
          have hb3 : Below w.heap.size w w3 := HA.out.drew.grown hgrow (by show _ ≤ (World.alloc _ _).heap.size; simp; omega) fun g e => (own_lt O.out g e).1;
          have O3 := Kept.mk hown;
          have B3 := Kept.mk hb3;
          have k9 : w3.cell? ⟨b, off + k * 2, none⟩ = some (.string xn) ∧ w3.cell? ⟨b, off + k * 2 + 1, none⟩ = some (.string xv) := HC.out w3 hb3;
          clear hown hgrow hb3))
      go_wp2
      go_roundw
      case rel => exact ⟨k + 1, by omega, by go_num, A3, _, c3, rfl, by rw [hst.out]; exact O3.out, B3.out⟩
      case measure => simp [intOf]; omega
    · obtain rfl : k = n := by omega
      have O := Kept.mk ho
      have HB := Kept.mk hb
      have ht : l.take k = l := List.take_of_length_le (by have := hn.out; omega)
      clear ho hb
      go_wp2
      go_ret
      exact ⟨A2, n2, c2, rfl, by rw [← ht]; exact O.out, HB.out⟩

theorem cell_row (w : World) (g k : Nat) (cs : Array Value) (t : TypeId) (fr : Nat × Nat) (h : w.heap[g]? = some (.cells cs t fr)) : w.cell? ⟨g, k, none⟩ = cs[k]? := by
  simp [World.cell?, h]
theorem OwnS.apart {w : World} {base n c g : Nat} {A : Option Addr} {l : List ByteArray} {cs : Array Value} {t : TypeId} {fr : Nat × Nat} (h : OwnS w base A n c l) (hg : w.heap[g]? = some (.cells cs t fr)) (ht : t ≠ 9) : ab A ≠ some g := by
  intro e
  rcases h.2 with ⟨hv, _⟩ | ⟨g', cap, cur, hv, _, hg', _⟩
  · injection hv with h1; rw [h1] at e; cases e
  · injection hv with h1
    rw [h1] at e
    have : g' = g := Option.some.inj e
    subst this
    rw [hg] at hg'
    injection hg' with h2
    injection h2 with _ h3
    exact ht h3

theorem RdS.cells {w : World} {B n c k : Nat} {A : Option Addr} {l : List ByteArray} (h : RdS w B A n c l) (hB : B ≤ w.heap.size) (hk : k < l.length) :
    ∃ b off, A = some ⟨b, off, none⟩ ∧ ∀ W, Below w.heap.size w W → W.cell? ⟨b, off + k, none⟩ = some (.string l[k]) := by
  obtain ⟨b, off, e, hb, h1⟩ := h.at_ hk
  exact ⟨b, off, e, fun W hW => (hW.cell (p := ⟨b, _, none⟩) (by show b < _; omega)).trans h1⟩
namespace Lb
def Fit (l : List Lab) : Prop := ∀ x ∈ l, x.n.size ≤ maxLen ∧ x.v.size ≤ maxLen
end Lb

namespace Sy
def tot (L : List ByteArray) : Nat := (L.map fun s => 1 + min s.size 200000).sum
theorem tot_take (L : List ByteArray) (k : Nat) (h : k < L.length) : tot (L.take (k + 1)) = tot (L.take k) + (1 + min L[k].size 200000) := by
  unfold tot
  rw [List.take_succ_eq_append_getElem h, List.map_append, List.sum_append]
  simp
def Fit (L : List ByteArray) : Prop := ∀ s ∈ L, s.size ≤ maxLen
end Sy
set_option maxRecDepth 100000 in
set_option maxHeartbeats 4000000 in
theorem large10_any (A : Option Addr) (n c B : Nat) (L : List ByteArray) (w : World) (hv : RdS w B A n c L) (hB : B ≤ w.heap.size) (hf : Sy.Fit L) :
    Calls Try.prog 15 #[.slice A n c] w fun e w' => ∃ v : Int, e = .returned (.int .i64 v) ∧ (v = 0 ∨ v = 1) ∧ (v = 0 → n ≤ 500 ∧ Sy.tot L ≤ 200000) ∧ Gr w w' := by
  have hlc := hv.1
  have hcm := hv.2.1
  unfold maxLen at hcm
  have hn := Kept.mk hv.len
  have V := Kept.mk hv
  have F := Kept.mk hf
  clear hv hf
  go_enter Try.func15, Try.ntmps15
  go_wp2
  go_loopw [3, 8] (fun s i wr => ∃ k a : Nat, k ≤ n ∧ a ≤ 200000 ∧ i = .int .i64 k ∧ s = .int .i64 a ∧ Kept (a = Sy.tot (L.take k) ∧ (0 < k → n ≤ 500)) ∧ Gr w wr) (fun _ i _ => n - (intOf i).toNat)
  case atStart => exact ⟨0, 0, by omega, by omega, rfl, rfl, ⟨rfl, fun h => by omega⟩, Gr.refl w⟩
  case round =>
    obtain ⟨k, a, hk, ha, rfl, rfl, hd, gr⟩ := hrel
    by_cases hlt : k < n
    · have hkl : k < L.length := by rw [← hn.out]; exact hlt
      obtain ⟨b, off, rfl, hc⟩ := V.out.cells hB hkl
      have c0 := hc wr gr.below
      have G := Kept.mk gr
      have hs := F.out _ (List.getElem_mem hkl)
      have ht := Kept.mk (Sy.tot_take L k hkl)
      unfold maxLen at hs
      clear hc gr
      generalize L[k] = x at *
      rcases Nat.lt_or_ge 200000 x.size with hx | hx
      rotate_left 1
      · have hx' : ¬ (200000 : Int) < (x.size : Int) := by omega
        have hm : min x.size 200000 = x.size := by omega
        rw [hm] at ht
        by_cases h1 : 200000 < a + (1 + x.size)
        · have h1' : (200000 : Int) < (a : Int) + (1 + (x.size : Int)) := by omega
          clear h1 hm
          go_wp2
          go_ret
          exact ⟨1, rfl, .inr rfl, (fun h => by cases h), G.out⟩
        · have h1' : ¬ (200000 : Int) < (a : Int) + (1 + (x.size : Int)) := by omega
          by_cases h2 : 500 < n
          · have h2' : (500 : Int) < (n : Int) := by omega
            clear h1 h2 hm
            go_wp2
            go_ret
            exact ⟨1, rfl, .inr rfl, (fun h => by cases h), G.out⟩
          · have h2' : ¬ (500 : Int) < (n : Int) := by omega
            have hd2 : Kept (a + (1 + x.size) = Sy.tot (L.take (k + 1)) ∧ (0 < k + 1 → n ≤ 500)) := ⟨by rw [ht.out, ← hd.out.1], fun _ => by omega⟩
            have hbnd : Kept (a + (1 + x.size) ≤ 200000) := ⟨by omega⟩
            clear h1 h2 hm
            go_wp2
            go_roundw
            case rel => exact ⟨k + 1, a + (1 + x.size), by omega, hbnd.out, by go_num, by go_num, hd2, G.out⟩
            case measure => simp [intOf]; omega
      · have h1' : (200000 : Int) < (a : Int) + 200001 := by omega
        have hx' : (200000 : Int) < (x.size : Int) := by omega
        have hw1 : IntKind.i64.wrap (1 + 200000) = 200001 := by rw [IntKind.wrap_i64]; rfl
        have ha0 : (0 : Int) ≤ (a : Int) := by omega
        have ha1 : (a : Int) ≤ 200000 := by omega
        generalize (a : Int) = ai at *
        clear ht hx ha
        go_wp2
        go_ret
        exact ⟨1, rfl, .inr rfl, (fun h => by cases h), G.out⟩
    · have G := Kept.mk gr
      have ht : L.take k = L := List.take_of_length_le (by have := hn.out; omega)
      have hr : Kept (n ≤ 500 ∧ Sy.tot L ≤ 200000) := ⟨by
        by_cases h0 : n = 0
        · omega
        · exact hd.out.2 (by omega), by rw [← ht, ← hd.out.1]; exact ha⟩
      clear gr
      go_wp2
      go_ret
      exact ⟨0, rfl, .inl rfl, fun _ => hr.out, G.out⟩
namespace Lb
theorem strs_fit {l : List Lab} (h : Fit l) : Sy.Fit (strs l) := fun s hs => by
  unfold strs at hs
  obtain ⟨x, hx, hm⟩ := List.mem_flatMap.1 hs
  have := h x hx
  rcases List.mem_cons.1 hm with rfl | hm
  · exact this.1
  · rw [List.mem_singleton] at hm; subst hm; exact this.2
end Lb
set_option maxHeartbeats 1000000 in
theorem large11_any (A : Option Addr) (n c : Nat) (l : List Lab) (w : World) (hv : RdL w w.heap.size A n c l) (hf : Lb.Fit l) :
    Calls Try.prog 42 #[.slice A n c] w fun e w' => ∃ v : Int, e = .returned (.int .i64 v) ∧ (v = 0 ∨ v = 1) ∧ (v = 0 → n ≤ 200) ∧ Below w.heap.size w w' := by
  have hlc := hv.1
  have hcm := hv.2.1
  unfold maxLen at hcm
  have V := Kept.mk hv
  have F := Kept.mk hf
  clear hv hf
  by_cases h : 200 < n
  · have h' : (200 : Int) < (n : Int) := by omega
    go_enter Try.func42, Try.ntmps42
    go_wp2
    go_ret
    exact ⟨1, rfl, .inr rfl, (fun h => by cases h), Below.refl _ _⟩
  · have h' : ¬ (200 : Int) < (n : Int) := by omega
    go_enter Try.func42, Try.ntmps42
    go_wp2_with (first
      | (go_at_call 83; refine (refStrings_any A n c l w V.out (by omega)).mono ?_; rintro e w1 ⟨A1, n1, c1, rfl, ho, hb⟩; have O := Kept.mk ho; have B1 := Kept.mk hb; clear ho hb)
      | (go_at_call 15; refine (large10_any A1 n1 c1 _ _ w1 O.out.rd (Nat.le_refl _) (Lb.strs_fit F.out)).mono ?_; rintro e w2 ⟨v, rfl, hv1, hv2, hg⟩; have G := Kept.mk hg; have HV := Kept.mk hv1; clear hg hv1 hv2))
    go_ret
    exact ⟨v, rfl, HV.out, fun _ => by omega, B1.out.trans (G.out.below.mono B1.out.size)⟩

set_option maxRecDepth 100000 in
set_option maxHeartbeats 4000000 in
theorem long_any (A : Option Addr) (n c B : Nat) (L : List ByteArray) (w : World) (hv : RdS w B A n c L) (hB : B ≤ w.heap.size) (hf : Sy.Fit L) :
    Calls Try.prog 16 #[.slice A n c] w fun e w' => ∃ v : Int, e = .returned (.int .i64 v) ∧ (v = 0 ∨ v = 1) ∧ (v = 0 → ∀ s ∈ L, s.size ≤ 65535) ∧ Gr w w' := by
  have hlc := hv.1
  have hcm := hv.2.1
  unfold maxLen at hcm
  have hn := Kept.mk hv.len
  have V := Kept.mk hv
  have F := Kept.mk hf
  clear hv hf
  go_enter Try.func16, Try.ntmps16
  go_wp2
  go_loopw [7] (fun i wr => ∃ k : Nat, k ≤ n ∧ i = .int .i64 k ∧ Kept (∀ s ∈ L.take k, s.size ≤ 65535) ∧ Gr w wr) (fun i _ => n - (intOf i).toNat)
  case atStart => exact ⟨0, by omega, rfl, ⟨by simp⟩, Gr.refl w⟩
  case round =>
    obtain ⟨k, hk, rfl, hd, gr⟩ := hrel
    by_cases hlt : k < n
    · have hkl : k < L.length := by rw [← hn.out]; exact hlt
      obtain ⟨b, off, rfl, hc⟩ := V.out.cells hB hkl
      have c0 := hc wr gr.below
      have G := Kept.mk gr
      have hs := F.out _ (List.getElem_mem hkl)
      unfold maxLen at hs
      have hnext : L[k].size ≤ 65535 → Kept (∀ s ∈ L.take (k + 1), s.size ≤ 65535) := fun h => ⟨by
        rw [List.take_succ_eq_append_getElem hkl]
        intro s hs
        rcases List.mem_append.1 hs with hs | hs
        · exact hd.out s hs
        · rw [List.mem_singleton.1 hs]; exact h⟩
      have HN := Kept.mk hnext
      clear hc gr hnext
      generalize L[k] = x at *
      by_cases hx : x.size ≤ 65535
      · have hx' : ¬ (65535 : Int) < (x.size : Int) := by omega
        have h2 := HN.out hx
        clear hx
        go_wp2
        go_roundw
        case rel => exact ⟨k + 1, by omega, by go_num, h2, G.out⟩
        case measure => simp [intOf]; omega
      · have hx' : (65535 : Int) < (x.size : Int) := by omega
        clear hx
        go_wp2
        go_ret
        exact ⟨1, rfl, .inr rfl, (fun h => by cases h), G.out⟩
    · have hd2 : Kept (∀ s ∈ L, s.size ≤ 65535) := ⟨by have := hd.out; rwa [List.take_of_length_le (by have := hn.out; omega)] at this⟩
      have G := Kept.mk gr
      clear gr hd
      go_wp2
      go_ret
      exact ⟨0, rfl, .inl rfl, fun _ => hd2.out, G.out⟩
def Sy.bs (T : List ByteArray) (s : ByteArray) : Nat := (T.filter fun x => St.lt x s).length
theorem search_any (A : Option Addr) (n c : Nat) (T : List ByteArray) (s : ByteArray) (w : World) (hv : RdS w w.heap.size A n c T) (hS : Sy.Srt T) (hn : n ≤ 1000000) :
    Calls Try.prog 48 #[.slice A n c, .string s] w fun e w' => e = .returned (.tuple #[.int .i64 (Sy.bs T s : Nat), .bool (Sy.idx T s).isSome]) ∧ ∃ q, w' = w.drewN q := by
  have hlen := hv.len
  have hlc := hv.1
  have hcm := hv.2.1
  unfold maxLen at hcm
  rcases Nat.eq_zero_or_pos n with h0 | h0
  · subst h0
    obtain rfl : T = [] := List.eq_nil_of_length_eq_zero hlen.symm
    exact (Any2.slices_BinarySearch_string_empty Try.bsL A c s w).mono fun e w' ⟨h1, h2⟩ => ⟨h1, 0, h2⟩
  · obtain ⟨b, off, rfl, -, hc⟩ := hv.2.2.2 h0
    refine (Any2.slices_BinarySearch_string Try.bsL b off n c (fun j => T.getD j ByteArray.empty) s w ?_ ?_).mono ?_
    · omega
    · intro j hj
      refine hc j _ ?_
      have hjl : j < T.length := by omega
      simp [svs, sv, List.getD, hjl]
    · rintro e w' ⟨h1, h2⟩
      refine ⟨?_, h2⟩
      rw [h1]
      subst hlen
      rw [Sy.search hS s]
      rcases Sy.search_idx hS s with ⟨h3, h4, h5⟩ | ⟨h3, h4⟩
      · rw [h3]
        have : decide (((T.filter fun x => St.lt x s).length < T.length) ∧ T.getD (T.filter fun x => St.lt x s).length ByteArray.empty = s) = true := by
          rw [decide_eq_true_iff]
          exact ⟨h4, by simp [List.getD, h4, h5]⟩
        rw [this]; rfl
      · rw [h3]
        have : decide (((T.filter fun x => St.lt x s).length < T.length) ∧ T.getD (T.filter fun x => St.lt x s).length ByteArray.empty = s) = false := by
          rw [decide_eq_false_iff_not]
          rintro ⟨h5, h6⟩
          exact h4 ⟨h5, by simpa [List.getD, h5] using h6⟩
        rw [this]; rfl
set_option maxHeartbeats 4000000 in
theorem sindex_any (A : Option Addr) (n c : Nat) (T : List ByteArray) (s : ByteArray) (w : World) (hv : RdS w w.heap.size A n c T) (hS : Sy.Srt T) (hn : n ≤ 1000000) :
    Calls Try.prog 19 #[.slice A n c, .string s] w fun e w' => e = .returned (.tuple #[.int .i64 (((Sy.idx T s).getD 0 : Nat) : Int), .bool (Sy.idx T s).isSome]) ∧ ∃ q, w' = w.drewN q := by
  have SE := Kept.mk (search_any A n c T s w hv hS hn)
  have hi := Sy.search_idx hS s
  have hi2 : Sy.idx T s = some (Sy.bs T s) ∨ Sy.idx T s = none := hi.imp (·.1) (·.1)
  clear hi hv hS
  rcases hi2 with h | h
  · rw [h] at SE ⊢
    simp only [Option.isSome_some, Option.getD_some] at SE ⊢
    clear h
    generalize Sy.bs T s = k at *
    go_enter Try.func19, Try.ntmps19
    go_wp2_with (go_at_call 48; refine SE.out.mono ?_; rintro e w1 ⟨rfl, q, rfl⟩)
    go_ret2
    exact ⟨rfl, q, rfl⟩
  · rw [h] at SE ⊢
    simp only [Option.isSome_none, Option.getD_none] at SE ⊢
    clear h
    generalize Sy.bs T s = k at *
    go_enter Try.func19, Try.ntmps19
    go_wp2_with (go_at_call 48; refine SE.out.mono ?_; rintro e w1 ⟨rfl, q, rfl⟩)
    go_ret2
    exact ⟨rfl, q, rfl⟩
end Go.Proofs.Ythhcfocmaiacoaa
