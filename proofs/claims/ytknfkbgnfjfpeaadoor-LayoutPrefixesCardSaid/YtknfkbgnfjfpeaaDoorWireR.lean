/- The reference's reader: Uint, Take, String. -/
import Derived.Test.YtknfkbgnfjfpeaaDoorWireQ
namespace Go.Proofs.YtknfkbgnfjfpeaaDoor
open Go.RowKit Go.Shelf

set_option maxRecDepth 100000 in
set_option maxHeartbeats 2000000 in
theorem uintq_any (p a m : Nat) (l : List UInt8) (e : Int) (w : World) (h : RdrQ w p l a e) :
    Calls Tryd.prog 59 #[.pointer (some ⟨p, 0, none⟩), .int .u64 (m : Int)] w fun r w' => r = .returned (.int .u64 ((Wr.uint l a e m).1 : Int)) ∧ RdrQ w' p l (Wr.uint l a e m).2.1 (Wr.uint l a e m).2.2 ∧ w.grownBy w' (some p) := by
  have H := Kept.mk h
  obtain ⟨A, n, c, c0, c1, c2, f1, f2, hr, h3, h4, h5, h6⟩ := h.cells
  have hl := Kept.mk hr.len
  by_cases he : e = 0
  · subst he
    obtain ⟨g, hg⟩ : ∃ g, Vi.get l (a : Int) = g := ⟨_, rfl⟩
    have HG := fun (W : World) (hW : RdB W p A n c l) => refget_any A n c p l (a : Int) W hW (by omega) (by omega) (by omega)
    rw [hg] at HG
    have HR := Kept.mk hr
    have hm : Wr.uint l a 0 m = if g.2.2 ≠ 0 then (0, a, (g.2.2 : Int)) else if m < g.1 then (0, a, 7) else (g.1, g.2.1.toNat, 0) := by unfold Wr.uint; rw [if_neg (by simp), hg]
    have hto := fun x t (hh : g = (x, t, 0)) => Vi.get_to (a := a) (hg.trans hh)
    obtain ⟨x, t, er⟩ := g
    unfold getV at HG
    simp only at HG hm
    rw [hm]
    have HG' := Kept.mk HG
    by_cases h0 : er = 0
    · subst h0
      have ht := hto x t rfl
      rw [if_neg (by simp)]
      by_cases hmx : m < x
      · rw [if_pos hmx]
        have hmx' : (m : Int) < (x : Int) := by omega
        clear h hr hm ht hto HG hg hmx
        go_enter Tryd.func59, Tryd.ntmps59
        go_wp2
        go_quiet ((go_at_call 77; exact (HG'.out _ (by exact HR.out)).mono fun _ _ q => ⟨q.1, _, q.2.symm⟩))
        go_wp2_with ((go_at_call 63; refine (failq_any p a l 0 7 _ (by exact H.out)).mono ?_; rintro r w1 ⟨rfl, hw1⟩; rw [if_pos rfl] at hw1; subst hw1))
        go_ret
        exact ⟨rfl, H.out.fail 7, (Quiet.grown ⟨_, rfl⟩ _).trans (grown_set _ ⟨p, 2, none⟩ _)⟩
      · rw [if_neg hmx]
        have hmx' : (x : Int) ≤ (m : Int) := by omega
        have ht2 : Kept (((t.toNat : Nat) : Int) = t) := ⟨by omega⟩
        have ht3 : Kept (t.toNat ≤ l.length) := ⟨by omega⟩
        clear h hr hm ht hto HG hg hmx
        go_enter Tryd.func59, Tryd.ntmps59
        go_wp2
        go_quiet ((go_at_call 77; exact (HG'.out _ (by exact HR.out)).mono fun _ _ q => ⟨q.1, _, q.2.symm⟩))
        go_wp2
        go_ret
        have hm2 := H.out.move t.toNat ht3.out
        rw [ht2.out] at hm2
        exact ⟨rfl, hm2, (Quiet.grown ⟨_, rfl⟩ _).trans (grown_set _ ⟨p, 1, none⟩ _)⟩
    · have h0' : ((er : Int) == 0) = false := by simp; omega
      have h0'' : ((er : Int) != 0) = true := by simp; omega
      rw [if_pos h0]
      clear h hr hm hto HG hg h0
      go_enter Tryd.func59, Tryd.ntmps59
      go_wp2
      go_quiet ((go_at_call 77; exact (HG'.out _ (by exact HR.out)).mono fun _ _ q => ⟨q.1, _, q.2.symm⟩))
      go_wp2_with ((go_at_call 63; refine (failq_any p a l 0 (er : Int) _ (by exact H.out)).mono ?_; rintro r w1 ⟨rfl, hw1⟩; rw [if_pos rfl] at hw1; subst hw1))
      go_ret
      exact ⟨rfl, H.out.fail _, (Quiet.grown ⟨_, rfl⟩ _).trans (grown_set _ ⟨p, 2, none⟩ _)⟩
  · have hm : Wr.uint l a e m = (0, a, e) := by unfold Wr.uint; rw [if_pos he]
    rw [hm]
    have heb : (e == 0) = false := by simpa using he
    have hen : (e != 0) = true := by simpa using he
    clear h hr hm he
    go_enter Tryd.func59, Tryd.ntmps59
    go_wp2
    go_ret
    exact ⟨rfl, H.out, World.grownBy.refl _ _⟩
theorem step_appB {w : World} {ops : Array Oper} {o : Oper} {a : Act} {K : Act → World → Prop} {Q : Exit → Act → World → Prop} {E : Prop} (hgd : o.guard = none) (s x : Operand)
    (ho : o.op = .call { callee := .builtin .append, args := #[s, x], argTypes := #[22, 22] })
    (base : Nat) (A : Option Addr) (n c : Nat) (l : List UInt8) (hs : a.eval s = .slice A n c) (hown : OwnB w base A n c l)
    (B : Nat) (S : Option Addr) (m d : Nat) (k : List UInt8) (hx : a.eval x = .slice S m d) (hr : RdB w B S m d k)
    (hlen : n + m ≤ 140737488355328) (hbase : base ≤ w.heap.size)
    (h : ∀ A2 c2 w', OwnB w' base A2 (n + m) c2 (l ++ k) → w.grownBy w' (ab A) → (ab A2 = ab A ∨ ab A2 = some w.heap.size) → K (a.put o.dst (.slice A2 (n + m) c2)) w') :
    if Region.wanted o (yielded ops a.tmps) = true then Oper.wp Tryd.prog o a w K Q else E := by
  have hw : Region.wanted o (yielded ops a.tmps) = true := by simp [Region.wanted, hgd]
  rw [if_pos hw]
  obtain ⟨i0, hi0, hz0, hz1, hz2⟩ := info_parts infoB
  refine wp_app w s x _ ho base 5 i0 (.int .u8 0) 1 1 Tryd.underlying22 hi0 hz0 hz1 hz2 rfl (by decide) A n c (bvs l) hs hown B S m d (bvs k) hx hr (bvs_one k) (by unfold maxLen; omega) (by omega) hbase ?_
  rw [← bvs_append]
  exact h
set_option maxRecDepth 100000 in
set_option maxHeartbeats 2000000 in
theorem takeq_ok (p a n : Nat) (l : List UInt8) (w : World) (h : RdrQ w p l a 0) (h1 : n ≤ l.length - a) :
    Calls Tryd.prog 60 #[.pointer (some ⟨p, 0, none⟩), .int .i64 (n : Int)] w fun r w' => ∃ A3 n3 c3, r = .returned (.slice A3 n3 c3) ∧ OwnB w' w.heap.size A3 n3 c3 ((l.drop a).take n) ∧ RdrQ w' p l (a + n) 0 ∧ w.grownBy w' (some p) := by
  have H := Kept.mk h
  have hp := h.lt
  obtain ⟨A, m, c, k0, k1, k2, f1, f2, hr, h3, h4, h5, h6⟩ := h.cells
  have hl := Kept.mk hr.len
  have hnm : a + n ≤ m := by have := hl.out; omega
  have i1 : (0 : Int) ≤ (a : Int) := by omega
  have i2 : (a : Int) ≤ (a : Int) + (n : Int) := by omega
  have i3 : (a : Int) + (n : Int) ≤ (m : Int) := by omega
  have i4 : (a : Int) + (n : Int) ≤ (c : Int) := by omega
  have i5 : (n : Int) ≤ (m : Int) - (a : Int) := by omega
  have e2 : ((a : Int) + (n : Int)).toNat = a + n := by omega
  have e3 : (a : Int) + (n : Int) - (n : Int) = (a : Int) := by omega
  have ew : IntKind.i64.wrap ((a : Int) + (n : Int)) = (a : Int) + (n : Int) := by rw [IntKind.wrap_i64]; omega
  have ew2 : IntKind.i64.wrap (a : Int) = (a : Int) := by rw [IntKind.wrap_i64]; omega
  have hm1 := Kept.mk (fun k => (show RdrQ (w.drewN k) p l a 0 from H.out).move (a + n) (by have := hl.out; omega))
  rw [Int.natCast_add] at hm1
  have hln := Kept.mk (show ((l.drop a).take n).length = n by rw [List.length_take, List.length_drop]; omega)
  clear h hr
  go_enter Tryd.func60, Tryd.ntmps60
  go_wp2
  go_quiet (fail)
  go_wp2
  have R1 := Kept.mk (hm1.out nq)
  have G1 : Kept (w.grownBy ((w.drewN nq).setCell ⟨p, 1, none⟩ (.int .i64 ((a : Int) + (n : Int)))) (some p)) := ⟨(Quiet.grown ⟨_, rfl⟩ _).trans (grown_set _ ⟨p, 1, none⟩ _)⟩
  have hz1 : Kept (((w.drewN nq).setCell ⟨p, 1, none⟩ (.int .i64 ((a : Int) + (n : Int)))).heap.size = w.heap.size) := ⟨by simp⟩
  clear hm1
  generalize ((w.drewN nq).setCell ⟨p, 1, none⟩ (.int .i64 ((a : Int) + (n : Int)))) = W1 at *
  obtain ⟨A', m', c', j0, j1, j2, g1, g2, hr1, y3, y4, y5, y6⟩ := R1.out.cells
  rw [Int.natCast_add] at j1
  have hw1 : p < W1.heap.size := R1.out.lt
  have hl1 := hr1.len
  have y7 : (a : Int) + (n : Int) ≤ (m' : Int) := by have := hl.out; omega
  have y8 : (a : Int) + (n : Int) ≤ (c' : Int) := by omega
  have Hc := Kept.mk (hr1.cut (a := a) (k := n) (by omega))
  have hA : Kept (∀ o, (W1.alloc o).cell? ⟨p, 0, none⟩ = some (.slice A' m' c') ∧ (W1.alloc o).cell? ⟨p, 1, none⟩ = some (.int .i64 ((a : Int) + (n : Int)))) :=
    ⟨fun o => ⟨(World.cell?_alloc_lt W1 o ⟨p, 0, none⟩ hw1).trans j0, (World.cell?_alloc_lt W1 o ⟨p, 1, none⟩ hw1).trans j1⟩⟩
  have hB1 : Kept (Below W1.heap.size W1 (W1.alloc (.cells #[] 5))) := ⟨(Below.refl _ W1).alloc (Nat.le_refl _) _⟩
  have hz2 : Kept ((W1.alloc (.cells #[] 5)).heap.size = W1.heap.size + 1) := ⟨by simp⟩
  have OM : Kept (OwnB (W1.alloc (.cells #[] 5)) w.heap.size (some ⟨W1.heap.size, 0, none⟩) 0 0 []) := ⟨OwnB.made W1 w.heap.size (by rw [hz1.out]; exact Nat.le_refl _)⟩
  have hz3 : w.heap.size ≤ W1.heap.size := by rw [hz1.out]; exact Nat.le_refl _
  have hl2 : Kept (m' = l.length) := ⟨hl1⟩
  clear hr1 k0 k1 k2 f1 f2 h3 h4 h5 h6 i3 i4 i5 hl1
  by_cases hca : c' = a
  · have hn0 : n = 0 := by omega
    subst hn0
    subst hca
    rw [if_pos rfl, Nat.sub_self] at Hc
    obtain rfl : m' = c' := by omega
    have Hc' : Kept (RdB W1 p A' 0 0 []) := ⟨by simpa using Hc.out⟩
    have z1 : Kept ((l.drop m').take 0 = []) := ⟨by simp⟩
    clear Hc
    simp only [Int.natCast_zero, Int.add_zero, Int.sub_zero] at *
    go_region_held3 (fun w' => w'.cell? ⟨p, 0, none⟩ = some (.slice A' m' m') ∧ w'.cell? ⟨p, 1, none⟩ = some (.int .i64 (m' : Int))) (first | exact ⟨j0, j1⟩ | exact hA.out _ | exact k9)
      ((refine step_appB rfl (.tmp 36) (.tmp 51) rfl w.heap.size _ _ _ [] rfl (by exact OM.out) p _ _ _ [] rfl (by exact RdB.alloc Hc'.out (by omega) _) (by omega) (by have := hz2.out; show w.heap.size ≤ (W1.alloc _).heap.size; omega) ?_; intro A3 c3 w3 hown hgrow hat;
        have hb3 : Below W1.heap.size W1 w3 := hB1.out.drew.grown hgrow (by show W1.heap.size ≤ (W1.alloc _).heap.size; rw [hz2.out]; omega) (fun g hg => by cases hg; exact Nat.le_refl _);
        have O3 := Kept.mk hown;
        have k9 : w3.cell? ⟨p, 0, none⟩ = some (.slice A' m' m') ∧ w3.cell? ⟨p, 1, none⟩ = some (.int .i64 (m' : Int)) := ⟨(hb3.cell (p := ⟨p, 0, none⟩) hw1).trans j0, (hb3.cell (p := ⟨p, 1, none⟩) hw1).trans j1⟩))
    go_wp2
    go_ret
    exact ⟨A3, _, c3, rfl, by rw [z1.out]; exact O3.out, R1.out.below hb3 hw1, G1.out.trans (below_grown hb3 _)⟩
  · rw [if_neg hca] at Hc
    have hca' : (a : Int) < (c' : Int) := by omega
    go_region_held3 (fun w' => w'.cell? ⟨p, 0, none⟩ = some (.slice A' m' c') ∧ w'.cell? ⟨p, 1, none⟩ = some (.int .i64 ((a : Int) + (n : Int)))) (first | exact ⟨j0, j1⟩ | exact hA.out _ | exact k9)
      ((refine step_appB rfl (.tmp 36) (.tmp 51) rfl w.heap.size _ _ _ [] rfl (by exact OM.out) p _ _ _ ((l.drop a).take n) rfl (by exact RdB.alloc Hc.out (by omega) _) (by omega) (by have := hz2.out; show w.heap.size ≤ (W1.alloc _).heap.size; omega) ?_; intro A3 c3 w3 hown hgrow hat;
        have hb3 : Below W1.heap.size W1 w3 := hB1.out.drew.grown hgrow (by show W1.heap.size ≤ (W1.alloc _).heap.size; rw [hz2.out]; omega) (fun g hg => by cases hg; exact Nat.le_refl _);
        rw [List.nil_append, Nat.zero_add] at hown;
        have O3 := Kept.mk hown;
        have k9 : w3.cell? ⟨p, 0, none⟩ = some (.slice A' m' c') ∧ w3.cell? ⟨p, 1, none⟩ = some (.int .i64 ((a : Int) + (n : Int))) := ⟨(hb3.cell (p := ⟨p, 0, none⟩) hw1).trans j0, (hb3.cell (p := ⟨p, 1, none⟩) hw1).trans j1⟩))
    go_wp2
    go_ret
    exact ⟨A3, _, c3, rfl, O3.out, R1.out.below hb3 hw1, G1.out.trans (below_grown hb3 _)⟩
theorem takeq_any (p a : Nat) (l : List UInt8) (e n : Int) (w : World) (h : RdrQ w p l a e) (hn0 : -9223372036854775808 ≤ n) (hn1 : n ≤ 9223372036854775807) :
    Calls Tryd.prog 60 #[.pointer (some ⟨p, 0, none⟩), .int .i64 n] w fun r w' => ∃ A3 n3 c3, r = .returned (.slice A3 n3 c3) ∧ OwnB w' w.heap.size A3 n3 c3 (Wr.take l a e n).1 ∧ RdrQ w' p l (Wr.take l a e n).2.1 (Wr.take l a e n).2.2 ∧ w.grownBy w' (some p) := by
  have H := Kept.mk h
  obtain ⟨A, m, c, c0, c1, c2, f1, f2, hr, h3, h4, h5, h6⟩ := h.cells
  have hl := Kept.mk hr.len
  by_cases he : e = 0
  · subst he
    by_cases hneg : n < 0
    · have hm : Wr.take l a 0 n = ([], a, 2) := by unfold Wr.take; rw [if_neg (by simp), if_pos hneg]
      rw [hm]
      clear h hr hm
      go_enter Tryd.func60, Tryd.ntmps60
      go_wp2_with (go_at_call 63; refine (failq_any p a l 0 2 _ (by exact H.out)).mono ?_; rintro r w1 ⟨rfl, hw1⟩; rw [if_pos rfl] at hw1; subst hw1)
      go_ret
      exact ⟨none, 0, 0, rfl, OwnB.nil _ _, H.out.fail 2, grown_set _ ⟨p, 2, none⟩ _⟩
    · have hge : 0 ≤ n := by omega
      by_cases hfar : (l.length : Int) - a < n
      · have hm : Wr.take l a 0 n = ([], a, 3) := by unfold Wr.take; rw [if_neg (by simp), if_neg hneg, if_pos hfar]
        rw [hm]
        have hfar' : (m : Int) - (a : Int) < n := by have := hl.out; omega
        clear h hr hm hfar hneg
        go_enter Tryd.func60, Tryd.ntmps60
        go_wp2
        go_quiet (fail)
        go_wp2_with (go_at_call 63; refine (failq_any p a l 0 3 _ (by exact H.out)).mono ?_; rintro r w1 ⟨rfl, hw1⟩; rw [if_pos rfl] at hw1; subst hw1)
        go_ret
        exact ⟨none, 0, 0, rfl, OwnB.nil _ _, H.out.fail 3, (Quiet.grown ⟨_, rfl⟩ _).trans (grown_set _ ⟨p, 2, none⟩ _)⟩
      · have hm : Wr.take l a 0 n = ((l.drop a).take n.toNat, a + n.toNat, 0) := by unfold Wr.take; rw [if_neg (by simp), if_neg hneg, if_neg hfar]
        rw [hm]
        have hq := takeq_ok p a n.toNat l w h (by omega)
        rw [show ((n.toNat : Nat) : Int) = n by omega] at hq
        exact hq
  · have hm : Wr.take l a e n = ([], a, e) := by unfold Wr.take; rw [if_pos he]
    rw [hm]
    have heb : (e == 0) = false := by simpa using he
    have hen : (e != 0) = true := by simpa using he
    clear h hr hm he
    go_enter Tryd.func60, Tryd.ntmps60
    go_wp2
    go_ret
    exact ⟨none, 0, 0, rfl, OwnB.nil _ _, H.out, World.grownBy.refl _ _⟩
set_option maxRecDepth 100000 in
set_option maxHeartbeats 2000000 in
theorem stringq_any (p a : Nat) (l : List UInt8) (e m : Int) (w : World) (h : RdrQ w p l a e) (m1 : m ≤ 9223372036854775807) :
    Calls Tryd.prog 61 #[.pointer (some ⟨p, 0, none⟩), .int .i64 m] w fun r w' => r = .returned (.string ⟨(Wr.string l a e m).1.toArray⟩) ∧ RdrQ w' p l (Wr.string l a e m).2.1 (Wr.string l a e m).2.2 ∧ w.grownBy w' (some p) := by
  have H := Kept.mk h
  obtain ⟨A, n, c, c0, c1, c2, f1, f2, hr, h3, h4, h5, h6⟩ := h.cells
  have hl := Kept.mk hr.len
  by_cases he : e = 0
  · subst he
    obtain ⟨g, hg⟩ : ∃ g, Vi.get l (a : Int) = g := ⟨_, rfl⟩
    have HG := fun (W : World) (hW : RdB W p A n c l) => refget_any A n c p l (a : Int) W hW (by omega) (by omega) (by omega)
    rw [hg] at HG
    have HR := Kept.mk hr
    have hto := fun x t (hh : g = (x, t, 0)) => Vi.get_to (a := a) (hg.trans hh)
    obtain ⟨s, hs⟩ : ∃ s, Wr.string1 l g m = s := ⟨_, rfl⟩
    have hm : Wr.string l a 0 m = if s.2.2 ≠ 0 then ([], a, s.2.2) else (s.1, s.2.1.toNat, 0) := by unfold Wr.string; rw [if_neg (by simp), hg, hs]
    rw [hm]
    obtain ⟨x, t, er⟩ := g
    unfold getV at HG
    simp only at HG
    have HG' := Kept.mk HG
    unfold Wr.string1 at hs
    by_cases h0 : er = 0
    · subst h0
      have ht := hto x t rfl
      rw [if_neg (by simp)] at hs
      obtain ⟨tn, rfl⟩ := Int.eq_ofNat_of_zero_le (show 0 ≤ t by omega)
      have ht3 : (tn : Int) ≤ (n : Int) := by have := hl.out; omega
      by_cases hmx : m < 0 ∨ m < (x : Int)
      · rw [if_pos hmx] at hs
        subst hs
        rw [if_pos (by simp)]
        have key : ∀ (hq : (m < 0 ∧ True) ∨ (0 ≤ m ∧ m < (x : Int))), Calls Tryd.prog 61 #[.pointer (some ⟨p, 0, none⟩), .int .i64 m] w fun r w' => r = .returned (.string ⟨#[]⟩) ∧ RdrQ w' p l a 7 ∧ w.grownBy w' (some p) := by
          clear h hr hm ht hto HG hg hmx
          rintro (⟨hq, -⟩ | ⟨hq, hq2⟩)
          all_goals
            go_enter Tryd.func61, Tryd.ntmps61
            go_wp2
            go_quiet ((go_at_call 77; exact (HG'.out _ (by exact HR.out)).mono fun _ _ q => ⟨q.1, _, q.2.symm⟩))
            go_wp2_with ((go_at_call 63; refine (failq_any p a l 0 7 _ (by exact H.out)).mono ?_; rintro r w1 ⟨rfl, hw1⟩; rw [if_pos rfl] at hw1; subst hw1))
            go_ret
            exact ⟨rfl, H.out.fail 7, (Quiet.grown ⟨_, rfl⟩ _).trans (grown_set _ ⟨p, 2, none⟩ _)⟩
        rcases hmx with hh | hh
        · exact key (.inl ⟨hh, trivial⟩)
        · by_cases h00 : m < 0
          · exact key (.inl ⟨h00, trivial⟩)
          · exact key (.inr ⟨by omega, hh⟩)
      · rw [if_neg hmx] at hs
        have hm0 : 0 ≤ m := by omega
        have hmx' : (x : Int) ≤ m := by omega
        by_cases hfar : (l.length : Int) - (tn : Int) < (x : Int)
        · rw [if_pos hfar] at hs
          subst hs
          rw [if_pos (by simp)]
          have hfar' : (n : Int) - (tn : Int) < (x : Int) := by have := hl.out; omega
          clear h hr hm ht hto HG hg hmx hfar
          go_enter Tryd.func61, Tryd.ntmps61
          go_wp2
          go_quiet ((go_at_call 77; exact (HG'.out _ (by exact HR.out)).mono fun _ _ q => ⟨q.1, _, q.2.symm⟩))
          go_wp2_with ((go_at_call 63; refine (failq_any p a l 0 3 _ (by exact H.out)).mono ?_; rintro r w1 ⟨rfl, hw1⟩; rw [if_pos rfl] at hw1; subst hw1))
          go_ret
          exact ⟨rfl, H.out.fail 3, (Quiet.grown ⟨_, rfl⟩ _).trans (grown_set _ ⟨p, 2, none⟩ _)⟩
        · rw [if_neg hfar] at hs
          subst hs
          rw [if_neg (by simp)]
          have hnear : (x : Int) ≤ (n : Int) - (tn : Int) := by have := hl.out; omega
          have i1 : (tn : Int) ≤ (tn : Int) + (x : Int) := by omega
          have i2 : (tn : Int) + (x : Int) ≤ (n : Int) := by omega
          have i3 : (tn : Int) + (x : Int) ≤ (c : Int) := by omega
          have e2 : ((tn : Int) + (x : Int)).toNat = tn + x := by omega
          have ht2 : Kept (tn + x ≤ l.length) := ⟨by have := hl.out; omega⟩
          have hm1 := Kept.mk (fun k => (show RdrQ (w.drewN k) p l a 0 from H.out).move (tn + x) ht2.out)
          rw [Int.natCast_add] at hm1
          have hcut := HR.out.cut (show tn + x ≤ n by omega)
          simp only [Int.toNat_natCast, e2]
          by_cases hct : c = tn
          · rw [if_pos hct] at hcut
            obtain rfl : x = 0 := by omega
            obtain rfl : n = c := by omega
            subst hct
            rw [Nat.sub_self] at hcut
            have kc : ∀ k j, (convert 22 9 (.slice A 0 0)).run Tryd.prog (((w.drewN k).setCell ⟨p, 1, none⟩ (.int .i64 (n : Int))).drewN j) = .ok (.string ⟨((l.drop n).take 0).toArray⟩) (((w.drewN k).setCell ⟨p, 1, none⟩ (.int .i64 (n : Int))).drewN j) := fun k j => run_bytes_str _ p _ _ _ _ (RdB.drewN (RdB.setCell (hcut.drewN k) (p := ⟨p, 1, none⟩) (Nat.le_refl _) _) j)
            simp only [Int.natCast_zero, Int.add_zero, Nat.add_zero] at *
            have kw : IntKind.i64.wrap (n : Int) = (n : Int) := by rw [IntKind.wrap_i64]; omega
            clear h hr hm ht hto HG hg hmx hfar hcut
            generalize (l.drop n).take 0 = S at *
            go_enter Tryd.func61, Tryd.ntmps61
            go_wp2
            go_quiet ((go_at_call 77; exact (HG'.out _ (by exact HR.out)).mono fun _ _ q => ⟨q.1, _, q.2.symm⟩))
            go_wp2
            go_quiet (fail)
            go_wp2
            go_ret
            exact ⟨rfl, hm1.out _, ((Quiet.grown ⟨_, rfl⟩ _).trans (grown_set _ ⟨p, 1, none⟩ _)).trans (Quiet.grown ⟨_, rfl⟩ _)⟩
          · rw [if_neg hct] at hcut
            have hct' : (tn : Int) < (c : Int) := by omega
            have kc : ∀ k j, (convert 22 9 (.slice (A.map (·.add tn)) x (c - tn))).run Tryd.prog (((w.drewN k).setCell ⟨p, 1, none⟩ (.int .i64 ((tn : Int) + (x : Int)))).drewN j) = .ok (.string ⟨((l.drop tn).take x).toArray⟩) (((w.drewN k).setCell ⟨p, 1, none⟩ (.int .i64 ((tn : Int) + (x : Int)))).drewN j) := fun k j => run_bytes_str _ p _ _ _ _ (RdB.drewN (RdB.setCell (hcut.drewN k) (p := ⟨p, 1, none⟩) (Nat.le_refl _) _) j)
            clear h hr hm ht hto HG hg hmx hfar hcut hct
            generalize (l.drop tn).take x = S at *
            go_enter Tryd.func61, Tryd.ntmps61
            go_wp2
            go_quiet ((go_at_call 77; exact (HG'.out _ (by exact HR.out)).mono fun _ _ q => ⟨q.1, _, q.2.symm⟩))
            go_wp2
            go_quiet (fail)
            go_wp2
            go_ret
            exact ⟨rfl, hm1.out _, ((Quiet.grown ⟨_, rfl⟩ _).trans (grown_set _ ⟨p, 1, none⟩ _)).trans (Quiet.grown ⟨_, rfl⟩ _)⟩
    · have h0' : ((er : Int) == 0) = false := by simp; omega
      have h0'' : ((er : Int) != 0) = true := by simp; omega
      rw [if_pos (by simpa using h0)] at hs
      subst hs
      rw [if_pos (by simp; omega)]
      clear h hr hm hto HG hg h0
      go_enter Tryd.func61, Tryd.ntmps61
      go_wp2
      go_quiet ((go_at_call 77; exact (HG'.out _ (by exact HR.out)).mono fun _ _ q => ⟨q.1, _, q.2.symm⟩))
      go_wp2_with ((go_at_call 63; refine (failq_any p a l 0 (er : Int) _ (by exact H.out)).mono ?_; rintro r w1 ⟨rfl, hw1⟩; rw [if_pos rfl] at hw1; subst hw1))
      go_ret
      exact ⟨rfl, H.out.fail _, (Quiet.grown ⟨_, rfl⟩ _).trans (grown_set _ ⟨p, 2, none⟩ _)⟩
  · have hm : Wr.string l a e m = ([], a, e) := by unfold Wr.string; rw [if_pos he]
    rw [hm]
    have heb : (e == 0) = false := by simpa using he
    have hen : (e != 0) = true := by simpa using he
    clear h hr hm he
    go_enter Tryd.func61, Tryd.ntmps61
    go_wp2
    go_ret
    exact ⟨rfl, H.out, World.grownBy.refl _ _⟩
end Go.Proofs.YtknfkbgnfjfpeaaDoor
