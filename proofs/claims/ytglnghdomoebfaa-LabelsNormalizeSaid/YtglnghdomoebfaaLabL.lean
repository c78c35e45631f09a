/- Chapter 11: the example of the chapter. -/
import Derived.Test.YtglnghdomoebfaaLabK
namespace Go.Proofs.Ytglnghdomoebfaa
open Go.RowKit Go.Shelf

namespace Lb
def sa : ByteArray := ⟨#[97]⟩
def sb : ByteArray := ⟨#[98]⟩
def s1 : ByteArray := ⟨#[49]⟩
def s2 : ByteArray := ⟨#[50]⟩
def la : Lab := ⟨sa, s1⟩
def lb : Lab := ⟨sb, s2⟩
def lc : Lab := ⟨sa, s2⟩
theorem lt_ab : St.lt sa sb = true := by rw [St.lt, St.tl, St.tl]; rfl
theorem lt_12 : St.lt s1 s2 = true := by rw [St.lt, St.tl, St.tl]; rfl
theorem srt_ab : Srt [la, lb] := by
  unfold Srt
  refine List.Pairwise.cons (fun y hy => ?_) (List.pairwise_singleton _ _)
  rw [List.mem_singleton] at hy
  subst hy
  exact lt_ab
theorem one_la : one la = 0 := by unfold one la sa s1; rfl
theorem one_lb : one lb = 0 := by unfold one lb sb s2; rfl
theorem ones_ab : ones [la, lb] = 0 := (ones_zero _).2 fun x hx => by
  rcases List.mem_cons.1 hx with rfl | hx
  · exact one_la
  · rw [List.mem_singleton] at hx; subst hx; exact one_lb
theorem ones_ba : ones [lb, la] = 0 := (ones_zero _).2 fun x hx => by
  rcases List.mem_cons.1 hx with rfl | hx
  · exact one_lb
  · rw [List.mem_singleton] at hx; subst hx; exact one_la
theorem norm_ba : Norm [lb, la] 0 [la, lb] := .inr (.inr ⟨ones_ba, srt_ab, List.Perm.swap _ _ _, rfl⟩)
theorem chk_ab : chk [la, lb] = 0 := chk_srt srt_ab ones_ab
theorem cmp_a : cmpL [la] [la, lb] = -1 := by simp [cmpL, cmpE_zero.2]
theorem cmp_c : cmpL [lc] [la, lb] = 1 := by
  have e : cmpE lc la = 1 := by
    unfold cmpE
    have h0 : St.cmp lc.n la.n = 0 := St.cmp_zero.2 rfl
    rw [if_pos h0]
    exact cmp_one lt_12
  simp [cmpL, e]
theorem get_b : get [la, lb] sb = some s2 := by
  refine get_at [la, lb] sb 1 (by decide) (fun j hj h1 => ?_) rfl
  obtain rfl : j = 0 := by omega
  show sa ≠ sb
  decide
theorem fit_ba : Fit [lb, la] := fun x hx => by
  rcases List.mem_cons.1 hx with rfl | hx
  · exact ⟨by unfold maxLen; decide, by unfold maxLen; decide⟩
  · rw [List.mem_singleton] at hx; subst hx; exact ⟨by unfold maxLen; decide, by unfold maxLen; decide⟩
theorem fit_ab : Fit [la, lb] := fun x hx => fit_ba x (by
  rcases List.mem_cons.1 hx with rfl | hx
  · simp
  · rw [List.mem_singleton] at hx; subst hx; simp)
end Lb
theorem lit1 (w : World) (x : Lab) : RdL (w.alloc (.cells #[.string x.n, .string x.v] 57)) (w.heap.size + 1) (some ⟨w.heap.size, 0, none⟩) 1 1 [x] := RdL.lit w [x] (0, 0) (by simp)
theorem lit2 (w : World) (x y : Lab) : RdL (w.alloc (.cells #[.string x.n, .string x.v, .string y.n, .string y.v] 57)) (w.heap.size + 1) (some ⟨w.heap.size, 0, none⟩) 2 2 [x, y] := RdL.lit w [x, y] (0, 0) (by simp)
set_option maxRecDepth 100000 in
set_option maxHeartbeats 4000000 in
theorem alive11_any (w : World) : Calls Try.prog 29 #[] w fun e w' => e = .returned (.bool true) ∧ Below w.heap.size w w' := by
  have NORM : Kept (∀ W : World, Calls Try.prog 33 #[.slice (some ⟨W.heap.size, 0, none⟩) 2 2] (W.alloc (.cells #[.string ⟨#[98]⟩, .string ⟨#[50]⟩, .string ⟨#[97]⟩, .string ⟨#[49]⟩] 57)) fun r w' => ∃ A3 c3, r = .returned (.tuple #[.slice A3 2 c3, .int .i64 0]) ∧ RdL w' w'.heap.size A3 2 c3 [Lb.la, Lb.lb] ∧ Below W.heap.size W w') :=
    ⟨fun W => (lnormalize_any (some ⟨W.heap.size, 0, none⟩) 2 2 _ [Lb.lb, Lb.la] _ (lit2 W Lb.lb Lb.la) (by simp) Lb.fit_ba (by omega)).mono fun r w' ⟨e, A3, n3, c3, out, h1, h2, h3, h4⟩ => by
      obtain ⟨rfl, rfl⟩ := h2.uniq Lb.norm_ba
      obtain rfl : n3 = 2 := h3.len
      exact ⟨A3, c3, h1, h3, ((Below.refl _ W).alloc (Nat.le_refl _) _).trans (h4.mono (by simp))⟩⟩
  have GET : Kept (∀ (A : Option Addr) (c : Nat) (W : World), RdL W W.heap.size A 2 c [Lb.la, Lb.lb] → Calls Try.prog 38 #[.slice A 2 c, .string ⟨#[98]⟩] W fun r w' => r = .returned (.tuple #[.string ⟨#[50]⟩, .bool true]) ∧ Below W.heap.size W w') :=
    ⟨fun A c W h => (get_any A 2 c [Lb.la, Lb.lb] Lb.sb W h).mono fun r w' ⟨h1, h2⟩ => by rw [Lb.get_b] at h1; exact ⟨h1, h2.below⟩⟩
  have EQ : Kept (∀ (A : Option Addr) (c : Nat) (W : World), RdL W W.heap.size A 2 c [Lb.la, Lb.lb] → Calls Try.prog 35 #[.slice A 2 c, .slice (some ⟨W.heap.size, 0, none⟩) 2 2] (W.alloc (.cells #[.string ⟨#[97]⟩, .string ⟨#[49]⟩, .string ⟨#[98]⟩, .string ⟨#[50]⟩] 57)) fun r w' => r = .returned (.bool true) ∧ Below W.heap.size W w') :=
    ⟨fun A c W h => (equalL_any A (some ⟨W.heap.size, 0, none⟩) 2 c 2 2 W.heap.size (W.heap.size + 1) [Lb.la, Lb.lb] [Lb.la, Lb.lb] _ (h.alloc (Nat.le_refl _) _) (lit2 W Lb.la Lb.lb) (by simp) (by simp)).mono fun r w' ⟨h1, h2⟩ => by
      rw [decide_eq_true rfl] at h1
      exact ⟨h1, ((Below.refl _ W).alloc (Nat.le_refl _) _).trans (h2.below.mono (by simp))⟩⟩
  have CHK : Kept (∀ (A : Option Addr) (c : Nat) (W : World), RdL W W.heap.size A 2 c [Lb.la, Lb.lb] → Calls Try.prog 30 #[.slice A 2 c] W fun r w' => r = .returned (.int .i64 0) ∧ Below W.heap.size W w') :=
    ⟨fun A c W h => (lcheck_any A 2 c _ [Lb.la, Lb.lb] W h (Nat.le_refl _) Lb.fit_ab).mono fun r w' ⟨h1, h2⟩ => by rw [Lb.chk_ab] at h1; exact ⟨h1, h2.below⟩⟩
  have CA : Kept (∀ (A : Option Addr) (c : Nat) (W : World), RdL W W.heap.size A 2 c [Lb.la, Lb.lb] → Calls Try.prog 36 #[.slice (some ⟨W.heap.size, 0, none⟩) 1 1, .slice A 2 c] (W.alloc (.cells #[.string ⟨#[97]⟩, .string ⟨#[49]⟩] 57)) fun r w' => r = .returned (.int .i64 (-1)) ∧ Below W.heap.size W w') :=
    ⟨fun A c W h => (lcompare_any (some ⟨W.heap.size, 0, none⟩) A 1 1 2 c [Lb.la] [Lb.la, Lb.lb] _ ((lit1 W Lb.la).more (by simp)) ((h.alloc (Nat.le_refl _) _).more (by simp))).mono fun r w' ⟨h1, h2⟩ => by
      rw [Lb.cmp_a] at h1
      exact ⟨h1, ((Below.refl _ W).alloc (Nat.le_refl _) _).trans (h2.below.mono (by simp))⟩⟩
  have CC : Kept (∀ (A : Option Addr) (c : Nat) (W : World), RdL W W.heap.size A 2 c [Lb.la, Lb.lb] → Calls Try.prog 36 #[.slice (some ⟨W.heap.size, 0, none⟩) 1 1, .slice A 2 c] (W.alloc (.cells #[.string ⟨#[97]⟩, .string ⟨#[50]⟩] 57)) fun r w' => r = .returned (.int .i64 1) ∧ Below W.heap.size W w') :=
    ⟨fun A c W h => (lcompare_any (some ⟨W.heap.size, 0, none⟩) A 1 1 2 c [Lb.lc] [Lb.la, Lb.lb] _ ((lit1 W Lb.lc).more (by simp)) ((h.alloc (Nat.le_refl _) _).more (by simp))).mono fun r w' ⟨h1, h2⟩ => by
      rw [Lb.cmp_c] at h1
      exact ⟨h1, ((Below.refl _ W).alloc (Nat.le_refl _) _).trans (h2.below.mono (by simp))⟩⟩
  have STR : Kept (∀ (A : Option Addr) (c : Nat) (W : World), RdL W W.heap.size A 2 c [Lb.la, Lb.lb] → Calls Try.prog 41 #[.slice A 2 c] W fun r w' => ∃ A2 c2, r = .returned (.slice A2 4 c2) ∧ Below W.heap.size W w') :=
    ⟨fun A c W h => (lstrings_any A 2 c [Lb.la, Lb.lb] W h (by omega)).mono fun r w' ⟨A2, n2, c2, h1, h2, h3⟩ => by
      obtain rfl : n2 = 4 := h2.len
      exact ⟨A2, c2, h1, h3⟩⟩
  go_enter Try.func29, Try.ntmps29
  go_upto_region 2 with fail
  obtain ⟨W2, hW⟩ : ∃ W2, W2 = (w.alloc (.cells #[.string ⟨#[97]⟩, .string ⟨#[49]⟩] 57)).alloc (.cells #[.string ⟨#[98]⟩, .string ⟨#[50]⟩] 57) := ⟨_, rfl⟩
  have hz : W2.heap.size = w.heap.size + 2 := by rw [hW]; simp
  have bW : Kept (Below w.heap.size w W2) := ⟨by rw [hW]; exact (((Gr.refl w).alloc _).alloc _).below⟩
  have b0 : ∀ k, W2.cell? ⟨w.heap.size, k, none⟩ = (#[Value.string ⟨#[97]⟩, .string ⟨#[49]⟩] : Array Value)[k]? := fun k => by
    rw [hW, World.cell?_alloc_lt _ _ ⟨w.heap.size, k, none⟩ (by simp)]; exact World.cell?_alloc_mark w _ _ _ k
  have b1 : ∀ k, W2.cell? ⟨w.heap.size + 1, k, none⟩ = (#[Value.string ⟨#[98]⟩, .string ⟨#[50]⟩] : Array Value)[k]? := fun k => by
    rw [hW]; simp
  have KK : Kept (∀ W, Below W2.heap.size W2 W → W.cell? ⟨w.heap.size, 0, none⟩ = some (.string ⟨#[97]⟩) ∧ W.cell? ⟨w.heap.size, 1, none⟩ = some (.string ⟨#[49]⟩) ∧ W.cell? ⟨w.heap.size + 1, 0, none⟩ = some (.string ⟨#[98]⟩) ∧ W.cell? ⟨w.heap.size + 1, 1, none⟩ = some (.string ⟨#[50]⟩)) :=
    ⟨fun W h => ⟨(h.cell (p := ⟨_, _, none⟩) (by show w.heap.size < _; omega)).trans (b0 0), (h.cell (p := ⟨_, _, none⟩) (by show w.heap.size < _; omega)).trans (b0 1), (h.cell (p := ⟨_, _, none⟩) (by show w.heap.size + 1 < _; omega)).trans (b1 0), (h.cell (p := ⟨_, _, none⟩) (by show w.heap.size + 1 < _; omega)).trans (b1 1)⟩⟩
  rw [← hW]
  clear hW b0 b1 hz
  obtain ⟨q0, q1, q2, q3⟩ := KK.out W2 (Below.refl _ _)
  go_wp2_with (first
    | (go_at_call 33; refine (NORM.out W2).mono ?_; rintro r w3 ⟨A3, c3, rfl, hr3, hb3⟩; have R3 := Kept.mk hr3; have B3 := Kept.mk hb3; clear hr3 hb3 q0 q1 q2 q3)
    | (go_at_call 38; refine (GET.out A3 c3 w3 R3.out).mono ?_; rintro r w4 ⟨rfl, hb⟩; have R4 := Kept.mk ((R3.out.below hb).more hb.size); have B4 := Kept.mk (B3.out.trans (hb.mono B3.out.size)); clear hb R3 B3; obtain ⟨q0, q1, q2, q3⟩ := KK.out w4 B4.out)
    | (go_at_call 35; refine (EQ.out A3 c3 w4 R4.out).mono ?_; rintro r w5 ⟨rfl, hb⟩; have R5 := Kept.mk ((R4.out.below hb).more hb.size); have B5 := Kept.mk (B4.out.trans (hb.mono B4.out.size)); clear hb q0 q1 q2 q3)
    | (go_at_call 30; refine (CHK.out A3 c3 w5 R5.out).mono ?_; rintro r w6 ⟨rfl, hb⟩; have R6 := Kept.mk ((R5.out.below hb).more hb.size); have B6 := Kept.mk (B5.out.trans (hb.mono B5.out.size)); clear hb R5 B5; obtain ⟨q0, q1, q2, q3⟩ := KK.out w6 B6.out)
    | (go_at_call 36; refine (CA.out A3 c3 w6 R6.out).mono ?_; rintro r w7 ⟨rfl, hb⟩; have R7 := Kept.mk ((R6.out.below hb).more hb.size); have B7 := Kept.mk (B6.out.trans (hb.mono B6.out.size)); clear hb R6 B6 q0 q1 q2 q3)
    | (go_at_call 36; refine (CC.out A3 c3 w7 R7.out).mono ?_; rintro r w8 ⟨rfl, hb⟩; have R8 := Kept.mk ((R7.out.below hb).more hb.size); have B8 := Kept.mk (B7.out.trans (hb.mono B7.out.size)); clear hb R7 B7)
    | (go_at_call 41; refine (STR.out A3 c3 w8 R8.out).mono ?_; rintro r w9 ⟨A9, c9, rfl, hb⟩; have B9 := Kept.mk (B8.out.trans (hb.mono B8.out.size)); clear hb))
  go_ret
  exact ⟨rfl, bW.out.trans (B9.out.mono bW.out.size)⟩
end Go.Proofs.Ytglnghdomoebfaa
