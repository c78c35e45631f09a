/- The reader's Take. -/
import Derived.Test.YtknfkbgnfjfpeaaDoorWireF
import Derived.Deep.RegionHeld3
import Derived.Deep.QuietTactic
import Derived.BigQuiet
namespace Go.Proofs.YtknfkbgnfjfpeaaDoor
open Go.RowKit Go.Shelf

/-- only draws -/
def Quiet (w w' : World) : Prop := ∃ n, w' = w.drewN n
theorem Quiet.below {w w' : World} (h : Quiet w w') (B : Nat) : Below B w w' := by obtain ⟨n, rfl⟩ := h; exact below_drewN (Below.refl _ _) n
theorem Quiet.grown {w w' : World} (h : Quiet w w') (row : Option Nat) : w.grownBy w' row := by obtain ⟨n, rfl⟩ := h; exact ⟨rfl, rfl, rfl, Nat.le_refl _, fun _ _ _ => rfl⟩
def Wr.take (l : List UInt8) (a : Nat) (e n : Int) : List UInt8 × Nat × Int :=
  if e ≠ 0 then ([], a, e) else if n < 0 then ([], a, 2) else if (l.length : Int) - a < n then ([], a, 3) else ((l.drop a).take n.toNat, a + n.toNat, 0)

/-- a cut of a slice, as the walk spells it -/
theorem RdB.cut {w : World} {B n c : Nat} {A : Option Addr} {l : List UInt8} (h : RdB w B A n c l) {a k : Nat} (hk : a + k ≤ n) : RdB w B (if c = a then A else A.map (·.add a)) k (c - a) ((l.drop a).take k) := (h.drop (by omega)).take (by omega)

set_option maxHeartbeats 1000000 in
theorem take1_neg (_p a bx bn : Nat) (n : Int) (w : World) (hn : w.cell? ⟨bn, 0, none⟩ = some (.int .i64 n)) (h0 : n < 0) :
    Calls Tryd.prog 68 #[.int .i64 (a : Int), .pointer (some ⟨bn, 0, none⟩), .pointer (some ⟨bx, 0, none⟩)] w fun r w' => r = .returned (.tuple #[.slice none 0 0, .int .i64 0, .int .i64 2]) ∧ w = w' := by
  go_enter Tryd.func68, Tryd.ntmps68
  go_wp2
  go_ret3
  exact ⟨rfl, rfl⟩
set_option maxHeartbeats 1000000 in
theorem take1_far (p a bx bn : Nat) (l : List UInt8) (e n : Int) (w : World) (h : Rdr w p l a e) (hb : w.cell? ⟨bx, 0, none⟩ = some (.pointer (some ⟨p, 0, none⟩))) (hn : w.cell? ⟨bn, 0, none⟩ = some (.int .i64 n)) (h0 : 0 ≤ n) (h1 : (l.length : Int) - a < n) :
    Calls Tryd.prog 68 #[.int .i64 (a : Int), .pointer (some ⟨bn, 0, none⟩), .pointer (some ⟨bx, 0, none⟩)] w fun r w' => r = .returned (.tuple #[.slice none 0 0, .int .i64 0, .int .i64 3]) ∧ Quiet w w' := by
  have HL := Kept.mk (fun W (hW : Rdr W p l a e) => left_any p a l e (a : Int) W hW (by omega) (by have := h.len; omega))
  have H := Kept.mk h
  clear h
  go_enter Tryd.func68, Tryd.ntmps68
  go_wp2_with fail
  go_region_held3 (fun w' => w'.cell? ⟨bn, 0, none⟩ = some (.int .i64 n) ∧ w'.cell? ⟨bx, 0, none⟩ = some (.pointer (some ⟨p, 0, none⟩))) (first | exact ⟨hn, hb⟩)
    ((go_at_call 53; refine (HL.out _ (by exact H.out)).mono ?_; rintro r w1 ⟨rfl, rfl⟩))
  go_wp2
  go_ret3
  exact ⟨rfl, 1, rfl⟩
set_option maxRecDepth 100000 in
set_option maxHeartbeats 2000000 in
theorem take1_ok (p a bx bn n : Nat) (l : List UInt8) (e : Int) (w : World) (h : Rdr w p l a e) (hb : w.cell? ⟨bx, 0, none⟩ = some (.pointer (some ⟨p, 0, none⟩))) (hn : w.cell? ⟨bn, 0, none⟩ = some (.int .i64 (n : Int))) (h1 : n ≤ l.length - a) :
    Calls Tryd.prog 68 #[.int .i64 (a : Int), .pointer (some ⟨bn, 0, none⟩), .pointer (some ⟨bx, 0, none⟩)] w fun r w' => ∃ A3 c3, r = .returned (.tuple #[.slice A3 n c3, .int .i64 ((a : Int) + n), .int .i64 0]) ∧ OwnB w' w.heap.size A3 n c3 ((l.drop a).take n) ∧ Below w.heap.size w w' := by
  have HL := Kept.mk (fun W (hW : Rdr W p l a e) => left_any p a l e (a : Int) W hW (by omega) (by have := h.len; omega))
  have H := Kept.mk h
  have hp := h.lt
  obtain ⟨A, m, c, k0, k1, k2, f1, f2, hr, h3, h4, h5, h6⟩ := h.cells
  have hl := Kept.mk hr.len
  have hnm : a + n ≤ m := by have := hl.out; omega
  have Hc := Kept.mk (hr.cut hnm)
  have i1 : (0 : Int) ≤ (a : Int) := by omega
  have i2 : (a : Int) ≤ (a : Int) + (n : Int) := by omega
  have i3 : (a : Int) + (n : Int) ≤ (m : Int) := by omega
  have i4 : (a : Int) + (n : Int) ≤ (c : Int) := by omega
  have i5 : (n : Int) ≤ (m : Int) - (a : Int) := by omega
  have e1 : Kept ((l.length : Int) - (a : Int) = (m : Int) - (a : Int)) := ⟨by rw [← hl.out]⟩
  have e2 : ((a : Int) + (n : Int)).toNat = a + n := by omega
  have ew : IntKind.i64.wrap ((a : Int) + (n : Int)) = (a : Int) + (n : Int) := by rw [IntKind.wrap_i64]; omega
  have hpl : p ≤ w.heap.size := by omega
  clear h hr
  by_cases hca : c = a
  · have hn0 : n = 0 := by omega
    subst hn0
    obtain rfl : m = a := by omega
    subst hca
    rw [if_pos rfl, Nat.sub_self] at Hc
    have hn' : w.cell? ⟨bn, 0, none⟩ = some (.int .i64 0) := hn
    have hbx := World.block_lt_of_cell? w _ hb
    have hbn := World.block_lt_of_cell? w _ hn
    have e3 : Kept ((l.length : Int) - (c : Int) = 0) := ⟨by have := hl.out; omega⟩
    clear hn i2 i3 i4 i5 e1 e2 ew hnm h4 h5
    have ew : IntKind.i64.wrap (c : Int) = (c : Int) := by rw [IntKind.wrap_i64]; omega
    go_enter Tryd.func68, Tryd.ntmps68
    go_wp2_with fail
    go_region_held3 (fun w' => w'.cell? ⟨bn, 0, none⟩ = some (.int .i64 0) ∧ w'.cell? ⟨bx, 0, none⟩ = some (.pointer (some ⟨p, 0, none⟩))) (first | exact ⟨hn', hb⟩)
      ((go_at_call 53; refine (HL.out _ (by exact H.out)).mono ?_; rintro r w1 ⟨rfl, rfl⟩; rw [e3.out]))
    go_wp2_with fail
    go_region_held3 (fun w' => w'.cell? ⟨bn, 0, none⟩ = some (.int .i64 0) ∧ w'.cell? ⟨bx, 0, none⟩ = some (.pointer (some ⟨p, 0, none⟩)) ∧ w'.cell? ⟨p, 0, none⟩ = some (.slice A c c)) (first | exact ⟨hn', hb, k0⟩ | exact k9)
      ((go_at_call 50; refine (sclone_any _ _ _ p ((l.drop c).take 0) _ (by exact Hc.out) (by exact hpl) (by omega)).mono ?_; rintro r w1 ⟨A3, c3, rfl, ho, hbl⟩;
        have k9 : w1.cell? ⟨bn, 0, none⟩ = some (.int .i64 0) ∧ w1.cell? ⟨bx, 0, none⟩ = some (.pointer (some ⟨p, 0, none⟩)) ∧ w1.cell? ⟨p, 0, none⟩ = some (.slice A c c) := ⟨(hbl.cell (p := ⟨bn, 0, none⟩) hbn).trans hn', (hbl.cell (p := ⟨bx, 0, none⟩) hbx).trans hb, (hbl.cell (p := ⟨p, 0, none⟩) hp).trans k0⟩))
    go_wp2
    go_ret3
    exact ⟨A3, c3, by simp, ho, below_drew_of (below_drew_of hbl)⟩
  · have hca' : (a : Int) < (c : Int) := by omega
    rw [if_neg hca] at Hc
    have hbx := World.block_lt_of_cell? w _ hb
    have hbn := World.block_lt_of_cell? w _ hn
    go_enter Tryd.func68, Tryd.ntmps68
    go_wp2_with fail
    go_region_held3 (fun w' => w'.cell? ⟨bn, 0, none⟩ = some (.int .i64 (n : Int)) ∧ w'.cell? ⟨bx, 0, none⟩ = some (.pointer (some ⟨p, 0, none⟩))) (first | exact ⟨hn, hb⟩)
      ((go_at_call 53; refine (HL.out _ (by exact H.out)).mono ?_; rintro r w1 ⟨rfl, rfl⟩; rw [e1.out]))
    go_wp2_with fail
    go_region_held3 (fun w' => w'.cell? ⟨bn, 0, none⟩ = some (.int .i64 (n : Int)) ∧ w'.cell? ⟨bx, 0, none⟩ = some (.pointer (some ⟨p, 0, none⟩)) ∧ w'.cell? ⟨p, 0, none⟩ = some (.slice A m c)) (first | exact ⟨hn, hb, k0⟩ | exact k9)
      ((go_at_call 50; refine (sclone_any _ _ _ p ((l.drop a).take n) _ (by exact Hc.out) (by exact hpl) (by omega)).mono ?_; rintro r w1 ⟨A3, c3, rfl, ho, hbl⟩;
        have k9 : w1.cell? ⟨bn, 0, none⟩ = some (.int .i64 (n : Int)) ∧ w1.cell? ⟨bx, 0, none⟩ = some (.pointer (some ⟨p, 0, none⟩)) ∧ w1.cell? ⟨p, 0, none⟩ = some (.slice A m c) := ⟨(hbl.cell (p := ⟨bn, 0, none⟩) hbn).trans hn, (hbl.cell (p := ⟨bx, 0, none⟩) hbx).trans hb, (hbl.cell (p := ⟨p, 0, none⟩) hp).trans k0⟩))
    go_wp2
    go_ret3
    exact ⟨A3, c3, rfl, ho, below_drew_of (below_drew_of hbl)⟩

theorem below_grown {w w' : World} (h : Below w.heap.size w w') (row : Option Nat) : w.grownBy w' row := ⟨h.os, h.tape, h.output, h.size, fun k hk _ => h.block k hk⟩
theorem OwnB.far {w : World} {base n c : Nat} {A : Option Addr} {l : List UInt8} (h : OwnB w base A n c l) {a : Addr} (ha : a.block < base) (v : Value) : OwnB (w.setCell a v) base A n c l :=
  h.apart (grown_set w a v) (fun r e => by cases e; exact .inl fun e2 => by have := (own_lt h _ e2).1; omega)
set_option maxHeartbeats 1000000 in
theorem take_any (p a : Nat) (l : List UInt8) (e n : Int) (w : World) (h : Rdr w p l a e) (hn0 : -9223372036854775808 ≤ n) (hn1 : n ≤ 9223372036854775807) :
    Calls Tryd.prog 35 #[.pointer (some ⟨p, 0, none⟩), .int .i64 n] w fun r w' => ∃ A3 n3 c3, r = .returned (.slice A3 n3 c3) ∧ OwnB w' w.heap.size A3 n3 c3 (Wr.take l a e n).1 ∧ Rdr w' p l (Wr.take l a e n).2.1 (Wr.take l a e n).2.2 ∧ w.grownBy w' (some p) := by
  have bb := ((Boxed.new w 36 (.pointer (some ⟨p, 0, none⟩))).alloc (.cells #[.int .i64 n] 3)).cell
  have bm := (Boxed.new (w.alloc (.cells #[.pointer (some ⟨p, 0, none⟩)] 36)) 3 (.int .i64 n)).cell
  have H := Kept.mk ((h.box (.cells #[.pointer (some ⟨p, 0, none⟩)] 36)).box (.cells #[.int .i64 n] 3))
  have g0 : w.grownBy ((w.alloc (.cells #[.pointer (some ⟨p, 0, none⟩)] 36)).alloc (.cells #[.int .i64 n] 3)) (some p) := (World.grownBy_alloc _ _ _).trans (World.grownBy_alloc _ _ _)
  have hz2 : ((w.alloc (.cells #[.pointer (some ⟨p, 0, none⟩)] 36)).alloc (.cells #[.int .i64 n] 3)).heap.size = w.heap.size + 1 + 1 := by simp
  rw [World.size_alloc] at bm
  have hp := h.lt
  have hlen := h.len
  obtain ⟨W2, hW2⟩ : ∃ W2, W2 = (w.alloc (.cells #[.pointer (some ⟨p, 0, none⟩)] 36)).alloc (.cells #[.int .i64 n] 3) := ⟨_, rfl⟩
  have HW2 := Kept.mk hW2
  have hbad : ∀ er : Int, er ≠ 0 → (Calls Tryd.prog 68 #[.int .i64 (a : Int), .pointer (some ⟨w.heap.size + 1, 0, none⟩), .pointer (some ⟨w.heap.size, 0, none⟩)] ((w.alloc (.cells #[.pointer (some ⟨p, 0, none⟩)] 36)).alloc (.cells #[.int .i64 n] 3)) fun r w' => r = .returned (.tuple #[.slice none 0 0, .int .i64 0, .int .i64 er]) ∧ Quiet W2 w') → e = 0 →
      Calls Tryd.prog 35 #[.pointer (some ⟨p, 0, none⟩), .int .i64 n] w fun r w' => ∃ A3 n3 c3, r = .returned (.slice A3 n3 c3) ∧ OwnB w' w.heap.size A3 n3 c3 [] ∧ Rdr w' p l a er ∧ w.grownBy w' (some p) := by
    intro er her hU he
    subst he
    have HF := Kept.mk (readTake_bad p a 68 l 0 er (.pointer (some ⟨w.heap.size + 1, 0, none⟩)) (.pointer (some ⟨w.heap.size, 0, none⟩)) _ (fun w' => Quiet W2 w') H.out her
      (enters_of Tryd.func68 (by kernel_rfl) rfl) (hU.mono fun r w' ⟨h1, h2⟩ => ⟨⟨_, h1⟩, h2⟩) (fun w' h => by rw [hW2] at h; exact H.out.below (h.below (p + 1)) (by omega)))
    have G0 := Kept.mk g0
    clear h g0 bb bm hU hW2 her
    go_enter Tryd.func35, Tryd.ntmps35
    go_wp2_with (go_at_call 51; refine HF.out.mono ?_; rintro r w1 ⟨rfl, w2, hq, rfl⟩)
    go_ret
    rw [HW2.out] at hq
    exact ⟨none, 0, 0, rfl, OwnB.nil _ _, (H.out.below (hq.below (p + 1)) (by omega)).fail er, (G0.out.trans (hq.grown _)).trans (grown_set _ ⟨p, 2, none⟩ _)⟩
  by_cases he : e = 0
  · have he' := he
    subst he
    by_cases h0 : n < 0
    · have hm : Wr.take l a 0 n = ([], a, 2) := by unfold Wr.take; rw [if_neg (by simp), if_pos h0]
      rw [hm]
      exact hbad 2 (by decide) ((take1_neg p a w.heap.size (w.heap.size + 1) n _ bm h0).mono fun r w' ⟨h1, h2⟩ => ⟨h1, 0, by rw [hW2, h2]; rfl⟩) rfl
    · by_cases h1 : (l.length : Int) - a < n
      · have hm : Wr.take l a 0 n = ([], a, 3) := by unfold Wr.take; rw [if_neg (by simp), if_neg h0, if_pos h1]
        rw [hm]
        exact hbad 3 (by decide) ((take1_far p a w.heap.size (w.heap.size + 1) l 0 n _ H.out bb bm (by omega) h1).mono fun r w' ⟨h1, h2⟩ => ⟨h1, by rw [hW2]; exact h2⟩) rfl
      · clear hbad
        have hm : Wr.take l a 0 n = ((l.drop a).take n.toNat, a + n.toNat, 0) := by unfold Wr.take; rw [if_neg (by simp), if_neg h0, if_neg h1]
        rw [hm]
        obtain ⟨k, rfl⟩ := Int.eq_ofNat_of_zero_le (show 0 ≤ n by omega)
        simp only [Int.toNat_natCast] at hm ⊢
        have HF := Kept.mk (readTake_ok p a 68 l ((a : Int) + k) (.pointer (some ⟨w.heap.size + 1, 0, none⟩)) (.pointer (some ⟨w.heap.size, 0, none⟩)) _ (fun V w' => ∃ A3 c3, V = .slice A3 k c3 ∧ OwnB w' W2.heap.size A3 k c3 ((l.drop a).take k) ∧ Below W2.heap.size W2 w') H.out
          (enters_of Tryd.func68 (by kernel_rfl) rfl) ((take1_ok p a w.heap.size (w.heap.size + 1) k l 0 _ H.out bb bm (by omega)).mono fun r w' ⟨A3, c3, h1, h2, h3⟩ => ⟨_, h1, A3, c3, rfl, by rw [hW2]; exact h2, by rw [hW2]; exact h3⟩)
          (fun V w' ⟨A3, c3, _, _, h⟩ => by rw [hW2] at h; exact H.out.below h (by rw [hz2]; omega)))
        have G0 := Kept.mk g0
        have HM := Kept.mk (show a + k ≤ l.length by omega)
        have Hz2 := Kept.mk hz2
        clear h g0 bb bm hW2 hm h0 h1 hz2
        go_enter Tryd.func35, Tryd.ntmps35
        go_wp2_with (go_at_call 51; refine HF.out.mono ?_; rintro r w1 ⟨V, rfl, w2, ⟨A3, c3, rfl, ho, hbl⟩, rfl⟩)
        go_ret
        rw [HW2.out] at ho hbl
        have hm2 := (H.out.below hbl (by rw [Hz2.out]; omega)).move (a + k) HM.out
        rw [Hz2.out] at ho
        exact ⟨A3, k, c3, rfl, (ho.far (by show p < _; omega) _).base (by omega), hm2, (G0.out.trans (below_grown hbl _)).trans (grown_set _ ⟨p, 1, none⟩ _)⟩
  · have hm : Wr.take l a e n = ([], a, e) := by unfold Wr.take; rw [if_pos he]
    rw [hm]
    have HF := Kept.mk (readTake_err p a l e (.func (.func 68) #[] #[.pointer (some ⟨w.heap.size + 1, 0, none⟩), .pointer (some ⟨w.heap.size, 0, none⟩)]) _ H.out he)
    have G0 := Kept.mk g0
    clear h g0 hm bb bm he hbad hW2
    go_enter Tryd.func35, Tryd.ntmps35
    go_wp2_with (go_at_call 51; refine HF.out.mono ?_; rintro r w1 ⟨rfl, rfl⟩)
    go_ret
    exact ⟨none, 0, 0, rfl, OwnB.nil _ _, H.out, G0.out⟩
end Go.Proofs.YtknfkbgnfjfpeaaDoor
