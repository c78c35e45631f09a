/- The law's own 'step': the program's reader and the reference's go the same way. (Printed by gen_step.py.) -/
import Derived.Test.YtknfkbgnfjfpeaaDoorWireO
import Derived.Test.YtknfkbgnfjfpeaaDoorWireS
import Derived.Test.YtknfkbgnfjfpeaaDoorOpenW
namespace Go.Proofs.YtknfkbgnfjfpeaaDoor
open Go.RowKit Go.Shelf

/-- bytes do not lie in a block that holds a reader -/
theorem RdB.past {w w' : World} {B n c p : Nat} {A : Option Addr} {l : List UInt8} (h : RdB w B A n c l) {A' : Option Addr} {n' c' : Nat} {x y : Int} {t : TypeId} {fr : Nat × Nat} (hp : w.heap[p]? = some (.cells #[.slice A' n' c', .int .i64 x, .int .i64 y] t fr))
    (hg : w.grownBy w' (some p)) (hB : B ≤ w.heap.size) : RdB w' B A n c l := by
  refine ⟨h.1, h.2.1, h.2.2.1, fun hn => ?_⟩
  obtain ⟨b, off, e, hb, hc⟩ := h.2.2.2 hn
  refine ⟨b, off, e, hb, fun i u hu => ?_⟩
  have h1 := hc i u hu
  have hne : b ≠ p := by
    rintro rfl
    rw [cell_of_row w b (off + i) _ _ _ hp] at h1
    have hu2 : ∃ z : UInt8, u = .int .u8 (z.toNat : Int) := by
      simp only [bvs, List.getElem?_map] at hu
      obtain ⟨z, _, hz⟩ := Option.map_eq_some_iff.1 hu
      exact ⟨z, hz.symm⟩
    obtain ⟨z, rfl⟩ := hu2
    have hlt := (Array.getElem?_eq_some_iff.1 h1).1
    simp at hlt
    match hk : off + i, hlt with
    | 0, _ => rw [hk] at h1; simp at h1
    | 1, _ => rw [hk] at h1; simp at h1
    | 2, _ => rw [hk] at h1; simp at h1
    | k + 3, hlt => omega
  exact (World.cell?_of_block (hg.block b (by omega) (fun e => hne (Option.some.inj e)))).trans h1
theorem RdrQ.past {w w' : World} {p q a a' : Nat} {l l' : List UInt8} {e e' : Int} (h : RdrQ w q l a e) (hp : Rdr w p l' a' e') (hne : p ≠ q) (hg : w.grownBy w' (some p)) : RdrQ w' q l a e := by
  have hq := h.lt
  obtain ⟨A, n, c, h1, h2, h3, h4⟩ := h
  obtain ⟨A', n', c', g1, _⟩ := hp
  exact ⟨A, n, c, (hg.block q hq (fun e => hne (Option.some.inj e).symm)).trans h1, h2.past g1 hg (by omega), h3, h4⟩
theorem Rdr.past {w w' : World} {p q a a' : Nat} {l l' : List UInt8} {e e' : Int} (h : Rdr w q l a e) (hp : RdrQ w p l' a' e') (hne : p ≠ q) (hg : w.grownBy w' (some p)) : Rdr w' q l a e := by
  have hq := h.lt
  obtain ⟨A, n, c, h1, h2, h3, h4⟩ := h
  obtain ⟨A', n', c', g1, _⟩ := hp
  exact ⟨A, n, c, (hg.block q hq (fun e => hne (Option.some.inj e).symm)).trans h1, h2.past g1 hg (by omega), h3, h4⟩
theorem OwnB.past {w w' : World} {base n c q : Nat} {A : Option Addr} {l : List UInt8} (h : OwnB w base A n c l) (hg : w.grownBy w' (some q)) (hq : q < base) : OwnB w' base A n c l :=
  own_grown h hg (by
    rcases hA : ab A with _ | g
    · exact .inl rfl
    · refine .inr fun e => ?_
      have := (own_lt h g hA).1
      have := Option.some.inj e
      omega)
theorem ActAt.grown {w w' : World} {g p : Nat} {kd nn : Int} {u : Nat} {id : UInt8} (h : ActAt w g kd nn u id) (hg : w.grownBy w' (some p)) (hgp : p < g) : ActAt w' g kd nn u id := by
  have hlt : g < w.heap.size := World.block_lt_of_cell? w _ h.1
  have hk : ∀ k, w'.cell? ⟨g, k, none⟩ = w.cell? ⟨g, k, none⟩ := fun k => World.cell?_of_block (hg.block g hlt (fun e => by have := Option.some.inj e; omega))
  exact ⟨(hk 0).trans h.1, (hk 1).trans h.2.1, (hk 2).trans h.2.2.1, (hk 3).trans h.2.2.2⟩
theorem failq_two (p a : Nat) (l : List UInt8) (e f : Int) (w : World) (h : RdrQ w p l a e) : Calls Tryd.prog 63 #[.pointer (some ⟨p, 0, none⟩), .int .i64 f] w fun r w' => r = .returned (.tuple #[]) ∧ RdrQ w' p l a (if e = 0 then f else e) ∧ w.grownBy w' (some p) :=
  (failq_any p a l e f w h).mono fun r w' ⟨h1, h2⟩ => by
    refine ⟨h1, ?_⟩
    rw [h2]
    by_cases he : e = 0
    · rw [if_pos he, if_pos he]
      exact ⟨h.fail f, grown_set w ⟨p, 2, none⟩ _⟩
    · rw [if_neg he, if_neg he]
      exact ⟨h, World.grownBy.refl _ _⟩
theorem drew_grown {w w' : World} {row : Option Nat} (h : w.drew.grownBy w' row) : w.grownBy w' row := ⟨h.os, h.tape, h.output, h.size, h.block⟩
theorem quiet_q {w w'' : World} {k : Nat} (h : Quiet (w.drewN k) w'') : ∃ n, w'' = w.drewN n := by
  obtain ⟨m, rfl⟩ := h
  exact ⟨_, World.drewN_drewN _ _ _⟩
/-- both readers, at one offset and with one error -/
def Both (w : World) (p q : Nat) (l : List UInt8) : Prop := ∃ a e, Rdr w p l a e ∧ RdrQ w q l a e
set_option maxRecDepth 100000 in
set_option maxHeartbeats 4000000 in
theorem step_byte (p q a B : Nat) (l : List UInt8) (e nn : Int) (u : Nat) (id : UInt8) (w : World) (h : Rdr w p l a e) (hq : RdrQ w q l a e) (hpq : p ≠ q) (hBp : B ≤ p) (hBq : B ≤ q) :
    Calls Tryd.prog 30 #[.pointer (some ⟨p, 0, none⟩), .pointer (some ⟨q, 0, none⟩), .agg #[.int .i64 0, .int .i64 nn, .int .u64 (u : Int), .int .u8 (id.toNat : Int)]] w fun r w' => r = .returned (.int .i64 1) ∧ Both w' p q l ∧ Below B w w' := by
  obtain ⟨W1, hW1⟩ : ∃ W1, W1 = w.alloc (.cells #[.int .i64 0, .int .i64 nn, .int .u64 (u : Int), .int .u8 (id.toNat : Int)] 53) := ⟨_, rfl⟩
  have hlp := h.lt
  have hlq := hq.lt
  have hBw : B ≤ w.heap.size := by omega
  have HA : Kept (ActAt W1 w.heap.size 0 nn u id) := ⟨by rw [hW1]; exact ActAt.new w _ nn u id⟩
  have R1 : Kept (Rdr W1 p l a e) := ⟨by rw [hW1]; exact h.box _⟩
  have Q1 : Kept (RdrQ W1 q l a e) := ⟨by rw [hW1]; exact hq.box _⟩
  have B1 : Kept (Below B w W1) := ⟨by rw [hW1]; exact (Below.refl _ w).alloc (by omega) _⟩
  have HW := Kept.mk hW1.symm
  obtain ⟨k0, k1, k2, k3⟩ := HA.out
  obtain ⟨s, hs⟩ : ∃ s, Wr.byte l a e = s := ⟨_, rfl⟩
  have H1 := fun W hW => byte_any p a l e W hW
  have H2 := fun W hW => byteq_any q a l e W hW
  rw [hs] at H1 H2
  obtain ⟨v, a', e'⟩ := s
  simp only at H1 H2
  have C1 := Kept.mk H1
  have C2 := Kept.mk H2
  clear H1 H2 hs
  clear h hq hW1
  go_enter Tryd.func30, Tryd.ntmps30
  go_upto_region 2 with fail
  rw [HW.out]
  go_upto_region 16 with (first
    | (go_at_call 32; refine (C1.out _ (by exact R1.out)).mono ?_; rintro r w2 ⟨rfl, hr2, hg2⟩; replace hg2 : W1.grownBy w2 (some p) := (by first | exact drew_grown hg2 | exact hg2); have r2 := Kept.mk hr2; have q2 := Kept.mk (Q1.out.past R1.out hpq hg2); have b2 := Kept.mk (B1.out.trans (grown_below hg2 hBp (Nat.le_trans hBw B1.out.size))); have a2 := Kept.mk (HA.out.grown hg2 hlp); have z2 := hg2.size; clear hr2 hg2 Q1 R1 HA B1)
    | (go_at_call 58; refine (C2.out w2 q2.out).mono ?_; rintro r w3 ⟨rfl, hq3, hg3⟩; have q3 := Kept.mk hq3; have r3 := Kept.mk (r2.out.past q2.out hpq.symm hg3); have b3 := Kept.mk (b2.out.trans (grown_below hg3 hBq (Nat.le_trans hBw b2.out.size))); have a3 := Kept.mk (a2.out.grown hg3 hlq); clear hq3 hg3 r2 q2 a2 b2))
  obtain ⟨A9, n9, c9, j0, j1, j2, -⟩ := q3.out.cells
  go_quiet (first
    | (go_at_call 26; exact (at_any p a' l e' _ (by exact r3.out)).mono fun _ _ q => ⟨q.1, _, q.2.symm⟩)
    | (go_at_call 25; exact (err_any p a' l e' _ (by exact r3.out)).mono fun _ _ q => ⟨q.1, _, q.2.symm⟩)
    | (go_at_call 29; exact (end_any p a' l e' _ (by exact r3.out)).mono fun _ _ q => ⟨q.1, _, q.2.symm⟩)
    | (go_at_call 31; exact (endq_any q a' l e' _ (by exact q3.out)).mono fun _ _ q => ⟨q.1, quiet_q q.2⟩))
  go_wp2
  go_ret
  exact ⟨rfl, ⟨a', e', r3.out, q3.out⟩, below_drewN b3.out _⟩

set_option maxRecDepth 100000 in
set_option maxHeartbeats 4000000 in
theorem step_uint (p q a B : Nat) (l : List UInt8) (e nn : Int) (u : Nat) (id : UInt8) (w : World) (h : Rdr w p l a e) (hq : RdrQ w q l a e) (hpq : p ≠ q) (hBp : B ≤ p) (hBq : B ≤ q) :
    Calls Tryd.prog 30 #[.pointer (some ⟨p, 0, none⟩), .pointer (some ⟨q, 0, none⟩), .agg #[.int .i64 1, .int .i64 nn, .int .u64 (u : Int), .int .u8 (id.toNat : Int)]] w fun r w' => r = .returned (.int .i64 1) ∧ Both w' p q l ∧ Below B w w' := by
  obtain ⟨W1, hW1⟩ : ∃ W1, W1 = w.alloc (.cells #[.int .i64 1, .int .i64 nn, .int .u64 (u : Int), .int .u8 (id.toNat : Int)] 53) := ⟨_, rfl⟩
  have hlp := h.lt
  have hlq := hq.lt
  have hBw : B ≤ w.heap.size := by omega
  have HA : Kept (ActAt W1 w.heap.size 1 nn u id) := ⟨by rw [hW1]; exact ActAt.new w _ nn u id⟩
  have R1 : Kept (Rdr W1 p l a e) := ⟨by rw [hW1]; exact h.box _⟩
  have Q1 : Kept (RdrQ W1 q l a e) := ⟨by rw [hW1]; exact hq.box _⟩
  have B1 : Kept (Below B w W1) := ⟨by rw [hW1]; exact (Below.refl _ w).alloc (by omega) _⟩
  have HW := Kept.mk hW1.symm
  obtain ⟨k0, k1, k2, k3⟩ := HA.out
  obtain ⟨s, hs⟩ : ∃ s, Wr.uint l a e u = s := ⟨_, rfl⟩
  have H1 := fun W hW => uint_any p a u l e W hW
  have H2 := fun W hW => uintq_any q a u l e W hW
  rw [hs] at H1 H2
  obtain ⟨v, a', e'⟩ := s
  simp only at H1 H2
  have C1 := Kept.mk H1
  have C2 := Kept.mk H2
  clear H1 H2 hs
  clear h hq hW1
  go_enter Tryd.func30, Tryd.ntmps30
  go_upto_region 2 with fail
  rw [HW.out]
  go_upto_region 6 with fail
  go_region_held3 (fun w' => w'.cell? ⟨w.heap.size, 2, none⟩ = some (.int .u64 (u : Int))) (first | exact k2 | exact y2 | exact y3)
    (first
      | (go_at_call 34; refine (C1.out _ (by exact R1.out)).mono ?_; rintro r w2 ⟨rfl, hr2, hg2⟩; replace hg2 : W1.grownBy w2 (some p) := (by first | exact drew_grown hg2 | exact hg2); have r2 := Kept.mk hr2; have q2 := Kept.mk (Q1.out.past R1.out hpq hg2); have b2 := Kept.mk (B1.out.trans (grown_below hg2 hBp (Nat.le_trans hBw B1.out.size))); have a2 := Kept.mk (HA.out.grown hg2 hlp); have z2 := hg2.size; clear hr2 hg2 Q1 R1 HA B1; have y2 := a2.out.2.2.1)
      | (go_at_call 59; refine (C2.out w2 q2.out).mono ?_; rintro r w3 ⟨rfl, hq3, hg3⟩; have q3 := Kept.mk hq3; have r3 := Kept.mk (r2.out.past q2.out hpq.symm hg3); have b3 := Kept.mk (b2.out.trans (grown_below hg3 hBq (Nat.le_trans hBw b2.out.size))); have a3 := Kept.mk (a2.out.grown hg3 hlq); clear hq3 hg3 r2 q2 a2 b2; have y3 := a3.out.2.2.1))
  go_upto_region 16 with fail
  obtain ⟨A9, n9, c9, j0, j1, j2, -⟩ := q3.out.cells
  go_quiet (first
    | (go_at_call 26; exact (at_any p a' l e' _ (by exact r3.out)).mono fun _ _ q => ⟨q.1, _, q.2.symm⟩)
    | (go_at_call 25; exact (err_any p a' l e' _ (by exact r3.out)).mono fun _ _ q => ⟨q.1, _, q.2.symm⟩)
    | (go_at_call 29; exact (end_any p a' l e' _ (by exact r3.out)).mono fun _ _ q => ⟨q.1, _, q.2.symm⟩)
    | (go_at_call 31; exact (endq_any q a' l e' _ (by exact q3.out)).mono fun _ _ q => ⟨q.1, quiet_q q.2⟩))
  go_wp2
  go_ret
  exact ⟨rfl, ⟨a', e', r3.out, q3.out⟩, below_drewN b3.out _⟩

set_option maxRecDepth 100000 in
set_option maxHeartbeats 4000000 in
theorem step_string (p q a B : Nat) (l : List UInt8) (e nn : Int) (u : Nat) (id : UInt8) (w : World) (h : Rdr w p l a e) (hq : RdrQ w q l a e) (hpq : p ≠ q) (hBp : B ≤ p) (hBq : B ≤ q) (n1 : nn ≤ 9223372036854775807) :
    Calls Tryd.prog 30 #[.pointer (some ⟨p, 0, none⟩), .pointer (some ⟨q, 0, none⟩), .agg #[.int .i64 3, .int .i64 nn, .int .u64 (u : Int), .int .u8 (id.toNat : Int)]] w fun r w' => r = .returned (.int .i64 1) ∧ Both w' p q l ∧ Below B w w' := by
  obtain ⟨W1, hW1⟩ : ∃ W1, W1 = w.alloc (.cells #[.int .i64 3, .int .i64 nn, .int .u64 (u : Int), .int .u8 (id.toNat : Int)] 53) := ⟨_, rfl⟩
  have hlp := h.lt
  have hlq := hq.lt
  have hBw : B ≤ w.heap.size := by omega
  have HA : Kept (ActAt W1 w.heap.size 3 nn u id) := ⟨by rw [hW1]; exact ActAt.new w _ nn u id⟩
  have R1 : Kept (Rdr W1 p l a e) := ⟨by rw [hW1]; exact h.box _⟩
  have Q1 : Kept (RdrQ W1 q l a e) := ⟨by rw [hW1]; exact hq.box _⟩
  have B1 : Kept (Below B w W1) := ⟨by rw [hW1]; exact (Below.refl _ w).alloc (by omega) _⟩
  have HW := Kept.mk hW1.symm
  obtain ⟨k0, k1, k2, k3⟩ := HA.out
  obtain ⟨s, hs⟩ : ∃ s, Wr.string l a e nn = s := ⟨_, rfl⟩
  have H1 := fun W hW => string_any p a l e nn W hW n1
  have H2 := fun W hW => stringq_any q a l e nn W hW n1
  rw [hs] at H1 H2
  obtain ⟨v, a', e'⟩ := s
  simp only at H1 H2
  have C1 := Kept.mk H1
  have C2 := Kept.mk H2
  clear H1 H2 hs
  clear h hq hW1
  go_enter Tryd.func30, Tryd.ntmps30
  go_upto_region 2 with fail
  rw [HW.out]
  go_upto_region 10 with fail
  go_region_held3 (fun w' => w'.cell? ⟨w.heap.size, 1, none⟩ = some (.int .i64 nn)) (first | exact k1 | exact y2 | exact y3)
    (first
      | (go_at_call 28; refine (C1.out _ (by exact R1.out)).mono ?_; rintro r w2 ⟨rfl, hr2, hg2⟩; replace hg2 : W1.grownBy w2 (some p) := (by first | exact drew_grown hg2 | exact hg2); have r2 := Kept.mk hr2; have q2 := Kept.mk (Q1.out.past R1.out hpq hg2); have b2 := Kept.mk (B1.out.trans (grown_below hg2 hBp (Nat.le_trans hBw B1.out.size))); have a2 := Kept.mk (HA.out.grown hg2 hlp); have z2 := hg2.size; clear hr2 hg2 Q1 R1 HA B1; have y2 := a2.out.2.1)
      | (go_at_call 61; refine (C2.out w2 q2.out).mono ?_; rintro r w3 ⟨rfl, hq3, hg3⟩; have q3 := Kept.mk hq3; have r3 := Kept.mk (r2.out.past q2.out hpq.symm hg3); have b3 := Kept.mk (b2.out.trans (grown_below hg3 hBq (Nat.le_trans hBw b2.out.size))); have a3 := Kept.mk (a2.out.grown hg3 hlq); clear hq3 hg3 r2 q2 a2 b2; have y3 := a3.out.2.1))
  go_upto_region 16 with fail
  obtain ⟨A9, n9, c9, j0, j1, j2, -⟩ := q3.out.cells
  go_quiet (first
    | (go_at_call 26; exact (at_any p a' l e' _ (by exact r3.out)).mono fun _ _ q => ⟨q.1, _, q.2.symm⟩)
    | (go_at_call 25; exact (err_any p a' l e' _ (by exact r3.out)).mono fun _ _ q => ⟨q.1, _, q.2.symm⟩)
    | (go_at_call 29; exact (end_any p a' l e' _ (by exact r3.out)).mono fun _ _ q => ⟨q.1, _, q.2.symm⟩)
    | (go_at_call 31; exact (endq_any q a' l e' _ (by exact q3.out)).mono fun _ _ q => ⟨q.1, quiet_q q.2⟩))
  go_wp2
  go_ret
  exact ⟨rfl, ⟨a', e', r3.out, q3.out⟩, below_drewN b3.out _⟩

set_option maxRecDepth 100000 in
set_option maxHeartbeats 4000000 in
theorem step_take (p q a B : Nat) (l : List UInt8) (e nn : Int) (u : Nat) (id : UInt8) (w : World) (h : Rdr w p l a e) (hq : RdrQ w q l a e) (hpq : p ≠ q) (hBp : B ≤ p) (hBq : B ≤ q) (n0 : -9223372036854775808 ≤ nn) (n1 : nn ≤ 9223372036854775807) :
    Calls Tryd.prog 30 #[.pointer (some ⟨p, 0, none⟩), .pointer (some ⟨q, 0, none⟩), .agg #[.int .i64 2, .int .i64 nn, .int .u64 (u : Int), .int .u8 (id.toNat : Int)]] w fun r w' => r = .returned (.int .i64 1) ∧ Both w' p q l ∧ Below B w w' := by
  obtain ⟨W1, hW1⟩ : ∃ W1, W1 = w.alloc (.cells #[.int .i64 2, .int .i64 nn, .int .u64 (u : Int), .int .u8 (id.toNat : Int)] 53) := ⟨_, rfl⟩
  have hlp := h.lt
  have hlq := hq.lt
  have hBw : B ≤ w.heap.size := by omega
  have HA : Kept (ActAt W1 w.heap.size 2 nn u id) := ⟨by rw [hW1]; exact ActAt.new w _ nn u id⟩
  have R1 : Kept (Rdr W1 p l a e) := ⟨by rw [hW1]; exact h.box _⟩
  have Q1 : Kept (RdrQ W1 q l a e) := ⟨by rw [hW1]; exact hq.box _⟩
  have B1 : Kept (Below B w W1) := ⟨by rw [hW1]; exact (Below.refl _ w).alloc (by omega) _⟩
  have HW := Kept.mk hW1.symm
  obtain ⟨k0, k1, k2, k3⟩ := HA.out
  obtain ⟨s, hs⟩ : ∃ s, Wr.take l a e nn = s := ⟨_, rfl⟩
  have H1 := fun W hW => take_any p a l e nn W hW n0 n1
  have H2 := fun W hW => takeq_any q a l e nn W hW n0 n1
  rw [hs] at H1 H2
  obtain ⟨v, a', e'⟩ := s
  simp only at H1 H2
  have C1 := Kept.mk H1
  have C2 := Kept.mk H2
  clear H1 H2 hs
  clear h hq hW1
  go_enter Tryd.func30, Tryd.ntmps30
  go_upto_region 2 with fail
  rw [HW.out]
  have hlq1 : q < W1.heap.size := Q1.out.lt
  go_upto_region 8 with fail
  go_region_held3 (fun w' => w'.cell? ⟨w.heap.size, 1, none⟩ = some (.int .i64 nn)) (first | exact k1 | exact y2 | exact y3)
    (first
      | (go_at_call 35; refine (C1.out _ (by exact R1.out)).mono ?_; rintro r w2 ⟨A2, n2, c2, rfl, ho2, hr2, hg2⟩; replace hg2 : W1.grownBy w2 (some p) := (by first | exact drew_grown hg2 | exact hg2); have o2 := Kept.mk ho2; have r2 := Kept.mk hr2; have q2 := Kept.mk (Q1.out.past R1.out hpq hg2); have b2 := Kept.mk (B1.out.trans (grown_below hg2 hBp (Nat.le_trans hBw B1.out.size))); have a2 := Kept.mk (HA.out.grown hg2 hlp); have z2 := hg2.size; clear hr2 hg2 Q1 R1 HA B1; clear ho2; have y2 := a2.out.2.1)
      | (go_at_call 60; refine (C2.out w2 q2.out).mono ?_; rintro r w3 ⟨A3, n3, c3, rfl, ho3, hq3, hg3⟩; have o3 := Kept.mk ho3.rd; have u3 := Kept.mk (OwnB.past o2.out hg3 hlq1).rd; have q3 := Kept.mk hq3; have r3 := Kept.mk (r2.out.past q2.out hpq.symm hg3); have b3 := Kept.mk (b2.out.trans (grown_below hg3 hBq (Nat.le_trans hBw b2.out.size))); have a3 := Kept.mk (a2.out.grown hg3 hlq); clear ho3 o2 hq3 hg3 r2 q2 a2 b2; have y3 := a3.out.2.1)
      | (go_at_call 19; refine (equal_is _ _ _ _ _ _ v v true _ _ _ u3.out o3.out (by simp)).mono ?_; rintro r w5 ⟨rfl, rfl⟩))
  go_upto_region 16 with fail
  obtain ⟨A9, n9, c9, j0, j1, j2, -⟩ := q3.out.cells
  go_quiet (first
    | (go_at_call 26; exact (at_any p a' l e' _ (by exact r3.out)).mono fun _ _ q => ⟨q.1, _, q.2.symm⟩)
    | (go_at_call 25; exact (err_any p a' l e' _ (by exact r3.out)).mono fun _ _ q => ⟨q.1, _, q.2.symm⟩)
    | (go_at_call 29; exact (end_any p a' l e' _ (by exact r3.out)).mono fun _ _ q => ⟨q.1, _, q.2.symm⟩)
    | (go_at_call 31; exact (endq_any q a' l e' _ (by exact q3.out)).mono fun _ _ q => ⟨q.1, quiet_q q.2⟩))
  go_wp2
  go_ret
  exact ⟨rfl, ⟨a', e', r3.out, q3.out⟩, below_drewN b3.out _⟩

set_option maxRecDepth 100000 in
set_option maxHeartbeats 4000000 in
theorem step_section (p q a B : Nat) (l : List UInt8) (e nn : Int) (u : Nat) (id : UInt8) (w : World) (h : Rdr w p l a e) (hq : RdrQ w q l a e) (hpq : p ≠ q) (hBp : B ≤ p) (hBq : B ≤ q) (ht : Tab w) :
    Calls Tryd.prog 30 #[.pointer (some ⟨p, 0, none⟩), .pointer (some ⟨q, 0, none⟩), .agg #[.int .i64 4, .int .i64 nn, .int .u64 (u : Int), .int .u8 (id.toNat : Int)]] w fun r w' => r = .returned (.int .i64 1) ∧ Both w' p q l ∧ Below B w w' := by
  obtain ⟨W1, hW1⟩ : ∃ W1, W1 = w.alloc (.cells #[.int .i64 4, .int .i64 nn, .int .u64 (u : Int), .int .u8 (id.toNat : Int)] 53) := ⟨_, rfl⟩
  have hlp := h.lt
  have hlq := hq.lt
  have hBw : B ≤ w.heap.size := by omega
  have HA : Kept (ActAt W1 w.heap.size 4 nn u id) := ⟨by rw [hW1]; exact ActAt.new w _ nn u id⟩
  have R1 : Kept (Rdr W1 p l a e) := ⟨by rw [hW1]; exact h.box _⟩
  have Q1 : Kept (RdrQ W1 q l a e) := ⟨by rw [hW1]; exact hq.box _⟩
  have B1 : Kept (Below B w W1) := ⟨by rw [hW1]; exact (Below.refl _ w).alloc (by omega) _⟩
  have HW := Kept.mk hW1.symm
  obtain ⟨k0, k1, k2, k3⟩ := HA.out
  obtain ⟨s, hs⟩ : ∃ s, Wr.sect l a e id = s := ⟨_, rfl⟩
  have H1 := fun W hW hT => section_any p a l e id W hW hT
  have H2 := fun W hW => sectq_any q a l e id W hW
  rw [hs] at H1 H2
  obtain ⟨v, a', e'⟩ := s
  simp only at H1 H2
  have C1 := Kept.mk H1
  have C2 := Kept.mk H2
  clear H1 H2 hs
  have T1 : Kept (Tab W1) := ⟨by rw [hW1]; exact ht.alloc _⟩
  clear h hq hW1
  go_enter Tryd.func30, Tryd.ntmps30
  go_upto_region 2 with fail
  rw [HW.out]
  have hlq1 : q < W1.heap.size := Q1.out.lt
  go_upto_region 12 with fail
  go_region_held3 (fun w' => w'.cell? ⟨w.heap.size, 3, none⟩ = some (.int .u8 (id.toNat : Int))) (first | exact k3 | exact y2 | exact y3)
    (first
      | (go_at_call 24; refine (C1.out _ (by exact R1.out) (by exact T1.out)).mono ?_; rintro r w2 ⟨A2, n2, c2, rfl, ho2, hr2, hg2⟩; replace hg2 : W1.grownBy w2 (some p) := (by first | exact drew_grown hg2 | exact hg2); have o2 := Kept.mk ho2; have r2 := Kept.mk hr2; have q2 := Kept.mk (Q1.out.past R1.out hpq hg2); have b2 := Kept.mk (B1.out.trans (grown_below hg2 hBp (Nat.le_trans hBw B1.out.size))); have a2 := Kept.mk (HA.out.grown hg2 hlp); have z2 := hg2.size; clear hr2 hg2 Q1 R1 HA B1; clear ho2; have y2 := a2.out.2.2.2)
      | (go_at_call 62; refine (C2.out w2 q2.out).mono ?_; rintro r w3 ⟨A3, n3, c3, rfl, ho3, hq3, hg3⟩; have o3 := Kept.mk ho3.rd; have u3 := Kept.mk (OwnB.past o2.out hg3 hlq1).rd; have q3 := Kept.mk hq3; have r3 := Kept.mk (r2.out.past q2.out hpq.symm hg3); have b3 := Kept.mk (b2.out.trans (grown_below hg3 hBq (Nat.le_trans hBw b2.out.size))); have a3 := Kept.mk (a2.out.grown hg3 hlq); clear ho3 o2 hq3 hg3 r2 q2 a2 b2; have y3 := a3.out.2.2.2)
      | (go_at_call 19; refine (equal_is _ _ _ _ _ _ v v true _ _ _ u3.out o3.out (by simp)).mono ?_; rintro r w5 ⟨rfl, rfl⟩))
  go_upto_region 16 with fail
  obtain ⟨A9, n9, c9, j0, j1, j2, -⟩ := q3.out.cells
  go_quiet (first
    | (go_at_call 26; exact (at_any p a' l e' _ (by exact r3.out)).mono fun _ _ q => ⟨q.1, _, q.2.symm⟩)
    | (go_at_call 25; exact (err_any p a' l e' _ (by exact r3.out)).mono fun _ _ q => ⟨q.1, _, q.2.symm⟩)
    | (go_at_call 29; exact (end_any p a' l e' _ (by exact r3.out)).mono fun _ _ q => ⟨q.1, _, q.2.symm⟩)
    | (go_at_call 31; exact (endq_any q a' l e' _ (by exact q3.out)).mono fun _ _ q => ⟨q.1, quiet_q q.2⟩))
  go_wp2
  go_ret
  exact ⟨rfl, ⟨a', e', r3.out, q3.out⟩, below_drewN b3.out _⟩

set_option maxRecDepth 100000 in
set_option maxHeartbeats 4000000 in
theorem step_fail (p q a B : Nat) (l : List UInt8) (e nn : Int) (u : Nat) (id : UInt8) (w : World) (h : Rdr w p l a e) (hq : RdrQ w q l a e) (hpq : p ≠ q) (hBp : B ≤ p) (hBq : B ≤ q) :
    Calls Tryd.prog 30 #[.pointer (some ⟨p, 0, none⟩), .pointer (some ⟨q, 0, none⟩), .agg #[.int .i64 5, .int .i64 nn, .int .u64 (u : Int), .int .u8 (id.toNat : Int)]] w fun r w' => r = .returned (.int .i64 1) ∧ Both w' p q l ∧ Below B w w' := by
  obtain ⟨W1, hW1⟩ : ∃ W1, W1 = w.alloc (.cells #[.int .i64 5, .int .i64 nn, .int .u64 (u : Int), .int .u8 (id.toNat : Int)] 53) := ⟨_, rfl⟩
  have hlp := h.lt
  have hlq := hq.lt
  have hBw : B ≤ w.heap.size := by omega
  have HA : Kept (ActAt W1 w.heap.size 5 nn u id) := ⟨by rw [hW1]; exact ActAt.new w _ nn u id⟩
  have R1 : Kept (Rdr W1 p l a e) := ⟨by rw [hW1]; exact h.box _⟩
  have Q1 : Kept (RdrQ W1 q l a e) := ⟨by rw [hW1]; exact hq.box _⟩
  have B1 : Kept (Below B w W1) := ⟨by rw [hW1]; exact (Below.refl _ w).alloc (by omega) _⟩
  have HW := Kept.mk hW1.symm
  obtain ⟨k0, k1, k2, k3⟩ := HA.out
  have C1 := Kept.mk (fun W hW => fail_any p a l e nn W hW)
  have C2 := Kept.mk (fun W hW => failq_two q a l e nn W hW)
  obtain ⟨e', he'⟩ : ∃ e', e' = if e = 0 then nn else e := ⟨_, rfl⟩
  rw [← he'] at C1 C2
  clear he'
  clear h hq hW1
  go_enter Tryd.func30, Tryd.ntmps30
  go_upto_region 2 with fail
  rw [HW.out]
  go_upto_region 16 with (first
    | (go_at_call 33; refine (C1.out _ (by exact R1.out)).mono ?_; rintro r w2 ⟨rfl, hr2, hg2⟩; replace hg2 : W1.grownBy w2 (some p) := (by first | exact drew_grown hg2 | exact hg2); have r2 := Kept.mk hr2; have q2 := Kept.mk (Q1.out.past R1.out hpq hg2); have b2 := Kept.mk (B1.out.trans (grown_below hg2 hBp (Nat.le_trans hBw B1.out.size))); have a2 := Kept.mk (HA.out.grown hg2 hlp); have z2 := hg2.size; clear hr2 hg2 Q1 R1 HA B1; have y2 := a2.out.2.1)
    | (go_at_call 63; refine (C2.out w2 q2.out).mono ?_; rintro r w3 ⟨rfl, hq3, hg3⟩; have q3 := Kept.mk hq3; have r3 := Kept.mk (r2.out.past q2.out hpq.symm hg3); have b3 := Kept.mk (b2.out.trans (grown_below hg3 hBq (Nat.le_trans hBw b2.out.size))); have a3 := Kept.mk (a2.out.grown hg3 hlq); clear hq3 hg3 r2 q2 a2 b2))
  obtain ⟨A9, n9, c9, j0, j1, j2, -⟩ := q3.out.cells
  go_quiet (first
    | (go_at_call 26; exact (at_any p a l e' _ (by exact r3.out)).mono fun _ _ q => ⟨q.1, _, q.2.symm⟩)
    | (go_at_call 25; exact (err_any p a l e' _ (by exact r3.out)).mono fun _ _ q => ⟨q.1, _, q.2.symm⟩)
    | (go_at_call 29; exact (end_any p a l e' _ (by exact r3.out)).mono fun _ _ q => ⟨q.1, _, q.2.symm⟩)
    | (go_at_call 31; exact (endq_any q a l e' _ (by exact q3.out)).mono fun _ _ q => ⟨q.1, quiet_q q.2⟩))
  go_wp2
  go_ret
  exact ⟨rfl, ⟨a, e', r3.out, q3.out⟩, below_drewN b3.out _⟩

set_option maxRecDepth 100000 in
set_option maxHeartbeats 4000000 in
theorem step_none (p q a B : Nat) (l : List UInt8) (e kd nn : Int) (u : Nat) (id : UInt8) (w : World) (h : Rdr w p l a e) (hq : RdrQ w q l a e) (_ : p ≠ q) (hBp : B ≤ p) (_ : B ≤ q) (h0 : (kd == 0) = false) (h1 : (kd == 1) = false) (h2 : (kd == 2) = false) (h3 : (kd == 3) = false) (h4 : (kd == 4) = false) (h5 : (kd == 5) = false) :
    Calls Tryd.prog 30 #[.pointer (some ⟨p, 0, none⟩), .pointer (some ⟨q, 0, none⟩), .agg #[.int .i64 kd, .int .i64 nn, .int .u64 (u : Int), .int .u8 (id.toNat : Int)]] w fun r w' => r = .returned (.int .i64 1) ∧ Both w' p q l ∧ Below B w w' := by
  obtain ⟨W1, hW1⟩ : ∃ W1, W1 = w.alloc (.cells #[.int .i64 kd, .int .i64 nn, .int .u64 (u : Int), .int .u8 (id.toNat : Int)] 53) := ⟨_, rfl⟩
  have hlp := h.lt
  have hlq := hq.lt
  have hBw : B ≤ w.heap.size := by omega
  have HA : Kept (ActAt W1 w.heap.size kd nn u id) := ⟨by rw [hW1]; exact ActAt.new w _ nn u id⟩
  have R1 : Kept (Rdr W1 p l a e) := ⟨by rw [hW1]; exact h.box _⟩
  have Q1 : Kept (RdrQ W1 q l a e) := ⟨by rw [hW1]; exact hq.box _⟩
  have B1 : Kept (Below B w W1) := ⟨by rw [hW1]; exact (Below.refl _ w).alloc (by omega) _⟩
  have HW := Kept.mk hW1.symm
  obtain ⟨k0, k1, k2, k3⟩ := HA.out
  clear h hq hW1
  go_enter Tryd.func30, Tryd.ntmps30
  go_upto_region 2 with fail
  rw [HW.out]
  go_upto_region 16 with fail
  obtain ⟨A9, n9, c9, j0, j1, j2, -⟩ := Q1.out.cells
  go_quiet (first
    | (go_at_call 26; exact (at_any p a l e _ (by exact R1.out)).mono fun _ _ q => ⟨q.1, _, q.2.symm⟩)
    | (go_at_call 25; exact (err_any p a l e _ (by exact R1.out)).mono fun _ _ q => ⟨q.1, _, q.2.symm⟩)
    | (go_at_call 29; exact (end_any p a l e _ (by exact R1.out)).mono fun _ _ q => ⟨q.1, _, q.2.symm⟩)
    | (go_at_call 31; exact (endq_any q a l e _ (by exact Q1.out)).mono fun _ _ q => ⟨q.1, quiet_q q.2⟩))
  go_wp2
  go_ret
  exact ⟨rfl, ⟨a, e, R1.out, Q1.out⟩, below_drewN B1.out _⟩

theorem step_any (p q a B : Nat) (l : List UInt8) (e : Int) (x : ActV) (hx : x.fit) (w : World) (h : Rdr w p l a e) (hq : RdrQ w q l a e) (hpq : p ≠ q) (hBp : B ≤ p) (hBq : B ≤ q) (ht : Tab w) :
    Calls Tryd.prog 30 #[.pointer (some ⟨p, 0, none⟩), .pointer (some ⟨q, 0, none⟩), .agg (actc x).toArray] w fun r w' => r = .returned (.int .i64 1) ∧ Both w' p q l ∧ Below B w w' := by
  obtain ⟨kd, nn, u, id⟩ := x
  obtain ⟨_, _, n0, n1, _⟩ := hx
  by_cases h0 : kd = 0
  · subst h0; exact step_byte p q a B l e nn u id w h hq hpq hBp hBq
  by_cases h1 : kd = 1
  · subst h1; exact step_uint p q a B l e nn u id w h hq hpq hBp hBq
  by_cases h2 : kd = 2
  · subst h2; exact step_take p q a B l e nn u id w h hq hpq hBp hBq n0 n1
  by_cases h3 : kd = 3
  · subst h3; exact step_string p q a B l e nn u id w h hq hpq hBp hBq n1
  by_cases h4 : kd = 4
  · subst h4; exact step_section p q a B l e nn u id w h hq hpq hBp hBq ht
  by_cases h5 : kd = 5
  · subst h5; exact step_fail p q a B l e nn u id w h hq hpq hBp hBq
  exact step_none p q a B l e kd nn u id w h hq hpq hBp hBq (by simpa using h0) (by simpa using h1) (by simpa using h2) (by simpa using h3) (by simpa using h4) (by simpa using h5)
end Go.Proofs.YtknfkbgnfjfpeaaDoor
