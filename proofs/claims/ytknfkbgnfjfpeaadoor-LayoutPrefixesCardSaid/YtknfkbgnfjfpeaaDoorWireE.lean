/- The reader's Byte and Uint. -/
import Derived.Test.YtknfkbgnfjfpeaaDoorWireD
namespace Go.Proofs.YtknfkbgnfjfpeaaDoor
open Go.RowKit Go.Shelf

def Wr.byte (l : List UInt8) (a : Nat) (e : Int) : Nat × Nat × Int := if e ≠ 0 then (0, a, e) else if h : a < l.length then (l[a].toNat, a + 1, 0) else (0, a, 3)
def Wr.uint (l : List UInt8) (a : Nat) (e : Int) (most : Nat) : Nat × Nat × Int :=
  if e ≠ 0 then (0, a, e) else
    let r := Vi.get l (a : Int)
    if r.2.2 ≠ 0 then (0, a, (r.2.2 : Int)) else if most < r.1 then (0, a, 7) else (r.1, r.2.1.toNat, 0)

theorem Rdr.box {w : World} {p a : Nat} {l : List UInt8} {e : Int} (h : Rdr w p l a e) (o : Obj) : Rdr (w.alloc o) p l a e := h.below ((Below.refl _ w).alloc (Nat.le_refl _) o) h.lt

set_option maxHeartbeats 1000000 in
theorem byte1_bad (p a bx : Nat) (l : List UInt8) (e : Int) (w : World) (h : Rdr w p l a e) (hb : w.cell? ⟨bx, 0, none⟩ = some (.pointer (some ⟨p, 0, none⟩))) (ha : l.length ≤ a) :
    Calls Tryd.prog 65 #[.int .i64 (a : Int), .pointer (some ⟨bx, 0, none⟩)] w fun r w' => r = .returned (.tuple #[.int .u8 0, .int .i64 0, .int .i64 3]) ∧ w = w' := by
  have H := Kept.mk h
  obtain ⟨A, n, c, k0, k1, k2, f1, f2, hr, h3, h4, h5, h6⟩ := h.cells
  have hl := hr.len
  obtain rfl : a = l.length := by omega
  clear h hr hl
  have e1 : Kept ((l.length : Int) - (l.length : Int) = 0) := ⟨by omega⟩
  go_enter Tryd.func65, Tryd.ntmps65
  go_wp2_with (go_at_call 53; refine (left_any _ _ _ _ _ _ H.out (by omega) (by omega)).mono ?_; rintro r w1 ⟨rfl, rfl⟩; rw [e1.out])
  go_ret3
  exact ⟨rfl, rfl⟩
set_option maxHeartbeats 1000000 in
theorem byte1_ok (p a bx : Nat) (l : List UInt8) (e : Int) (w : World) (h : Rdr w p l a e) (hb : w.cell? ⟨bx, 0, none⟩ = some (.pointer (some ⟨p, 0, none⟩))) (ha : a < l.length) :
    Calls Tryd.prog 65 #[.int .i64 (a : Int), .pointer (some ⟨bx, 0, none⟩)] w fun r w' => r = .returned (.tuple #[.int .u8 (l[a].toNat : Int), .int .i64 ((a : Int) + 1), .int .i64 0]) ∧ w = w' := by
  have H := Kept.mk h
  obtain ⟨A, n, c, k0, k1, k2, f1, f2, hr, h3, h4, h5, h6⟩ := h.cells
  have hl := Kept.mk hr.len
  obtain ⟨b, off, rfl, hbp, hcell⟩ := hr.at_ ha
  have h7 : (a : Int) < (n : Int) := by have := hl.out; omega
  have h8 : (1 : Int) ≤ (n : Int) - (a : Int) := by omega
  have e1 : Kept ((l.length : Int) - (a : Int) = (n : Int) - (a : Int)) := ⟨by rw [← hl.out]⟩
  clear h hr
  generalize l[a].toNat = v at *
  go_enter Tryd.func65, Tryd.ntmps65
  go_wp2_with (go_at_call 53; refine (left_any _ _ _ _ _ _ H.out (by omega) (by omega)).mono ?_; rintro r w1 ⟨rfl, rfl⟩; rw [e1.out])
  go_ret3
  exact ⟨rfl, rfl⟩
set_option maxHeartbeats 1000000 in
theorem byte_any (p a : Nat) (l : List UInt8) (e : Int) (w : World) (h : Rdr w p l a e) :
    Calls Tryd.prog 32 #[.pointer (some ⟨p, 0, none⟩)] w fun r w' => r = .returned (.int .u8 ((Wr.byte l a e).1 : Int)) ∧ Rdr w' p l (Wr.byte l a e).2.1 (Wr.byte l a e).2.2 ∧ w.grownBy w' (some p) := by
  have bb := (Boxed.new w 36 (.pointer (some ⟨p, 0, none⟩))).cell
  have H := Kept.mk (h.box (.cells #[.pointer (some ⟨p, 0, none⟩)] 36))
  have g0 : w.grownBy (w.alloc (.cells #[.pointer (some ⟨p, 0, none⟩)] 36)) (some p) := World.grownBy_alloc _ _ _
  by_cases he : e = 0
  · subst he
    by_cases ha : a < l.length
    · have hm : Wr.byte l a 0 = (l[a].toNat, a + 1, 0) := by unfold Wr.byte; rw [if_neg (by simp), dif_pos ha]
      rw [hm]
      have HF := Kept.mk (readByte_ok p a 65 l ((a : Int) + 1) (.pointer (some ⟨w.heap.size, 0, none⟩)) _ (fun V w' => V = .int .u8 (l[a].toNat : Int) ∧ w' = w.alloc (.cells #[.pointer (some ⟨p, 0, none⟩)] 36)) H.out
        (enters_of Tryd.func65 (by kernel_rfl) rfl) ((byte1_ok p a _ l 0 _ H.out bb ha).mono fun r w' ⟨h1, h2⟩ => ⟨_, h1, rfl, h2.symm⟩) (fun V w' ⟨_, h⟩ => by rw [h]; exact H.out))
      have G0 := Kept.mk g0
      clear h g0 hm bb
      generalize l[a].toNat = v at *
      go_enter Tryd.func32, Tryd.ntmps32
      go_wp2_with (go_at_call 64; refine HF.out.mono ?_; rintro r w1 ⟨V, rfl, w2, ⟨rfl, rfl⟩, rfl⟩)
      go_ret
      exact ⟨rfl, H.out.move (a + 1) ha, G0.out.trans (grown_set _ ⟨p, 1, none⟩ _)⟩
    · have hm : Wr.byte l a 0 = (0, a, 3) := by unfold Wr.byte; rw [if_neg (by simp), dif_neg ha]
      rw [hm]
      have HF := Kept.mk (readByte_bad p a 65 l 0 3 (.pointer (some ⟨w.heap.size, 0, none⟩)) _ (fun w' => w' = w.alloc (.cells #[.pointer (some ⟨p, 0, none⟩)] 36)) H.out (by decide)
        (enters_of Tryd.func65 (by kernel_rfl) rfl) ((byte1_bad p a _ l 0 _ H.out bb (by omega)).mono fun r w' ⟨h1, h2⟩ => ⟨⟨_, h1⟩, h2.symm⟩) (fun w' h => by rw [h]; exact H.out))
      have G0 := Kept.mk g0
      clear h g0 hm bb
      go_enter Tryd.func32, Tryd.ntmps32
      go_wp2_with (go_at_call 64; refine HF.out.mono ?_; rintro r w1 ⟨rfl, w2, rfl, rfl⟩)
      go_ret
      exact ⟨rfl, H.out.fail 3, G0.out.trans (grown_set _ ⟨p, 2, none⟩ _)⟩
  · have hm : Wr.byte l a e = (0, a, e) := by unfold Wr.byte; rw [if_pos he]
    rw [hm]
    have HF := Kept.mk (readByte_err p a l e (.func (.func 65) #[] #[.pointer (some ⟨w.heap.size, 0, none⟩)]) _ H.out he)
    have G0 := Kept.mk g0
    clear h g0 hm bb he
    go_enter Tryd.func32, Tryd.ntmps32
    go_wp2_with (go_at_call 64; refine HF.out.mono ?_; rintro r w1 ⟨rfl, rfl⟩)
    go_ret
    exact ⟨rfl, H.out, G0.out⟩
end Go.Proofs.YtknfkbgnfjfpeaaDoor
