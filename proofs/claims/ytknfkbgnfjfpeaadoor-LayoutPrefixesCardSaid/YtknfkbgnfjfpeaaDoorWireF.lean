/- The reader's Uint. -/
import Derived.Test.YtknfkbgnfjfpeaaDoorWireE
namespace Go.Proofs.YtknfkbgnfjfpeaaDoor
open Go.RowKit Go.Shelf

theorem Vi.get_to {l : List UInt8} {a x : Nat} {t : Int} (h : Vi.get l (a : Int) = (x, t, 0)) : (a : Int) < t ∧ t ≤ l.length := by
  unfold Vi.get at h
  by_cases hc : (a : Int) < 0 ∨ (l.length : Int) < a
  · rw [if_pos hc] at h; cases h
  · rw [if_neg hc] at h
    have key : ∀ (r : List UInt8) (i y : Nat), (Vi.get1 r i y).2.2 = 0 → i < (Vi.get1 r i y).2.1 ∧ (Vi.get1 r i y).2.1 ≤ i + r.length := by
      intro r
      induction r with
      | nil => intro i y h; cases h
      | cons c r ih =>
        intro i y
        rw [Vi.get1_cons]
        split
        · intro h; cases h
        · split
          · intro h; cases h
          · split
            · intro _; simp
            · intro h
              have := ih _ _ h
              simp; omega
    have k := key (l.drop (a : Int).toNat) 0 0
    revert h k
    generalize Vi.get1 (l.drop (a : Int).toNat) 0 0 = q
    intro h k
    simp only at h
    by_cases hq : q.2.2 = 0
    · rw [if_pos hq] at h
      have := k hq
      simp only [List.length_drop, Int.toNat_natCast] at this
      cases h
      omega
    · rw [if_neg hq] at h
      simp only [Prod.mk.injEq] at h
      exact absurd h.2.2 hq

set_option maxHeartbeats 1000000 in
theorem uint1_any (p a bx bm m : Nat) (l : List UInt8) (e : Int) (w : World) (h : Rdr w p l a e) (hb : w.cell? ⟨bx, 0, none⟩ = some (.pointer (some ⟨p, 0, none⟩))) (hm : w.cell? ⟨bm, 0, none⟩ = some (.int .u64 (m : Int))) :
    Calls Tryd.prog 67 #[.int .i64 (a : Int), .pointer (some ⟨bx, 0, none⟩), .pointer (some ⟨bm, 0, none⟩)] w fun r w' => r = .returned (.tuple #[.int .u64 ((Vi.get l (a : Int)).1 : Int), .int .i64 (Vi.get l (a : Int)).2.1,
      .int .i64 (if (Vi.get l (a : Int)).2.2 = 0 ∧ m < (Vi.get l (a : Int)).1 then 7 else ((Vi.get l (a : Int)).2.2 : Int))]) ∧ w = w' := by
  obtain ⟨A, n, c, k0, k1, k2, f1, f2, hr, h3, h4, h5, h6⟩ := h.cells
  have HG := Kept.mk (get_any A n c p l (a : Int) w hr (by omega) (by omega))
  clear h hr
  obtain ⟨r, hr⟩ : ∃ r, Vi.get l (a : Int) = r := ⟨_, rfl⟩
  rw [hr] at HG ⊢
  obtain ⟨x, t, er⟩ := r
  unfold getV at HG
  simp only at HG ⊢
  clear hr
  by_cases h0 : er = 0
  · subst h0
    by_cases hx : m < x
    · rw [if_pos ⟨rfl, hx⟩]
      have hx' : (m : Int) < (x : Int) := by omega
      go_enter Tryd.func67, Tryd.ntmps67
      go_wp2_with (go_at_call 54; refine HG.out.mono ?_; rintro r w1 ⟨rfl, rfl⟩)
      go_ret3
      exact ⟨rfl, rfl⟩
    · rw [if_neg (fun h => hx h.2)]
      have hx' : (x : Int) ≤ (m : Int) := by omega
      go_enter Tryd.func67, Tryd.ntmps67
      go_wp2_with (go_at_call 54; refine HG.out.mono ?_; rintro r w1 ⟨rfl, rfl⟩)
      go_ret3
      exact ⟨rfl, rfl⟩
  · rw [if_neg (fun h => h0 h.1)]
    have h0' : ((er : Int) == 0) = false := by simp; omega
    clear h0
    go_enter Tryd.func67, Tryd.ntmps67
    go_wp2_with (go_at_call 54; refine HG.out.mono ?_; rintro r w1 ⟨rfl, rfl⟩)
    go_ret3
    exact ⟨rfl, rfl⟩
set_option maxHeartbeats 1000000 in
theorem uint_any (p a m : Nat) (l : List UInt8) (e : Int) (w : World) (h : Rdr w p l a e) :
    Calls Tryd.prog 34 #[.pointer (some ⟨p, 0, none⟩), .int .u64 (m : Int)] w fun r w' => r = .returned (.int .u64 ((Wr.uint l a e m).1 : Int)) ∧ Rdr w' p l (Wr.uint l a e m).2.1 (Wr.uint l a e m).2.2 ∧ w.grownBy w' (some p) := by
  have bb := ((Boxed.new w 36 (.pointer (some ⟨p, 0, none⟩))).alloc (.cells #[.int .u64 (m : Int)] 51)).cell
  have bm := (Boxed.new (w.alloc (.cells #[.pointer (some ⟨p, 0, none⟩)] 36)) 51 (.int .u64 (m : Int))).cell
  have H := Kept.mk ((h.box (.cells #[.pointer (some ⟨p, 0, none⟩)] 36)).box (.cells #[.int .u64 (m : Int)] 51))
  have g0 : w.grownBy ((w.alloc (.cells #[.pointer (some ⟨p, 0, none⟩)] 36)).alloc (.cells #[.int .u64 (m : Int)] 51)) (some p) := (World.grownBy_alloc _ _ _).trans (World.grownBy_alloc _ _ _)
  rw [World.size_alloc] at bm
  have hU := uint1_any p a w.heap.size (w.heap.size + 1) m l e _ H.out bb bm
  obtain ⟨W2, hW2⟩ : ∃ W2, W2 = (w.alloc (.cells #[.pointer (some ⟨p, 0, none⟩)] 36)).alloc (.cells #[.int .u64 (m : Int)] 51) := ⟨_, rfl⟩
  have hlen := h.len
  by_cases he : e = 0
  · subst he
    obtain ⟨r, hr⟩ : ∃ r, Vi.get l (a : Int) = r := ⟨_, rfl⟩
    have hto := fun x t (hh : r = (x, t, 0)) => Vi.get_to (hr.trans hh)
    have hm : Wr.uint l a 0 m = if r.2.2 ≠ 0 then (0, a, (r.2.2 : Int)) else if m < r.1 then (0, a, 7) else (r.1, r.2.1.toNat, 0) := by
      unfold Wr.uint; rw [if_neg (by simp), hr]
    rw [hm]
    rw [hr] at hU
    obtain ⟨x, t, er⟩ := r
    simp only at hU ⊢
    by_cases hbad : (if er = 0 ∧ m < x then (7 : Int) else (er : Int)) = 0
    · have h00 : er = 0 := by
        by_cases h : er = 0
        · exact h
        · rw [if_neg (fun hh => h hh.1)] at hbad; omega
      subst h00
      have hx : ¬ m < x := fun hh => by rw [if_pos ⟨rfl, hh⟩] at hbad; omega
      have ht := hto x t rfl
      rw [if_neg (by simp), if_neg hx]
      rw [if_neg (fun hh => hx hh.2)] at hU
      have HF := Kept.mk (readUint_ok p a 67 l t (.pointer (some ⟨w.heap.size, 0, none⟩)) (.pointer (some ⟨w.heap.size + 1, 0, none⟩)) _ (fun V w' => V = .int .u64 (x : Int) ∧ w' = W2) H.out
        (enters_of Tryd.func67 (by kernel_rfl) rfl) (hU.mono fun r w' ⟨h1, h2⟩ => ⟨_, h1, rfl, by rw [hW2, h2]⟩) (fun V w' ⟨_, h⟩ => by rw [h, hW2]; exact H.out))
      have G0 := Kept.mk g0
      have HW2 := Kept.mk hW2
      have ht1 : ((t.toNat : Nat) : Int) = t := by omega
      have HM := Kept.mk (H.out.move t.toNat (by omega))
      rw [ht1] at HM
      clear h g0 hm bb bm hU hto hr hW2 ht1
      go_enter Tryd.func34, Tryd.ntmps34
      go_wp2_with (go_at_call 66; refine HF.out.mono ?_; rintro r w1 ⟨V, rfl, w2, ⟨rfl, rfl⟩, rfl⟩; rw [HW2.out])
      go_ret
      exact ⟨rfl, HM.out, G0.out.trans (grown_set _ ⟨p, 1, none⟩ _)⟩
    · have hres : (if er ≠ 0 then (0, a, (er : Int)) else if m < x then (0, a, 7) else (x, t.toNat, 0) : Nat × Nat × Int) = (0, a, if er = 0 ∧ m < x then (7 : Int) else (er : Int)) := by
        by_cases h : er = 0
        · subst h
          by_cases hx : m < x
          · rw [if_neg (by simp), if_pos hx, if_pos ⟨rfl, hx⟩]
          · rw [if_neg (fun hh => hx hh.2)] at hbad; exact absurd rfl hbad
        · rw [if_pos h, if_neg (fun hh => h hh.1)]
      rw [hres]
      clear hres hm
      generalize (if er = 0 ∧ m < x then (7 : Int) else (er : Int)) = f at *
      have HF := Kept.mk (readUint_bad p a 67 l t f (.pointer (some ⟨w.heap.size, 0, none⟩)) (.pointer (some ⟨w.heap.size + 1, 0, none⟩)) _ (fun w' => w' = W2) H.out hbad
        (enters_of Tryd.func67 (by kernel_rfl) rfl) (hU.mono fun r w' ⟨h1, h2⟩ => ⟨⟨_, h1⟩, by rw [hW2, h2]⟩) (fun w' h => by rw [h, hW2]; exact H.out))
      have G0 := Kept.mk g0
      have HW2 := Kept.mk hW2
      clear h g0 bb bm hU hto hr hW2 hbad
      go_enter Tryd.func34, Tryd.ntmps34
      go_wp2_with (go_at_call 66; refine HF.out.mono ?_; rintro r w1 ⟨rfl, w2, rfl, rfl⟩; rw [HW2.out])
      go_ret
      exact ⟨rfl, H.out.fail f, G0.out.trans (grown_set _ ⟨p, 2, none⟩ _)⟩
  · have hm : Wr.uint l a e m = (0, a, e) := by unfold Wr.uint; rw [if_pos he]
    rw [hm]
    have HF := Kept.mk (readUint_err p a l e (.func (.func 67) #[] #[.pointer (some ⟨w.heap.size, 0, none⟩), .pointer (some ⟨w.heap.size + 1, 0, none⟩)]) _ H.out he)
    have G0 := Kept.mk g0
    clear h g0 hm bb bm he hU hW2
    go_enter Tryd.func34, Tryd.ntmps34
    go_wp2_with (go_at_call 66; refine HF.out.mono ?_; rintro r w1 ⟨rfl, rfl⟩)
    go_ret
    exact ⟨rfl, H.out, G0.out⟩
end Go.Proofs.YtknfkbgnfjfpeaaDoor
