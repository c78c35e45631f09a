/- The reader's Section; alive of chapter 4. -/
import Derived.Test.YtknfkbgnfjfpeaaDoorWireI
namespace Go.Proofs.YtknfkbgnfjfpeaaDoor
open Go.RowKit Go.Shelf

def Wr.sect (l : List UInt8) (a : Nat) (e : Int) (id : UInt8) : List UInt8 × Nat × Int :=
  if e ≠ 0 then ([], a, e) else if (Wr.section1 l a id).2.2 ≠ 0 then ([], a, (Wr.section1 l a id).2.2) else ((Wr.section1 l a id).1, (Wr.section1 l a id).2.1.toNat, 0)
theorem Wr.section1_to {l : List UInt8} {a : Nat} {id : UInt8} (h : (Wr.section1 l a id).2.2 = 0) : 0 ≤ (Wr.section1 l a id).2.1 ∧ (Wr.section1 l a id).2.1 ≤ l.length := by
  unfold Wr.section1 at h ⊢
  by_cases ha : a < l.length
  · rw [dif_pos ha] at h ⊢
    by_cases hid : l[a] ≠ id
    · rw [if_pos hid] at h; simp at h
    · rw [if_neg hid] at h ⊢
      obtain ⟨r, hr⟩ : ∃ r, Vi.get l ((a : Int) + 1) = r := ⟨_, rfl⟩
      rw [hr] at h ⊢
      have hto := fun x t (hh : r = (x, t, 0)) => Vi.get_to (a := a + 1) (by rw [Int.natCast_add]; exact hr.trans hh)
      obtain ⟨x, t, er⟩ := r
      simp only at h ⊢
      by_cases h0 : er = 0
      · subst h0
        have := hto x t rfl
        rw [if_neg (by simp)] at h ⊢
        split
        · rename_i h1; rw [if_pos h1] at h; simp at h
        · rename_i h1
          rw [if_neg h1] at h
          split
          · rename_i h2; rw [if_pos h2] at h; simp at h
          · simp only; omega
      · rw [if_pos h0] at h; simp at h; omega
  · rw [dif_neg ha] at h; simp at h

set_option maxHeartbeats 1000000 in
theorem section_any (p a : Nat) (l : List UInt8) (e : Int) (id : UInt8) (w : World) (h : Rdr w p l a e) (ht : Tab w) :
    Calls Tryd.prog 24 #[.pointer (some ⟨p, 0, none⟩), .int .u8 (id.toNat : Int)] w fun r w' => ∃ A3 n3 c3, r = .returned (.slice A3 n3 c3) ∧ OwnB w' w.heap.size A3 n3 c3 (Wr.sect l a e id).1 ∧ Rdr w' p l (Wr.sect l a e id).2.1 (Wr.sect l a e id).2.2 ∧ w.grownBy w' (some p) := by
  have bb := ((Boxed.new w 36 (.pointer (some ⟨p, 0, none⟩))).alloc (.cells #[.int .u8 (id.toNat : Int)] 5)).cell
  have bm := (Boxed.new (w.alloc (.cells #[.pointer (some ⟨p, 0, none⟩)] 36)) 5 (.int .u8 (id.toNat : Int))).cell
  have H := Kept.mk ((h.box (.cells #[.pointer (some ⟨p, 0, none⟩)] 36)).box (.cells #[.int .u8 (id.toNat : Int)] 5))
  have g0 : w.grownBy ((w.alloc (.cells #[.pointer (some ⟨p, 0, none⟩)] 36)).alloc (.cells #[.int .u8 (id.toNat : Int)] 5)) (some p) := (World.grownBy_alloc _ _ _).trans (World.grownBy_alloc _ _ _)
  have hz2 : ((w.alloc (.cells #[.pointer (some ⟨p, 0, none⟩)] 36)).alloc (.cells #[.int .u8 (id.toNat : Int)] 5)).heap.size = w.heap.size + 1 + 1 := by simp
  rw [World.size_alloc] at bm
  have hp := h.lt
  have hU := section1_any p a w.heap.size (w.heap.size + 1) l e id _ H.out bb bm ((ht.alloc _).alloc _)
  obtain ⟨W2, hW2⟩ : ∃ W2, W2 = (w.alloc (.cells #[.pointer (some ⟨p, 0, none⟩)] 36)).alloc (.cells #[.int .u8 (id.toNat : Int)] 5) := ⟨_, rfl⟩
  have HW2 := Kept.mk hW2
  by_cases he : e = 0
  · subst he
    obtain ⟨s, hs⟩ : ∃ s, Wr.section1 l a id = s := ⟨_, rfl⟩
    have hto := Wr.section1_to (l := l) (a := a) (id := id)
    have hmm : Wr.sect l a 0 id = if s.2.2 ≠ 0 then ([], a, s.2.2) else (s.1, s.2.1.toNat, 0) := by unfold Wr.sect; rw [if_neg (by simp), hs]
    rw [hmm]
    rw [hs] at hU hto
    obtain ⟨S, t, er⟩ := s
    unfold SecPost at hU
    simp only at hU hto ⊢
    by_cases h0 : er = 0
    · subst h0
      obtain ⟨ht0, ht1⟩ := hto rfl
      rw [if_neg (by simp)]
      have HF := Kept.mk (readTake_ok p a 52 l t (.pointer (some ⟨w.heap.size, 0, none⟩)) (.pointer (some ⟨w.heap.size + 1, 0, none⟩)) _ (fun V w' => ∃ A3 n3 c3, V = .slice A3 n3 c3 ∧ OwnB w' W2.heap.size A3 n3 c3 S ∧ Below W2.heap.size W2 w') H.out
        (enters_of Tryd.func52 (by kernel_rfl) rfl) (hU.mono fun r w' hh => by
          rcases hh with ⟨h1, _⟩ | ⟨_, A3, n3, c3, h1, h2, h3⟩
          · exact absurd rfl h1
          · exact ⟨_, h1, A3, n3, c3, rfl, by rw [hW2]; exact h2, by rw [hW2]; exact h3⟩)
        (fun V w' ⟨A3, n3, c3, _, _, h⟩ => by rw [hW2] at h; exact H.out.below h (by rw [hz2]; omega)))
      have G0 := Kept.mk g0
      have Hz2 := Kept.mk hz2
      have ht2 : Kept (((t.toNat : Nat) : Int) = t) := ⟨by omega⟩
      have ht3 : t.toNat ≤ l.length := by omega
      clear h g0 hmm bb bm hU hto hs hW2 hz2 ht
      go_enter Tryd.func24, Tryd.ntmps24
      go_wp2_with (go_at_call 51; refine HF.out.mono ?_; rintro r w1 ⟨V, rfl, w2, ⟨A3, n3, c3, rfl, ho, hbl⟩, rfl⟩)
      go_ret
      rw [HW2.out] at ho hbl
      have hm2 := (H.out.below hbl (by rw [Hz2.out]; omega)).move t.toNat ht3
      rw [ht2.out] at hm2
      rw [Hz2.out] at ho
      exact ⟨A3, n3, c3, rfl, (ho.far (by show p < _; omega) _).base (by omega), hm2, (G0.out.trans (below_grown hbl _)).trans (grown_set _ ⟨p, 1, none⟩ _)⟩
    · rw [if_pos h0]
      have HF := Kept.mk (readTake_bad p a 52 l t er (.pointer (some ⟨w.heap.size, 0, none⟩)) (.pointer (some ⟨w.heap.size + 1, 0, none⟩)) _ (fun w' => Quiet W2 w') H.out h0
        (enters_of Tryd.func52 (by kernel_rfl) rfl) (hU.mono fun r w' hh => by
          rcases hh with ⟨_, h1, h2⟩ | ⟨h1, _⟩
          · exact ⟨⟨_, h1⟩, by rw [hW2]; exact h2⟩
          · exact absurd h1 h0)
        (fun w' h => by rw [hW2] at h; exact H.out.below (h.below (p + 1)) (by omega)))
      have G0 := Kept.mk g0
      clear h g0 bb bm hU hto hs hW2 hmm h0 ht
      go_enter Tryd.func24, Tryd.ntmps24
      go_wp2_with (go_at_call 51; refine HF.out.mono ?_; rintro r w1 ⟨rfl, w2, hq, rfl⟩)
      go_ret
      rw [HW2.out] at hq
      exact ⟨none, 0, 0, rfl, OwnB.nil _ _, (H.out.below (hq.below (p + 1)) (by omega)).fail er, (G0.out.trans (hq.grown _)).trans (grown_set _ ⟨p, 2, none⟩ _)⟩
  · have hmm : Wr.sect l a e id = ([], a, e) := by unfold Wr.sect; rw [if_pos he]
    rw [hmm]
    have HF := Kept.mk (readTake_err p a l e (.func (.func 52) #[] #[.pointer (some ⟨w.heap.size, 0, none⟩), .pointer (some ⟨w.heap.size + 1, 0, none⟩)]) _ H.out he)
    have G0 := Kept.mk g0
    clear h g0 hmm bb bm he hU hW2 ht
    go_enter Tryd.func24, Tryd.ntmps24
    go_wp2_with (go_at_call 51; refine HF.out.mono ?_; rintro r w1 ⟨rfl, rfl⟩)
    go_ret
    exact ⟨none, 0, 0, rfl, OwnB.nil _ _, H.out, G0.out⟩
end Go.Proofs.YtknfkbgnfjfpeaaDoor
