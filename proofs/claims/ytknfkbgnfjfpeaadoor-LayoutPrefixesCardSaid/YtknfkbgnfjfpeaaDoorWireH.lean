/- The reader's String. -/
import Derived.Test.YtknfkbgnfjfpeaaDoorWireG
namespace Go.Proofs.YtknfkbgnfjfpeaaDoor
open Go.RowKit Go.Shelf

def Wr.string1 (l : List UInt8) (r : Nat × Int × Nat) (m : Int) : List UInt8 × Int × Int :=
  if r.2.2 ≠ 0 then ([], 0, (r.2.2 : Int)) else if m < 0 ∨ m < (r.1 : Int) then ([], 0, 7) else if (l.length : Int) - r.2.1 < (r.1 : Int) then ([], 0, 3) else ((l.drop r.2.1.toNat).take r.1, r.2.1 + (r.1 : Int), 0)
def Wr.string (l : List UInt8) (a : Nat) (e m : Int) : List UInt8 × Nat × Int :=
  if e ≠ 0 then ([], a, e) else if (Wr.string1 l (Vi.get l (a : Int)) m).2.2 ≠ 0 then ([], a, (Wr.string1 l (Vi.get l (a : Int)) m).2.2) else ((Wr.string1 l (Vi.get l (a : Int)) m).1, (Wr.string1 l (Vi.get l (a : Int)) m).2.1.toNat, 0)

def strV (r : List UInt8 × Int × Int) : Value := .tuple #[.string ⟨r.1.toArray⟩, .int .i64 r.2.1, .int .i64 r.2.2]
set_option maxRecDepth 100000 in
set_option maxHeartbeats 2000000 in
theorem string1_any (p a bx bm : Nat) (l : List UInt8) (e m : Int) (w : World) (h : Rdr w p l a e) (hb : w.cell? ⟨bx, 0, none⟩ = some (.pointer (some ⟨p, 0, none⟩))) (hm : w.cell? ⟨bm, 0, none⟩ = some (.int .i64 m)) (m1 : m ≤ 9223372036854775807) :
    Calls Tryd.prog 57 #[.int .i64 (a : Int), .pointer (some ⟨bx, 0, none⟩), .pointer (some ⟨bm, 0, none⟩)] w fun r w' => r = .returned (strV (Wr.string1 l (Vi.get l (a : Int)) m)) ∧ w = w' := by
  have HL := Kept.mk (fun (t : Int) (h0 : 0 ≤ t) (h1 : t ≤ 9223372036854775807) => left_any p a l e t w h h0 h1)
  obtain ⟨A, n, c, k0, k1, k2, f1, f2, hr, h3, h4, h5, h6⟩ := h.cells
  have HG := Kept.mk (get_any A n c p l (a : Int) w hr (by omega) (by omega))
  have hl := Kept.mk hr.len
  have HR := Kept.mk hr
  clear h hr
  obtain ⟨r, hr⟩ : ∃ r, Vi.get l (a : Int) = r := ⟨_, rfl⟩
  have hto := fun x t (hh : r = (x, t, 0)) => Vi.get_to (hr.trans hh)
  rw [hr] at HG ⊢
  clear hr
  obtain ⟨x, t, er⟩ := r
  unfold getV at HG
  simp only at HG
  by_cases h0 : er = 0
  · subst h0
    obtain ⟨ht1, ht2⟩ := hto x t rfl
    obtain ⟨tn, rfl⟩ := Int.eq_ofNat_of_zero_le (show 0 ≤ t by omega)
    have ht3 : (tn : Int) ≤ (n : Int) := by have := hl.out; omega
    clear hto ht2
    by_cases hm0 : m < 0
    · have hres : Kept (Wr.string1 l (x, (tn : Int), 0) m = ([], 0, 7)) := ⟨by unfold Wr.string1; rw [if_neg (by simp), if_pos (.inl hm0)]⟩
      rw [hres.out]
      go_enter Tryd.func57, Tryd.ntmps57
      go_wp2_with (go_at_call 54; refine HG.out.mono ?_; rintro r w1 ⟨rfl, rfl⟩)
      go_ret3
      exact ⟨rfl, rfl⟩
    · have hm0' : 0 ≤ m := by omega
      by_cases hmx : m < (x : Int)
      · have hres : Kept (Wr.string1 l (x, (tn : Int), 0) m = ([], 0, 7)) := ⟨by unfold Wr.string1; rw [if_neg (by simp), if_pos (.inr hmx)]⟩
        rw [hres.out]
        clear hm0
        go_enter Tryd.func57, Tryd.ntmps57
        go_wp2_with (go_at_call 54; refine HG.out.mono ?_; rintro r w1 ⟨rfl, rfl⟩)
        go_ret3
        exact ⟨rfl, rfl⟩
      · have hmx' : (x : Int) ≤ m := by omega
        have e1 : Kept ((l.length : Int) - (tn : Int) = (n : Int) - (tn : Int)) := ⟨by rw [← hl.out]⟩
        by_cases hfar : (n : Int) - (tn : Int) < (x : Int)
        · have hres : Kept (Wr.string1 l (x, (tn : Int), 0) m = ([], 0, 3)) := ⟨by unfold Wr.string1; rw [if_neg (by simp), if_neg (by simp; omega), if_pos (by rw [← hl.out]; exact hfar)]⟩
          rw [hres.out]
          clear hm0 hmx
          go_enter Tryd.func57, Tryd.ntmps57
          go_wp2_with (first
            | (go_at_call 54; refine HG.out.mono ?_; rintro r w1 ⟨rfl, rfl⟩)
            | (go_at_call 53; refine (HL.out _ (by omega) (by omega)).mono ?_; rintro r w1 ⟨rfl, rfl⟩; rw [e1.out]))
          go_ret3
          exact ⟨rfl, rfl⟩
        · have hnear : (x : Int) ≤ (n : Int) - (tn : Int) := by omega
          have hres : Kept (Wr.string1 l (x, (tn : Int), 0) m = ((l.drop tn).take x, (tn : Int) + (x : Int), 0)) := ⟨by unfold Wr.string1; rw [if_neg (by simp), if_neg (by simp; omega), if_neg (by rw [← hl.out]; exact hfar)]; rfl⟩
          rw [hres.out]
          have hcut := HR.out.cut (show tn + x ≤ n by omega)
          clear hm0 hmx hfar
          by_cases hct : c = tn
          · rw [if_pos hct] at hcut
            have kc := run_bytes_str w p A x (c - tn) _ hcut
            obtain rfl : x = 0 := by omega
            obtain rfl : n = c := by omega
            subst hct
            rw [Nat.sub_self] at kc
            clear hcut e1
            have e1 : Kept ((l.length : Int) - (n : Int) = 0) := ⟨by have := hl.out; omega⟩
            go_enter Tryd.func57, Tryd.ntmps57
            go_wp2_with (first
              | (go_at_call 54; refine HG.out.mono ?_; rintro r w1 ⟨rfl, rfl⟩)
              | (go_at_call 53; refine (HL.out _ (by omega) (by omega)).mono ?_; rintro r w1 ⟨rfl, rfl⟩; rw [e1.out]))
            go_ret3
            exact ⟨by simp [strV], rfl⟩
          · rw [if_neg hct] at hcut
            have kc := run_bytes_str w p _ x (c - tn) _ hcut
            have hct' : (tn : Int) < (c : Int) := by omega
            have e2 : ((tn : Int) + (x : Int)).toNat = tn + x := by omega
            have i3 : (tn : Int) + (x : Int) ≤ (n : Int) := by omega
            have i4 : (tn : Int) + (x : Int) ≤ (c : Int) := by omega
            clear hcut hct
            generalize (l.drop tn).take x = S at *
            go_enter Tryd.func57, Tryd.ntmps57
            go_wp2_with (first
              | (go_at_call 54; refine HG.out.mono ?_; rintro r w1 ⟨rfl, rfl⟩)
              | (go_at_call 53; refine (HL.out _ (by omega) (by omega)).mono ?_; rintro r w1 ⟨rfl, rfl⟩; rw [e1.out]))
            go_ret3
            exact ⟨rfl, rfl⟩
  · have hres : Kept (Wr.string1 l (x, t, er) m = ([], 0, (er : Int))) := ⟨by unfold Wr.string1; rw [if_pos (by simpa using h0)]⟩
    rw [hres.out]
    have h0' : ((er : Int) == 0) = false := by simp; omega
    have h0'' : ((er : Int) != 0) = true := by simp; omega
    clear h0 hto
    go_enter Tryd.func57, Tryd.ntmps57
    go_wp2_with (go_at_call 54; refine HG.out.mono ?_; rintro r w1 ⟨rfl, rfl⟩)
    go_ret3
    exact ⟨rfl, rfl⟩
theorem Wr.string1_to {l : List UInt8} {a : Nat} {m : Int} (h : (Wr.string1 l (Vi.get l (a : Int)) m).2.2 = 0) : 0 ≤ (Wr.string1 l (Vi.get l (a : Int)) m).2.1 ∧ (Wr.string1 l (Vi.get l (a : Int)) m).2.1 ≤ l.length := by
  obtain ⟨r, hr⟩ : ∃ r, Vi.get l (a : Int) = r := ⟨_, rfl⟩
  rw [hr] at h ⊢
  obtain ⟨x, t, er⟩ := r
  unfold Wr.string1 at h ⊢
  by_cases h0 : er = 0
  · subst h0
    have ht := Vi.get_to hr
    rw [if_neg (by simp)] at h ⊢
    split
    · rename_i h1; rw [if_pos h1] at h; simp at h
    · rename_i h1
      rw [if_neg h1] at h
      split
      · rename_i h2; rw [if_pos h2] at h; simp at h
      · simp only at *; omega
  · rw [if_pos (by simpa using h0)] at h
    simp at h; omega

set_option maxHeartbeats 1000000 in
theorem string_any (p a : Nat) (l : List UInt8) (e m : Int) (w : World) (h : Rdr w p l a e) (m1 : m ≤ 9223372036854775807) :
    Calls Tryd.prog 28 #[.pointer (some ⟨p, 0, none⟩), .int .i64 m] w fun r w' => r = .returned (.string ⟨(Wr.string l a e m).1.toArray⟩) ∧ Rdr w' p l (Wr.string l a e m).2.1 (Wr.string l a e m).2.2 ∧ w.grownBy w' (some p) := by
  have bb := ((Boxed.new w 36 (.pointer (some ⟨p, 0, none⟩))).alloc (.cells #[.int .i64 m] 3)).cell
  have bm := (Boxed.new (w.alloc (.cells #[.pointer (some ⟨p, 0, none⟩)] 36)) 3 (.int .i64 m)).cell
  have H := Kept.mk ((h.box (.cells #[.pointer (some ⟨p, 0, none⟩)] 36)).box (.cells #[.int .i64 m] 3))
  have g0 : w.grownBy ((w.alloc (.cells #[.pointer (some ⟨p, 0, none⟩)] 36)).alloc (.cells #[.int .i64 m] 3)) (some p) := (World.grownBy_alloc _ _ _).trans (World.grownBy_alloc _ _ _)
  rw [World.size_alloc] at bm
  have hU := string1_any p a w.heap.size (w.heap.size + 1) l e m _ H.out bb bm m1
  obtain ⟨W2, hW2⟩ : ∃ W2, W2 = (w.alloc (.cells #[.pointer (some ⟨p, 0, none⟩)] 36)).alloc (.cells #[.int .i64 m] 3) := ⟨_, rfl⟩
  have HW2 := Kept.mk hW2
  by_cases he : e = 0
  · subst he
    obtain ⟨s, hs⟩ : ∃ s, Wr.string1 l (Vi.get l (a : Int)) m = s := ⟨_, rfl⟩
    have hto := Wr.string1_to (l := l) (a := a) (m := m)
    have hmm : Wr.string l a 0 m = if s.2.2 ≠ 0 then ([], a, s.2.2) else (s.1, s.2.1.toNat, 0) := by unfold Wr.string; rw [if_neg (by simp), hs]
    rw [hmm]
    rw [hs] at hU hto
    obtain ⟨S, t, er⟩ := s
    unfold strV at hU
    simp only at hU hto ⊢
    by_cases h0 : er = 0
    · subst h0
      obtain ⟨ht0, ht1⟩ := hto rfl
      rw [if_neg (by simp)]
      have HF := Kept.mk (readString_ok p a 57 l t (.pointer (some ⟨w.heap.size, 0, none⟩)) (.pointer (some ⟨w.heap.size + 1, 0, none⟩)) _ (fun V w' => V = .string ⟨S.toArray⟩ ∧ w' = W2) H.out
        (enters_of Tryd.func57 (by kernel_rfl) rfl) (hU.mono fun r w' ⟨h1, h2⟩ => ⟨_, h1, rfl, by rw [hW2, h2]⟩) (fun V w' ⟨_, h⟩ => by rw [h, hW2]; exact H.out))
      have G0 := Kept.mk g0
      have ht2 : ((t.toNat : Nat) : Int) = t := by omega
      have HM := Kept.mk (H.out.move t.toNat (by omega))
      rw [ht2] at HM
      clear h g0 hmm bb bm hU hto hs hW2 ht2
      go_enter Tryd.func28, Tryd.ntmps28
      go_wp2_with (go_at_call 56; refine HF.out.mono ?_; rintro r w1 ⟨V, rfl, w2, ⟨rfl, rfl⟩, rfl⟩; rw [HW2.out])
      go_ret
      exact ⟨rfl, HM.out, G0.out.trans (grown_set _ ⟨p, 1, none⟩ _)⟩
    · rw [if_pos h0]
      have HF := Kept.mk (readString_bad p a 57 l t er (.pointer (some ⟨w.heap.size, 0, none⟩)) (.pointer (some ⟨w.heap.size + 1, 0, none⟩)) _ (fun w' => w' = W2) H.out h0
        (enters_of Tryd.func57 (by kernel_rfl) rfl) (hU.mono fun r w' ⟨h1, h2⟩ => ⟨⟨_, h1⟩, by rw [hW2, h2]⟩) (fun w' h => by rw [h, hW2]; exact H.out))
      have G0 := Kept.mk g0
      clear h g0 bb bm hU hto hs hW2 hmm h0
      go_enter Tryd.func28, Tryd.ntmps28
      go_wp2_with (go_at_call 56; refine HF.out.mono ?_; rintro r w1 ⟨rfl, w2, rfl, rfl⟩; rw [HW2.out])
      go_ret
      exact ⟨rfl, H.out.fail er, G0.out.trans (grown_set _ ⟨p, 2, none⟩ _)⟩
  · have hmm : Wr.string l a e m = ([], a, e) := by unfold Wr.string; rw [if_pos he]
    rw [hmm]
    have HF := Kept.mk (readString_err p a l e (.func (.func 57) #[] #[.pointer (some ⟨w.heap.size, 0, none⟩), .pointer (some ⟨w.heap.size + 1, 0, none⟩)]) _ H.out he)
    have G0 := Kept.mk g0
    clear h g0 hmm bb bm he hU hW2
    go_enter Tryd.func28, Tryd.ntmps28
    go_wp2_with (go_at_call 56; refine HF.out.mono ?_; rintro r w1 ⟨rfl, rfl⟩)
    go_ret
    exact ⟨rfl, H.out, G0.out⟩
end Go.Proofs.YtknfkbgnfjfpeaaDoor
