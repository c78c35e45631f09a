/- The reference's Encode. -/
import Derived.Test.YthhcfocmaiacoaaVarC
namespace Go.Proofs.Ythhcfocmaiacoaa
open Go.RowKit Go.Shelf

theorem OwnB.lit1 (w : World) (v : Value) (x : UInt8) (hv : v = bv x) : OwnB (w.alloc (.cells #[v] 5)) w.heap.size (some ⟨w.heap.size, 0, none⟩) 1 1 [x] := by
  subst hv
  exact ⟨rfl, .inr ⟨w.heap.size, 1, #[bv x], rfl, Nat.le_refl _, heap_alloc_new w _, Nat.le_refl _, by unfold maxLen; omega, rfl, rfl⟩⟩
set_option maxRecDepth 100000 in
set_option maxHeartbeats 2000000 in
theorem refEncode_any (x : Nat) (w : World) (hx : x < 18446744073709551616) :
    Calls Try.prog 54 #[.int .u64 (x : Int)] w fun e w' => ∃ A n c, e = .returned (.slice A n c) ∧ OwnB w' w.heap.size A n c (Vi.enc x) ∧ Below w.heap.size w w' := by
  induction x using Nat.strongRecOn generalizing w with
  | ind x ih =>
    have IH := Kept.mk ih
    have Hx := Kept.mk hx
    clear ih hx
    by_cases h : x < 128
    · have he := Kept.mk (Vi.enc_lt h)
      have ho := Kept.mk (OwnB.lit1 w (.int .u8 (x : Int)) (UInt8.ofNat x) (by simp [bv]; omega))
      have hi : (x : Int) < 128 := by omega
      go_enter Try.func54, Try.ntmps54
      go_wp2
      go_ret
      exact ⟨_, _, _, rfl, by rw [he.out]; exact ho.out, (Below.refl _ w).alloc (Nat.le_refl _) _⟩
    · have he := Kept.mk (Vi.enc_ge (x := x) (by omega))
      have hl := Kept.mk (Vi.enc_len (x / 128) (by have := Hx.out; omega))
      have ho := Kept.mk (OwnB.lit1 w (.int .u8 ((x : Int) % 128 + 128)) (UInt8.ofNat (x % 128 + 128)) (by simp [bv]; omega))
      have hi : (128 : Int) ≤ (x : Int) := by omega
      have e1 : (((x / 128 : Nat)) : Int) = IntKind.u64.wrap ((x : Int) / 128) := by rw [IntKind.wrap_u64]; have := Hx.out; omega
      have HI : Kept (∀ w, Calls Try.prog 54 #[.int .u64 (IntKind.u64.wrap ((x : Int) / 128))] w fun e w' => ∃ A n c, e = .returned (.slice A n c) ∧ OwnB w' w.heap.size A n c (Vi.enc (x / 128)) ∧ Below w.heap.size w w') := ⟨fun w => by
        rw [← e1]; exact IH.out (x / 128) (by omega) w (by have := Hx.out; omega)⟩
      clear e1 IH
      go_enter Try.func54, Try.ntmps54
      go_wp2_with (first
        | (go_at_call 54; refine (HI.out _).mono ?_; rintro e w1 ⟨A1, n1, c1, rfl, ho1, hb1⟩; have ho2 := own_below ho.out hb1 (fun g hg => (own_lt ho.out g hg).2); have hz1 := hb1.size; have hn1 := ho1.len; have hn1' : n1 ≤ 10 := (by rw [hn1]; exact hl.out); have R1 := Kept.mk ho1.rd; clear hn1 ho1)
        | (at_builtin; refine wpList_appB rfl (.tmp 12) (.tmp 15) rfl w.heap.size _ _ _ _ rfl ho2 w1.heap.size _ _ _ _ rfl R1.out (by omega) (by simp at hz1; omega) ?_; intro A4 c4 w4 hown4 hgrow4 hat4))
      go_ret
      refine ⟨A4, _, c4, rfl, by rw [he.out]; exact hown4, ?_⟩
      refine (((Below.refl _ w).alloc (Nat.le_refl _) _).trans (hb1.mono (by simp))).grown hgrow4 (by simp at hz1; omega) (fun g hg => ?_)
      cases hg
      exact Nat.le_refl _
end Go.Proofs.Ythhcfocmaiacoaa
