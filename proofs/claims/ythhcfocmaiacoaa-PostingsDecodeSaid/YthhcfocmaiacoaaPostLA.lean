/- Chapter 15: the law PostingsBuild. -/
import Derived.Test.YthhcfocmaiacoaaPostJ
namespace Go.Proofs.Ythhcfocmaiacoaa
open Go.RowKit Go.Shelf

theorem Ps.sets_len {M : List (List Lab)} {E : List EntV} (hs : Ps.Sets M) (h : Ps.Idx (Ps.prs M 0) E) : E.length ≤ 300 ∧ ∀ e ∈ E, e.2.length ≤ 300 := by
  obtain ⟨h1, h2⟩ := Ps.idx_len h
  have h3 := Ps.prs_len M 0
  have h4 := hs.2
  exact ⟨by omega, fun e he => by have := h2 e he; omega⟩
theorem RdLL.on {w w' : World} {A : Option Addr} {n c : Nat} {LL : List (List Lab)} (h : RdLL w w.heap.size A n c LL) (hb : Below w.heap.size w w') : RdLL w' w'.heap.size A n c LL := (h.below hb).more hb.size
set_option maxRecDepth 100000 in
set_option maxHeartbeats 4000000 in
theorem law_pbuild (A : Option Addr) (n c : Nat) (LL : List (List Lab)) (w : World) (hv : RdLL w w.heap.size A n c LL) (hf : ∀ l ∈ LL, Lb.Fit l) :
    Calls Try.prog 9 #[.slice A n c] w fun r w' => r = .returned (.bool true) ∧ Below w.heap.size w w' := by
  have NM := Kept.mk (normal15_any A n c w.heap.size LL w hv (Nat.le_refl _) hf)
  clear hv hf
  go_enter Try.func9, Try.ntmps9
  go_wp2_with (first
    | (go_at_call 31; refine (same15_any _ _ _ _ _ _ E3 w5 R5.out Q5.out (by have := L3.out.1; have := Q5.out.len; have := R5.out.len; omega) (fun e he => by have := L3.out.2 e he; omega)).mono ?_; rintro r w6 ⟨rfl, hg⟩; have B9 := Kept.mk (bl_next B5.out hg.below); clear hg)
    | (go_at_call 34; refine (refBuild15_any A1 n1 c1 M w4 ((RM.out.on b2.out |>.on b3.out).on b4.out) S.out).mono ?_; rintro r w5 ⟨A5, n5, c5, E5, rfl, hI, ho, hb⟩; obtain rfl := Ps.Idx.uniq I3.out hI; have Q5 := Kept.mk ho.rd; have R5 := Kept.mk (R4.out.on hb); have B5 := Kept.mk (bl_next B4.out hb); clear hI ho hb)
    | (go_at_call 32; refine (reference15_any A3 n3 c3 E3 w3 R3.out (by have := L3.out.1; have := R3.out.len; omega)).mono ?_; rintro r w4 ⟨A4, n4, c4, rfl, ho, hb⟩; have R4 := Kept.mk ho.rd; have b4 := Kept.mk hb; have B4 := Kept.mk (bl_next B3.out hb); clear ho hb)
    | (go_at_call 33; refine (build_any A1 n1 c1 M w2 (RM.out.on b2.out) S.out).mono ?_; rintro r w3 ⟨A3, n3, c3, E3, rfl, hI, ho, hb⟩; have I3 := Kept.mk hI; have L3 := Kept.mk (Ps.sets_len S.out hI); have R3 := Kept.mk ho.rd; have b3 := Kept.mk hb; have B3 := Kept.mk (bl_next B2.out hb); clear hI ho hb)
    | (go_at_call 30; refine (alive15_any w1).mono ?_; rintro r w2 ⟨rfl, hb⟩; have b2 := Kept.mk hb; have B2 := Kept.mk (bl_next B1.out hb); clear hb)
    | (go_at_call 29; refine NM.out.mono ?_; rintro r w1 ⟨A1, n1, c1, v, rfl, hv1, M, hS, ho, hb⟩; have S := Kept.mk hS; have RM := Kept.mk ho.rd; have B1 := Kept.mk hb; clear hS ho hb NM; rcases hv1 with rfl | rfl))
  all_goals go_ret
  all_goals first | exact ⟨rfl, B9.out⟩ | exact ⟨rfl, B2.out⟩
end Go.Proofs.Ythhcfocmaiacoaa
