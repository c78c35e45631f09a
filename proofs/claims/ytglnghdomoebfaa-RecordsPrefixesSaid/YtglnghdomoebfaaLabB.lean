/- Chapter 11: comparing lists of labels. -/
import Derived.Test.YtglnghdomoebfaaLabA
namespace Go.Proofs.Ytglnghdomoebfaa
open Go.RowKit Go.Shelf

theorem Gr.box0 {w0 w : World} (h : Gr w0 w) {B : Nat} {v : Value} (hB : B < w0.heap.size) (hc : w0.cell? ⟨B, 0, none⟩ = some v) : w.cell? ⟨B, 0, none⟩ = some v := (h.cell B 0 hB).trans hc
set_option maxRecDepth 100000 in
set_option maxHeartbeats 4000000 in
theorem cmp1_any (x y : Lab) (w : World) : Calls Try.prog 65 #[.agg #[.string x.n, .string x.v], .agg #[.string y.n, .string y.v]] w fun e w' => e = .returned (.int .i64 (Lb.cmpE x y)) ∧ Gr w w' := by
  have B1 := fun B W hB hc => by1_any 84 Lab.n (enters_of Try.func84 (by kernel_rfl) rfl) part1_any B x y W hB hc
  have B2 := fun B W hB hc => by1_any 85 Lab.v (enters_of Try.func85 (by kernel_rfl) rfl) part2_any B x y W hB hc
  have A1 := fun W => by_any (.func (.func 84) #[] #[]) rfl W
  have A2 := fun W => by_any (.func (.func 85) #[] #[]) rfl W
  have HE : Kept (Lb.cmpE x y = if St.cmp x.n y.n = 0 then St.cmp x.v y.v else St.cmp x.n y.n) := ⟨rfl⟩
  generalize Lb.cmpE x y = r at *
  generalize St.cmp x.n y.n = r1 at *
  generalize St.cmp x.v y.v = r2 at *
  go_enter Try.func65, Try.ntmps65
  go_upto_region 1 with fail
  obtain ⟨W2, hW⟩ : ∃ W2, W2 = (w.alloc (.cells #[.string x.n, .string x.v] 57)).alloc (.cells #[.string y.n, .string y.v] 57) := ⟨_, rfl⟩
  have hz : W2.heap.size = w.heap.size + 2 := by rw [hW]; simp
  have gW : Kept (Gr w W2) := ⟨by rw [hW]; exact ((Gr.refl w).alloc _).alloc _⟩
  have b0 : ∀ k, W2.cell? ⟨w.heap.size, k, none⟩ = (#[Value.string x.n, .string x.v] : Array Value)[k]? := fun k => by
    rw [hW, World.cell?_alloc_lt _ _ ⟨w.heap.size, k, none⟩ (by simp)]; exact World.cell?_alloc_mark w _ _ _ k
  have b1 : ∀ k, W2.cell? ⟨w.heap.size + 1, k, none⟩ = (#[Value.string y.n, .string y.v] : Array Value)[k]? := fun k => by

    rw [hW]; simp
  have hz1 : Kept (w.heap.size + 1 < W2.heap.size) := ⟨by omega⟩
  have K0 : Kept (∀ W, Gr W2 W → W.cell? ⟨w.heap.size, 0, none⟩ = some (.string x.n)) := ⟨fun W h => (h.cell _ 0 (by omega)).trans (b0 0)⟩
  have K1 : Kept (∀ W, Gr W2 W → W.cell? ⟨w.heap.size, 1, none⟩ = some (.string x.v)) := ⟨fun W h => (h.cell _ 1 (by omega)).trans (b0 1)⟩
  have K2 : Kept (∀ W, Gr W2 W → W.cell? ⟨w.heap.size + 1, 0, none⟩ = some (.string y.n)) := ⟨fun W h => (h.cell _ 0 (by omega)).trans (b1 0)⟩
  have K3 : Kept (∀ W, Gr W2 W → W.cell? ⟨w.heap.size + 1, 1, none⟩ = some (.string y.v)) := ⟨fun W h => (h.cell _ 1 (by omega)).trans (b1 1)⟩
  rw [← hW]
  clear hW b0 b1 hz
  go_wp2_with (go_at_call 60; refine (parts_any _).mono ?_; rintro e w1 ⟨rfl, g1⟩)
  go_loopw [9] (fun i wr => Gr W2 wr ∧ (i = .int .i64 0 ∨ (i = .int .i64 1 ∧ Kept (r1 = 0)) ∨ (i = .int .i64 2 ∧ Kept (r1 = 0 ∧ r2 = 0)))) (fun i _ => 2 - (intOf i).toNat)
  case atStart => exact ⟨g1, .inl rfl⟩
  case round =>
    obtain ⟨gr, hi⟩ := hrel
    have c0 : ∀ o1, (wr.alloc o1).cell? ⟨w.heap.size, 0, none⟩ = some (.string x.n) := fun o1 => K0.out _ (gr.alloc o1)
    have d0 : ∀ o1 o2, ((wr.alloc o1).alloc o2).cell? ⟨w.heap.size, 0, none⟩ = some (.string x.n) := fun o1 o2 => K0.out _ ((gr.alloc o1).alloc o2)
    have c1 : ∀ o1, (wr.alloc o1).cell? ⟨w.heap.size, 1, none⟩ = some (.string x.v) := fun o1 => K1.out _ (gr.alloc o1)
    have d1 : ∀ o1 o2, ((wr.alloc o1).alloc o2).cell? ⟨w.heap.size, 1, none⟩ = some (.string x.v) := fun o1 o2 => K1.out _ ((gr.alloc o1).alloc o2)
    have c2 : ∀ o1, (wr.alloc o1).cell? ⟨w.heap.size + 1, 0, none⟩ = some (.string y.n) := fun o1 => K2.out _ (gr.alloc o1)
    have d2 : ∀ o1 o2, ((wr.alloc o1).alloc o2).cell? ⟨w.heap.size + 1, 0, none⟩ = some (.string y.n) := fun o1 o2 => K2.out _ ((gr.alloc o1).alloc o2)
    have c3 : ∀ o1, (wr.alloc o1).cell? ⟨w.heap.size + 1, 1, none⟩ = some (.string y.v) := fun o1 => K3.out _ (gr.alloc o1)
    have d3 : ∀ o1 o2, ((wr.alloc o1).alloc o2).cell? ⟨w.heap.size + 1, 1, none⟩ = some (.string y.v) := fun o1 o2 => K3.out _ ((gr.alloc o1).alloc o2)
    have i0 := fun W => part_ix0 (.func (.func 84) #[] #[]) (.func (.func 85) #[] #[]) W
    have i1 := fun W => part_ix1 (.func (.func 84) #[] #[]) (.func (.func 85) #[] #[]) W
    rcases hi with rfl | ⟨rfl, hr1⟩ | ⟨rfl, hr1⟩
    · go_wp2_with fail
      go_cut [7] (fun v wx => v = .int .i64 r1 ∧ Gr W2 wx)
      case first =>
        go_region_with (first
          | (go_at_call 59; refine (A1 _).mono ?_; rintro e w3 ⟨rfl, rfl⟩)
          | (go_at_call 82; refine (B1 _ _ (by simp) (by simp)).mono ?_; rintro e w4 ⟨rfl, q4, os4, rfl⟩))
        all_goals (go_wp2_with fail; go_meet; exact ⟨rfl, (((gr.alloc _).alloc _).drewN _).trans ⟨0, os4, rfl⟩⟩)
      case rest =>
        obtain ⟨rfl, gc⟩ := hcut
        clear c0 c1 c2 c3 d0 d1 d2 d3 gr
        by_cases hz : r1 = 0
        · have hzk := Kept.mk hz
          go_wp2
          go_roundw
          case rel => exact ⟨gc, .inr (.inl ⟨rfl, hzk⟩)⟩
          case measure => simp [intOf]
        · have hr : r = r1 := by rw [HE.out]; exact if_neg hz
          go_wp2
          go_ret
          exact ⟨by rw [hr]; rfl, gW.out.trans gc⟩
    · go_wp2_with fail
      go_cut [7] (fun v wx => v = .int .i64 r2 ∧ Gr W2 wx)
      case first =>
        go_region_with (first
          | (go_at_call 59; refine (A2 _).mono ?_; rintro e w3 ⟨rfl, rfl⟩)
          | (go_at_call 82; refine (B2 _ _ (by simp) (by simp)).mono ?_; rintro e w4 ⟨rfl, q4, os4, rfl⟩))
        all_goals (go_wp2_with fail; go_meet; exact ⟨rfl, (((gr.alloc _).alloc _).drewN _).trans ⟨0, os4, rfl⟩⟩)
      case rest =>
        obtain ⟨rfl, gc⟩ := hcut
        clear c0 c1 c2 c3 d0 d1 d2 d3 gr
        by_cases hz : r2 = 0
        · have hzk := Kept.mk hz
          go_wp2
          go_roundw
          case rel => exact ⟨gc, .inr (.inr ⟨rfl, ⟨hr1.out, hzk.out⟩⟩)⟩
          case measure => simp [intOf]
        · have hr : r = r2 := by rw [HE.out]; exact if_pos hr1.out
          go_wp2
          go_ret
          exact ⟨by rw [hr]; rfl, gW.out.trans gc⟩
    · have hr : r = 0 := by rw [HE.out, if_pos hr1.out.1]; exact hr1.out.2
      go_wp2
      go_ret
      exact ⟨by rw [hr]; rfl, gW.out.trans gr⟩
end Go.Proofs.Ytglnghdomoebfaa
