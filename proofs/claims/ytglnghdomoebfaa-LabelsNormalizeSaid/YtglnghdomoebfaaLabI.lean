/- Chapter 11: the program's check of labels. -/
import Derived.Test.YtglnghdomoebfaaLabH
namespace Go.Proofs.Ytglnghdomoebfaa
open Go.RowKit Go.Shelf

theorem part_fld (a : Value) (W : World) : Sem.run Try.prog (Instr.field 102 (.agg #[a]) 0) W = .ok a W := by kernel_rfl
theorem cmp_one {a b : ByteArray} (h : St.lt b a = true) : St.cmp a b = 1 := by simp [St.cmp, h, St.asymm h]
theorem cmp_neg1 {a b : ByteArray} (h : St.lt b a = false) (hn : ¬ a = b) : St.cmp a b = -1 := by
  unfold St.cmp
  cases hab : St.lt a b with
  | true => rfl
  | false => exact absurd (St.total hab h) hn
set_option maxRecDepth 100000 in
set_option maxHeartbeats 4000000 in
theorem lcheck_any (A : Option Addr) (n c B : Nat) (l : List Lab) (w : World) (hv : RdL w B A n c l) (hB : B ≤ w.heap.size) (hf : Lb.Fit l) :
    Calls Try.prog 30 #[.slice A n c] w fun e w' => e = .returned (.int .i64 (Lb.chk l)) ∧ Gr w w' := by
  have mixed : Try.prog.follows .mixedOrders = true := by kernel_rfl
  have hlc := hv.1
  have hcm := hv.2.1
  unfold maxLen at hcm
  have hn := Kept.mk hv.len
  have V := Kept.mk hv
  have F := Kept.mk hf
  clear hv hf
  obtain ⟨r, hr⟩ : ∃ r, r = Lb.chk l := ⟨_, rfl⟩
  rw [← hr]
  have HR := Kept.mk hr
  clear hr
  have ii := fun W => part_ix0 (.func (.func 84) #[] #[]) (.func (.func 85) #[] #[]) W
  have jj := fun W => part_fld (.func (.func 84) #[] #[]) W
  have BY := fun W => by_any (.func (.func 84) #[] #[]) rfl W
  go_enter Try.func30, Try.ntmps30
  go_upto_region 2 with (first
    | (go_at_call 60; refine (parts_any _).mono ?_; rintro e w1 ⟨rfl, g1⟩)
    | (go_at_call 59; refine (BY _).mono ?_; rintro e w2 ⟨rfl, rfl⟩))
  have G1 := Kept.mk (g1.alloc (.cells #[.func (.func 84) #[] #[]] 100))
  have hcb : Kept ((w1.alloc (.cells #[.func (.func 84) #[] #[]] 100)).cell? ⟨w1.heap.size, 0, none⟩ = some (.func (.func 84) #[] #[])) := ⟨World.cell?_alloc_mark w1 _ _ _ 0⟩
  have hzb : Kept (w1.heap.size < (w1.alloc (.cells #[.func (.func 84) #[] #[]] 100)).heap.size) := ⟨by simp⟩
  clear g1 ii jj BY
  generalize w1.alloc (.cells #[.func (.func 84) #[] #[]] 100) = W1 at *
  generalize w1.heap.size = Bf at *
  go_wp2
  go_loopw [13] (fun i wr => ∃ k : Nat, k ≤ n ∧ i = .int .i64 k ∧ Kept (∀ j, j < k → Lb.stepE l j = 0) ∧ Gr W1 wr) (fun i _ => n - (intOf i).toNat)
  case atStart => exact ⟨0, by omega, rfl, ⟨fun j hj => by omega⟩, Gr.refl W1⟩
  case round =>
    obtain ⟨k, hk, rfl, hd, gr⟩ := hrel
    by_cases hlt : k < n
    · have hkl : k < l.length := by rw [← hn.out]; exact hlt
      obtain ⟨b, off, rfl, hc⟩ := V.out.cells hB hkl
      obtain ⟨c0, c1⟩ := hc wr (G1.out.trans gr).below
      have G := Kept.mk gr
      obtain ⟨hf1, hf2⟩ := F.out.at hkl
      have ONE := Kept.mk (fun W => single_any l[k] W hf1 hf2)
      clear hc gr hf1 hf2
      by_cases h1 : Lb.one l[k] = 0
      · rw [h1] at ONE
        by_cases h0 : k = 0
        · have hd2 := Kept.mk (Lb.step_all hd.out (by subst h0; exact Lb.step_zero hkl h1))
          clear h1
          subst h0
          simp only [Nat.zero_mul, Nat.add_zero] at c0 c1
          generalize l[0].n = xn at *
          generalize l[0].v = xv at *
          go_wp2_with (go_at_call 61; refine (ONE.out _).mono ?_; rintro e w2 ⟨rfl, g2⟩; have G2 := Kept.mk ((G.out.alloc _).trans g2); clear g2)
          go_roundw
          case rel => exact ⟨1, by omega, rfl, hd2, G2.out⟩
          case measure => simp [intOf]; omega
        · have hkl1 : k - 1 < l.length := by omega
          obtain ⟨b', off', e', hp⟩ := V.out.cells hB hkl1
          simp only [Option.some.injEq, Addr.mk.injEq, and_true] at e'
          obtain ⟨rfl, rfl⟩ := e'
          have CP := Kept.mk (fun W (g : Gr W1 W) => hp W (G1.out.trans g).below)
          have ek : (k : Int) - 1 = ((k - 1 : Nat) : Int) := by omega
          have ek2 : ((k - 1 : Nat) : Int) < (n : Int) := by omega
          have ew : IntKind.i64.wrap ((k - 1 : Nat) : Int) = ((k - 1 : Nat) : Int) := by rw [IntKind.wrap_i64]; omega
          have ek3 : 0 < k := by omega
          have ek4 : ¬ k = 0 := h0
          have hcase : Kept ((St.cmp l[k - 1].n l[k].n = 0 ∧ r = 18) ∨ (St.cmp l[k - 1].n l[k].n = 1 ∧ r = 16) ∨ (St.cmp l[k - 1].n l[k].n = -1 ∧ ∀ j, j < k + 1 → Lb.stepE l j = 0)) := ⟨by
            by_cases hdup : l[k - 1].n = l[k].n
            · exact .inl ⟨St.cmp_zero.2 hdup, HR.out.trans ((Lb.firstE_at _ _ k hkl hd.out (by rw [Lb.step_dup hkl h0 h1 hdup]; decide)).trans (Lb.step_dup hkl h0 h1 hdup))⟩
            · by_cases hord : St.lt l[k].n l[k - 1].n = true
              · exact .inr (.inl ⟨cmp_one hord, HR.out.trans ((Lb.firstE_at _ _ k hkl hd.out (by rw [Lb.step_ord hkl h0 h1 hord]; decide)).trans (Lb.step_ord hkl h0 h1 hord))⟩)
              · have hord' : St.lt l[k].n l[k - 1].n = false := by simpa using hord
                exact .inr (.inr ⟨cmp_neg1 hord' hdup, Lb.step_all hd.out (Lb.step_ok hkl h0 h1 hdup hord')⟩)⟩
          have B1 := Kept.mk (fun W hB hc => by1_any 84 Lab.n (enters_of Try.func84 (by kernel_rfl) rfl) part1_any Bf l[k - 1] l[k] W hB hc)
          clear hp h1 h0
          generalize St.cmp l[k - 1].n l[k].n = s at *
          generalize l[k].n = xn at *
          generalize l[k].v = xv at *
          generalize l[k - 1].n = pn at *
          generalize l[k - 1].v = pv at *
          go_upto_region 9 with (go_at_call 61; refine (ONE.out _).mono ?_; rintro e w2 ⟨rfl, g2⟩; have G2 := Kept.mk ((G.out.alloc _).trans g2))
          have hz2 : wr.heap.size < w2.heap.size := Nat.lt_of_lt_of_le (by simp) g2.size
          have hz3 : Bf < w2.heap.size := Nat.lt_of_lt_of_le hzb.out G2.out.size
          have f0 := fun n os => cell_grown (a := ⟨wr.heap.size, 0, none⟩) hz2 ((g2.cell _ 0 (by simp)).trans (World.cell?_alloc_mark wr #[.string xn, .string xv] 57 (0, 0) 0)) n os
          have f1 := fun n os => cell_grown (a := ⟨wr.heap.size, 1, none⟩) hz2 ((g2.cell _ 1 (by simp)).trans (World.cell?_alloc_mark wr #[.string xn, .string xv] 57 (0, 0) 1)) n os
          have p0 := fun n os => (CP.out (Sort.grow (w2.drewN n) os) (G2.out.trans ⟨n, os, rfl⟩)).1
          have p1 := fun n os => (CP.out (Sort.grow (w2.drewN n) os) (G2.out.trans ⟨n, os, rfl⟩)).2
          have BB := fun n os => B1.out (Sort.grow (w2.drewN n) os) (Nat.lt_of_lt_of_le hz3 (show w2.heap.size ≤ (Sort.grow (w2.drewN n) os).heap.size by rw [Sort.size_grow]; show w2.heap.size ≤ w2.heap.size + _; omega)) (((G2.out.trans ⟨n, os, rfl⟩).cell Bf 0 hzb.out).trans hcb.out)
          clear B1 g2 hz2 hz3 c0 c1
          go_quiet_grown (first | (go_at_call 82; refine Calls.grown_of (BB _ _)))
          clear f0 f1 p0 p1 BB
          rcases hcase.out with ⟨rfl, hres⟩ | ⟨rfl, hres⟩ | ⟨rfl, hd2⟩
          · have hres := Kept.mk hres
            go_wp2
            go_ret
            exact ⟨by first | rfl | (rw [hres.out]; rfl), G1.out.trans (G2.out.trans ⟨_, _, rfl⟩)⟩
          · have hres := Kept.mk hres
            go_wp2
            go_ret
            exact ⟨by first | rfl | (rw [hres.out]; rfl), G1.out.trans (G2.out.trans ⟨_, _, rfl⟩)⟩
          · have hd2 := Kept.mk hd2
            go_wp2
            go_roundw
            case rel => exact ⟨k + 1, by omega, by go_num, hd2, G2.out.trans ⟨_, _, rfl⟩⟩
            case measure => simp [intOf]; omega
      · have hd2 : Kept (r = Lb.one l[k]) := ⟨HR.out.trans ((Lb.firstE_at _ _ k hkl hd.out (by rw [Lb.step_one hkl h1]; exact h1)).trans (Lb.step_one hkl h1))⟩
        generalize Lb.one l[k] = s at *
        generalize l[k].n = xn at *
        generalize l[k].v = xv at *
        go_wp2_with (go_at_call 61; refine (ONE.out _).mono ?_; rintro e w2 ⟨rfl, g2⟩; have G2 := Kept.mk ((G.out.alloc _).trans g2); clear g2)
        go_ret
        exact ⟨by rw [hd2.out]; rfl, G1.out.trans G2.out⟩
    · have hd2 : Kept (r = 0) := ⟨HR.out.trans (Lb.firstE_none _ _ fun j hj => hd.out j (by have := hn.out; omega))⟩
      have G := Kept.mk gr
      clear gr
      go_wp2
      go_ret
      exact ⟨by rw [hd2.out]; rfl, G1.out.trans G.out⟩
end Go.Proofs.Ytglnghdomoebfaa
