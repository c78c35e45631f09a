/- Chapter 11: the program's Normalize. -/
import Derived.Test.YtglnghdomoebfaaLabJ
namespace Go.Proofs.Ytglnghdomoebfaa
open Go.RowKit Go.Shelf

theorem sort_own (A : Option Addr) (n c base Bf : Nat) (l : List Lab) (w : World) (ho : OwnL w base A n c l) (hb : base ≤ w.heap.size) (hB : Bf < w.heap.size) (hne : ∀ g, ab A = some g → Bf ≠ g) (hc : w.cell? ⟨Bf, 0, none⟩ = some (.func (.func 84) #[] #[])) (hn : n ≤ 4398046511104) :
    Calls Try.prog 63 #[.slice A n c, .func (.func 82) #[] #[.pointer (some ⟨Bf, 0, none⟩)]] w fun e w' =>
      e = .returned (.tuple #[]) ∧ ∃ d : Array Lab, Sort.PermIn 0 l.toArray.size l.toArray d ∧ Sort.SortedIn (fun x y => St.lt x.n y.n) 0 l.toArray.size d ∧ RdL w' w.heap.size A n c d.toList ∧ Below base w w' := by
  rcases Nat.eq_zero_or_pos n with h0 | h0
  · subst h0
    have hl : l = [] := List.eq_nil_of_length_eq_zero ho.len.symm
    subst hl
    have hm := ho.rd.2.1
    refine (sort_none A c _ w).mono fun e w' ⟨h1, h2⟩ => ⟨h1, #[], ⟨rfl, fun _ _ => rfl, List.Perm.refl _⟩, fun i j _ h2 h3 => absurd h3 (by simp), ?_, by rw [h2]; exact Below.refl _ _⟩
    exact Rd.nil _ _ 2 c A hm
  · obtain ⟨g, rfl, h1, h2⟩ := ho.pos h0
    exact sort_any g n c base Bf l w ho hb hB (hne g rfl) hc hn
theorem Fit.perm {l m : List Lab} (h : Lb.Fit l) (hp : m.Perm l) : Lb.Fit m := fun x hx => h x (hp.mem_iff.1 hx)
theorem perm_of_in {l : List Lab} {d : Array Lab} (hp : Sort.PermIn 0 l.toArray.size l.toArray d) : d.toList.Perm l := by
  obtain ⟨h1, _, h3⟩ := hp
  have h1' : d.size = l.length := by simpa using h1
  have e1 : (d.extract 0 l.toArray.size).toList = d.toList := by simp [← h1']
  have e2 : (l.toArray.extract 0 l.toArray.size).toList = l := by simp
  rwa [e1, e2] at h3
set_option maxRecDepth 100000 in
set_option maxHeartbeats 4000000 in
theorem lnormalize_any (A : Option Addr) (n c B : Nat) (l : List Lab) (w : World) (hv : RdL w B A n c l) (hB : B ≤ w.heap.size) (hf : Lb.Fit l) (hn4 : n ≤ 4398046511104) :
    Calls Try.prog 33 #[.slice A n c] w fun r w' => ∃ e A2 n2 c2 out, r = .returned (.tuple #[.slice A2 n2 c2, .int .i64 e]) ∧ Lb.Norm l e out ∧ RdL w' w'.heap.size A2 n2 c2 out ∧ Below w.heap.size w w' := by
  have hlc := hv.1
  have hcm := hv.2.1
  unfold maxLen at hcm
  have hn := Kept.mk hv.len
  have V := Kept.mk hv
  have F := Kept.mk hf
  clear hv hf
  go_enter Try.func33, Try.ntmps33
  go_wp2
  go_loopw [11] (fun i wr => ∃ k : Nat, k ≤ n ∧ i = .int .i64 k ∧ Kept (∀ j (hj : j < l.length), j < k → Lb.one l[j] = 0) ∧ Gr w wr) (fun i _ => n - (intOf i).toNat)
  case atStart => exact ⟨0, by omega, rfl, ⟨fun j _ hj => by omega⟩, Gr.refl w⟩
  case round =>
    obtain ⟨k, hk, rfl, hd, gr⟩ := hrel
    by_cases hlt : k < n
    · have hkl : k < l.length := by rw [← hn.out]; exact hlt
      obtain ⟨b, off, rfl, hc⟩ := V.out.cells hB hkl
      obtain ⟨c0, c1⟩ := hc wr gr.below
      have G := Kept.mk gr
      obtain ⟨hf1, hf2⟩ := F.out.at hkl
      have ONE := Kept.mk (fun W => single_any l[k] W hf1 hf2)
      clear hc gr hf1 hf2
      by_cases h1 : Lb.one l[k] = 0
      · rw [h1] at ONE
        have hd2 : Kept (∀ j (hj : j < l.length), j < k + 1 → Lb.one l[j] = 0) := ⟨fun j hj hjk => by
          by_cases e : j = k
          · subst e; exact h1
          · exact hd.out j hj (by omega)⟩
        clear h1
        generalize l[k].n = xn at *
        generalize l[k].v = xv at *
        go_wp2_with (go_at_call 61; refine (ONE.out _).mono ?_; rintro e w2 ⟨rfl, g2⟩; have G2 := Kept.mk ((G.out.alloc _).trans g2); clear g2)
        go_roundw
        case rel => exact ⟨k + 1, by omega, by go_num, hd2, G2.out⟩
        case measure => simp [intOf]; omega
      · have hd2 : Kept (Lb.Norm l (Lb.one l[k]) []) := ⟨.inl (by
          have e : Lb.ones l = Lb.one l[k] := by
            have := Lb.firstE_at (fun j => Lb.one (l.getD j default)) l.length k hkl (fun j hj => by rw [Lb.getD_at (show j < l.length by omega)]; exact hd.out j (by omega) hj) (by rw [Lb.getD_at hkl]; exact h1)
            unfold Lb.ones
            rw [this, Lb.getD_at hkl]
          exact ⟨by rw [e]; exact h1, e.symm, rfl⟩)⟩
        generalize Lb.one l[k] = s at *
        generalize l[k].n = xn at *
        generalize l[k].v = xv at *
        go_wp2_with (go_at_call 61; refine (ONE.out _).mono ?_; rintro e w2 ⟨rfl, g2⟩; have G2 := Kept.mk ((G.out.alloc _).trans g2); clear g2)
        go_ret2
        exact ⟨s, none, 0, 0, [], rfl, hd2.out, Rd.nil _ _ 2 0 none (by unfold maxLen; omega), G2.out.below⟩
    · have ho : Kept (Lb.ones l = 0) := ⟨(Lb.ones_zero l).2 fun x hx => by
        obtain ⟨j, hj, rfl⟩ := List.mem_iff_getElem.1 hx
        exact hd.out j hj (by have := hn.out; omega)⟩
      have G := Kept.mk gr
      have CL := Kept.mk (cloneL_any A n c B l wr (V.out.below ((gr.below).mono hB)) (Nat.le_trans hB gr.size) hn4)
      have ii := fun W => part_ix0 (.func (.func 84) #[] #[]) (.func (.func 85) #[] #[]) W
      have jj := fun W => part_fld (.func (.func 84) #[] #[]) W
      have BY := fun W => by_any (.func (.func 84) #[] #[]) rfl W
      clear gr
      go_upto_region 10 with (first
        | (go_at_call 32; refine CL.out.mono ?_; rintro e w1 ⟨A3, c3, rfl, ho1, hb1⟩; have O1 := Kept.mk ho1; have B1 := Kept.mk hb1; clear ho1 hb1)
        | (go_at_call 60; refine (parts_any _).mono ?_; rintro e w2 ⟨rfl, g2⟩; have G2 := Kept.mk g2; clear g2)
        | (go_at_call 59; refine (BY _).mono ?_; rintro e w3 ⟨rfl, rfl⟩; have O2 := Kept.mk (own_below (World.ownsRow.alloc (own_below O1.out G2.out.below (fun g e => (own_lt O1.out g e).2)) (.cells #[.func (.func 84) #[] #[]] 100)) (Below.refl (w2.heap.size + 1) _) (fun g e => by have := (own_lt O1.out g e).2; have := G2.out.size; omega)); have SO := Kept.mk (sort_own A3 n c3 wr.heap.size w2.heap.size l _ O2.out (by have := B1.out.size; have := G2.out.size; simp; omega) (by simp) (fun g e => by have := (own_lt O1.out g e).2; have := G2.out.size; omega) (World.cell?_alloc_mark w2 _ _ _ 0) hn4))
        | (go_at_call 63; refine SO.out.mono ?_; rintro e w4 ⟨rfl, d, hp, hs, hr4, hb4⟩; have P4 := Kept.mk hp; have S4 := Kept.mk hs; have R4 := Kept.mk hr4; have B4 := Kept.mk hb4; clear hp hs hr4 hb4))
      have hz4 := B4.out.size
      have CK := Kept.mk (lcheck_any A3 n c3 _ d.toList w4 R4.out hz4 (Fit.perm F.out (perm_of_in P4.out)))
      have b1 : Below wr.heap.size wr w4 := ((B1.out.trans (G2.out.below.mono B1.out.size)).alloc (by have := B1.out.size; have := G2.out.size; omega) _).trans B4.out
      have b2 := Kept.mk (G.out.below.trans (b1.mono G.out.size))
      have hz5 := b2.out.size
      clear b1
      rcases Lb.norm_of_sort ho.out P4.out S4.out with ⟨a, nm⟩ | ⟨a, nm⟩
      · rw [a] at CK
        have NM := Kept.mk nm
        clear a nm
        go_wp2_with (go_at_call 30; refine CK.out.mono ?_; rintro e w5 ⟨rfl, g5⟩; have G5 := Kept.mk g5; clear g5)
        go_ret2
        exact ⟨0, A3, n, c3, d.toList, rfl, NM.out, ((R4.out.more hz4).below G5.out.below).more G5.out.size, b2.out.trans (G5.out.below.mono hz5)⟩
      · rw [a] at CK
        have NM := Kept.mk nm
        clear a nm
        go_wp2_with (go_at_call 30; refine CK.out.mono ?_; rintro e w5 ⟨rfl, g5⟩; have G5 := Kept.mk g5; clear g5)
        go_ret2
        exact ⟨18, none, 0, 0, [], rfl, NM.out, Rd.nil _ _ 2 0 none (by unfold maxLen; omega), b2.out.trans (G5.out.below.mono hz5)⟩
end Go.Proofs.Ytglnghdomoebfaa
