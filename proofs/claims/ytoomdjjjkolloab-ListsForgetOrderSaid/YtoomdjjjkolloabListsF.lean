/- lists.pick. -/
import Derived.Test.YtoomdjjjkolloabListsE
import Derived.RangeFuncBox
namespace Go.Proofs.Ytoomdjjjkolloab
open Go.RowKit Go.Shelf
attribute [local go_sem] Oper.semAt_some

set_option maxHeartbeats 1000000 in
theorem merge_any (Aa Ab : Option Addr) (na nb ca cb : Nat) (w : World) :
    Calls Try.prog 33 #[.slice Aa na ca, .slice Ab nb cb] w fun e w' => e = .returned (.func (.func 34) #[] #[.pointer (some ⟨w.heap.size, 0, none⟩), .pointer (some ⟨w.heap.size + 1, 0, none⟩)]) ∧
      w' = (w.alloc (.cells #[.slice Aa na ca] 22)).alloc (.cells #[.slice Ab nb cb] 22) := by
  go_enter Try.func33, Try.ntmps33
  go_wp2
  go_ret
  exact ⟨rfl, rfl⟩

/-- the picked numbers of a part of the merged list -/
def Ls.pk (ok : Bool → Bool → Bool) (l : List (Int × Bool × Bool)) : List Int := (l.filter fun p => ok p.2.1 p.2.2).map (·.1)
theorem Ls.pk_yes {ok : Bool → Bool → Bool} {l : List (Int × Bool × Bool)} {p : Int × Bool × Bool} (h : ok p.2.1 p.2.2 = true) : Ls.pk ok (l ++ [p]) = Ls.pk ok l ++ [p.1] := by simp [Ls.pk, h]
theorem Ls.pk_no {ok : Bool → Bool → Bool} {l : List (Int × Bool × Bool)} {p : Int × Bool × Bool} (h : ok p.2.1 p.2.2 = false) : Ls.pk ok (l ++ [p]) = Ls.pk ok l := by simp [Ls.pk, h]
theorem Ls.pk_len (ok : Bool → Bool → Bool) (l : List (Int × Bool × Bool)) : (Ls.pk ok l).length ≤ l.length := by
  unfold Ls.pk; rw [List.length_map]; exact List.length_filter_le _ _
theorem Ls.mrg_len : ∀ (n : Nat) (a b : List Int), a.length + b.length ≤ n → (Ls.mrg a b).length ≤ a.length + b.length
  | n, [], [], _ => by simp [Ls.mrg]
  | 0, x :: a, _, h => by simp at h
  | 0, [], y :: b, h => by simp at h
  | n + 1, x :: a, [], h => by have := Ls.mrg_len n a [] (by simp at h ⊢; omega); rw [Ls.mrg]; simp at this ⊢; omega
  | n + 1, [], y :: b, h => by have := Ls.mrg_len n [] b (by simp at h ⊢; omega); rw [Ls.mrg]; simp at this ⊢; omega
  | n + 1, x :: a, y :: b, h => by
    have h1 := Ls.mrg_len n a (y :: b) (by simp at h ⊢; omega)
    have h2 := Ls.mrg_len n (x :: a) b (by simp at h ⊢; omega)
    have h3 := Ls.mrg_len n a b (by simp at h ⊢; omega)
    rw [Ls.mrg]
    split
    · simp at h1 ⊢; omega
    · split
      · simp at h2 ⊢; omega
      · simp at h3 ⊢; omega

/-- what lies between two rounds -/
def PickI (w : World) (N fid : Nat) (ok : Bool → Bool → Bool) (pre : List (Int × Bool × Bool)) (W : World) : Prop :=
  (∃ A n c, Boxed W (w.heap.size + 1) 22 (.slice A n c) ∧ OwnI W N A n c (Ls.pk ok pre)) ∧ Boxed W w.heap.size 43 (.func (.func fid) #[] #[]) ∧ Below w.heap.size w W
theorem own_kept {W W' : World} {row : Option Nat} {base n c sz : Nat} {A : Option Addr} {xs : List Value} {e : TypeId} {M : Nat} (h : W.ownsRow base e sz (.slice A n c) n xs) (hg : W.grownBy W' row)
    (hr : ∀ r, row = some r → r < base ∨ (M ≤ r ∧ ∃ o : Obj, W.heap[r]? = some o ∧ o.isCells = false)) : W'.ownsRow base e sz (.slice A n c) n xs := by
  refine ⟨h.1, ?_⟩
  rcases h.2 with hn | ⟨g, cap, cur, hv, h1, h2, rest⟩
  · exact .inl hn
  · refine .inr ⟨g, cap, cur, hv, h1, ?_, rest⟩
    rw [hg.block g (Array.getElem?_eq_some_iff.1 h2).1]
    · exact h2
    · intro e'
      rcases hr g e'.symm with h3 | ⟨_, o, ho, hoc⟩
      · omega
      · rw [h2] at ho; cases ho; cases hoc
theorem PickI.own {w : World} {N fid : Nat} {ok : Bool → Bool → Bool} {O : Nat → Prop} (hO : ∀ r, O r → w.heap.size + 1 < r ∧ r < N) (hN : w.heap.size + 2 ≤ N) : MindsOwn N O (PickI w N fid ok) := by
  rintro s W W' row ⟨⟨A, n, c, hb, ho⟩, hb2, hbl⟩ hg hr
  have hrow : ∀ r, row = some r → w.heap.size + 1 < r := fun r e => by
    rcases hr r e with h | ⟨h, _⟩
    · exact (hO r h).1
    · omega
  refine ⟨⟨A, n, c, hb.kept hg (fun e => by have := hrow _ e.symm; omega), own_kept (M := N) ho hg fun r e => ?_⟩, hb2.kept hg (fun e => by have := hrow _ e.symm; omega), hbl.grown hg hbl.size (fun r e => by have := hrow r e; omega)⟩
  rcases hr r e with h | h
  · exact .inl (hO r h).2
  · exact .inr h

set_option maxHeartbeats 2000000 in
theorem pick_any (fid : Nat) (ok : Bool → Bool → Bool) (Aa Ab : Option Addr) (na nb ca cb B : Nat) (a b : List Int) (w : World)
    (hent : ∀ args w, (callFunc fid args).run Try.prog w = .ok (.enter fid args) w)
    (hok : ∀ f s w, Calls Try.prog fid #[.agg #[.bool f, .bool s]] w fun e w' => e = .returned (.bool (ok f s)) ∧ Below w.heap.size w w')
    (h1 : RdI w B Aa na ca a) (h2 : RdI w B Ab nb cb b) (hB : B ≤ w.heap.size) (hl : na + nb ≤ 2000000) :
    Calls Try.prog 26 #[.slice Aa na ca, .slice Ab nb cb, .func (.func fid) #[] #[]] w fun e w' => ∃ A3 n3 c3, e = .returned (.slice A3 n3 c3) ∧ n3 ≤ na + nb ∧ OwnI w' w.heap.size A3 n3 c3 (Ls.pick ok a b) ∧ Below w.heap.size w w' := by
  have hla := h1.len
  have hlb := h2.len
  have Hm := Kept.mk (Ls.mrg_len _ a b (Nat.le_refl _))
  have hpk := Kept.mk (show Ls.pick ok a b = Ls.pk ok (Ls.mrg a b) from rfl)
  have Hok := hide hok
  have Hent := hide hent
  have H1 := hide h1
  have H2 := hide h2
  replace hla := Kept.mk hla
  replace hlb := Kept.mk hlb
  clear hok hent h1 h2
  refine (callsIn_wide (n := 9)).1 ?_
  refine callsIn_of_wp_marks Try.func26 rfl trivial ?_ rfl
  simp only [Try.ntmps26, List.size_toArray, List.length_cons, List.length_nil, Nat.reduceAdd, Nat.reduceSub, Array.replicate_succ, Array.replicate_zero, List.push_toArray, List.append_toArray, List.nil_append, List.cons_append]
  refine wpIn_wide.2 ?_
  go_wp2_with (go_at_call 33; refine (merge_any _ _ _ _ _ _ _).mono ?_; rintro e w2 ⟨rfl, rfl⟩)
  have bF := Boxed.new w 43 (.func (.func fid) #[] #[])
  have bO := Boxed.new (w.alloc (.cells #[.func (.func fid) #[] #[]] 43)) 22 (.slice none 0 0)
  have bA := Boxed.new ((w.alloc (.cells #[.func (.func fid) #[] #[]] 43)).alloc (.cells #[.slice none 0 0] 22)) 22 (.slice Aa na ca)
  have bB := Boxed.new (((w.alloc (.cells #[.func (.func fid) #[] #[]] 43)).alloc (.cells #[.slice none 0 0] 22)).alloc (.cells #[.slice Aa na ca] 22)) 22 (.slice Ab nb cb)
  replace bF := ((bF.alloc (.cells #[.slice none 0 0] 22)).alloc (.cells #[.slice Aa na ca] 22)).alloc (.cells #[.slice Ab nb cb] 22)
  replace bO := (bO.alloc (.cells #[.slice Aa na ca] 22)).alloc (.cells #[.slice Ab nb cb] 22)
  replace bA := bA.alloc (.cells #[.slice Ab nb cb] 22)
  have hB0 : Below w.heap.size w ((((w.alloc (.cells #[.func (.func fid) #[] #[]] 43)).alloc (.cells #[.slice none 0 0] 22)).alloc (.cells #[.slice Aa na ca] 22)).alloc (.cells #[.slice Ab nb cb] 22)) :=
    ((((Below.refl _ w).alloc (Nat.le_refl _) _).alloc (by simp) _).alloc (by simp; omega) _).alloc (by simp; omega) _
  have hsz : ((((w.alloc (.cells #[.func (.func fid) #[] #[]] 43)).alloc (.cells #[.slice none 0 0] 22)).alloc (.cells #[.slice Aa na ca] 22)).alloc (.cells #[.slice Ab nb cb] 22)).heap.size = w.heap.size + 4 := by simp
  simp only [World.size_alloc] at bF bO bA bB
  generalize (((w.alloc (.cells #[.func (.func fid) #[] #[]] 43)).alloc (.cells #[.slice none 0 0] 22)).alloc (.cells #[.slice Aa na ca] 22)).alloc (.cells #[.slice Ab nb cb] 22) = w4 at *
  have hx : Boxes w4 B (w.heap.size + 1 + 1) (w.heap.size + 1 + 1 + 1) Aa Ab na nb ca cb a b := ⟨bA.cell, bB.cell, bA.frozen, bB.frozen, H1.out.below (hB0.mono hB), H2.out.below (hB0.mono hB)⟩
  refine (wpIn_wide (n := 9)).1 ?_
  refine wp_range (by decide) (gf := 34) (lb := #[.pointer (some ⟨w.heap.size + 1 + 1, 0, none⟩), .pointer (some ⟨w.heap.size + 1 + 1 + 1, 0, none⟩)]) rfl (enters_of Try.func34 (by kernel_rfl) rfl)
    (merge_yields 8 (w.heap.size + 1 + 1) (w.heap.size + 1 + 1 + 1) B (w.heap.size + 4) Aa Ab na nb ca cb a b w4 hx (by omega) (by omega) (by omega) (by omega) (by omega) hl (by omega))
    (by rintro r (rfl | rfl) <;> omega) (fun h k => h.trans k) (fun W W' row hW hg hr => KpM.grown hW (by omega) (by omega) (by omega) hg hr) (fun _ => rfl)
    (PickI w (w.heap.size + 4) fid ok) (fun _ _ _ => False)
    (fun pre x a₁ W => PickI w (w.heap.size + 4) fid ok pre W ∧ ∃ g, W.heap[g]? = some (.cells #[.bool x.2.1, .bool x.2.2] 42 (0, 0)) ∧ w.heap.size + 4 ≤ g ∧
      a₁ = { tmps := #[.slice Aa na ca, .slice Ab nb cb, .func (.func fid) #[] #[], undef, undef, .pointer (some ⟨w.heap.size, 0, none⟩), .slice none 0 0, .pointer (some ⟨w.heap.size + 1, 0, none⟩), .int .i64 x.1, .pointer (some ⟨g, 0, none⟩), .slice Aa na ca, .slice Ab nb cb,
        .func (.func 34) #[] #[.pointer (some ⟨w.heap.size + 1 + 1, 0, none⟩), .pointer (some ⟨w.heap.size + 1 + 1 + 1, 0, none⟩)], .int .i64 x.1, .agg #[.bool x.2.1, .bool x.2.2], undef, undef, undef, undef, undef, undef, undef, undef], defers := [] })
    ?hI (fun _ _ _ _ _ h _ _ => h) ?hM ?h0 ?assign ?body ?done ?stop
  case hI => rw [hsz]; exact PickI.own (by rintro r (rfl | rfl) <;> omega) (by omega)
  case hM =>
    rw [hsz]
    rintro pre x a₁ u W W' row ⟨hI, g, hg, hgN, ha⟩ hgr hr
    refine ⟨PickI.own (O := fun r => r = w.heap.size + 1 + 1 ∨ r = w.heap.size + 1 + 1 + 1) (by rintro r (rfl | rfl) <;> omega) (by omega) _ _ _ _ hI hgr hr, g, (hgr.block g (Array.getElem?_eq_some_iff.1 hg).1 fun e => ?_).trans hg, hgN, ha⟩
    rcases hr g e.symm with h | ⟨_, o, ho, hoc⟩
    · rcases h with h | h <;> omega
    · rw [hg] at ho; cases ho; cases hoc
  case h0 => exact ⟨⟨none, 0, 0, bO, World.ownsRow_nil _ _ _ _⟩, bF, hB0⟩
  case assign =>
    rintro l pre ⟨x, f, s⟩ W hI hpre hW
    unfold encO
    gi_wp2
    have hga : W.grownBy (W.alloc (.cells #[.bool f, .bool s] 42)) none := World.grownBy_alloc W _ none
    exact ⟨KeepsFrom.of_grownBy hga (fun _ e => by cases e), KpM.grown hW (by omega) (by omega) (by omega) hga (fun _ e => by cases e),
      PickI.own (O := fun r => r = w.heap.size + 1 + 1 ∨ r = w.heap.size + 1 + 1 + 1) (by rintro r (rfl | rfl) <;> omega) (by omega) _ _ _ _ hI hga (fun _ e => by cases e), W.heap.size, heap_alloc_new W _, by omega, rfl⟩
  case body =>
    rintro l pre ⟨x, f, s⟩ a₁ W ⟨⟨⟨A, n, c, hb, ho⟩, hb2, hbl⟩, g, hg, hgN, rfl⟩ hpre hW
    have hl1 : n ≤ 2000000 := by
      have h1 := ho.len
      have h2 := Ls.pk_len ok pre
      have h3 := hpre.length_le
      have h4 := Hm.out
      have h5 := hla.out
      have h6 := hlb.out
      simp at h3
      omega
    have hcF := hb2.cell
    have hg0 : W.cell? ⟨g, 0, none⟩ = some (.bool f) := cell_of_row _ _ _ _ _ _ hg
    have hg1 : W.cell? ⟨g, 1, none⟩ = some (.bool s) := cell_of_row _ _ _ _ _ _ hg
    have hent := Hent.out
    have Hcall := Kept.mk (callsIn_wide (n := 6).2 (Hok.out f s W))
    have hltO := hb.lt
    cases hres : ok f s with
    | false =>
      have hno := Kept.mk (Ls.pk_no (l := pre) (p := (x, f, s)) hres)
      gi_wp2
      refine ⟨trivial, (CallsIn.inRound l Hcall.out).mono ?_⟩
      rintro e W1 ⟨rfl, hk⟩
      rw [hres]
      gi_wp2
      have hsz1 := hk.size
      have hgk : KeepsFrom w4.heap.size W W1 := ⟨hk.size, fun k o _ h _ => (hk.block k (Array.getElem?_eq_some_iff.1 h).1).trans h⟩
      exact ⟨hgk, ⟨hk.mono (by omega), hk.block _ (by omega), hk.block _ (by omega)⟩, ⟨A, n, c, (hk.block _ hltO).trans hb, by rw [hno.out]; exact own_below ho hk (fun g hg => (own_lt ho g hg).2)⟩, (hk.block _ (by omega)).trans hb2, hbl.trans (hk.mono (by omega))⟩
    | true =>
      have hyes := Kept.mk (Ls.pk_yes (l := pre) (p := (x, f, s)) hres)
      gi_wp2
      refine ⟨trivial, (CallsIn.inRound l Hcall.out).mono ?_⟩
      rintro e W1 ⟨rfl, hk⟩
      rw [hres]
      have hsz1 := hk.size
      have hgk : KeepsFrom w4.heap.size W W1 := ⟨hk.size, fun k o _ h _ => (hk.block k (Array.getElem?_eq_some_iff.1 h).1).trans h⟩
      have hbO : Boxed W1 (w.heap.size + 1) 22 (.slice A n c) := (hk.block _ hltO).trans hb
      have hbF : Boxed W1 w.heap.size 43 (.func (.func fid) #[] #[]) := (hk.block _ (by omega)).trans hb2
      have hoO : OwnI W1 (w.heap.size + 4) A n c (Ls.pk ok pre) := own_below ho hk (fun g hg => (own_lt ho g hg).2)
      have hcO := hbO.cell
      obtain ⟨i0, hi0, hz0, hz1, hz2⟩ := info_parts infoI
      gi_wp2_with (gi_at_builtin; refine wpListIn_app _ rfl (.tmp 18) (.tmp 20) _ rfl (w.heap.size + 4) 3 i0 (.int .i64 0) 1 8 Try.underlying22 hi0 hz0 hz1 hz2 rfl (by decide) A n c _ rfl (World.ownsRow.alloc hoO _) (W1.heap.size + 1) _ _ _ (ivs [x]) rfl (RdI.one W1 x) (ivs_one _) (by unfold maxLen; omega) (by omega) (by simp; omega) ?_; intro A4 c4 w5 hown4 hgrow4 hat4; have hbO5 : Boxed w5 (w.heap.size + 1) 22 (.slice A n c) := (hbO.alloc _).kept hgrow4 (fun e => by have := own_lt hoO _ e.symm; omega); have hcO5 := hbO5.cell; have hfO5 := hbO5.frozen)
      have hltA := own_lt hoO
      have hgs : w5.grownBy (w5.setCell ⟨w.heap.size + 1, 0, none⟩ (.slice A4 (n + 1) c4)) (some (w.heap.size + 1)) := grownBy_setCell' _ _ _
      have hcl : ∀ j o, ab A = some j → (W1.alloc (.cells #[.int .i64 x] 3)).heap[j]? = some o → o.isCells = true := by
        intro j o ej hj
        rcases (World.ownsRow.alloc hoO (.cells #[.int .i64 x] 3)).2 with ⟨hv, _⟩ | ⟨g', cap, cur, hv, _, hgb, _⟩
        · injection hv with hv1; rw [hv1] at ej; cases ej
        · injection hv with hv1
          rw [hv1] at ej
          obtain rfl : g' = j := by simpa [ab] using ej
          rw [hgb] at hj; cases hj; rfl
      have hk5 : KeepsFrom w4.heap.size W (w5.setCell ⟨w.heap.size + 1, 0, none⟩ (.slice A4 (n + 1) c4)) :=
        hgk.trans ((((KeepsOthers.alloc W1 _).trans (KeepsOthers.of_grownBy hgrow4 hcl)).trans (KeepsOthers.setCell _ _ _)).from _)
      have hb5 : Below w.heap.size W1 (w5.setCell ⟨w.heap.size + 1, 0, none⟩ (.slice A4 (n + 1) c4)) :=
        (((Below.refl _ W1).alloc (by omega) _).grown hgrow4 (by simp; omega) (fun g e => by have := hltA g e; omega)).setCell (p := ⟨w.heap.size + 1, 0, none⟩) (by simp) _
      have hs5 : ∀ k, k < w.heap.size + 4 → k ≠ w.heap.size + 1 → (w5.setCell ⟨w.heap.size + 1, 0, none⟩ (.slice A4 (n + 1) c4)).heap[k]? = W.heap[k]? := fun k hk1 hk2 =>
        (Below.heap_setCell w5 _ _ k hk2).trans ((hgrow4.block k (by simp; omega) (fun e => by have := hltA _ e.symm; omega)).trans ((Below.heap_alloc _ _ _ (by omega)).trans (hk.block k (by omega))))
      refine ⟨hk5, ⟨(hk.mono (by omega)).trans (hb5.mono hB), hs5 _ (by omega) (by omega), hs5 _ (by omega) (by omega)⟩, ⟨A4, n + 1, c4, hbO5.set _, ?_⟩, (hs5 _ (by omega) (by omega)).trans hb2, hbl.trans ((hk.mono (by omega)).trans hb5)⟩
      rw [hyes.out]
      refine own_kept (M := 0) ?_ hgs (fun r e => by cases e; exact .inl (by omega))
      rw [ivs_append]
      exact hown4
  case done =>
    rintro D W hD ⟨⟨A, n, c, hb, ho⟩, hb2, hbl⟩ hK
    have hc := hb.cell
    have hn2 : n ≤ na + nb := by
      have hn := ho.len
      have h2 := Ls.pk_len ok (Ls.mrg a b)
      have h4 := Hm.out
      have h5 := hla.out
      have h6 := hlb.out
      omega
    have Hn2 := Kept.mk hn2
    go_wp2
    refine ⟨by simp, .inl ⟨_, _, rfl, run_takeDeferred hK, ?_⟩⟩
    have hgo : W.grownBy (W.putObj D (.deferred none)) (some D) := grownBy_putObj' W D _
    refine ⟨_, results_tmp rfl _ _ _, A, n, c, rfl, Hn2.out, ?_, hbl.grown hgo hbl.size (fun g e => by cases e; omega)⟩
    rw [hpk.out]
    exact own_base (own_kept (M := 0) ho hgo (fun r e => by cases e; exact .inr ⟨Nat.zero_le _, _, hK, rfl⟩)) (by omega)
  case stop =>
    rintro D c pre W _ _ h _
    exact h.elim
end Go.Proofs.Ytoomdjjjkolloab
