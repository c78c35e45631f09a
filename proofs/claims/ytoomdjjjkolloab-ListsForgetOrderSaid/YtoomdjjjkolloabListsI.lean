/- The law's own 'sorted'. -/
import Derived.Test.YtoomdjjjkolloabListsH
namespace Go.Proofs.Ytoomdjjjkolloab
open Go.RowKit Go.Shelf

theorem own_ne {w : World} {b1 b2 sz1 sz2 n1 n2 c1 c2 : Nat} {A1 A2 : Option Addr} {xs1 xs2 : List Value} {e1 e2 : TypeId} (h1 : w.ownsRow b1 e1 sz1 (.slice A1 n1 c1) n1 xs1) (h2 : w.ownsRow b2 e2 sz2 (.slice A2 n2 c2) n2 xs2) (hne : e1 ≠ e2) :
    ab A1 = none ∨ ab A1 ≠ ab A2 := by
  rcases h1.2 with ⟨hv, _⟩ | ⟨g, cap, cur, hv, _, hg, _⟩
  · injection hv with hv; rw [hv]; exact .inl rfl
  · injection hv with hv
    rcases h2.2 with ⟨hv2, _⟩ | ⟨g2, cap2, cur2, hv2, _, hg2, _⟩
    · injection hv2 with hv2
      exact .inr (by rw [hv, hv2]; simp [ab])
    · injection hv2 with hv2
      refine .inr fun e => ?_
      rw [hv, hv2] at e
      obtain rfl : g = g2 := by simpa [ab] using e
      rw [hg] at hg2
      simp only [Option.some.injEq, Obj.cells.injEq] at hg2
      exact hne hg2.2.1
/-- an own row of own rows of ints -/
def OwnII (w : World) (base : Nat) (A : Option Addr) (n c : Nat) (LL : List (List Int)) : Prop :=
  ∃ vs : List Value, w.ownsRow base 22 1 (.slice A n c) n vs ∧ vs.length = LL.length ∧ (∀ u ∈ vs, u.oneCell' = true) ∧ ∀ (i : Nat) (l : List Int), LL[i]? = some l → ∃ A' n' c', vs[i]? = some (.slice A' n' c') ∧ OwnI w base A' n' c' l
theorem OwnII.nil (w : World) (base : Nat) : OwnII w base none 0 0 [] := ⟨[], World.ownsRow_nil _ _ _ _, rfl, by simp, fun i l h => by simp at h⟩
theorem OwnII.rd {w : World} {base n c : Nat} {A : Option Addr} {LL : List (List Int)} (h : OwnII w base A n c LL) : RdII w w.heap.size A n c LL := by
  obtain ⟨vs, h1, h2, _, h3⟩ := h
  exact ⟨vs, Rd.of_own h1, h2, fun i l hl => by obtain ⟨A', n', c', e, ho⟩ := h3 i l hl; exact ⟨A', n', c', e, ho.rd⟩⟩
theorem OwnII.below {w w' : World} {base n c : Nat} {A : Option Addr} {LL : List (List Int)} (h : OwnII w base A n c LL) (hb : Below w.heap.size w w') : OwnII w' base A n c LL := by
  obtain ⟨vs, h1, h2, h4, h3⟩ := h
  refine ⟨vs, own_below h1 hb (fun g hg => (own_lt h1 g hg).2), h2, h4, fun i l hl => ?_⟩
  obtain ⟨A', n', c', e, ho⟩ := h3 i l hl
  exact ⟨A', n', c', e, own_below ho hb (fun g hg => (own_lt ho g hg).2)⟩
theorem infoII : (Try.prog.info? 22).map (fun i => (i.zero, i.size, i.bytes)) = some (some (.slice none 0 0), 1, 24) := by kernel_rfl
/-- a header, just laid -/
theorem Rd.hd (w : World) (A : Option Addr) (n c : Nat) : Rd (w.alloc (.cells #[.slice A n c] 22)) (w.heap.size + 1) 1 (some ⟨w.heap.size, 0, none⟩) 1 1 [.slice A n c] :=
  ⟨Nat.le_refl _, by unfold maxLen; omega, rfl, fun _ => ⟨_, 0, rfl, by omega, fun i u hu => by
    match i, hu with
    | 0, hu => simp at hu; subst hu; exact World.cell?_alloc_mark w _ _ _ 0⟩⟩
theorem OwnII.push {w w4 : World} {base n c n1 c1 c4 : Nat} {A A1 A4 : Option Addr} {LL : List (List Int)} {l : List Int} {vs : List Value} {tmp : Obj}
    (hown : w.ownsRow base 22 1 (.slice A n c) n vs) (hl : vs.length = LL.length) (h1 : ∀ u ∈ vs, u.oneCell' = true)
    (hel : ∀ (i : Nat) (l : List Int), LL[i]? = some l → ∃ A' n' c', vs[i]? = some (.slice A' n' c') ∧ OwnI w base A' n' c' l) (ho : OwnI w base A1 n1 c1 l)
    (hown4 : w4.ownsRow base 22 1 (.slice A4 (n + 1) c4) (n + 1) (vs ++ [.slice A1 n1 c1])) (hg : (w.alloc tmp).grownBy w4 (ab A)) : OwnII w4 base A4 (n + 1) c4 (LL ++ [l]) := by
  have hk : ∀ {A' : Option Addr} {n' c' : Nat} {l' : List Int}, OwnI w base A' n' c' l' → OwnI w4 base A' n' c' l' := fun h =>
    own_grown (World.ownsRow.alloc h tmp) hg (own_ne h hown (by decide))
  refine ⟨_, hown4, by simp [hl], ?_, fun i l' hi => ?_⟩
  · intro u hu
    rcases List.mem_append.1 hu with h | h
    · exact h1 u h
    · simp at h; subst h; rfl
  · rcases Nat.lt_trichotomy i LL.length with h | h | h
    · rw [List.getElem?_append_left h] at hi
      obtain ⟨A', n', c', e, h2⟩ := hel i l' hi
      exact ⟨A', n', c', by rw [List.getElem?_append_left (by omega)]; exact e, hk h2⟩
    · subst h
      simp at hi
      subst hi
      exact ⟨A1, n1, c1, by rw [← hl]; simp, hk ho⟩
    · rw [List.getElem?_eq_none (by simp; omega)] at hi
      cases hi

/-- the sorted lists -/
def Ls.sl (LL : List (List Int)) : List (List Int) := LL.map fun l => Ls.uni [l]
def Ls.wt (LL : List (List Int)) : Nat := (LL.map fun l => 1 + min l.length 300).sum
theorem Ls.wt_take {LL : List (List Int)} {k : Nat} (h : k < LL.length) : Ls.wt (LL.take (k + 1)) = Ls.wt (LL.take k) + (1 + min LL[k].length 300) := by
  unfold Ls.wt
  rw [List.take_succ_eq_append_getElem h, List.map_append, List.sum_append]
  simp
theorem Ls.wt_take_le (LL : List (List Int)) (k : Nat) : Ls.wt (LL.take k) ≤ Ls.wt LL := by
  unfold Ls.wt
  conv => rhs; rw [← List.take_append_drop k LL, List.map_append, List.sum_append]
  omega
theorem Ls.wt_ge (LL : List (List Int)) : LL.length ≤ Ls.wt LL := by
  unfold Ls.wt
  induction LL with
  | nil => simp
  | cons l LL ih => simp only [List.map_cons, List.sum_cons, List.length_cons]; omega
theorem Ls.sl_take {LL : List (List Int)} {k : Nat} (h : k < LL.length) : Ls.sl (LL.take (k + 1)) = Ls.sl (LL.take k) ++ [Ls.uni [LL[k]]] := by
  unfold Ls.sl
  rw [List.take_succ_eq_append_getElem h, List.map_append]
  simp
theorem Ls.sl_S (LL : List (List Int)) : ∀ l ∈ Ls.sl LL, Ls.S l := by
  intro l hl
  obtain ⟨m, _, rfl⟩ := List.mem_map.1 hl
  exact Ls.uni_S _
theorem Ls.sl_len (LL : List (List Int)) : (Ls.sl LL).length = LL.length := by simp [Ls.sl]

set_option maxHeartbeats 2000000 in
theorem sorted_any (A : Option Addr) (n c B : Nat) (LL : List (List Int)) (w : World) (hv : RdII w B A n c LL) (hB : B ≤ w.heap.size) :
    Calls Try.prog 12 #[.slice A n c] w fun e w' => Below w.heap.size w w' ∧
      ((300 < Ls.wt LL ∧ e = .returned (.tuple #[.slice none 0 0, .int .i64 0])) ∨
       (Ls.wt LL ≤ 300 ∧ ∃ A3 c3, e = .returned (.tuple #[.slice A3 n c3, .int .i64 1]) ∧ OwnII w' w.heap.size A3 n c3 (Ls.sl LL))) := by
  have hlc := hv.cap.1
  have hcm := hv.cap.2
  unfold maxLen at hcm
  have hn := Kept.mk hv.len
  have Hv := hide hv
  clear hv
  obtain ⟨i0, hi0, hz0, hz1, hz2'⟩ := info_parts infoII
  go_enter Try.func12, Try.ntmps12
  go_wp2
  go_loopw [4, 5, 10] (fun t o i wr => ∃ k s : Nat, k ≤ n ∧ i = .int .i64 k ∧ t = .int .i64 s ∧ s ≤ 300 ∧ Kept (s = Ls.wt (LL.take k)) ∧ ∃ A3 c3, o = .slice A3 k c3 ∧ OwnII wr w.heap.size A3 k c3 (Ls.sl (LL.take k)) ∧ Below w.heap.size w wr) (fun _ _ i _ => n - (intOf i).toNat)
  case atStart => exact ⟨0, 0, by omega, rfl, rfl, by omega, ⟨by simp [Ls.wt]⟩, none, 0, rfl, OwnII.nil _ _, Below.refl _ _⟩
  case round =>
    obtain ⟨k, s, hk, rfl, rfl, hs, hsw, A3, c3, rfl, ho, hb⟩ := hrel
    have hz := hb.size
    by_cases hlt : k < n
    · have hkl : k < LL.length := by rw [← hn.out]; exact hlt
      have hw1 := Kept.mk (Ls.wt_take hkl)
      have hw2 := Kept.mk (Ls.wt_take_le LL (k + 1))
      have hsl := Kept.mk (Ls.sl_take hkl)
      obtain ⟨b, off, A', n', c', rfl, hbb, hcell, hr⟩ := Hv.out.at_ hkl
      have hn' := Kept.mk hr.len
      have hlc' := hr.1
      have hcm' := hr.2.1
      unfold maxLen at hcm'
      have Hr := Kept.mk (hr.below (hb.mono hB))
      clear hr
      generalize LL[k] = l at *
      have hlive := (hb.mono hB).cell (p := ⟨b, off + k, none⟩) hbb
      rw [hcell] at hlive
      clear hcell
      have hk300 : k ≤ 300 := by
        have h1 := Ls.wt_ge (LL.take k)
        rw [← hsw.out, List.length_take] at h1
        omega
      by_cases hbig : 300 < s + (1 + min n' 300)
      · have hw3 : Kept (300 < Ls.wt LL) := ⟨by have h1 := hw1.out; have h2 := hw2.out; have h3 := hsw.out; have h4 := hn'.out; rw [← h4] at h1; omega⟩
        by_cases hmin : n' ≤ 300
        · have hm1 : ¬ ((300 : Int) < (n' : Int)) := by omega
          have hmn : min n' 300 = n' := by omega
          rw [hmn] at hbig
          go_wp2
          go_ret2
          exact ⟨hb, .inl ⟨hw3.out, rfl⟩⟩
        · have hmin2 : (300 : Int) < (n' : Int) := by omega
          have hbig2 : (300 : Int) < (s : Int) + 301 := by omega
          clear hbig hmin
          go_wp2
          go_ret2
          exact ⟨hb, .inl ⟨hw3.out, rfl⟩⟩
      · have hn3 : n' < 300 := by omega
        have hmn : min n' 300 = n' := by omega
        rw [hmn] at hbig
        have hs2 : Kept (s + (1 + n') = Ls.wt (LL.take (k + 1))) := ⟨by rw [hw1.out, ← hsw.out, ← hn'.out, hmn]⟩
        clear hmn
        obtain ⟨vs, ho1, ho2, ho3, ho4⟩ := ho
        have Ho4 := Kept.mk ho4
        have Ho3 := Kept.mk ho3
        have Ho2 := Kept.mk ho2
        clear ho4 ho3 ho2
        go_wp2_with (first
          | (go_at_call 24; refine (refSort_any _ _ _ _ l _ (Hr.out.more (by omega)) (Nat.le_refl _) (by omega)).mono ?_; rintro e w2 ⟨A4, n4, c4, rfl, hn4, hos, hbs⟩; have hb2 := hb.trans (hbs.mono hz); have hz2 := hb2.size; have hor : w2.ownsRow w.heap.size 22 1 (.slice A3 k c3) k vs := own_below ho1 hbs (fun g hg => (own_lt ho1 g hg).2); have Hel : Kept (∀ (i : Nat) (l : List Int), (Ls.sl (LL.take k))[i]? = some l → ∃ A' n' c', vs[i]? = some (.slice A' n' c') ∧ OwnI w2 w.heap.size A' n' c' l) := ⟨fun i l hi => by obtain ⟨A', n', c', e, h⟩ := Ho4.out i l hi; exact ⟨A', n', c', e, own_below h hbs (fun g hg => (own_lt h g hg).2)⟩⟩)
          | (at_builtin; refine wpList_app _ rfl (.tmp 22) (.tmp 25) _ rfl w.heap.size 22 i0 (.slice none 0 0) 1 24 Try.underlying25 hi0 hz0 hz1 hz2' rfl (by decide) A3 k c3 _ rfl (World.ownsRow.alloc hor _) (w2.heap.size + 1) _ _ _ [.slice A4 n4 c4] rfl (Rd.hd w2 A4 n4 c4) (by intro u hu; simp at hu; subst hu; rfl) (by unfold maxLen; omega) (by omega) (by simp; omega) ?_; intro A5 c5 w5 hown5 hgrow5 hat5))
        have hb5 : Below w.heap.size w w5 := (hb2.alloc hz2 _).grown hgrow5 (by simp; omega) (fun g hg => (own_lt hor g hg).1)
        have hp := OwnII.push hor Ho2.out Ho3.out Hel.out (own_base hos hz) hown5 hgrow5
        rw [← hsl.out] at hp
        go_roundw
        case rel => exact ⟨k + 1, s + (1 + n'), by omega, by go_num, by go_num, by omega, hs2, A5, c5, rfl, hp, hb5⟩
        case measure => simp [intOf]; omega
    · obtain rfl : k = n := by omega
      have hall : Kept (LL.take k = LL) := ⟨List.take_of_length_le (by rw [← hn.out]; omega)⟩
      rw [hall.out] at ho hsw
      go_wp2
      go_ret2
      exact ⟨hb, .inr ⟨by rw [← hsw.out]; exact hs, A3, c3, rfl, ho⟩⟩
end Go.Proofs.Ytoomdjjjkolloab
