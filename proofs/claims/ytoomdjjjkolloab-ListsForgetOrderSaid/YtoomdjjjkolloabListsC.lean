/- Slices of slices of ints; the reference's Union, Sort, Intersect. -/
import Derived.Test.YtoomdjjjkolloabListsB
namespace Go.Proofs.Ytoomdjjjkolloab
open Go.RowKit

/-- a slice of slices of ints that reads as a list of lists -/
def RdII (w : World) (B : Nat) (A : Option Addr) (n c : Nat) (LL : List (List Int)) : Prop :=
  ∃ vs : List Value, Rd w B 1 A n c vs ∧ vs.length = LL.length ∧ ∀ (i : Nat) (l : List Int), LL[i]? = some l → ∃ A' n' c', vs[i]? = some (.slice A' n' c') ∧ RdI w B A' n' c' l
section
variable {w w' : World} {B n c : Nat} {A : Option Addr} {LL : List (List Int)}
theorem RdII.below (h : RdII w B A n c LL) (hb : Below B w w') : RdII w' B A n c LL := by
  obtain ⟨vs, h1, h2, h3⟩ := h
  refine ⟨vs, h1.below hb, h2, fun i l hl => ?_⟩
  obtain ⟨A', n', c', e, hr⟩ := h3 i l hl
  exact ⟨A', n', c', e, hr.below hb⟩
theorem RdII.more {B' : Nat} (h : RdII w B A n c LL) (hB : B ≤ B') : RdII w B' A n c LL := by
  obtain ⟨vs, h1, h2, h3⟩ := h
  refine ⟨vs, h1.more hB, h2, fun i l hl => ?_⟩
  obtain ⟨A', n', c', e, hr⟩ := h3 i l hl
  exact ⟨A', n', c', e, hr.more hB⟩
theorem RdII.len (h : RdII w B A n c LL) : n = LL.length := by
  obtain ⟨vs, h1, h2, _⟩ := h
  have := h1.2.2.1
  omega
theorem RdII.cap (h : RdII w B A n c LL) : n ≤ c ∧ c ≤ maxLen := by
  obtain ⟨vs, h1, _⟩ := h
  exact ⟨h1.1, h1.2.1⟩
theorem RdII.at_ {k : Nat} (h : RdII w B A n c LL) (hk : k < LL.length) :
    ∃ b off A' n' c', A = some ⟨b, off, none⟩ ∧ b < B ∧ w.cell? ⟨b, off + k, none⟩ = some (.slice A' n' c') ∧ RdI w B A' n' c' LL[k] := by
  have hn := h.len
  obtain ⟨vs, h1, h2, h3⟩ := h
  obtain ⟨b, off, u, e, hb, hu, hc⟩ := h1.at_ (k := k) (by omega)
  obtain ⟨A', n', c', e', hr⟩ := h3 k LL[k] (List.getElem?_eq_getElem hk)
  rw [hu] at e'
  injection e' with e'
  subst e'
  exact ⟨b, off, A', n', c', e, hb, hc, hr⟩
theorem RdII.take (h : RdII w B A n c LL) {k : Nat} (hk : k ≤ n) : RdII w B A k c (LL.take k) := by
  have hn := h.len
  obtain ⟨vs, h1, h2, h3⟩ := h
  have := h1.take hk
  rw [Nat.mul_one] at this
  refine ⟨_, this, by simp [h2], fun i l hl => ?_⟩
  rw [List.getElem?_take] at hl
  split at hl
  · next hi =>
    obtain ⟨A', n', c', e', hr⟩ := h3 i l hl
    exact ⟨A', n', c', by rw [List.getElem?_take, if_pos hi]; exact e', hr⟩
  · cases hl
theorem RdII.drop (h : RdII w B A n c LL) {k : Nat} (hk : k ≤ n) : RdII w B (if c = k then A else A.map (·.add k)) (n - k) (c - k) (LL.drop k) := by
  have hn := h.len
  obtain ⟨vs, h1, h2, h3⟩ := h
  have := h1.drop hk
  rw [Nat.mul_one] at this
  refine ⟨_, this, by simp [h2], fun i l hl => ?_⟩
  rw [List.getElem?_drop] at hl
  obtain ⟨A', n', c', e', hr⟩ := h3 _ l hl
  exact ⟨A', n', c', by rw [List.getElem?_drop]; exact e', hr⟩
end
/-- one list, just laid -/
theorem RdII.one {w : World} {B n c : Nat} {A : Option Addr} {l : List Int} (h : RdI w B A n c l) (hB : B ≤ w.heap.size) :
    RdII (w.alloc (.cells #[.slice A n c] 22)) (w.heap.size + 1) (some ⟨w.heap.size, 0, none⟩) 1 1 [l] :=
  ⟨[.slice A n c], ⟨Nat.le_refl _, by unfold maxLen; omega, rfl, fun _ => ⟨_, 0, rfl, by omega, fun i u hu => by
    match i, hu with
    | 0, hu =>
      simp at hu
      subst hu
      exact World.cell?_alloc_mark w _ _ _ 0⟩⟩, rfl, fun i l' hl => by
    match i, hl with
    | 0, hl =>
      simp at hl
      subst hl
      exact ⟨A, n, c, rfl, (h.alloc hB _).more (by omega)⟩⟩

def Ls.tot (LL : List (List Int)) : Nat := (LL.map List.length).sum
theorem Ls.tot_nil : Ls.tot [] = 0 := rfl
theorem Ls.tot_take {LL : List (List Int)} {k : Nat} (h : k < LL.length) : Ls.tot (LL.take (k + 1)) = Ls.tot (LL.take k) + LL[k].length := by
  unfold Ls.tot
  rw [List.take_succ_eq_append_getElem h, List.map_append, List.sum_append]
  simp
theorem Ls.tot_take_le (LL : List (List Int)) (k : Nat) : Ls.tot (LL.take k) ≤ Ls.tot LL := by
  unfold Ls.tot
  conv => rhs; rw [← List.take_append_drop k LL, List.map_append, List.sum_append]
  omega
theorem Ls.uni_take {LL : List (List Int)} {k : Nat} (h : k < LL.length) : Ls.uni (LL.take (k + 1)) = Ls.insAll (Ls.uni (LL.take k)) LL[k] := by
  unfold Ls.uni
  rw [List.take_succ_eq_append_getElem h, List.foldl_append]
  rfl
theorem Ls.insAll_take {acc l : List Int} {k : Nat} (h : k < l.length) : Ls.insAll acc (l.take (k + 1)) = Ls.ins (Ls.insAll acc (l.take k)) l[k] := by
  unfold Ls.insAll
  rw [List.take_succ_eq_append_getElem h, List.foldl_append]
  rfl
set_option maxHeartbeats 1000000 in
theorem refUnion_any (A : Option Addr) (n c B : Nat) (LL : List (List Int)) (w : World) (hv : RdII w B A n c LL) (hB : B ≤ w.heap.size) (hl : Ls.tot LL ≤ 1000000) :
    Calls Try.prog 17 #[.slice A n c] w fun e w' => ∃ A3 n3 c3, e = .returned (.slice A3 n3 c3) ∧ n3 ≤ Ls.tot LL ∧ OwnI w' w.heap.size A3 n3 c3 (Ls.uni LL) ∧ Below w.heap.size w w' := by
  have hlc := hv.cap.1
  have hcm := hv.cap.2
  unfold maxLen at hcm
  have hn := Kept.mk hv.len
  have Hv := hide hv
  have Hl := Kept.mk hl
  clear hv hl
  go_enter Try.func17, Try.ntmps17
  go_wp2
  go_loopw [3, 4] (fun o i wr => ∃ k : Nat, k ≤ n ∧ i = .int .i64 k ∧ ∃ A3 n3 c3, o = .slice A3 n3 c3 ∧ Kept (n3 ≤ Ls.tot (LL.take k)) ∧ OwnI wr w.heap.size A3 n3 c3 (Ls.uni (LL.take k)) ∧ Below w.heap.size w wr) (fun _ i _ => n - (intOf i).toNat)
  case atStart => exact ⟨0, by omega, rfl, none, 0, 0, rfl, ⟨by simp⟩, OwnI.nil _ _, Below.refl _ _⟩
  case round =>
    obtain ⟨k, hk, rfl, A3, n3, c3, rfl, hn3, ho, hb⟩ := hrel
    by_cases hlt : k < n
    · have hkl : k < LL.length := by rw [← hn.out]; exact hlt
      have ht1 := Kept.mk (Ls.tot_take hkl)
      have ht2 := Kept.mk (Ls.tot_take_le LL (k + 1))
      have hu := Kept.mk (Ls.uni_take hkl)
      obtain ⟨l, hll⟩ : ∃ l, l = LL[k] := ⟨_, rfl⟩
      have Hll := Kept.mk hll
      obtain ⟨b, off, A', n', c', rfl, hbb, hcell, hr⟩ := Hv.out.at_ hkl
      rw [← hll] at hr ht1 hu
      clear hll
      have hn' := Kept.mk hr.len
      have hlc' := hr.1
      have hcm' := hr.2.1
      unfold maxLen at hcm'
      have Hr := hide hr
      clear hr
      generalize Ls.uni (LL.take k) = acc at *
      have hz0 := hb.size
      have hlive := (hb.mono hB).cell (p := ⟨b, off + k, none⟩) hbb
      rw [hcell] at hlive
      have Hcell := hide hcell
      clear hcell
      go_wp2_with fail
      go_loopw [3, 5] (fun o j wr => ∃ m : Nat, m ≤ n' ∧ j = .int .i64 m ∧ ∃ A3 n3 c3, o = .slice A3 n3 c3 ∧ Kept (n3 ≤ Ls.tot (LL.take k) + m) ∧ OwnI wr w.heap.size A3 n3 c3 (Ls.insAll acc (l.take m)) ∧ Below w.heap.size w wr) (fun _ j _ => n' - (intOf j).toNat)
      case atStart => exact ⟨0, by omega, rfl, A3, n3, c3, rfl, ⟨hn3.out⟩, ho, hb⟩
      case round =>
        clear hn3 ho hb hlive hz0
        obtain ⟨m, hm, rfl, A3, n3, c3, rfl, hn3, ho, hb⟩ := hrel
        have hz := hb.size
        have hc1 := (hb.mono hB).cell (p := ⟨b, off + k, none⟩) hbb
        rw [Hcell.out] at hc1
        by_cases hlt2 : m < n'
        · have hml : m < l.length := by rw [← hn'.out]; exact hlt2
          obtain ⟨b', off', rfl, hbb', hc2⟩ := (Hr.out.below (hb.mono hB)).at_ hml
          have hi := Kept.mk (Ls.insAll_take (acc := acc) hml)
          generalize l[m] = x at *
          generalize Ls.insAll acc (l.take m) = q at *
          have hn3' : n3 ≤ 1000000 := by have h1 := hn3.out; have h2 := ht1.out; have h3 := ht2.out; have h4 := Hl.out; have h5 := hn'.out; omega
          go_wp2_with (go_at_call 30; refine (refInsert_any A3 n3 c3 w.heap.size _ x _ ho hz hn3').mono ?_; rintro e w2 ⟨A4, n4, c4, rfl, hn4, ho4, hb4⟩)
          have hb5 : Below w.heap.size w w2 := hb.trans (hb4.mono hz)
          go_roundw
          case rel => exact ⟨m + 1, by omega, by go_num, A4, n4, c4, rfl, ⟨by have := hn3.out; omega⟩, by rw [hi.out]; exact ho4, hb5⟩
          case measure => simp [intOf]; omega
        · obtain rfl : m = n' := by omega
          have hfin : Kept (Ls.insAll acc (l.take m) = Ls.uni (LL.take (k + 1))) := ⟨by rw [hu.out, List.take_of_length_le (by rw [← hn'.out]; omega)]⟩
          rw [hfin.out] at ho
          go_wp2
          go_roundw
          case rel => exact ⟨k + 1, by omega, by go_num, A3, n3, c3, rfl, ⟨by rw [ht1.out]; have h1 := hn3.out; have h2 := hn'.out; omega⟩, ho, hb⟩
          case measure => simp [intOf]; omega
    · obtain rfl : k = n := by omega
      have hall : Kept (LL.take k = LL) := ⟨List.take_of_length_le (by rw [← hn.out]; omega)⟩
      rw [hall.out] at ho hn3
      go_wp2
      go_ret
      exact ⟨A3, n3, c3, rfl, hn3.out, ho, hb⟩

set_option maxHeartbeats 1000000 in
theorem refSort_any (A : Option Addr) (n c B : Nat) (l : List Int) (w : World) (hv : RdI w B A n c l) (hB : B ≤ w.heap.size) (hl : n ≤ 1000000) :
    Calls Try.prog 24 #[.slice A n c] w fun e w' => ∃ A3 n3 c3, e = .returned (.slice A3 n3 c3) ∧ n3 ≤ n ∧ OwnI w' w.heap.size A3 n3 c3 (Ls.uni [l]) ∧ Below w.heap.size w w' := by
  have hlc := hv.1
  have ht : Kept (Ls.tot [l] = n) := ⟨by rw [hv.len]; simp [Ls.tot]⟩
  have h1 := Kept.mk (RdII.one hv hB)
  clear hv
  go_enter Try.func24, Try.ntmps24
  go_wp2_with (go_at_call 17; refine (refUnion_any _ _ _ _ [l] _ h1.out (by simp) (by rw [ht.out]; exact hl)).mono ?_; rintro e w2 ⟨A4, n4, c4, rfl, hn4, ho4, hb4⟩)
  have hb5 : Below w.heap.size w w2 := ((Below.refl _ w).alloc (Nat.le_refl _) _).trans (hb4.mono (by simp))
  rw [ht.out] at hn4
  go_ret
  exact ⟨A4, n4, c4, rfl, hn4, own_base ho4 (by simp), hb5⟩
end Go.Proofs.Ytoomdjjjkolloab
