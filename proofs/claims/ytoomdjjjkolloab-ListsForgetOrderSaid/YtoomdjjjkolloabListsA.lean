/- IsSorted, Has, slices.Equal over ints. -/
import Derived.Test.YtoomdjjjkolloabMemI
import Derived.Test.YtoomdjjjkolloabListsMath
import Derived.BigQuiet
namespace Go.Proofs.Ytoomdjjjkolloab
open Go.RowKit

/-- what a walk that writes nothing leaves -/
def Quiet (w w' : World) : Prop := ∃ n, w' = w.drewN n
theorem quiet2 (w : World) (a b : Nat) : Quiet w ((w.drewN a).drewN b) := ⟨a + b, by rw [World.drewN_drewN]⟩
theorem Quiet.below {w w' : World} (h : Quiet w w') (B : Nat) : Below B w w' := by obtain ⟨n, rfl⟩ := h; exact below_drewN (Below.refl _ _) n

set_option maxHeartbeats 1000000 in
theorem isSorted_any (A : Option Addr) (n c : Nat) (l : List Int) (w : World) (B : Nat) (hv : RdI w B A n c l) :
    Calls Try.prog 10 #[.slice A n c] w fun e w' => e = .returned (.bool (Ls.srt l)) ∧ Quiet w w' := by
  have hlc := hv.1
  have hcm := hv.2.1
  have hn := hide hv.len
  have Hv := hide hv
  unfold maxLen at hcm
  clear hv
  go_enter Try.func10, Try.ntmps10
  go_wp2
  go_loopw [3] (fun i wr => ∃ k : Nat, 1 ≤ k ∧ (k ≤ n ∨ k = 1) ∧ i = .int .i64 k ∧ Kept (∀ j (h : j + 1 < l.length), j + 1 < k → l[j] < l[j + 1]) ∧ Quiet w wr) (fun i _ => n - (intOf i).toNat)
  case atStart => exact ⟨1, by omega, .inr rfl, rfl, ⟨fun j h hj => by omega⟩, ⟨0, rfl⟩⟩
  case round =>
    obtain ⟨k, hk1, hkn, rfl, hs, nq1, rfl⟩ := hrel
    by_cases hlt : k < n
    · have hkl : k < l.length := by rw [← hn.out]; exact hlt
      have hkl1 : k - 1 < l.length := by omega
      obtain ⟨b, off, rfl, hb, hc1⟩ := Hv.out.at_ hkl
      obtain ⟨b', off', e', _, hc0⟩ := Hv.out.at_ hkl1
      simp only [Option.some.injEq, Addr.mk.injEq, and_true] at e'
      obtain ⟨rfl, rfl⟩ := e'
      obtain ⟨x, hx⟩ : ∃ x, x = l[k - 1] := ⟨_, rfl⟩
      obtain ⟨y, hy⟩ : ∃ y, y = l[k] := ⟨_, rfl⟩
      rw [← hx] at hc0
      rw [← hy] at hc1
      have Hx := Kept.mk hx
      have Hy := Kept.mk hy
      clear hx hy
      have ek : (k : Int) - 1 = ((k - 1 : Nat) : Int) := by omega
      have ek2 : ((k - 1 : Nat) : Int) < (n : Int) := by omega
      by_cases hxy : x < y
      · have ht : decide (y ≤ x) = false := by simp; omega
        have hs2 : Kept (∀ j (h : j + 1 < l.length), j + 1 < k + 1 → l[j] < l[j + 1]) := ⟨fun j h hj => by
          by_cases hj2 : j + 1 < k
          · exact hs.out j h hj2
          · obtain rfl : j = k - 1 := by omega
            have e1 := Hx.out
            have e2 := Hy.out
            simp only [show k - 1 + 1 = k by omega]
            rw [← e1, ← e2]; exact hxy⟩
        go_wp2
        go_quiet (fail)
        go_wp2
        go_roundw
        case rel => exact ⟨k + 1, by omega, by omega, by go_num, hs2, ⟨_, rfl⟩⟩
        case measure => simp [intOf]; omega
      · have ht : decide (y ≤ x) = true := by simp; omega
        have hf : Kept (Ls.srt l = false) := ⟨by
          rw [Ls.srt, decide_eq_false_iff_not, Ls.S_iff]
          intro hall
          have h1 := hall (k - 1) (by omega)
          simp only [show k - 1 + 1 = k by omega] at h1
          rw [← Hx.out, ← Hy.out] at h1
          exact hxy h1⟩
        go_wp2
        go_quiet (fail)
        go_wp2
        go_ret
        exact ⟨ret_bool hf.out.symm, quiet2 _ _ _⟩
    · have ht : Kept (Ls.srt l = true) := ⟨by
        rw [Ls.srt, decide_eq_true_iff, Ls.S_iff]
        intro j hj
        exact hs.out j hj (by have := hn.out; omega)⟩
      go_wp2
      go_ret
      exact ⟨ret_bool ht.out.symm, ⟨_, rfl⟩⟩

set_option maxHeartbeats 1000000 in
theorem refIsSorted_any (A : Option Addr) (n c : Nat) (l : List Int) (w : World) (B : Nat) (hv : RdI w B A n c l) :
    Calls Try.prog 11 #[.slice A n c] w fun e w' => e = .returned (.bool (Ls.srt l)) ∧ Quiet w w' := by
  have hlc := hv.1
  have hcm := hv.2.1
  have hn := hide hv.len
  have Hv := hide hv
  unfold maxLen at hcm
  clear hv
  go_enter Try.func11, Try.ntmps11
  go_wp2
  go_loopw [3] (fun i wr => ∃ k : Nat, 1 ≤ k ∧ (k ≤ n ∨ k = 1) ∧ i = .int .i64 k ∧ Kept (∀ j (h : j + 1 < l.length), j + 1 < k → l[j] < l[j + 1]) ∧ Quiet w wr) (fun i _ => n - (intOf i).toNat)
  case atStart => exact ⟨1, by omega, .inr rfl, rfl, ⟨fun j h hj => by omega⟩, ⟨0, rfl⟩⟩
  case round =>
    obtain ⟨k, hk1, hkn, rfl, hs, nq1, rfl⟩ := hrel
    by_cases hlt : k < n
    · have hkl : k < l.length := by rw [← hn.out]; exact hlt
      have hkl1 : k - 1 < l.length := by omega
      obtain ⟨b, off, rfl, hb, hc1⟩ := Hv.out.at_ hkl
      obtain ⟨b', off', e', _, hc0⟩ := Hv.out.at_ hkl1
      simp only [Option.some.injEq, Addr.mk.injEq, and_true] at e'
      obtain ⟨rfl, rfl⟩ := e'
      obtain ⟨x, hx⟩ : ∃ x, x = l[k - 1] := ⟨_, rfl⟩
      obtain ⟨y, hy⟩ : ∃ y, y = l[k] := ⟨_, rfl⟩
      rw [← hx] at hc0
      rw [← hy] at hc1
      have Hx := Kept.mk hx
      have Hy := Kept.mk hy
      clear hx hy
      have ek : (k : Int) - 1 = ((k - 1 : Nat) : Int) := by omega
      have ek2 : ((k - 1 : Nat) : Int) < (n : Int) := by omega
      by_cases hxy : x < y
      · have ht : decide (y ≤ x) = false := by simp; omega
        have hs2 : Kept (∀ j (h : j + 1 < l.length), j + 1 < k + 1 → l[j] < l[j + 1]) := ⟨fun j h hj => by
          by_cases hj2 : j + 1 < k
          · exact hs.out j h hj2
          · obtain rfl : j = k - 1 := by omega
            have e1 := Hx.out
            have e2 := Hy.out
            simp only [show k - 1 + 1 = k by omega]
            rw [← e1, ← e2]; exact hxy⟩
        go_wp2
        go_quiet (fail)
        go_wp2
        go_roundw
        case rel => exact ⟨k + 1, by omega, by omega, by go_num, hs2, ⟨_, rfl⟩⟩
        case measure => simp [intOf]; omega
      · have ht : decide (y ≤ x) = true := by simp; omega
        have hf : Kept (Ls.srt l = false) := ⟨by
          rw [Ls.srt, decide_eq_false_iff_not, Ls.S_iff]
          intro hall
          have h1 := hall (k - 1) (by omega)
          simp only [show k - 1 + 1 = k by omega] at h1
          rw [← Hx.out, ← Hy.out] at h1
          exact hxy h1⟩
        go_wp2
        go_quiet (fail)
        go_wp2
        go_ret
        exact ⟨ret_bool hf.out.symm, quiet2 _ _ _⟩
    · have ht : Kept (Ls.srt l = true) := ⟨by
        rw [Ls.srt, decide_eq_true_iff, Ls.S_iff]
        intro j hj
        exact hs.out j hj (by have := hn.out; omega)⟩
      go_wp2
      go_ret
      exact ⟨ret_bool ht.out.symm, ⟨_, rfl⟩⟩

set_option maxHeartbeats 1000000 in
theorem has_any (A : Option Addr) (n c : Nat) (l : List Int) (x : Int) (w : World) (B : Nat) (hv : RdI w B A n c l) :
    Calls Try.prog 28 #[.slice A n c, .int .i64 x] w fun e w' => e = .returned (.bool (Ls.has l x)) ∧ w = w' := by
  have hlc := hv.1
  have hcm := hv.2.1
  have hn := hide hv.len
  have Hv := hide hv
  unfold maxLen at hcm
  clear hv
  go_enter Try.func28, Try.ntmps28
  go_wp2
  go_loop [5] (fun i => ∃ k : Nat, k ≤ n ∧ i = .int .i64 k ∧ Kept (¬ x ∈ l.take k)) (fun i => n - (intOf i).toNat)
  case atStart => exact ⟨0, by omega, rfl, ⟨by simp⟩⟩
  case round =>
    obtain ⟨k, hk, rfl, hs⟩ := hrel
    by_cases hlt : k < n
    · have hkl : k < l.length := by rw [← hn.out]; exact hlt
      obtain ⟨b, off, rfl, hb, hc1⟩ := Hv.out.at_ hkl
      obtain ⟨y, hy⟩ : ∃ y, y = l[k] := ⟨_, rfl⟩
      rw [← hy] at hc1
      have Hy := Kept.mk hy
      clear hy
      by_cases hxy : y = x
      · have ht : (y == x) = true := by simp [hxy]
        have hf : Kept (Ls.has l x = true) := ⟨by rw [Ls.has_iff, ← hxy, Hy.out]; exact List.getElem_mem _⟩
        clear hxy
        go_wp2
        go_ret
        exact ⟨ret_bool hf.out.symm, rfl⟩
      · have ht : (y == x) = false := by simp [hxy]
        have hs2 : Kept (¬ x ∈ l.take (k + 1)) := ⟨by
          rw [List.take_succ_eq_append_getElem hkl, List.mem_append]
          rintro (h | h)
          · exact hs.out h
          · simp only [List.mem_singleton] at h; exact hxy (by rw [Hy.out, h])⟩
        clear hxy
        go_wp2
        go_round
        case rel => exact ⟨k + 1, by omega, by go_num, hs2⟩
        case measure => simp [intOf]; omega
    · obtain rfl : k = n := by omega
      have hf : Kept (Ls.has l x = false) := ⟨by
        rw [Ls.has_false]
        have := hs.out
        rwa [List.take_of_length_le (by rw [← hn.out]; omega)] at this⟩
      go_wp2
      go_ret
      exact ⟨ret_bool hf.out.symm, rfl⟩

set_option maxHeartbeats 1000000 in
theorem equalI_any (A1 A2 : Option Addr) (n1 n2 c1 c2 : Nat) (l1 l2 : List Int) (w : World) (B1 B2 : Nat) (h1 : RdI w B1 A1 n1 c1 l1) (h2 : RdI w B2 A2 n2 c2 l2) :
    Calls Try.prog 13 #[.slice A1 n1 c1, .slice A2 n2 c2] w fun e w' => e = .returned (.bool (decide (l1 = l2))) ∧ Quiet w w' := by
  have hlc1 := h1.1
  have hlc2 := h2.1
  have hcm1 := h1.2.1
  have hcm2 := h2.2.1
  have hn1 := Kept.mk h1.len
  have hn2 := Kept.mk h2.len
  have H1 := hide h1
  have H2 := hide h2
  unfold maxLen at hcm1 hcm2
  clear h1 h2
  by_cases hnn : n1 = n2
  · subst hnn
    have ht : ((n1 : Int) != (n1 : Int)) = false := by simp
    go_enter Try.func13, Try.ntmps13
    go_wp2
    go_loopw [13] (fun i wr => ∃ k : Nat, k ≤ n1 ∧ i = .int .i64 k ∧ Kept (l1.take k = l2.take k) ∧ Quiet w wr) (fun i _ => n1 - (intOf i).toNat)
    case atStart => exact ⟨0, by omega, rfl, ⟨rfl⟩, ⟨0, rfl⟩⟩
    case round =>
      obtain ⟨k, hk, rfl, hs, nq1, rfl⟩ := hrel
      by_cases hlt : k < n1
      · have hkl1 : k < l1.length := by rw [← hn1.out]; exact hlt
        have hkl2 : k < l2.length := by rw [← hn2.out]; exact hlt
        obtain ⟨b1, off1, rfl, hb1, hc1⟩ := H1.out.at_ hkl1
        obtain ⟨b2, off2, rfl, hb2, hc2⟩ := H2.out.at_ hkl2
        obtain ⟨x, hx⟩ : ∃ x, x = l1[k] := ⟨_, rfl⟩
        obtain ⟨y, hy⟩ : ∃ y, y = l2[k] := ⟨_, rfl⟩
        rw [← hx] at hc1
        rw [← hy] at hc2
        have Hx := Kept.mk hx
        have Hy := Kept.mk hy
        clear hx hy
        by_cases hxy : x = y
        · have ht2 : (x != y) = false := by simp [hxy]
          have hs2 : Kept (l1.take (k + 1) = l2.take (k + 1)) := ⟨by
            rw [List.take_succ_eq_append_getElem hkl1, List.take_succ_eq_append_getElem hkl2, hs.out, ← Hx.out, ← Hy.out, hxy]⟩
          clear hxy
          go_wp2
          go_quiet (fail)
          go_wp2
          go_roundw
          case rel => exact ⟨k + 1, by omega, by go_num, hs2, ⟨_, rfl⟩⟩
          case measure => simp [intOf]; omega
        · have ht2 : (x != y) = true := by simp [hxy]
          have hf : Kept (decide (l1 = l2) = false) := ⟨by
            rw [decide_eq_false_iff_not]
            intro e
            subst e
            exact hxy (Hx.out.trans Hy.out.symm)⟩
          clear hxy
          go_wp2
          go_quiet (fail)
          go_wp2
          go_ret
          exact ⟨ret_bool hf.out.symm, quiet2 _ _ _⟩
      · obtain rfl : k = n1 := by omega
        have hf : Kept (decide (l1 = l2) = true) := ⟨by
          rw [decide_eq_true_iff]
          have := hs.out
          rwa [List.take_of_length_le (by rw [← hn1.out]; omega), List.take_of_length_le (by rw [← hn2.out]; omega)] at this⟩
        go_wp2
        go_ret
        exact ⟨ret_bool hf.out.symm, ⟨_, rfl⟩⟩
  · have ht : ((n1 : Int) != (n2 : Int)) = true := by rw [bne_iff_ne]; omega
    have hf : Kept (decide (l1 = l2) = false) := ⟨by
      rw [decide_eq_false_iff_not]
      intro e
      subst e
      exact hnn (hn1.out.trans hn2.out.symm)⟩
    clear hnn
    go_enter Try.func13, Try.ntmps13
    go_wp2
    go_ret
    exact ⟨ret_bool hf.out.symm, ⟨0, rfl⟩⟩
end Go.Proofs.Ytoomdjjjkolloab
