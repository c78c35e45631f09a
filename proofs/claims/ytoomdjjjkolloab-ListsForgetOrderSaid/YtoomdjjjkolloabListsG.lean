/- lists.Intersect, Union, Difference, Complement. -/
import Derived.Test.YtoomdjjjkolloabListsF
import Derived.OwnWalk
namespace Go.Proofs.Ytoomdjjjkolloab
open Go.RowKit Go.Shelf

set_option maxHeartbeats 1000000 in
theorem okI_any (f s : Bool) (w : World) : Calls Try.prog 27 #[.agg #[.bool f, .bool s]] w fun e w' => e = .returned (.bool ((fun f s => f && s) f s)) ∧ Below w.heap.size w w' := by
  have hb : Below w.heap.size w (w.alloc (.cells #[.bool f, .bool s] 42)) := (Below.refl _ w).alloc (Nat.le_refl _) _
  cases f <;>
  · go_enter Try.func27, Try.ntmps27
    go_wp2
    go_ret
    exact ⟨rfl, hb⟩
set_option maxHeartbeats 1000000 in
theorem okU_any (f s : Bool) (w : World) : Calls Try.prog 29 #[.agg #[.bool f, .bool s]] w fun e w' => e = .returned (.bool ((fun _ _ => true) f s)) ∧ Below w.heap.size w w' := by
  have hb : Below w.heap.size w (w.alloc (.cells #[.bool f, .bool s] 42)) := (Below.refl _ w).alloc (Nat.le_refl _) _
  go_enter Try.func29, Try.ntmps29
  go_wp2
  go_ret
  exact ⟨rfl, hb⟩
set_option maxHeartbeats 1000000 in
theorem okD_any (f s : Bool) (w : World) : Calls Try.prog 31 #[.agg #[.bool f, .bool s]] w fun e w' => e = .returned (.bool ((fun _ s => !s) f s)) ∧ Below w.heap.size w w' := by
  have hb : Below w.heap.size w (w.alloc (.cells #[.bool f, .bool s] 42)) := (Below.refl _ w).alloc (Nat.le_refl _) _
  go_enter Try.func31, Try.ntmps31
  go_wp2
  go_ret
  exact ⟨rfl, hb⟩

set_option maxHeartbeats 1000000 in
theorem difference_any (A1 A2 : Option Addr) (n1 n2 c1 c2 : Nat) (l1 l2 : List Int) (w : World) (B : Nat) (h1 : RdI w B A1 n1 c1 l1) (h2 : RdI w B A2 n2 c2 l2) (hB : B ≤ w.heap.size) (hl : n1 + n2 ≤ 2000000) :
    Calls Try.prog 18 #[.slice A1 n1 c1, .slice A2 n2 c2] w fun e w' => ∃ A3 n3 c3, e = .returned (.slice A3 n3 c3) ∧ n3 ≤ n1 + n2 ∧ OwnI w' w.heap.size A3 n3 c3 (Ls.pick (fun _ s => !s) l1 l2) ∧ Below w.heap.size w w' := by
  have H1 := hide h1
  have H2 := hide h2
  clear h1 h2
  go_enter Try.func18, Try.ntmps18
  go_wp2_with (go_at_call 26; refine (pick_any 31 (fun _ s => !s) _ _ _ _ _ _ B l1 l2 w (enters_of Try.func31 (by kernel_rfl) rfl) okD_any H1.out H2.out hB hl).mono ?_; rintro e w2 ⟨A3, n3, c3, rfl, hn, ho, hb⟩)
  go_ret
  exact ⟨A3, n3, c3, rfl, hn, ho, hb⟩

theorem Ls.puni_take {LL : List (List Int)} {k : Nat} (h : k < LL.length) : Ls.puni [] (LL.take (k + 1)) = Ls.pick (fun _ _ => true) (Ls.puni [] (LL.take k)) LL[k] := by
  unfold Ls.puni
  rw [List.take_succ_eq_append_getElem h, List.foldl_append]
  rfl
theorem Ls.pisc_take {l : List Int} {LL : List (List Int)} {k : Nat} (h : k < LL.length) : Ls.pisc l (LL.take (k + 1)) = Ls.pick (fun f s => f && s) (Ls.pisc l (LL.take k)) LL[k] := by
  unfold Ls.pisc
  rw [List.take_succ_eq_append_getElem h, List.foldl_append]
  rfl

set_option maxHeartbeats 1000000 in
theorem union_any (A : Option Addr) (n c B : Nat) (LL : List (List Int)) (w : World) (hv : RdII w B A n c LL) (hB : B ≤ w.heap.size) (hl : Ls.tot LL ≤ 1000000) :
    Calls Try.prog 16 #[.slice A n c] w fun e w' => ∃ A3 n3 c3, e = .returned (.slice A3 n3 c3) ∧ n3 ≤ Ls.tot LL ∧ OwnI w' w.heap.size A3 n3 c3 (Ls.puni [] LL) ∧ Below w.heap.size w w' := by
  have hlc := hv.cap.1
  have hcm := hv.cap.2
  unfold maxLen at hcm
  have hn := Kept.mk hv.len
  have Hv := hide hv
  have Hl := Kept.mk hl
  clear hv hl
  go_enter Try.func16, Try.ntmps16
  go_wp2
  go_loopw [3, 8] (fun o i wr => ∃ k : Nat, k ≤ n ∧ i = .int .i64 k ∧ ∃ A3 n3 c3, o = .slice A3 n3 c3 ∧ Kept (n3 ≤ Ls.tot (LL.take k)) ∧ OwnI wr w.heap.size A3 n3 c3 (Ls.puni [] (LL.take k)) ∧ Below w.heap.size w wr) (fun _ i _ => n - (intOf i).toNat)
  case atStart => exact ⟨0, by omega, rfl, none, 0, 0, rfl, ⟨by simp⟩, OwnI.nil _ _, Below.refl _ _⟩
  case round =>
    obtain ⟨k, hk, rfl, A3, n3, c3, rfl, hn3, ho, hb⟩ := hrel
    by_cases hlt : k < n
    · have hkl : k < LL.length := by rw [← hn.out]; exact hlt
      have ht1 := Kept.mk (Ls.tot_take hkl)
      have ht2 := Kept.mk (Ls.tot_take_le LL (k + 1))
      have hu := Kept.mk (Ls.puni_take hkl)
      obtain ⟨b, off, A', n', c', rfl, hbb, hcell, hr⟩ := Hv.out.at_ hkl
      have hn' := Kept.mk hr.len
      have Hr := Kept.mk (hr.below (hb.mono hB))
      have hz := hb.size
      clear hr
      generalize LL[k] = l at *
      generalize Ls.puni [] (LL.take k) = acc at *
      have hlive := (hb.mono hB).cell (p := ⟨b, off + k, none⟩) hbb
      rw [hcell] at hlive
      have hsum : Kept (n3 + n' ≤ 2000000) := ⟨by have h1 := hn3.out; have h2 := ht1.out; have h3 := ht2.out; have h4 := Hl.out; have h5 := hn'.out; omega⟩
      clear hcell
      go_wp2_with (go_at_call 26; refine (pick_any 29 (fun _ _ => true) _ _ _ _ _ _ wr.heap.size acc l wr (enters_of Try.func29 (by kernel_rfl) rfl) okU_any ho.rd (Hr.out.more (by omega)) (Nat.le_refl _) hsum.out).mono ?_; rintro e w2 ⟨A4, n4, c4, rfl, hn4, ho4, hb4⟩)
      have hb5 := hb.trans (hb4.mono hz)
      go_roundw
      case rel => exact ⟨k + 1, by omega, by go_num, A4, n4, c4, rfl, ⟨by rw [ht1.out]; have h1 := hn3.out; have h2 := hn'.out; omega⟩, by rw [hu.out]; exact own_base ho4 hz, hb5⟩
      case measure => simp [intOf]; omega
    · obtain rfl : k = n := by omega
      have hall : Kept (LL.take k = LL) := ⟨List.take_of_length_le (by rw [← hn.out]; omega)⟩
      rw [hall.out] at ho hn3
      go_wp2
      go_ret
      exact ⟨A3, n3, c3, rfl, hn3.out, ho, hb⟩

/-- the program's Intersect -/
def Ls.piscs : List (List Int) → List Int
  | [] => []
  | l :: r => Ls.pisc l r
theorem Ls.tot_cons (l : List Int) (r : List (List Int)) : Ls.tot (l :: r) = l.length + Ls.tot r := by simp [Ls.tot]

set_option maxHeartbeats 1000000 in
theorem intersect_any (A : Option Addr) (n c B : Nat) (LL : List (List Int)) (w : World) (hv : RdII w B A n c LL) (hB : B ≤ w.heap.size) (hl : Ls.tot LL ≤ 1000000) :
    Calls Try.prog 14 #[.slice A n c] w fun e w' => ∃ A3 n3 c3, e = .returned (.slice A3 n3 c3) ∧ n3 ≤ Ls.tot LL ∧ OwnI w' w.heap.size A3 n3 c3 (Ls.piscs LL) ∧ Below w.heap.size w w' := by
  have hlc := hv.cap.1
  have hcm := hv.cap.2
  unfold maxLen at hcm
  have hn := Kept.mk hv.len
  have Hv := hide hv
  have Hl := Kept.mk hl
  clear hv hl
  cases LL with
  | nil =>
    obtain rfl : n = 0 := hn.out
    go_enter Try.func14, Try.ntmps14
    go_wp2
    go_ret
    exact ⟨none, 0, 0, rfl, Nat.zero_le _, OwnI.nil _ _, Below.refl _ _⟩
  | cons l0 r =>
    have hn1 : 0 < n := by have := hn.out; simp at this; omega
    have hnr : Kept (n - 1 = r.length) := ⟨by have := hn.out; simp at this; omega⟩
    have ht : ((n : Int) == 0) = false := by simp; omega
    have htot := Kept.mk (Ls.tot_cons l0 r)
    obtain ⟨b, off, A', n', c', rfl, hbb, hcell, hr⟩ := Hv.out.at_ (k := 0) (by simp)
    simp only [List.getElem_cons_zero] at hr
    have hn' := Kept.mk hr.len
    have Hr := hide hr
    clear hr
    simp only [Nat.add_zero] at hcell
    have hnt : n' ≤ 1000000 := by have h1 := Hl.out; have h2 := hn'.out; have h3 := htot.out; omega
    have Hd := Kept.mk (Hv.out.drop (k := 1) (by omega))
    by_cases hc1 : c = 1
    · obtain rfl : n = 1 := by omega
      subst hc1
      obtain rfl : r = [] := List.eq_nil_of_length_eq_zero hnr.out.symm
      go_enter Try.func14, Try.ntmps14
      go_wp2_with (go_at_call 25; refine (cloneI_any _ _ _ B l0 w Hr.out hB hnt).mono ?_; rintro e w2 ⟨A3, c3, rfl, ho, hb⟩)
      go_loopw [3, 16] (fun o i wr => o = .slice A3 n' c3 ∧ i = .int .i64 0 ∧ wr = w2) (fun _ _ _ => 0)
      case atStart => exact ⟨rfl, rfl, rfl⟩
      case round =>
        obtain ⟨rfl, rfl, rfl⟩ := hrel
        go_wp2
        go_ret
        exact ⟨A3, n', c3, rfl, by have h2 := hn'.out; have h3 := htot.out; omega, ho, hb⟩
    · rw [if_neg hc1] at Hd
      simp only [Option.map_some, add_plain, List.drop_succ_cons, List.drop_zero] at Hd
      go_enter Try.func14, Try.ntmps14
      go_wp2_with (go_at_call 25; refine (cloneI_any _ _ _ B l0 w Hr.out hB hnt).mono ?_; rintro e w2 ⟨A3, c3, rfl, ho, hb⟩)
      go_loopw [3, 16] (fun o i wr => ∃ k : Nat, k ≤ n - 1 ∧ i = .int .i64 k ∧ ∃ A3 n3 c3, o = .slice A3 n3 c3 ∧ Kept (n3 ≤ l0.length + Ls.tot (r.take k)) ∧ OwnI wr w.heap.size A3 n3 c3 (Ls.pisc l0 (r.take k)) ∧ Below w.heap.size w wr) (fun _ i _ => n - 1 - (intOf i).toNat)
      case atStart => exact ⟨0, by omega, rfl, A3, n', c3, rfl, ⟨by have := hn'.out; omega⟩, ho, hb⟩
      case round =>
        clear ho hb
        obtain ⟨k, hk, rfl, A3, n3, c3, rfl, hn3, ho, hb⟩ := hrel
        by_cases hlt : k < n - 1
        · have hkl : k < r.length := by rw [← hnr.out]; exact hlt
          have ht1 := Kept.mk (Ls.tot_take hkl)
          have ht2 := Kept.mk (Ls.tot_take_le r (k + 1))
          have hu := Kept.mk (Ls.pisc_take (l := l0) hkl)
          obtain ⟨b', off', A5, n5, c5, e5, hbb5, hcell5, hr5⟩ := Hd.out.at_ hkl
          simp only [Option.some.injEq, Addr.mk.injEq, and_true] at e5
          obtain ⟨rfl, rfl⟩ := e5
          have hn5 := Kept.mk hr5.len
          have Hr5 := Kept.mk (hr5.below (hb.mono hB))
          have hz := hb.size
          clear hr5
          generalize r[k] = l at *
          generalize Ls.pisc l0 (r.take k) = acc at *
          have hlive := (hb.mono hB).cell (p := ⟨b, off + 1 + k, none⟩) hbb
          rw [hcell5] at hlive
          have hsum : Kept (n3 + n5 ≤ 2000000) := ⟨by have h1 := hn3.out; have h2 := ht1.out; have h3 := ht2.out; have h4 := Hl.out; have h5 := hn5.out; have h6 := htot.out; omega⟩
          clear hcell5
          go_wp2_with (go_at_call 26; refine (pick_any 27 (fun f s => f && s) _ _ _ _ _ _ wr.heap.size acc l wr (enters_of Try.func27 (by kernel_rfl) rfl) okI_any ho.rd (Hr5.out.more (by omega)) (Nat.le_refl _) hsum.out).mono ?_; rintro e w2 ⟨A4, n4, c4, rfl, hn4, ho4, hb4⟩)
          have hb5 := hb.trans (hb4.mono hz)
          go_roundw
          case rel => exact ⟨k + 1, by omega, by go_num, A4, n4, c4, rfl, ⟨by rw [ht1.out]; have h1 := hn3.out; have h2 := hn5.out; omega⟩, by rw [hu.out]; exact own_base ho4 hz, hb5⟩
          case measure => simp [intOf]; omega
        · have hall : Kept (r.take k = r) := ⟨List.take_of_length_le (by rw [← hnr.out]; omega)⟩
          rw [hall.out] at ho hn3
          go_wp2
          go_ret
          exact ⟨A3, n3, c3, rfl, by have h1 := hn3.out; have h3 := htot.out; omega, ho, hb⟩

theorem Ls.upto_len (n : Nat) : (Ls.upto n).length = n := by simp [Ls.upto]
theorem Ls.upto_succ (n : Nat) : Ls.upto (n + 1) = Ls.upto n ++ [(n : Int)] := by simp [Ls.upto, List.range_succ]
set_option maxHeartbeats 1000000 in
theorem complement_any (A : Option Addr) (m c B : Nat) (l : List Int) (n : Int) (w : World) (h1 : RdI w B A m c l) (hB : B ≤ w.heap.size) (hl : m ≤ 1000000) (hn : n ≤ 1000000) (hn0 : -9223372036854775808 ≤ n) :
    Calls Try.prog 20 #[.slice A m c, .int .i64 n] w fun e w' => ∃ A3 n3 c3, e = .returned (.slice A3 n3 c3) ∧ n3 ≤ n.toNat + m ∧ OwnI w' w.heap.size A3 n3 c3 (Ls.pick (fun _ s => !s) (Ls.upto n.toNat) l) ∧ Below w.heap.size w w' := by
  have H1 := hide h1
  clear h1
  obtain ⟨i0, hi0, hz0, hz1, hz2⟩ := info_parts infoI
  go_enter Try.func20, Try.ntmps20
  go_wp2_with (at_make; refine wpList_make_own _ rfl _ _ 22 rfl w.heap.size 3 i0 (.int .i64 0) 1 Try.underlying22 hi0 hz0 hz1 .i64 .i64 _ n.toNat rfl rfl (by omega) (by rw [hz2]; omega) (by unfold maxLen; omega) (Nat.le_refl _) ?_; intro w0 hown0 hgrow0)
  all_goals
    clear h
    have hb0 : Below w.heap.size w w0 := (Below.refl _ w).grown hgrow0 (Nat.le_refl _) (fun _ e => by cases e)
    go_loopw [5, 11] (fun o i wr => ∃ k : Nat, k ≤ n.toNat ∧ i = .int .i64 k ∧ ∃ A3 c3, o = .slice A3 k c3 ∧ OwnI wr w.heap.size A3 k c3 (Ls.upto k) ∧ Below w.heap.size w wr) (fun _ i _ => n.toNat - (intOf i).toNat)
    case atStart => exact ⟨0, by omega, rfl, _, _, rfl, hown0, hb0⟩
    case round =>
      clear hown0 hgrow0 hb0
      obtain ⟨k, hk, rfl, A3, c3, rfl, ho, hb⟩ := hrel
      have hz := hb.size
      by_cases hlt : (k : Int) < n
      · go_wp2_with (at_builtin; refine wpList_appI rfl (.tmp 14) (.tmp 16) rfl w.heap.size A3 k c3 _ rfl (World.ownsRow.alloc ho _) (wr.heap.size + 1) _ _ _ [(k : Int)] rfl (RdI.one wr k) (by omega) (by simp; omega) ?_; intro A4 c4 w4 hown4 hgrow4 hat4)
        have hb4 : Below w.heap.size w w4 := (hb.alloc hz _).grown hgrow4 (by simp; omega) (fun g hg => (own_lt ho g hg).1)
        go_roundw
        case rel => exact ⟨k + 1, by omega, by go_num, A4, c4, rfl, by rw [Ls.upto_succ]; exact hown4, hb4⟩
        case measure => simp [intOf]; omega
      · have hkn := Kept.mk (show k = n.toNat by omega)
        have Hr := Kept.mk (H1.out.below (hb.mono hB))
        go_wp2_with (go_at_call 18; refine (difference_any _ _ _ _ _ _ (Ls.upto k) l wr wr.heap.size ho.rd (Hr.out.more (by omega)) (Nat.le_refl _) (by omega)).mono ?_; rintro e w2 ⟨A4, n4, c4, rfl, hn4, ho4, hb4⟩)
        have hb5 := hb.trans (hb4.mono hz)
        go_ret
        exact ⟨A4, n4, c4, rfl, by rw [← hkn.out]; exact hn4, by rw [← hkn.out]; exact own_base ho4 hz, hb5⟩
end Go.Proofs.Ytoomdjjjkolloab
