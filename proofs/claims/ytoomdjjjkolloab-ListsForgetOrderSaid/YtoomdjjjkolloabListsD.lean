/- The reference's Intersect; slices.Clone. -/
import Derived.Test.YtoomdjjjkolloabListsC
import Derived.Lib.SliceRun
namespace Go.Proofs.Ytoomdjjjkolloab
open Go.RowKit

theorem Ls.isc_take {l0 : List Int} {r : List (List Int)} {k : Nat} (h : k < l0.length) :
    Ls.isc (l0.take (k + 1) :: r) = if r.all (fun m => Ls.has m l0[k]) then Ls.isc (l0.take k :: r) ++ [l0[k]] else Ls.isc (l0.take k :: r) := by
  show List.filter _ _ = _
  rw [List.take_succ_eq_append_getElem h, List.filter_append]
  cases hh : r.all (fun m => Ls.has m l0[k]) <;> simp [hh, Ls.isc]
theorem Ls.all_take {r : List (List Int)} {x : Int} {k : Nat} (h : k < r.length) :
    (r.take (k + 1)).all (fun m => Ls.has m x) = ((r.take k).all (fun m => Ls.has m x) && Ls.has r[k] x) := by
  rw [List.take_succ_eq_append_getElem h, List.all_append]
  simp

theorem has_q {A : Option Addr} {n c : Nat} {l : List Int} {x : Int} {w : World} {B : Nat} {b : Bool} (hb : Ls.has l x = b) (hv : RdI w B A n c l) {m : Nat} :
    Calls Try.prog 28 #[.slice A n c, .int .i64 x] (w.drewN m) fun e w' => e = .returned (.bool b) ∧ w' = w.drewN m := by
  have h := has_any A n c l x (w.drewN m) B (hv.drewN m)
  rw [hb] at h
  exact h.mono fun _ _ q => ⟨q.1, q.2.symm⟩
set_option maxHeartbeats 2000000 in
theorem refIntersect_any (A : Option Addr) (n c B : Nat) (LL : List (List Int)) (w : World) (hv : RdII w B A n c LL) (hB : B ≤ w.heap.size) (hl : Ls.tot LL ≤ 1000000) :
    Calls Try.prog 15 #[.slice A n c] w fun e w' => ∃ A3 n3 c3, e = .returned (.slice A3 n3 c3) ∧ OwnI w' w.heap.size A3 n3 c3 (Ls.isc LL) ∧ Below w.heap.size w w' := by
  have hlc := hv.cap.1
  have hcm := hv.cap.2
  unfold maxLen at hcm
  have hn := Kept.mk hv.len
  have Hv := hide hv
  have Hl := Kept.mk hl
  clear hv hl
  cases LL with
  | nil =>
    obtain rfl : n = 0 := hn.out
    have ht : ((0 : Nat) : Int) = 0 := rfl
    go_enter Try.func15, Try.ntmps15
    go_wp2
    go_ret
    exact ⟨none, 0, 0, rfl, OwnI.nil _ _, Below.refl _ _⟩
  | cons l0 r =>
    have hn1 : 0 < n := by have := hn.out; simp at this; omega
    have hnr : Kept (n = r.length + 1) := ⟨by have := hn.out; simpa using this⟩
    have ht : ((n : Int) == 0) = false := by simp; omega
    obtain ⟨b, off, A', n', c', rfl, hbb, hcell, hr⟩ := Hv.out.at_ (k := 0) (by simp)
    simp only [List.getElem_cons_zero] at hr
    have hn' := Kept.mk hr.len
    have hlc' := hr.1
    have hcm' := hr.2.1
    unfold maxLen at hcm'
    have Hr := hide hr
    clear hr
    simp only [Nat.add_zero] at hcell
    have Hcell := hide hcell
    have hnt : n' ≤ 1000000 := by have h1 := Hl.out; have h2 := hn'.out; simp [Ls.tot] at h1; omega
    clear hcell hn Hl
    go_enter Try.func15, Try.ntmps15
    go_wp2
    go_loopw [3, 4] (fun o i wr => ∃ k : Nat, k ≤ n' ∧ i = .int .i64 k ∧ ∃ A3 n3 c3, o = .slice A3 n3 c3 ∧ n3 ≤ k ∧ OwnI wr w.heap.size A3 n3 c3 (Ls.isc (l0.take k :: r)) ∧ Below w.heap.size w wr) (fun _ i _ => n' - (intOf i).toNat)
    case atStart => exact ⟨0, by omega, rfl, none, 0, 0, rfl, by omega, OwnI.nil _ _, Below.refl _ _⟩
    case round =>
      obtain ⟨k, hk, rfl, A3, n3, c3, rfl, hn3, ho, hb⟩ := hrel
      have hz := hb.size
      have hc0 := (hb.mono hB).cell (p := ⟨b, off, none⟩) hbb
      rw [Hcell.out] at hc0
      by_cases hlt : k < n'
      · have hkl : k < l0.length := by rw [← hn'.out]; exact hlt
        have hst := Kept.mk (Ls.isc_take (r := r) hkl)
        obtain ⟨b', off', rfl, hbb', hc2⟩ := (Hr.out.below (hb.mono hB)).at_ hkl
        obtain ⟨x, hx⟩ : ∃ x, x = l0[k] := ⟨_, rfl⟩
        rw [← hx] at hst hc2
        clear hx
        generalize Ls.isc (l0.take k :: r) = q at *
        go_wp2_with fail
        go_loopw [5, 6] (fun t j wq => ∃ K : Nat, 1 ≤ K ∧ K ≤ n ∧ j = .int .i64 (K : Int) ∧ ∃ t' : Bool, t = .bool t' ∧ Kept (t' = (r.take (K - 1)).all (fun m => Ls.has m x)) ∧ Quiet wr wq) (fun _ j _ => n - (intOf j).toNat)
        case atStart => exact ⟨1, by omega, by omega, rfl, true, rfl, ⟨by simp⟩, ⟨0, rfl⟩⟩
        case round =>
          obtain ⟨K, hK1, hKn, rfl, t', rfl, ht', nq1, rfl⟩ := hrel
          by_cases hlt2 : K < n
          · have hmr : K - 1 < r.length := by have := hnr.out; omega
            obtain ⟨b3, off3, A4, n4, c4, e4, _, hcell4, hr4⟩ := (Hv.out.below (hb.mono hB)).at_ (k := K) (by simp; omega)
            simp only [Option.some.injEq, Addr.mk.injEq, and_true] at e4
            obtain ⟨rfl, rfl⟩ := e4
            have eK : (l0 :: r)[K]'(by simp; omega) = r[K - 1] := by
              rw [List.getElem_cons, dif_neg (by omega)]
            rw [eK] at hr4
            have Hr4 := hide hr4
            have ha := Kept.mk (Ls.all_take (x := x) hmr)
            rw [show K - 1 + 1 = K + 1 - 1 by omega] at ha
            clear hr4 eK
            generalize r[K - 1] = l4 at *
            have ei : (K : Int) < (n : Int) := by omega
            have ei0 : (0 : Int) < (n : Int) := by omega
            have ek : (k : Int) < (n' : Int) := by omega
            cases hh : Ls.has l4 x with
            | true =>
              have hh2 : Kept ((r.take (K + 1 - 1)).all (fun m => Ls.has m x) = t') := ⟨by rw [ha.out, ← ht'.out, hh, Bool.and_true]⟩
              go_wp2_with fail
              go_quiet ((go_at_call 28; exact (has_q hh Hr4.out).mono fun _ _ q => ⟨q.1, _, q.2⟩))
              go_wp2_with fail
              go_roundw
              case rel => exact ⟨K + 1, by omega, by omega, by go_num, t', rfl, ⟨hh2.out.symm⟩, ⟨_, rfl⟩⟩
              case measure => simp [intOf]; omega
            | false =>
              have hh2 : Kept ((r.take (K + 1 - 1)).all (fun m => Ls.has m x) = false) := ⟨by rw [ha.out, hh, Bool.and_false]⟩
              go_wp2_with fail
              go_quiet ((go_at_call 28; exact (has_q hh Hr4.out).mono fun _ _ q => ⟨q.1, _, q.2⟩))
              go_wp2_with fail
              go_roundw
              case rel => exact ⟨K + 1, by omega, by omega, by go_num, false, rfl, ⟨hh2.out.symm⟩, ⟨_, rfl⟩⟩
              case measure => simp [intOf]; omega
          · have hmr : Kept (r.take (K - 1) = r) := ⟨List.take_of_length_le (by have := hnr.out; omega)⟩
            rw [hmr.out] at ht'
            have hst2 := Kept.mk hst.out
            rw [← ht'.out] at hst2
            have ho1 : OwnI (wr.drewN nq1) w.heap.size A3 n3 c3 q := ho
            have hb1 : Below w.heap.size w (wr.drewN nq1) := below_drewN hb _
            cases t' with
            | false =>
              go_wp2_with fail
              go_roundw
              case rel => exact ⟨k + 1, by omega, by go_num, A3, n3, c3, rfl, by omega, by rw [hst2.out]; exact ho1, hb1⟩
              case measure => simp [intOf]; omega
            | true =>
              go_wp2_with (at_builtin; refine wpList_appI rfl (.tmp 37) (.tmp 44) rfl w.heap.size A3 n3 c3 _ rfl (World.ownsRow.alloc ho1 _) (wr.heap.size + 1) _ _ _ [x] rfl (RdI.one (wr.drewN nq1) x) (by omega) (by simp; omega) ?_; intro A4 c4 w4 hown4 hgrow4 hat4)
              have hb4 : Below w.heap.size w w4 := (hb1.alloc hz _).grown hgrow4 (by simp; omega) (fun g hg => (own_lt ho g hg).1)
              go_roundw
              case rel => exact ⟨k + 1, by omega, by go_num, A4, n3 + 1, c4, rfl, by omega, by rw [hst2.out]; exact hown4, hb4⟩
              case measure => simp [intOf]; omega
      · obtain rfl : k = n' := by omega
        have hall : Kept (l0.take k = l0) := ⟨List.take_of_length_le (by rw [← hn'.out]; omega)⟩
        rw [hall.out] at ho
        go_wp2
        go_ret
        exact ⟨A3, n3, c3, rfl, ho, hb⟩

set_option maxHeartbeats 1000000 in
theorem cloneI_any (A : Option Addr) (n c B : Nat) (l : List Int) (w : World) (hv : RdI w B A n c l) (hB : B ≤ w.heap.size) (hl : n ≤ 1000000) :
    Calls Try.prog 25 #[.slice A n c] w fun e w' => ∃ A3 c3, e = .returned (.slice A3 n c3) ∧ OwnI w' w.heap.size A3 n c3 l ∧ Below w.heap.size w w' := by
  have hlc := hv.1
  have hcm := hv.2.1
  unfold maxLen at hcm
  have Hv := hide hv
  have hn := Kept.mk hv.len
  clear hv
  have qT : ∀ (w : World) (a : Option Addr) (n c n' c' : Nat), (binOp .eql 22 (.slice a n c) (.slice none n' c')).run Try.prog w = .ok (.bool a.isNone) w := fun w a n c n' c' => Lib.run_eql_slice_nil w _ _ a n c n' c' Try.underlying22
  cases A with
  | none =>
    have h0 : n = 0 := by
      rcases Nat.eq_zero_or_pos n with h | h
      · exact h
      · obtain ⟨b, off, e, _⟩ := Hv.out.2.2.2 h; cases e
    subst h0
    obtain rfl : l = [] := List.eq_nil_of_length_eq_zero hn.out.symm
    go_enter Try.func25, Try.ntmps25
    go_wp2
    go_ret
    exact ⟨none, 0, rfl, OwnI.nil _ _, Below.refl _ _⟩
  | some a =>
    go_enter Try.func25, Try.ntmps25
    go_wp2_with (at_builtin; refine wpList_appI rfl (.tmp 5) (.tmp 6) rfl w.heap.size _ _ _ [] rfl (OwnI.made w _ (Nat.le_refl _)) B _ _ _ l rfl (Rd.alloc Hv.out hB _) (by omega) (by simp) ?_; intro A2 c2 w1 hown1 hgrow1 hat1; have hb1 : Below w.heap.size w w1 := ((Below.refl _ w).alloc (Nat.le_refl _) _).grown hgrow1 (by simp) (by simp [ab]))
    rw [List.nil_append, Nat.zero_add] at hown1
    go_ret
    exact ⟨A2, c2, rfl, hown1, hb1⟩
end Go.Proofs.Ytoomdjjjkolloab
