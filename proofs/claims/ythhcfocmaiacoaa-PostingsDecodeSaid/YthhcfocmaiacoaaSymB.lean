/- Chapter 10: slices.ContainsFunc at the strings that are too long; the pairs of strings that follow each other. -/
import Derived.Test.YthhcfocmaiacoaaSymA
import Derived.Test.YthhcfocmaiacoaaSymMath
import Derived.Stop.RegionWithIn
namespace Go.Proofs.Ythhcfocmaiacoaa
open Go.RowKit Go.Shelf

attribute [local go_sem] Oper.semAt_some

namespace Sy
def hasLong (l : List ByteArray) : Bool := l.any fun s => decide (65535 < s.size)
theorem hasLong_no {l : List ByteArray} : hasLong l = false ↔ ∀ s ∈ l, s.size ≤ 65535 := by
  unfold hasLong
  rw [List.any_eq_false]
  exact ⟨fun h s hs => by have := h s hs; simp at this; exact this, fun h s hs => by have := h s hs; simp; exact this⟩
theorem hasLong_at {l : List ByteArray} {k : Nat} (hk : k < l.length) (h : 65535 < l[k].size) : hasLong l = true := by
  unfold hasLong
  rw [List.any_eq_true]
  exact ⟨l[k], List.getElem_mem hk, by simpa using h⟩
/-- the pairs of neighbors -/
def pairs (l : List ByteArray) : List (ByteArray × ByteArray) := l.zip l.tail
theorem pairs_len (l : List ByteArray) : (pairs l).length = l.length - 1 := by unfold pairs; rw [List.length_zip, List.length_tail]; omega
theorem pairs_get (l : List ByteArray) (k : Nat) (h : k + 1 < l.length) : (pairs l)[k]'(by rw [pairs_len]; omega) = (l[k], l[k + 1]) := by
  unfold pairs
  rw [List.getElem_zip, List.getElem_tail]
theorem srt_pairs {l : List ByteArray} : Srt l ↔ ∀ p ∈ pairs l, St.lt p.1 p.2 = true := by
  induction l with
  | nil => exact ⟨fun _ p hp => by simp [pairs] at hp, fun _ => List.Pairwise.nil⟩
  | cons x l ih =>
    unfold Srt at *
    rw [List.pairwise_cons]
    cases l with
    | nil => exact ⟨fun _ p hp => by simp [pairs] at hp, fun _ => ⟨by simp, List.Pairwise.nil⟩⟩
    | cons y l =>
      have e : pairs (x :: y :: l) = (x, y) :: pairs (y :: l) := by simp [pairs]
      rw [e]
      constructor
      · rintro ⟨h1, h2⟩ p hp
        rcases List.mem_cons.1 hp with rfl | hp
        · exact h1 y (by simp)
        · exact ih.1 h2 p hp
      · intro h
        have h2 := ih.2 fun p hp => h p (by simp [hp])
        refine ⟨fun z hz => ?_, h2⟩
        have hxy := h (x, y) (by simp)
        rcases List.mem_cons.1 hz with rfl | hz
        · exact hxy
        · exact St.trans hxy ((List.pairwise_cons.1 h2).1 z hz)
end Sy
set_option maxHeartbeats 400000 in
theorem encLong_any (s : ByteArray) (w : World) (_hs : s.size ≤ maxLen) : Calls Try.prog 50 #[.string s] w fun e w' => e = .returned (.bool (decide (65535 < (s.size : Int)))) ∧ w = w' := by
  go_enter Try.func50, Try.ntmps50
  go_wp2
  go_ret
  exact ⟨rfl, rfl⟩
set_option maxRecDepth 100000 in
set_option maxHeartbeats 2000000 in
theorem indexLong_any (A : Option Addr) (n c : Nat) (l : List ByteArray) (w : World) (hv : RdS w w.heap.size A n c l) (hf : ∀ s ∈ l, s.size ≤ maxLen) :
    Calls Try.prog 91 #[.slice A n c, .func (.func 50) #[] #[]] w fun e w' => ∃ v : Int, e = .returned (.int .i64 v) ∧ ((0 ≤ v ∧ Sy.hasLong l = true) ∨ (v = -1 ∧ Sy.hasLong l = false)) ∧ w = w' := by
  have hlc := hv.1
  have hcm := hv.2.1
  unfold maxLen at hcm
  have hn := Kept.mk hv.len
  have V := Kept.mk hv
  have F := Kept.mk hf
  clear hv hf
  go_enter Try.func91, Try.ntmps91
  go_wp2
  go_loopw [8] (fun i wr => ∃ k : Nat, k ≤ n ∧ i = .int .i64 k ∧ Kept (∀ s ∈ l.take k, s.size ≤ 65535) ∧ wr = w) (fun i _ => n - (intOf i).toNat)
  case atStart => exact ⟨0, by omega, rfl, ⟨by simp⟩, rfl⟩
  case round =>
    obtain ⟨k, hk, rfl, hd, hw⟩ := hrel
    subst hw
    by_cases hlt : k < n
    · have hkl : k < l.length := by rw [← hn.out]; exact hlt
      obtain ⟨b, off, rfl, -, c0⟩ := V.out.at_ hkl
      have hs := F.out _ (List.getElem_mem hkl)
      have HL := Kept.mk (fun h => Sy.hasLong_at hkl h)
      have HN : Kept (l[k].size ≤ 65535 → ∀ s ∈ l.take (k + 1), s.size ≤ 65535) := ⟨fun h => by
        rw [List.take_succ_eq_append_getElem hkl]
        intro s hs
        rcases List.mem_append.1 hs with hs | hs
        · exact hd.out s hs
        · rw [List.mem_singleton.1 hs]; exact h⟩
      have EL := Kept.mk (fun W => encLong_any l[k] W hs)
      clear hs hd
      generalize l[k] = x at *
      by_cases hx : 65535 < x.size
      · have hL := Kept.mk (HL.out hx)
        have hxb : decide (65535 < (x.size : Int)) = true := by simp; omega
        rw [hxb] at EL
        clear hx
        go_wp2_with (go_at_call 50; refine (EL.out _).mono ?_; rintro e w1 ⟨rfl, rfl⟩)
        go_ret
        exact ⟨k, rfl, .inl ⟨by omega, hL.out⟩, rfl⟩
      · have hN := Kept.mk (HN.out (by omega))
        have hxb : decide (65535 < (x.size : Int)) = false := by simp; omega
        rw [hxb] at EL
        clear hx
        go_wp2_with (go_at_call 50; refine (EL.out _).mono ?_; rintro e w1 ⟨rfl, rfl⟩)
        go_roundw
        case rel => exact ⟨k + 1, by omega, by go_num, hN, by simp⟩
        case measure => simp [intOf]; omega
    · have hL : Kept (Sy.hasLong l = false) := ⟨Sy.hasLong_no.2 (by have := hd.out; rwa [List.take_of_length_le (by have := hn.out; omega)] at this)⟩
      clear hd
      go_wp2
      go_ret
      exact ⟨-1, rfl, .inr ⟨rfl, hL.out⟩, rfl⟩
set_option maxHeartbeats 400000 in
theorem containsLong_any (A : Option Addr) (n c : Nat) (l : List ByteArray) (w : World) (hv : RdS w w.heap.size A n c l) (hf : ∀ s ∈ l, s.size ≤ maxLen) :
    Calls Try.prog 49 #[.slice A n c, .func (.func 50) #[] #[]] w fun e w' => e = .returned (.bool (Sy.hasLong l)) ∧ w = w' := by
  have V := Kept.mk (indexLong_any A n c l w hv hf)
  clear hv hf
  go_enter Try.func49, Try.ntmps49
  go_wp2_with (go_at_call 91; refine V.out.mono ?_; rintro e w1 ⟨v, rfl, hv, rfl⟩; rcases hv with ⟨h1, h2⟩ | ⟨rfl, h2⟩)
  all_goals go_ret
  all_goals exact ⟨by rw [h2]; rfl, rfl⟩
def encP (p : ByteArray × ByteArray) : Array Value := #[.string p.1, .string p.2]
set_option maxHeartbeats 400000 in
theorem neighbors_any (A : Option Addr) (n c : Nat) (w : World) : Calls Try.prog 51 #[.slice A n c] w fun e w' =>
    e = .returned (.func (.func 92) #[] #[.pointer (some ⟨w.heap.size, 0, none⟩)]) ∧ w' = w.alloc (.cells #[.slice A n c] 22) := by
  go_enter Try.func51, Try.ntmps51
  go_wp2
  go_ret
  exact ⟨rfl, rfl⟩
set_option maxRecDepth 100000 in
set_option maxHeartbeats 8000000 in
theorem neighbors_yields (n bx B : Nat) (A : Option Addr) (m c : Nat) (l : List ByteArray) (w : World) (hw : Boxed w bx 22 (.slice A m c)) (hbx : bx < B) (hv : RdS w B A m c l) :
    Yields n Try.prog 92 #[.pointer (some ⟨bx, 0, none⟩)] encP (fun _ => False) (fun X Y => Below B X Y) (Sy.pairs l) w := by
  intro q J Jx W hK hJ hJx hround h0
  have hlc := hv.1
  have hcm := hv.2.1
  unfold maxLen at hcm
  have hW : Boxed W bx 22 (.slice A m c) := (hK.block bx hbx).trans hw
  have hn := Kept.mk hv.len
  have V := Kept.mk (hv.below hK)
  have Hround := Kept.mk hround
  have HJ := Kept.mk hJ
  have HW := Kept.mk hW
  clear hw hK hround hJ hJx hv hW
  refine callsIn_wide.2 ?_
  go_enter Try.func92, Try.ntmps92
  go_wp2
  go_loopw [3] (fun i wr => ∃ k : Nat, (k = 0 ∨ k < m) ∧ i = .int .i64 ((k : Int) + 1) ∧ Below B W wr ∧ Kept (J ((Sy.pairs l).take k) wr)) (fun i _ => m - (intOf i).toNat)
  case atStart => exact ⟨0, .inl rfl, rfl, Below.refl _ _, ⟨h0⟩⟩
  case round =>
    clear h0
    obtain ⟨k, hk, rfl, hb, hj⟩ := hrel
    have hc0 : wr.cell? ⟨bx, 0, none⟩ = some (.slice A m c) := Boxed.cell ((hb.block bx hbx).trans HW.out)
    by_cases hlt : k + 1 < m
    · have hkl : k + 1 < l.length := by rw [← hn.out]; exact hlt
      have hkp : k < (Sy.pairs l).length := by rw [Sy.pairs_len]; omega
      have ht := List.take_succ_eq_append_getElem hkp
      rw [Sy.pairs_get l k hkl] at ht
      obtain ⟨fn, tmps, assign, body, hy, hri⟩ := Hround.out ((Sy.pairs l).take k) (l[k], l[k + 1]) wr.drew (HJ.out _ _ _ none hj.out ⟨rfl, rfl, rfl, Nat.le_refl _, fun _ _ _ => rfl⟩ (fun _ e => by cases e)) ⟨(Sy.pairs l).drop (k + 1), by rw [← ht, List.take_append_drop]⟩
      unfold encP at hy
      have HT := Kept.mk ht
      obtain ⟨b, off, rfl, -, c0⟩ := (V.out.below hb).at_ (show k < l.length by omega)
      obtain ⟨b', off', e', -, c1⟩ := (V.out.below hb).at_ hkl
      simp only [Option.some.injEq, Addr.mk.injEq, and_true] at e'
      obtain ⟨rfl, rfl⟩ := e'
      have BB := Kept.mk hb
      have hlt1 : (k : Int) + 1 < (m : Int) := by omega
      have hlt2 : (k : Int) < (m : Int) := by omega
      have hk0 : (0 : Int) ≤ (k : Int) := by omega
      have hw1 : IntKind.i64.wrap ((k : Int) + 1 - 1) = (k : Int) := by rw [IntKind.wrap_i64]; omega
      have hw2 : IntKind.i64.wrap (k : Int) = (k : Int) := by rw [IntKind.wrap_i64]; omega
      clear ht hb hj
      generalize l[k] = x at *
      generalize l[k + 1] = y at *
      go_wp2
      refine (wpIn_wide (n := n)).1 ?_
      have RES : ∀ (e : Ending) (W' : World), ((e = .returned (.bool true) ∧ J ((Sy.pairs l).take k ++ [(x, y)]) W' ∧ Below B wr.drew W') ∨ (e = .returned (.bool false) ∧ Jx ((Sy.pairs l).take k ++ [(x, y)]) W')) → ∃ v, e = .returned (.bool v) ∧ Kept ((v = true ∧ J ((Sy.pairs l).take k ++ [(x, y)]) W' ∧ Below B wr.drew W') ∨ (v = false ∧ Jx ((Sy.pairs l).take k ++ [(x, y)]) W')) := by
        rintro e W' (⟨rfl, h⟩ | ⟨rfl, h⟩)
        · exact ⟨true, rfl, ⟨.inl ⟨rfl, h⟩⟩⟩
        · exact ⟨false, rfl, ⟨.inr ⟨rfl, h⟩⟩⟩
      have RES := Kept.mk RES
      gi_region_with ((refine ⟨(fun h => by simp [Fence.wide] at h), hri.mono ?_⟩; intro e W' hh; obtain ⟨v, rfl, HV⟩ := RES.out e W' hh; clear hh))
      all_goals
        rcases HV.out with ⟨rfl, hj', hb'⟩ | ⟨rfl, hjx⟩
        · have B2 := Kept.mk (BB.out.trans (((Below.refl B wr).drew).trans hb'))
          have J2 := Kept.mk hj'
          clear hj' hb' HV
          go_wp2
          go_roundw
          case rel => exact ⟨k + 1, .inr hlt, by go_num, B2.out, ⟨by rw [HT.out]; exact J2.out⟩⟩
          case measure => simp [intOf]; omega
        · have X2 := Kept.mk hjx
          clear hjx HV
          go_wp2
          refine bodyPost_ret (results_none rfl _ _ _) rfl ⟨⟨_, rfl⟩, .inr ⟨_, ⟨(Sy.pairs l).drop (k + 1), ?_⟩, X2.out⟩⟩
          rw [← HT.out, List.take_append_drop]
    · have J2 : Kept (J (Sy.pairs l) wr) := ⟨by have := hj.out; rwa [List.take_of_length_le (by rw [Sy.pairs_len]; have := hn.out; omega)] at this⟩
      have hge : (m : Int) ≤ (k : Int) + 1 := by omega
      clear hj
      go_wp2
      go_end0
      exact ⟨⟨_, rfl⟩, .inl J2.out⟩
end Go.Proofs.Ythhcfocmaiacoaa
