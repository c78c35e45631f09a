/- Chapter 16: literal, the program's and the reference's. -/
import Derived.Test.YtknfkbgnfjfpeaaDoorLayD
namespace Go.Proofs.YtknfkbgnfjfpeaaDoor
open Go.RowKit Go.Shelf

namespace Ly
def lit (b s : List UInt8) : Int := if b.take (min b.length s.length) ≠ s.take (min b.length s.length) then 10 else if b.length < s.length then 3 else 0
end Ly
set_option maxRecDepth 100000 in
set_option maxHeartbeats 2000000 in
theorem literal_any (p a : Nat) (l : List UInt8) (e : Int) (A : Option Addr) (n c B : Nat) (b : List UInt8) (s : ByteArray) (w : World) (e1 : Int) (he1 : e1 = if e = 0 then Ly.lit b s.data.toList else e) (h : Rdr w p l a e) (hv : RdB w B A n c b) (hs : s.size ≤ 100) :
    Calls Tryd.prog 78 #[.pointer (some ⟨p, 0, none⟩), .slice A n c, .string s] w fun r w' => r = .returned (.tuple #[]) ∧
      Rdr w' p l (Wr.take l a e1 ((min b.length s.data.toList.length : Nat) : Int)).2.1 (Wr.take l a e1 ((min b.length s.data.toList.length : Nat) : Int)).2.2 ∧ w.grownBy w' (some p) := by
  have hn := Kept.mk hv.len
  have hlc := hv.1
  have hcm := hv.2.1
  unfold maxLen at hcm
  have hsl : Kept (s.data.toList.length = s.size) := ⟨by rw [Array.length_toList]; rfl⟩
  have H := Kept.mk h
  have HE := Kept.mk he1
  clear he1
  have hex : ∀ k, (s.extract 0 k).toList = s.data.toList.take k := fun k => by rw [ByteArray.toList_eq]; simp
  by_cases hlt : n < s.size
  · have hml : Kept (min b.length s.data.toList.length = n) := ⟨by rw [hsl.out, ← hn.out]; omega⟩
    rw [hml.out]
    have kc := fun k => run_bytes_str (w.drewN k) B A n c _ ((hv.take (k := n) (Nat.le_refl _)).drewN k)
    have hnm : (n : Int) ≤ (s.size : Int) := by omega
    have hnl : (n : Int) < (s.size : Int) := by omega
    clear hv h
    by_cases heq : b.take n = s.data.toList.take n
    · have hb : (List.take n b == (s.extract 0 n).toList) = true := by rw [hex, heq]; simp
      have hL : Kept (Ly.lit b s.data.toList = 3) := ⟨by unfold Ly.lit; rw [hml.out, if_neg (by simpa using heq), if_pos (by rw [hsl.out, ← hn.out]; exact hlt)]⟩
      have hE1 : Kept ((if e = 0 then 3 else e) = e1) := ⟨by rw [HE.out, hL.out]⟩
      clear heq hex
      go_enter Tryd.func78, Tryd.ntmps78
      go_wp2
      go_quiet (fail)
      go_wp2_with (first
        | (go_at_call 33; refine (fail_any p a l e 3 _ (by exact H.out)).mono ?_; rintro r w1 ⟨rfl, hr1, hg1⟩; rw [hE1.out] at hr1; have r1 := Kept.mk hr1; have g1 : Kept (w.grownBy w1 (some p)) := ⟨(Quiet.grown ⟨_, rfl⟩ _).trans hg1⟩; clear hr1 hg1)
        | (go_at_call 35; refine (take_any p a l e1 ((n : Nat) : Int) w1 r1.out (by omega) (by omega)).mono ?_; rintro r w2 ⟨A2, n2, c2, rfl, -, hr2, hg2⟩))
      go_end0
      exact ⟨rfl, hr2, g1.out.trans hg2⟩
    · have hb : (List.take n b == (s.extract 0 n).toList) = false := by rw [hex]; simpa using heq
      have hL : Kept (Ly.lit b s.data.toList = 10) := ⟨by unfold Ly.lit; rw [hml.out, if_pos heq]⟩
      have hE1 : Kept ((if e = 0 then 10 else e) = e1) := ⟨by rw [HE.out, hL.out]⟩
      clear heq hex
      go_enter Tryd.func78, Tryd.ntmps78
      go_wp2
      go_quiet (fail)
      go_wp2_with (first
        | (go_at_call 33; refine (fail_any p a l e 10 _ (by exact H.out)).mono ?_; rintro r w1 ⟨rfl, hr1, hg1⟩; rw [hE1.out] at hr1; have r1 := Kept.mk hr1; have g1 : Kept (w.grownBy w1 (some p)) := ⟨(Quiet.grown ⟨_, rfl⟩ _).trans hg1⟩; clear hr1 hg1)
        | (go_at_call 35; refine (take_any p a l e1 ((n : Nat) : Int) w1 r1.out (by omega) (by omega)).mono ?_; rintro r w2 ⟨A2, n2, c2, rfl, -, hr2, hg2⟩))
      go_end0
      exact ⟨rfl, hr2, g1.out.trans hg2⟩
  · have hml : Kept (min b.length s.data.toList.length = s.size) := ⟨by rw [hsl.out, ← hn.out]; omega⟩
    rw [hml.out]
    have kc := fun k => run_bytes_str (w.drewN k) B A s.size c _ ((hv.take (k := s.size) (by omega)).drewN k)
    have hnm : (s.size : Int) ≤ (n : Int) := by omega
    have hcm2 : (s.size : Int) ≤ (c : Int) := by omega
    have hto : s.toList = s.data.toList := ByteArray.toList_eq s
    have hft : s.data.toList.take s.size = s.data.toList := List.take_of_length_le (by rw [hsl.out]; exact Nat.le_refl _)
    clear hv h
    rcases Nat.lt_or_eq_of_le (show s.size ≤ n by omega) with hq | hq
    · have hnq : (s.size : Int) < (n : Int) := by omega
      by_cases heq : b.take s.size = s.data.toList.take s.size
      · have hb : (List.take s.size b == s.toList) = true := by rw [hto, heq, hft]; simp
        have hL : Kept (Ly.lit b s.data.toList = 0) := ⟨by unfold Ly.lit; rw [hml.out, if_neg (by simpa using heq), if_neg (by rw [hsl.out, ← hn.out]; exact hlt)]⟩
        obtain rfl : e1 = e := by rw [HE.out, hL.out]; split <;> simp_all
        clear heq hex hto hft
        go_enter Tryd.func78, Tryd.ntmps78
        go_wp2
        go_quiet (fail)
        go_wp2_with (go_at_call 35; refine (take_any p a l e1 ((s.size : Nat) : Int) _ (by exact H.out) (by omega) (by omega)).mono ?_; rintro r w2 ⟨A2, n2, c2, rfl, -, hr2, hg2⟩)
        go_end0
        exact ⟨rfl, hr2, (Quiet.grown ⟨_, rfl⟩ _).trans hg2⟩
      · have hb : (List.take s.size b == s.toList) = false := by rw [hto, ← hft]; simpa using heq
        have hL : Kept (Ly.lit b s.data.toList = 10) := ⟨by unfold Ly.lit; rw [hml.out, if_pos heq]⟩
        have hE1 : Kept ((if e = 0 then 10 else e) = e1) := ⟨by rw [HE.out, hL.out]⟩
        clear heq hex hto hft
        go_enter Tryd.func78, Tryd.ntmps78
        go_wp2
        go_quiet (fail)
        go_wp2_with (first
          | (go_at_call 33; refine (fail_any p a l e 10 _ (by exact H.out)).mono ?_; rintro r w1 ⟨rfl, hr1, hg1⟩; rw [hE1.out] at hr1; have r1 := Kept.mk hr1; have g1 : Kept (w.grownBy w1 (some p)) := ⟨(Quiet.grown ⟨_, rfl⟩ _).trans hg1⟩; clear hr1 hg1)
          | (go_at_call 35; refine (take_any p a l e1 ((s.size : Nat) : Int) w1 r1.out (by omega) (by omega)).mono ?_; rintro r w2 ⟨A2, n2, c2, rfl, -, hr2, hg2⟩))
        go_end0
        exact ⟨rfl, hr2, g1.out.trans hg2⟩
    · obtain rfl : n = s.size := hq.symm
      by_cases heq : b.take s.size = s.data.toList.take s.size
      · have hb : (List.take s.size b == s.toList) = true := by rw [hto, heq, hft]; simp
        have hL : Kept (Ly.lit b s.data.toList = 0) := ⟨by unfold Ly.lit; rw [hml.out, if_neg (by simpa using heq), if_neg (by rw [hsl.out, ← hn.out]; exact hlt)]⟩
        obtain rfl : e1 = e := by rw [HE.out, hL.out]; split <;> simp_all
        clear heq hex hto hft
        go_enter Tryd.func78, Tryd.ntmps78
        go_wp2
        go_quiet (fail)
        go_wp2_with (go_at_call 35; refine (take_any p a l e1 ((s.size : Nat) : Int) _ (by exact H.out) (by omega) (by omega)).mono ?_; rintro r w2 ⟨A2, n2, c2, rfl, -, hr2, hg2⟩)
        go_end0
        exact ⟨rfl, hr2, (Quiet.grown ⟨_, rfl⟩ _).trans hg2⟩
      · have hb : (List.take s.size b == s.toList) = false := by rw [hto, ← hft]; simpa using heq
        have hL : Kept (Ly.lit b s.data.toList = 10) := ⟨by unfold Ly.lit; rw [hml.out, if_pos heq]⟩
        have hE1 : Kept ((if e = 0 then 10 else e) = e1) := ⟨by rw [HE.out, hL.out]⟩
        clear heq hex hto hft
        go_enter Tryd.func78, Tryd.ntmps78
        go_wp2
        go_quiet (fail)
        go_wp2_with (first
          | (go_at_call 33; refine (fail_any p a l e 10 _ (by exact H.out)).mono ?_; rintro r w1 ⟨rfl, hr1, hg1⟩; rw [hE1.out] at hr1; have r1 := Kept.mk hr1; have g1 : Kept (w.grownBy w1 (some p)) := ⟨(Quiet.grown ⟨_, rfl⟩ _).trans hg1⟩; clear hr1 hg1)
          | (go_at_call 35; refine (take_any p a l e1 ((s.size : Nat) : Int) w1 r1.out (by omega) (by omega)).mono ?_; rintro r w2 ⟨A2, n2, c2, rfl, -, hr2, hg2⟩))
        go_end0
        exact ⟨rfl, hr2, g1.out.trans hg2⟩
end Go.Proofs.YtknfkbgnfjfpeaaDoor
