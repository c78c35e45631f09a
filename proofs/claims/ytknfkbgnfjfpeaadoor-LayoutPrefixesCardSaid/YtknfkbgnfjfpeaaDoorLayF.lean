/- Chapter 16: the reference's literal. -/
import Derived.Test.YtknfkbgnfjfpeaaDoorLayE
namespace Go.Proofs.YtknfkbgnfjfpeaaDoor
open Go.RowKit Go.Shelf

namespace Ly
theorem lit_ne {b s : List UInt8} {k : Nat} (h1 : k < b.length) (h2 : k < s.length) (h : b[k] ≠ s[k]) : lit b s = 10 := by
  unfold lit
  rw [if_pos]
  intro e
  have h3 : (b.take (min b.length s.length))[k]? = (s.take (min b.length s.length))[k]? := by rw [e]
  rw [List.getElem?_take, List.getElem?_take, if_pos (by omega), if_pos (by omega), List.getElem?_eq_getElem h1, List.getElem?_eq_getElem h2] at h3
  exact h (Option.some.inj h3)
theorem lit_end {b s : List UInt8} (h : b.take (min b.length s.length) = s.take (min b.length s.length)) : lit b s = if b.length < s.length then 3 else 0 := by
  unfold lit
  rw [if_neg (by simpa using h)]
theorem take_step {b s : List UInt8} {k : Nat} (h1 : k < b.length) (h2 : k < s.length) (h : b.take k = s.take k) (he : b[k] = s[k]) : b.take (k + 1) = s.take (k + 1) := by
  rw [List.take_succ_eq_append_getElem h1, List.take_succ_eq_append_getElem h2, h, he]
end Ly
theorem idxStr (s : ByteArray) (k : Nat) (h : k < s.data.toList.length) (w : World) : (Instr.index 9 (.string s) (.int .i64 (k : Int))).run Tryd.prog w = .ok (.int .u8 (s.data.toList[k].toNat : Int)) w := by
  unfold Instr.index
  have h1 : k < s.size := by rw [Array.length_toList] at h; exact h
  have h2 : s[k]? = some s.data.toList[k] := by
    rw [getElem?_pos s k h1]
    rfl
  simp [asIntOf, run_underlying Tryd.underlying9]
  rw [h2]
  rfl

set_option maxRecDepth 100000 in
set_option maxHeartbeats 2000000 in
theorem refLiteral_any (A : Option Addr) (n c B : Nat) (b : List UInt8) (s : ByteArray) (w : World) (hv : RdB w B A n c b) (hs : s.size ≤ 100) :
    Calls Tryd.prog 71 #[.slice A n c, .string s] w fun r w' => r = .returned (.int .i64 (Ly.lit b s.data.toList)) ∧ Quiet w w' := by
  have hn := Kept.mk hv.len
  have hlc := hv.1
  have hcm := hv.2.1
  unfold maxLen at hcm
  have hsl : Kept (s.data.toList.length = s.size) := ⟨by rw [Array.length_toList]; rfl⟩
  have Hv := Kept.mk hv
  clear hv
  go_enter Tryd.func71, Tryd.ntmps71
  go_wp2
  go_loopw [5] (fun i wr => ∃ k : Nat, k ≤ n ∧ k ≤ s.size ∧ i = .int .i64 k ∧ Kept (b.take k = s.data.toList.take k) ∧ Quiet w wr) (fun i _ => n - (intOf i).toNat)
  case atStart => exact ⟨0, Nat.zero_le _, Nat.zero_le _, rfl, ⟨by simp⟩, ⟨0, rfl⟩⟩
  case round =>
    obtain ⟨k, hk1, hk2, rfl, htk, j, rfl⟩ := hrel
    by_cases hlt : k < s.size
    · by_cases hlt2 : k < n
      · have hb1 : k < b.length := by rw [← hn.out]; exact hlt2
        have hs1 : k < s.data.toList.length := by rw [hsl.out]; exact hlt
        obtain ⟨bb, off, rfl, hbb, hcell⟩ := Hv.out.at_ hb1
        have hidx := fun W => idxStr s k hs1 W
        have hne := Kept.mk (fun h => Ly.lit_ne hb1 hs1 h)
        have hst := Kept.mk (fun h => Ly.take_step hb1 hs1 htk.out h)
        by_cases he : b[k] = s.data.toList[k]
        · have hst' := Kept.mk (hst.out he)
          rw [he] at hcell
          clear hne hst he htk
          generalize s.data.toList[k].toNat = v at *
          go_wp2
          go_quiet (fail)
          go_wp2
          go_roundw
          case rel => exact ⟨k + 1, by omega, by omega, by go_num, hst', ⟨j + nq, by simp⟩⟩
          case measure => simp [intOf]; omega
        · have hL := Kept.mk (hne.out he)
          have hvn : b[k].toNat ≠ s.data.toList[k].toNat := fun h => he (UInt8.toNat_inj.1 h)
          clear hne hst he htk
          generalize b[k].toNat = v1 at *
          generalize s.data.toList[k].toNat = v2 at *
          have hvb : ((v1 : Int) == (v2 : Int)) = false := by simp; omega
          have hvb' : ((v1 : Int) != (v2 : Int)) = true := by simp; omega
          clear hvn
          go_wp2
          go_quiet (fail)
          go_wp2
          go_ret
          exact ⟨by rw [hL.out]; rfl, ⟨j + nq, by simp⟩⟩
      · obtain rfl : k = n := by omega
        have hL : Kept (Ly.lit b s.data.toList = 3) := ⟨by
          rw [Ly.lit_end (by rw [hsl.out, ← hn.out, show min k s.size = k by omega]; exact htk.out), if_pos (by rw [hsl.out, ← hn.out]; exact hlt)]⟩
        clear htk
        go_wp2
        go_ret
        exact ⟨by rw [hL.out]; rfl, ⟨j, rfl⟩⟩
    · obtain rfl : k = s.size := by omega
      have hL : Kept (Ly.lit b s.data.toList = 0) := ⟨by
        rw [Ly.lit_end (by rw [hsl.out, ← hn.out, show min n s.size = s.size by omega]; exact htk.out), if_neg (by rw [hsl.out, ← hn.out]; omega)]⟩
      have hge : (s.size : Int) ≤ (n : Int) := by omega
      clear htk
      go_wp2
      go_ret
      exact ⟨by rw [hL.out]; rfl, ⟨j, rfl⟩⟩
end Go.Proofs.YtknfkbgnfjfpeaaDoor
