/- The law WireRoundTrip: what it appends, and its closure. -/
import Derived.Test.YtknfkbgnfjfpeaaDoorWireO
import Derived.Test.YtknfkbgnfjfpeaaDoorWireM
import Derived.Test.YtknfkbgnfjfpeaaDoorOpenW
namespace Go.Proofs.YtknfkbgnfjfpeaaDoor
open Go.RowKit Go.Shelf

namespace RT
def id (ids : List UInt8) (i : Nat) : UInt8 := if h : i < ids.length then ids[i] else UInt8.ofNat i
def dat (L : List ByteArray) (i : Nat) : List UInt8 := (L.getD i ByteArray.empty).data.toList
def item (ids : List UInt8) (L : List ByteArray) (i : Nat) : List UInt8 := Wr.str (dat L i) ++ Wr.frame (id ids i) (dat L i)
def pre (ids : List UInt8) (L : List ByteArray) (k : Nat) : List UInt8 := (List.range k).flatMap (item ids L)
theorem pre_zero (ids : List UInt8) (L : List ByteArray) : pre ids L 0 = [] := rfl
theorem pre_succ (ids : List UInt8) (L : List ByteArray) (k : Nat) : pre ids L (k + 1) = pre ids L k ++ Wr.str (dat L k) ++ Wr.frame (id ids k) (dat L k) := by
  unfold pre
  rw [List.range_succ, List.flatMap_append]
  simp [item]
theorem pre_split (ids : List UInt8) (L : List ByteArray) (k n : Nat) (h : k ≤ n) : ∃ R, pre ids L n = pre ids L k ++ R := by
  obtain ⟨m, rfl⟩ := Nat.le.dest h
  exact ⟨_, by unfold pre; rw [List.range_add, List.flatMap_append]⟩
/-- the law's own sum -/
def sm (L : List ByteArray) : Nat → Nat
  | 0 => 0
  | k + 1 => sm L k + (1 + min (dat L k).length 2000)
theorem sm_mono (L : List ByteArray) (k n : Nat) (h : k ≤ n) : sm L k ≤ sm L n := by
  induction n with
  | zero => rw [Nat.le_zero.1 h]; exact Nat.le_refl _
  | succ n ih =>
    rcases Nat.lt_or_ge n k with h1 | h1
    · rw [show k = n + 1 by omega]; exact Nat.le_refl _
    · have := ih h1
      show _ ≤ sm L n + _
      omega
theorem dat_le (L : List ByteArray) (k n : Nat) (h : k < n) (hs : sm L n ≤ 2000) : (dat L k).length < 2000 := by
  have h1 := sm_mono L (k + 1) n h
  have h2 : sm L (k + 1) = sm L k + (1 + min (dat L k).length 2000) := rfl
  omega
theorem pre_len (ids : List UInt8) (L : List ByteArray) (n : Nat) (hs : sm L n ≤ 2000) : ∀ k, k ≤ n → (pre ids L k).length ≤ 27 * sm L k
  | 0, _ => by simp [pre]
  | k + 1, hk => by
    have h1 := pre_len ids L n hs k (by omega)
    have h2 := dat_le L k n (by omega) hs
    have h3 : sm L (k + 1) = sm L k + (1 + min (dat L k).length 2000) := rfl
    have h4 := Vi.enc_len (dat L k).length (by omega)
    have h5 := Wr.frame_len_eq (id ids k) (dat L k)
    have h6 : (Wr.str (dat L k)).length = (Vi.enc (dat L k).length).length + (dat L k).length := by unfold Wr.str; simp
    rw [pre_succ, List.length_append, List.length_append]
    omega
theorem dat_eq {L : List ByteArray} {k : Nat} (h : k < L.length) : L[k].data.toList = dat L k := by
  unfold dat
  rw [List.getD_eq_getElem?_getD, List.getElem?_eq_getElem h]; rfl
theorem back {L : List ByteArray} {k : Nat} (h : k < L.length) : (⟨(dat L k).toArray⟩ : ByteArray) = L[k] := by
  rw [← dat_eq h]
end RT
set_option maxHeartbeats 1000000 in
theorem rtid_any (bx i : Nat) (A : Option Addr) (n c B : Nat) (ids : List UInt8) (w : World) (hb : w.cell? ⟨bx, 0, none⟩ = some (.slice A n c)) (hr : RdB w B A n c ids) :
    Calls Tryd.prog 27 #[.int .i64 (i : Int), .pointer (some ⟨bx, 0, none⟩)] w fun r w' => r = .returned (.int .u8 ((RT.id ids i).toNat : Int)) ∧ w = w' := by
  have hlc := hr.1
  have hcm := hr.2.1
  unfold maxLen at hcm
  have hn := Kept.mk hr.len
  by_cases hlt : i < n
  · have hil : i < ids.length := by rw [← hn.out]; exact hlt
    obtain ⟨b, off, rfl, hbb, hcell⟩ := hr.at_ hil
    have e : RT.id ids i = ids[i] := by unfold RT.id; rw [dif_pos hil]
    rw [e]
    generalize ids[i] = v at *
    clear hr e
    go_enter Tryd.func27, Tryd.ntmps27
    go_wp2
    go_ret
    exact ⟨rfl, rfl⟩
  · have e : RT.id ids i = UInt8.ofNat i := by unfold RT.id; rw [dif_neg (by rw [← hn.out]; exact hlt)]
    rw [e]
    have hge : (n : Int) ≤ (i : Int) := by omega
    have hv : ((UInt8.ofNat i).toNat : Int) = (i : Int) % 256 := by rw [UInt8.toNat_ofNat']; simp
    rw [hv]
    clear hr e hlt hv
    go_enter Tryd.func27, Tryd.ntmps27
    go_wp2
    go_ret
    exact ⟨by simp, rfl⟩
end Go.Proofs.YtknfkbgnfjfpeaaDoor
