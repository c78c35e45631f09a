/- Chapters 10, 13: Long; the program's Index; Total. -/
import Derived.Test.YtglnghdomoebfaaLarge
import Derived.Test.YtglnghdomoebfaaRecG
import Derived.Test.YtglnghdomoebfaaSymMath
import Derived.Test.YtglnghdomoebfaaShelfB
namespace Go.Proofs.Ytglnghdomoebfaa
open Go.RowKit Go.Shelf

set_option maxRecDepth 100000 in
set_option maxHeartbeats 4000000 in
theorem long_any (A : Option Addr) (n c B : Nat) (L : List ByteArray) (w : World) (hv : RdS w B A n c L) (hB : B ≤ w.heap.size) (hf : Sy.Fit L) :
    Calls Try.prog 15 #[.slice A n c] w fun e w' => ∃ v : Int, e = .returned (.int .i64 v) ∧ (v = 0 ∨ v = 1) ∧ (v = 0 → ∀ s ∈ L, s.size ≤ 65535) ∧ Gr w w' := by
  have hlc := hv.1
  have hcm := hv.2.1
  unfold maxLen at hcm
  have hn := Kept.mk hv.len
  have V := Kept.mk hv
  have F := Kept.mk hf
  clear hv hf
  go_enter Try.func15, Try.ntmps15
  go_wp2
  go_loopw [7] (fun i wr => ∃ k : Nat, k ≤ n ∧ i = .int .i64 k ∧ Kept (∀ s ∈ L.take k, s.size ≤ 65535) ∧ Gr w wr) (fun i _ => n - (intOf i).toNat)
  case atStart => exact ⟨0, by omega, rfl, ⟨by simp⟩, Gr.refl w⟩
  case round =>
    obtain ⟨k, hk, rfl, hd, gr⟩ := hrel
    by_cases hlt : k < n
    · have hkl : k < L.length := by rw [← hn.out]; exact hlt
      obtain ⟨b, off, rfl, hc⟩ := V.out.cells hB hkl
      have c0 := hc wr gr.below
      have G := Kept.mk gr
      have hs := F.out _ (List.getElem_mem hkl)
      unfold maxLen at hs
      have hnext : L[k].size ≤ 65535 → Kept (∀ s ∈ L.take (k + 1), s.size ≤ 65535) := fun h => ⟨by
        rw [List.take_succ_eq_append_getElem hkl]
        intro s hs
        rcases List.mem_append.1 hs with hs | hs
        · exact hd.out s hs
        · rw [List.mem_singleton.1 hs]; exact h⟩
      have HN := Kept.mk hnext
      clear hc gr hnext
      generalize L[k] = x at *
      by_cases hx : x.size ≤ 65535
      · have hx' : ¬ (65535 : Int) < (x.size : Int) := by omega
        have h2 := HN.out hx
        clear hx
        go_wp2
        go_roundw
        case rel => exact ⟨k + 1, by omega, by go_num, h2, G.out⟩
        case measure => simp [intOf]; omega
      · have hx' : (65535 : Int) < (x.size : Int) := by omega
        clear hx
        go_wp2
        go_ret
        exact ⟨1, rfl, .inr rfl, (fun h => by cases h), G.out⟩
    · have hd2 : Kept (∀ s ∈ L, s.size ≤ 65535) := ⟨by have := hd.out; rwa [List.take_of_length_le (by have := hn.out; omega)] at this⟩
      have G := Kept.mk gr
      clear gr hd
      go_wp2
      go_ret
      exact ⟨0, rfl, .inl rfl, fun _ => hd2.out, G.out⟩
def Sy.bs (T : List ByteArray) (s : ByteArray) : Nat := (T.filter fun x => St.lt x s).length
theorem search_any (A : Option Addr) (n c : Nat) (T : List ByteArray) (s : ByteArray) (w : World) (hv : RdS w w.heap.size A n c T) (hS : Sy.Srt T) (hn : n ≤ 1000000) :
    Calls Try.prog 69 #[.slice A n c, .string s] w fun e w' => e = .returned (.tuple #[.int .i64 (Sy.bs T s : Nat), .bool (Sy.idx T s).isSome]) ∧ ∃ q, w' = w.drewN q := by
  have hlen := hv.len
  have hlc := hv.1
  have hcm := hv.2.1
  unfold maxLen at hcm
  rcases Nat.eq_zero_or_pos n with h0 | h0
  · subst h0
    obtain rfl : T = [] := List.eq_nil_of_length_eq_zero hlen.symm
    exact (Any2.slices_BinarySearch_string_empty Try.bsL A c s w).mono fun e w' ⟨h1, h2⟩ => ⟨h1, 0, h2⟩
  · obtain ⟨b, off, rfl, -, hc⟩ := hv.2.2.2 h0
    refine (Any2.slices_BinarySearch_string Try.bsL b off n c (fun j => T.getD j ByteArray.empty) s w ?_ ?_).mono ?_
    · omega
    · intro j hj
      refine hc j _ ?_
      have hjl : j < T.length := by omega
      simp [svs, sv, List.getD, hjl]
    · rintro e w' ⟨h1, h2⟩
      refine ⟨?_, h2⟩
      rw [h1]
      subst hlen
      rw [Sy.search hS s]
      rcases Sy.search_idx hS s with ⟨h3, h4, h5⟩ | ⟨h3, h4⟩
      · rw [h3]
        have : decide (((T.filter fun x => St.lt x s).length < T.length) ∧ T.getD (T.filter fun x => St.lt x s).length ByteArray.empty = s) = true := by
          rw [decide_eq_true_iff]
          exact ⟨h4, by simp [List.getD, h4, h5]⟩
        rw [this]; rfl
      · rw [h3]
        have : decide (((T.filter fun x => St.lt x s).length < T.length) ∧ T.getD (T.filter fun x => St.lt x s).length ByteArray.empty = s) = false := by
          rw [decide_eq_false_iff_not]
          rintro ⟨h5, h6⟩
          exact h4 ⟨h5, by simpa [List.getD, h5] using h6⟩
        rw [this]; rfl
set_option maxHeartbeats 4000000 in
theorem sindex_any (A : Option Addr) (n c : Nat) (T : List ByteArray) (s : ByteArray) (w : World) (hv : RdS w w.heap.size A n c T) (hS : Sy.Srt T) (hn : n ≤ 1000000) :
    Calls Try.prog 47 #[.slice A n c, .string s] w fun e w' => e = .returned (.tuple #[.int .i64 (((Sy.idx T s).getD 0 : Nat) : Int), .bool (Sy.idx T s).isSome]) ∧ ∃ q, w' = w.drewN q := by
  have SE := Kept.mk (search_any A n c T s w hv hS hn)
  have hi := Sy.search_idx hS s
  have hi2 : Sy.idx T s = some (Sy.bs T s) ∨ Sy.idx T s = none := hi.imp (·.1) (·.1)
  clear hi hv hS
  rcases hi2 with h | h
  · rw [h] at SE ⊢
    simp only [Option.isSome_some, Option.getD_some] at SE ⊢
    clear h
    generalize Sy.bs T s = k at *
    go_enter Try.func47, Try.ntmps47
    go_wp2_with (go_at_call 69; refine SE.out.mono ?_; rintro e w1 ⟨rfl, q, rfl⟩)
    go_ret2
    exact ⟨rfl, q, rfl⟩
  · rw [h] at SE ⊢
    simp only [Option.isSome_none, Option.getD_none] at SE ⊢
    clear h
    generalize Sy.bs T s = k at *
    go_enter Try.func47, Try.ntmps47
    go_wp2_with (go_at_call 69; refine SE.out.mono ?_; rintro e w1 ⟨rfl, q, rfl⟩)
    go_ret2
    exact ⟨rfl, q, rfl⟩
end Go.Proofs.Ytglnghdomoebfaa
