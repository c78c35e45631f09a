/- Chapters 10, 11: how large lists are. (LabM's text, with what it needs of LabG and LabH.) -/
import Derived.Test.YtglnghdomoebfaaLabF
namespace Go.Proofs.Ytglnghdomoebfaa
open Go.RowKit Go.Shelf

theorem RdS.cells {w : World} {B n c k : Nat} {A : Option Addr} {l : List ByteArray} (h : RdS w B A n c l) (hB : B ≤ w.heap.size) (hk : k < l.length) :
    ∃ b off, A = some ⟨b, off, none⟩ ∧ ∀ W, Below w.heap.size w W → W.cell? ⟨b, off + k, none⟩ = some (.string l[k]) := by
  obtain ⟨b, off, e, hb, h1⟩ := h.at_ hk
  exact ⟨b, off, e, fun W hW => (hW.cell (p := ⟨b, _, none⟩) (by show b < _; omega)).trans h1⟩
namespace Lb
def Fit (l : List Lab) : Prop := ∀ x ∈ l, x.n.size ≤ maxLen ∧ x.v.size ≤ maxLen
end Lb

namespace Sy
def tot (L : List ByteArray) : Nat := (L.map fun s => 1 + min s.size 200000).sum
theorem tot_take (L : List ByteArray) (k : Nat) (h : k < L.length) : tot (L.take (k + 1)) = tot (L.take k) + (1 + min L[k].size 200000) := by
  unfold tot
  rw [List.take_succ_eq_append_getElem h, List.map_append, List.sum_append]
  simp
def Fit (L : List ByteArray) : Prop := ∀ s ∈ L, s.size ≤ maxLen
end Sy
set_option maxRecDepth 100000 in
set_option maxHeartbeats 4000000 in
theorem large10_any (A : Option Addr) (n c B : Nat) (L : List ByteArray) (w : World) (hv : RdS w B A n c L) (hB : B ≤ w.heap.size) (hf : Sy.Fit L) :
    Calls Try.prog 14 #[.slice A n c] w fun e w' => ∃ v : Int, e = .returned (.int .i64 v) ∧ (v = 0 ∨ v = 1) ∧ (v = 0 → n ≤ 500 ∧ Sy.tot L ≤ 200000) ∧ Gr w w' := by
  have hlc := hv.1
  have hcm := hv.2.1
  unfold maxLen at hcm
  have hn := Kept.mk hv.len
  have V := Kept.mk hv
  have F := Kept.mk hf
  clear hv hf
  go_enter Try.func14, Try.ntmps14
  go_wp2
  go_loopw [3, 8] (fun s i wr => ∃ k a : Nat, k ≤ n ∧ a ≤ 200000 ∧ i = .int .i64 k ∧ s = .int .i64 a ∧ Kept (a = Sy.tot (L.take k) ∧ (0 < k → n ≤ 500)) ∧ Gr w wr) (fun _ i _ => n - (intOf i).toNat)
  case atStart => exact ⟨0, 0, by omega, by omega, rfl, rfl, ⟨rfl, fun h => by omega⟩, Gr.refl w⟩
  case round =>
    obtain ⟨k, a, hk, ha, rfl, rfl, hd, gr⟩ := hrel
    by_cases hlt : k < n
    · have hkl : k < L.length := by rw [← hn.out]; exact hlt
      obtain ⟨b, off, rfl, hc⟩ := V.out.cells hB hkl
      have c0 := hc wr gr.below
      have G := Kept.mk gr
      have hs := F.out _ (List.getElem_mem hkl)
      have ht := Kept.mk (Sy.tot_take L k hkl)
      unfold maxLen at hs
      clear hc gr
      generalize L[k] = x at *
      rcases Nat.lt_or_ge 200000 x.size with hx | hx
      rotate_left 1
      · have hx' : ¬ (200000 : Int) < (x.size : Int) := by omega
        have hm : min x.size 200000 = x.size := by omega
        rw [hm] at ht
        by_cases h1 : 200000 < a + (1 + x.size)
        · have h1' : (200000 : Int) < (a : Int) + (1 + (x.size : Int)) := by omega
          clear h1 hm
          go_wp2
          go_ret
          exact ⟨1, rfl, .inr rfl, (fun h => by cases h), G.out⟩
        · have h1' : ¬ (200000 : Int) < (a : Int) + (1 + (x.size : Int)) := by omega
          by_cases h2 : 500 < n
          · have h2' : (500 : Int) < (n : Int) := by omega
            clear h1 h2 hm
            go_wp2
            go_ret
            exact ⟨1, rfl, .inr rfl, (fun h => by cases h), G.out⟩
          · have h2' : ¬ (500 : Int) < (n : Int) := by omega
            have hd2 : Kept (a + (1 + x.size) = Sy.tot (L.take (k + 1)) ∧ (0 < k + 1 → n ≤ 500)) := ⟨by rw [ht.out, ← hd.out.1], fun _ => by omega⟩
            have hbnd : Kept (a + (1 + x.size) ≤ 200000) := ⟨by omega⟩
            clear h1 h2 hm
            go_wp2
            go_roundw
            case rel => exact ⟨k + 1, a + (1 + x.size), by omega, hbnd.out, by go_num, by go_num, hd2, G.out⟩
            case measure => simp [intOf]; omega
      · have h1' : (200000 : Int) < (a : Int) + 200001 := by omega
        have hx' : (200000 : Int) < (x.size : Int) := by omega
        have hw1 : IntKind.i64.wrap (1 + 200000) = 200001 := by rw [IntKind.wrap_i64]; rfl
        have ha0 : (0 : Int) ≤ (a : Int) := by omega
        have ha1 : (a : Int) ≤ 200000 := by omega
        generalize (a : Int) = ai at *
        clear ht hx ha
        go_wp2
        go_ret
        exact ⟨1, rfl, .inr rfl, (fun h => by cases h), G.out⟩
    · have G := Kept.mk gr
      have ht : L.take k = L := List.take_of_length_le (by have := hn.out; omega)
      have hr : Kept (n ≤ 500 ∧ Sy.tot L ≤ 200000) := ⟨by
        by_cases h0 : n = 0
        · omega
        · exact hd.out.2 (by omega), by rw [← ht, ← hd.out.1]; exact ha⟩
      clear gr
      go_wp2
      go_ret
      exact ⟨0, rfl, .inl rfl, fun _ => hr.out, G.out⟩
namespace Lb
theorem strs_fit {l : List Lab} (h : Fit l) : Sy.Fit (strs l) := fun s hs => by
  unfold strs at hs
  obtain ⟨x, hx, hm⟩ := List.mem_flatMap.1 hs
  have := h x hx
  rcases List.mem_cons.1 hm with rfl | hm
  · exact this.1
  · rw [List.mem_singleton] at hm; subst hm; exact this.2
end Lb
set_option maxHeartbeats 1000000 in
theorem large11_any (A : Option Addr) (n c : Nat) (l : List Lab) (w : World) (hv : RdL w w.heap.size A n c l) (hf : Lb.Fit l) :
    Calls Try.prog 28 #[.slice A n c] w fun e w' => ∃ v : Int, e = .returned (.int .i64 v) ∧ (v = 0 ∨ v = 1) ∧ (v = 0 → n ≤ 200) ∧ Below w.heap.size w w' := by
  have hlc := hv.1
  have hcm := hv.2.1
  unfold maxLen at hcm
  have V := Kept.mk hv
  have F := Kept.mk hf
  clear hv hf
  by_cases h : 200 < n
  · have h' : (200 : Int) < (n : Int) := by omega
    go_enter Try.func28, Try.ntmps28
    go_wp2
    go_ret
    exact ⟨1, rfl, .inr rfl, (fun h => by cases h), Below.refl _ _⟩
  · have h' : ¬ (200 : Int) < (n : Int) := by omega
    go_enter Try.func28, Try.ntmps28
    go_wp2_with (first
      | (go_at_call 27; refine (refStrings_any A n c l w V.out (by omega)).mono ?_; rintro e w1 ⟨A1, n1, c1, rfl, ho, hb⟩; have O := Kept.mk ho; have B1 := Kept.mk hb; clear ho hb)
      | (go_at_call 14; refine (large10_any A1 n1 c1 _ _ w1 O.out.rd (Nat.le_refl _) (Lb.strs_fit F.out)).mono ?_; rintro e w2 ⟨v, rfl, hv1, hv2, hg⟩; have G := Kept.mk hg; have HV := Kept.mk hv1; clear hg hv1 hv2))
    go_ret
    exact ⟨v, rfl, HV.out, fun _ => by omega, B1.out.trans (G.out.below.mono B1.out.size)⟩
end Go.Proofs.Ytglnghdomoebfaa
