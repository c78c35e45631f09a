/- Chapter 13: Unused at the chapter's example. -/
import Derived.Test.YtglnghdomoebfaaRecK
import Derived.StringKeys
namespace Go.Proofs.Ytglnghdomoebfaa
open Go.RowKit Go.Shelf
open Go.Maps (Keyed)
open Go.WideMaps (keyOf_string_mk)

namespace Rc
def sa : ByteArray := ⟨#[97]⟩
def sx : ByteArray := ⟨#[120]⟩
def ka : Lit := .string [97]
def kx : Lit := .string [120]
def tt : DataW Unit := .lit (.bool true)
def D0 : DataW Unit := .map []
def D1 : DataW Unit := D0.put ka tt
def D2 : DataW Unit := D1.put kx tt
theorem atA : D2.atKey ka (.lit (.bool false)) = .lit (.bool true) := by rfl
theorem atX : D2.atKey kx (.lit (.bool false)) = .lit (.bool true) := by rfl
end Rc
theorem lawS : Keyed Try.prog 9 := Go.Maps.string_keyed Try.underlying9
theorem zeroBool (w : World) : (zeroValue 4).run Try.prog w = .ok (.bool false) w := by kernel_rfl
theorem keyA : keyOf Try.prog 9 (.string Rc.sa) = some Rc.ka := keyOf_string_mk Try.underlying9 (by decide)
theorem keyX : keyOf Try.prog 9 (.string Rc.sx) = some Rc.kx := keyOf_string_mk Try.underlying9 (by decide)
namespace Rc
def Dk : Nat → DataW Unit
  | 0 => D0
  | _ => D2
def Ej : Nat → DataW Unit
  | 0 => D0
  | 1 => D1
  | _ => D2
theorem key_step (j : Nat) (h : j < [sa, sx].length) : ∃ kl, keyOf Try.prog 9 (.string [sa, sx][j]) = some kl ∧ Ej (j + 1) = (Ej j).put kl (.lit (.bool true)) := by
  have hj : j = 0 ∨ j = 1 := by simp at h; omega
  rcases hj with rfl | rfl
  · exact ⟨_, keyA, rfl⟩
  · exact ⟨_, keyX, rfl⟩
end Rc
theorem strs_ex : Lb.strs [⟨Rc.sa, Rc.sx⟩] = [Rc.sa, Rc.sx] := rfl
set_option maxRecDepth 100000 in
set_option maxHeartbeats 4000000 in
theorem unused_ex (TA A : Option Addr) (tc c : Nat) (w : World) (hT : RdS w w.heap.size TA 2 tc [Rc.sa, Rc.sx]) (hv : RdR w w.heap.size A 1 c [([⟨Rc.sa, Rc.sx⟩], [20])]) :
    Calls Try.prog 44 #[.slice TA 2 tc, .slice A 1 c] w fun e w' => e = .returned (.int .i64 (-1)) ∧ Below w.heap.size w w' := by
  obtain ⟨hlc, hcm⟩ := hv.cap
  unfold maxLen at hcm
  have htc := hT.1
  have htm := hT.2.1
  unfold maxLen at htm
  have V := Kept.mk hv
  have VT := Kept.mk hT
  clear hv hT
  have hmm := @run_makeMap Try.prog
  go_enter Try.func44, Try.ntmps44
  go_wp2
  go_loopw [15] (fun i wr => ∃ k : Nat, k ≤ 1 ∧ i = .int .i64 k ∧ wr.ownsMap Try.prog 9 (plainElem Try.prog 4) w.heap.size (2 * k) (Rc.Dk k) ∧ Below w.heap.size w wr) (fun i _ => 1 - (intOf i).toNat)
  case atStart => exact ⟨0, by omega, rfl, World.ownsMap_made _ _ _ _, (Below.refl _ _).alloc (Nat.le_refl _) _⟩
  case round =>
    obtain ⟨k, hk, rfl, hm, hb⟩ := hrel
    by_cases hlt : k < 1
    · obtain ⟨b, off, A3, n3, c3, A4, n4, c4, rfl, hL, hC, hc⟩ := V.out.cells (Nat.le_refl _) (show k < [([(⟨Rc.sa, Rc.sx⟩ : Lab)], [(20 : Int)])].length by simpa using hlt)
      obtain ⟨r0, r1⟩ := hc wr hb
      simp only [List.getElem_singleton] at hL hC
      have hm0 : wr.ownsMap Try.prog 9 (plainElem Try.prog 4) w.heap.size 0 Rc.D0 := by
        obtain rfl : k = 0 := by omega
        exact hm
      obtain rfl : n3 = 1 := hL.len
      have hc3 := hL.1
      have hm3 := hL.2.1
      unfold maxLen at hm3
      have HL := Kept.mk hL
      have B := Kept.mk hb
      have MP := Kept.mk hm0
      clear hL hC hc hb hm hm0
      have W1 : ∀ o, Below w.heap.size w (wr.alloc o) := fun o => B.out.alloc B.out.size _
      go_upto_region 6 with (go_at_call 41; refine (lstrings_any A3 1 c3 _ _ ((HL.out.below (W1 _)).more (W1 _).size) (by omega)).mono ?_; rintro e w3 ⟨A6, n6, c6, rfl, ho, hb⟩; have O3 := Kept.mk ho; have B3 := Kept.mk hb; clear ho hb)
      have hzr := B.out.size
      have M3 : Kept (w3.ownsMap Try.prog 9 (plainElem Try.prog 4) w.heap.size 0 Rc.D0) := ⟨(MP.out.alloc _).kept (grown_of_below (row := none) B3.out) (by simp)⟩
      have BB := Kept.mk ((W1 _).trans (B3.out.mono (W1 _).size))
      have hlt0 := MP.out.lt
      have H6 : Kept (n6 = 2) := ⟨O3.out.len⟩
      have h62 : n6 ≤ 2 := by have := H6.out; omega
      rw [strs_ex] at O3
      have hbase : w.heap.size < (wr.alloc (.cells #[.slice A3 1 c3, .slice A4 n4 c4] 72)).heap.size := by simp; omega
      generalize (wr.alloc (.cells #[.slice A3 1 c3, .slice A4 n4 c4] 72)).heap.size = Z at *
      clear r0 r1 B3 MP W1 hzr hlt0
      go_loopw [23] (fun i wi => ∃ j : Nat, j ≤ n6 ∧ i = .int .i64 j ∧ wi.ownsMap Try.prog 9 (plainElem Try.prog 4) w.heap.size j (Rc.Ej j) ∧ Below w.heap.size w wi ∧ OwnS wi Z A6 n6 c6 [Rc.sa, Rc.sx]) (fun i _ => n6 - (intOf i).toNat)
      case atStart => exact ⟨0, by omega, rfl, M3.out, BB.out, O3.out⟩
      case round =>
        clear M3 BB O3
        obtain ⟨j, hj, rfl, hm, hb, ho⟩ := hrel
        have keep : ∀ W, wr.grownBy W (some w.heap.size) → Below w.heap.size w W ∧ OwnS W Z A6 n6 c6 [Rc.sa, Rc.sx] := fun W hg => ⟨hb.grown hg hb.size (fun g e => by cases e; exact Nat.le_refl _), own_grown ho hg (by
          rcases hA : ab A6 with _ | g'
          · exact .inl rfl
          · exact .inr fun e => by have := (own_lt ho g' hA).1; have := Option.some.inj e; omega)⟩
        have KEEP := Kept.mk keep
        by_cases hlt2 : j < n6
        · have hjl : j < [Rc.sa, Rc.sx].length := by have := H6.out; simp; omega
          obtain ⟨b4, off4, rfl, hc⟩ := ho.rd.cells (Nat.le_refl _) hjl
          have z0 := hc wr (Below.refl _ _)
          have MP := Kept.mk hm
          obtain ⟨kl, kk1, kk2⟩ := Rc.key_step j hjl
          have HK1 := Kept.mk kk1
          have HK2 := Kept.mk kk2
          clear hb ho hm hc keep kk1 kk2
          generalize [Rc.sa, Rc.sx][j] = s at *
          go_wp2_with (at_mapUpdate; refine wpList_mapUpdate_own _ rfl _ _ _ 112 rfl 9 4 lawS Try.underlying112 _ w.heap.size j _ rfl MP.out (by unfold maxLen; omega) _ _ _ rfl rfl HK1.out _ [] (plainElem_bool Try.underlying4 true) ?_; intro w1 hown1 hgrow1; have K1 := Kept.mk (KEEP.out _ hgrow1); have M1 := Kept.mk hown1; clear hown1 hgrow1)
          go_roundw
          case rel => exact ⟨j + 1, by omega, by go_num, by rw [HK2.out]; exact M1.out, K1.out.1, K1.out.2⟩
          case measure => simp [intOf]; omega
        · obtain ⟨MP⟩ : Nonempty (PLift (wr.ownsMap Try.prog 9 (plainElem Try.prog 4) w.heap.size (2 * (k + 1)) (Rc.Dk (k + 1)))) := ⟨⟨by
            obtain rfl : k = 0 := by omega
            have e : j = 2 := by have := H6.out; omega
            rw [e] at hm
            exact hm⟩⟩
          have B2 := Kept.mk hb
          clear hb ho hm keep
          go_wp2
          go_roundw
          case rel => exact ⟨k + 1, by omega, by go_num, MP.down, B2.out⟩
          case measure => simp [intOf]; omega
    · have MP : Kept (wr.ownsMap Try.prog 9 (plainElem Try.prog 4) w.heap.size 2 Rc.D2) := ⟨by
        have e : k = 1 := by omega
        rw [e] at hm
        exact hm⟩
      have B2 := Kept.mk hb
      clear hb hm
      go_upto_region 12 with fail
      go_loopw [33] (fun i wi => ∃ j : Nat, j ≤ 2 ∧ i = .int .i64 j ∧ wi.ownsMap Try.prog 9 (plainElem Try.prog 4) w.heap.size 2 Rc.D2 ∧ Below w.heap.size w wi) (fun i _ => 2 - (intOf i).toNat)
      case atStart => exact ⟨0, by omega, rfl, MP.out, B2.out⟩
      case round =>
        clear MP B2
        obtain ⟨j, hj, rfl, hm, hb⟩ := hrel
        by_cases hlt : j < 2
        · obtain ⟨b4, off4, rfl, -, z0⟩ := ((VT.out.below hb).more hb.size).at_ (show j < [Rc.sa, Rc.sx].length by simpa using hlt)
          have MP := Kept.mk hm
          have B2 := Kept.mk hb
          have hj2 : j = 0 ∨ j = 1 := by omega
          have KX : ∃ kl, keyOf Try.prog 9 (.string ([Rc.sa, Rc.sx][j]'(by simpa using hlt))) = some kl ∧ Rc.D2.atKey kl (.lit (.bool false)) = .lit (.bool true) := by
            rcases hj2 with rfl | rfl
            · exact ⟨_, keyA, Rc.atA⟩
            · exact ⟨_, keyX, Rc.atX⟩
          obtain ⟨kl, kk1, kk2⟩ := KX
          have HK1 := Kept.mk kk1
          have HK2 := Kept.mk kk2
          clear hb hm hj2 kk1 kk2
          generalize ([Rc.sa, Rc.sx][j]'(by simpa using hlt)) = s at *
          go_wp2_with (at_lookup; refine wpList_lookup_own_bool _ rfl _ _ 112 rfl 9 4 lawS Try.underlying112 Try.underlying4 (zeroBool _) w.heap.size 2 _ rfl MP.out _ _ rfl HK1.out true HK2.out ?_)
          go_roundw
          case rel => exact ⟨j + 1, by omega, by go_num, MP.out, B2.out⟩
          case measure => simp [intOf]; omega
        · have B2 := Kept.mk hb
          clear hb hm
          go_wp2
          go_ret
          exact ⟨rfl, B2.out⟩
end Go.Proofs.Ytglnghdomoebfaa
