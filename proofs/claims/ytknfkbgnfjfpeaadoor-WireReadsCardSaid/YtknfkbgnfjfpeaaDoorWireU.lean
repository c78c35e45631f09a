/- The law WireReads. -/
import Derived.Test.YtknfkbgnfjfpeaaDoorWireT
namespace Go.Proofs.YtknfkbgnfjfpeaaDoor
open Go.RowKit Go.Shelf

theorem RdrQ.new (w : World) (base : Nat) (A : Option Addr) (n c : Nat) (l : List UInt8) (h : OwnB w base A n c l) (hn : n ≤ 140737488340000) :
    RdrQ (w.alloc (.cells #[.slice A n c, .int .i64 0, .int .i64 0] 50)) w.heap.size l 0 0 :=
  ⟨A, n, c, heap_alloc_new w _, h.rd.alloc (Nat.le_refl _) _, hn, Nat.zero_le _⟩

set_option maxRecDepth 100000 in
set_option maxHeartbeats 4000000 in
theorem law_wreads (A : Option Addr) (n c : Nat) (l : List UInt8) (A' : Option Addr) (n' c' : Nat) (L : List ActV) (w : World) (hv : RdB w w.heap.size A n c l) (ha : Rd w w.heap.size 4 A' n' c' (L.flatMap actc)) (hfit : ∀ x ∈ L, x.fit) (ht : Tab w) :
    Calls Tryd.prog 6 #[.slice A n c, .slice A' n' c'] w fun r w' => r = .returned (.bool true) ∧ Below w.heap.size w w' := by
  have hlc := hv.1
  have hcm := hv.2.1
  have hlc' := ha.1
  have hcm' := ha.2.1
  unfold maxLen at hcm hcm'
  have V := Kept.mk hv
  have T := Kept.mk ht
  have HA := Kept.mk ha
  have HL : Kept (L.length = n') := ⟨by have := ha.2.2.1; rw [actcs_length] at this; omega⟩
  have HF := Kept.mk hfit
  clear hv ht ha hfit
  by_cases hbig : (2000 : Int) < (n : Int)
  · go_enter Tryd.func6, Tryd.ntmps6
    go_wp2_with (go_at_call 15; refine (alive_any _).mono ?_; rintro e w1 ⟨rfl, hb1⟩)
    go_ret
    exact ⟨rfl, hb1⟩
  by_cases hbig' : (100 : Int) < (n' : Int)
  · have hsm : (n : Int) ≤ 2000 := by omega
    go_enter Tryd.func6, Tryd.ntmps6
    go_wp2_with (go_at_call 15; refine (alive_any _).mono ?_; rintro e w1 ⟨rfl, hb1⟩)
    go_ret
    exact ⟨rfl, hb1⟩
  have hsm : (n : Int) ≤ 2000 := by omega
  have hsm' : (n' : Int) ≤ 100 := by omega
  clear hbig hbig'
  go_enter Tryd.func6, Tryd.ntmps6
  go_upto_region 7 with (first
    | (go_at_call 23; refine (newReader_any _ _ _ w.heap.size l w V.out (Nat.le_refl _) (by omega)).mono ?_; rintro r w1 ⟨p, rfl, hp1, hp2, hr1, hb1⟩; have r1 := Kept.mk hr1; have b1 := Kept.mk hb1; clear hr1 hb1)
    | (at_builtin; refine wpList_appB rfl (.tmp 22) (.tmp 23) rfl w1.heap.size _ _ _ [] rfl (OwnB.made w1 w1.heap.size (Nat.le_refl _)) w.heap.size _ _ _ l rfl ((V.out.below b1.out).alloc b1.out.size _) (by omega) (by simp) ?_; intro A3 c3 w3 hown hgrow hat; rw [List.nil_append, Nat.zero_add] at hown; have o3 := Kept.mk hown; have b3 : Kept (Below w1.heap.size w1 w3) := ⟨((Below.refl _ w1).alloc (Nat.le_refl _) _).grown hgrow (by simp) (fun g hg => by simp [ab] at hg; omega)⟩; clear hown hgrow hat))
  have hz3 := b3.out.size
  have R2 := Kept.mk ((r1.out.below b3.out hp2).box (.cells #[.slice A3 n c3, .int .i64 0, .int .i64 0] 50))
  have Q2 := Kept.mk (RdrQ.new w3 _ _ _ _ l o3.out (by omega))
  have B2 : Kept (Below w.heap.size w (w3.alloc (.cells #[.slice A3 n c3, .int .i64 0, .int .i64 0] 50))) := ⟨(bl_next b1.out b3.out).alloc (by have := b1.out.size; omega) _⟩
  have hpq : Kept (p ≠ w3.heap.size) := ⟨by omega⟩
  have hBq : Kept (w.heap.size ≤ w3.heap.size) := ⟨by omega⟩
  clear r1 b1 o3 b3
  generalize w3.alloc (.cells #[.slice A3 n c3, .int .i64 0, .int .i64 0] 50) = W2 at *
  generalize w3.heap.size = q at *
  go_wp2
  go_loopw [29] (fun i wr => ∃ k : Nat, k ≤ n' ∧ i = .int .i64 k ∧ Both wr p q l ∧ Below w.heap.size w wr) (fun i _ => n' - (intOf i).toNat)
  case atStart => exact ⟨0, Nat.zero_le _, rfl, ⟨0, 0, R2.out, Q2.out⟩, B2.out⟩
  case round =>
    clear R2 Q2 B2
    obtain ⟨k, hk, rfl, ⟨a, e, hr, hq⟩, hb⟩ := hrel
    by_cases hlt : k < n'
    · obtain ⟨b, off, rfl, hbb, hcell⟩ := HA.out.2.2.2 (by omega)
      have hkl : k < L.length := by rw [HL.out]; exact hlt
      have hx := HF.out L[k] (List.getElem_mem hkl)
      have hcl : ∀ j v, j < 4 → (actc L[k])[j]? = some v → wr.cell? ⟨b, off + (k * 4 + j), none⟩ = some v := fun j v hj hv => (hb.cell (p := ⟨b, off + (k * 4 + j), none⟩) hbb).trans (hcell _ v (by rw [actcs_get L k j hkl hj]; exact hv))
      obtain ⟨x, hxx⟩ : ∃ x, L[k] = x := ⟨_, rfl⟩
      rw [hxx] at hx hcl
      have k0 := hcl 0 _ (by omega) rfl
      have k1 := hcl 1 _ (by omega) rfl
      have k2 := hcl 2 _ (by omega) rfl
      have k3 := hcl 3 _ (by omega) rfl
      obtain ⟨kd, nn, u, id⟩ := x
      simp only [Nat.add_zero, ← Nat.add_assoc] at k0 k1 k2 k3
      have hz := hb.size
      have HS := Kept.mk (step_any p q a w.heap.size l e ⟨kd, nn, u, id⟩ hx (wr.alloc (.cells #[.int .i64 kd, .int .i64 nn, .int .u64 (u : Int), .int .u8 (id.toNat : Int)] 53)) (hr.box _) (hq.box _) hpq.out hp1 hBq.out ((T.out.below hb).alloc _))
      have HB2 := Kept.mk (hb.alloc hb.size (.cells #[.int .i64 kd, .int .i64 nn, .int .u64 (u : Int), .int .u8 (id.toNat : Int)] 53))
      clear hcl hcell hxx hx hr hq hb
      go_wp2_with (go_at_call 30; refine HS.out.mono ?_; rintro r w4 ⟨rfl, hbo, hb4⟩)
      go_roundw
      case rel => exact ⟨k + 1, by omega, by go_num, hbo, HB2.out.trans hb4⟩
      case measure => simp [intOf]; omega
    · have R3 := Kept.mk hr
      have Q3 := Kept.mk hq
      have B3 := Kept.mk hb
      clear hr hq hb
      go_wp2_with (first
        | (go_at_call 15; refine (alive_any _).mono ?_; rintro r w5 ⟨rfl, hb5⟩; have R5 := Kept.mk (R3.out.below hb5 R3.out.lt); have Q5 := Kept.mk (Q3.out.below hb5 Q3.out.lt); have B5 := Kept.mk (bl_next B3.out hb5); clear hb5)
        | (go_at_call 29; refine (end_any p a l e w5 R5.out).mono ?_; rintro r w6 ⟨rfl, rfl⟩)
        | (go_at_call 31; refine (endq_any q a l e w5 Q5.out).mono ?_; rintro r w6 ⟨rfl, q6⟩))
      go_ret
      exact ⟨rfl, B5.out.trans (q6.below _)⟩
end Go.Proofs.YtknfkbgnfjfpeaaDoor
