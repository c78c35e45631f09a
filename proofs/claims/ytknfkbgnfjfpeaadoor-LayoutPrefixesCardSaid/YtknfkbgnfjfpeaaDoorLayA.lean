/- Chapter 16: the table of contents. -/
import Derived.Test.YtknfkbgnfjfpeaaDoorWireM
import Derived.Test.YtknfkbgnfjfpeaaDoorWireS
namespace Go.Proofs.YtknfkbgnfjfpeaaDoor
open Go.RowKit Go.Shelf

namespace Ly
def con (m : Nat → Nat) (k : Nat) : List UInt8 := (List.range k).flatMap fun i => Vi.enc (m i)
theorem con_succ (m : Nat → Nat) (k : Nat) : con m (k + 1) = con m k ++ Vi.enc (m k) := by unfold con; rw [List.range_succ, List.flatMap_append]; simp
theorem con_len (m : Nat → Nat) (hm : ∀ i, m i ≤ 140737488355328) (k : Nat) : (con m k).length ≤ 10 * k := by
  induction k with
  | zero => simp [con]
  | succ k ih =>
    have := Vi.enc_len (m k) (by have := hm k; omega)
    rw [con_succ, List.length_append]
    omega
def at5 (m : Nat → Nat) : Array Value := #[.int .i64 (m 0 : Int), .int .i64 (m 1 : Int), .int .i64 (m 2 : Int), .int .i64 (m 3 : Int), .int .i64 (m 4 : Int)]
theorem at5_get (m : Nat → Nat) (k : Nat) (h : k < 5) : (at5 m)[k]? = some (.int .i64 (m k : Int)) := by
  match k, h with
  | 0, _ => rfl
  | 1, _ => rfl
  | 2, _ => rfl
  | 3, _ => rfl
  | 4, _ => rfl
end Ly

set_option maxRecDepth 100000 in
set_option maxHeartbeats 2000000 in
theorem contents_any (m : Nat → Nat) (w : World) (hm : ∀ i, m i ≤ 140737488355328) :
    Calls Tryd.prog 69 #[.agg (Ly.at5 m)] w fun e w' => ∃ A n c, e = .returned (.slice A n c) ∧ OwnB w' w.heap.size A n c (Ly.con m 4) ∧ Below w.heap.size w w' := by
  obtain ⟨W1, hW1⟩ : ∃ W1, W1 = w.alloc (.cells (Ly.at5 m) 67) := ⟨_, rfl⟩
  have hb0 : Kept (Below w.heap.size w W1) := ⟨by rw [hW1]; exact (Below.refl _ w).alloc (Nat.le_refl _) _⟩
  have hz0 : Kept (W1.heap.size = w.heap.size + 1) := ⟨by rw [hW1]; simp⟩
  have hz1 : w.heap.size < W1.heap.size := by rw [hz0.out]; omega
  have hcl : Kept (∀ k, k < 5 → W1.cell? ⟨w.heap.size, k, none⟩ = some (.int .i64 (m k : Int))) := ⟨fun k hk => by rw [hW1]; exact (World.cell?_alloc_mark w _ _ _ k).trans (Ly.at5_get m k hk)⟩
  have HW : Kept (w.alloc (.cells #[.int .i64 (m 0 : Int), .int .i64 (m 1 : Int), .int .i64 (m 2 : Int), .int .i64 (m 3 : Int), .int .i64 (m 4 : Int)] 67) = W1) := ⟨hW1.symm⟩
  clear hW1
  show Calls _ _ #[.agg #[.int .i64 (m 0 : Int), .int .i64 (m 1 : Int), .int .i64 (m 2 : Int), .int .i64 (m 3 : Int), .int .i64 (m 4 : Int)]] _ _
  go_enter Tryd.func69, Tryd.ntmps69
  go_upto_region 2 with fail
  rw [HW.out]
  go_wp2
  go_loopw [3, 8] (fun o i wr => ∃ k : Nat, k ≤ 4 ∧ i = .int .i64 k ∧ ∃ A n c, o = .slice A n c ∧ OwnB wr W1.heap.size A n c (Ly.con m k) ∧ Below W1.heap.size W1 wr) (fun _ i _ => 4 - (intOf i).toNat)
  case atStart => exact ⟨0, by omega, rfl, none, 0, 0, rfl, OwnB.nil _ _, Below.refl _ _⟩
  case round =>
    obtain ⟨k, hk, rfl, A, n, c, rfl, ho, hb⟩ := hrel
    by_cases hlt : k < 4
    · have hc := (hb.cell (p := ⟨w.heap.size, k, none⟩) hz1).trans (hcl.out k (by omega))
      have hmk := hm k
      have hmk2 : (m k : Int) ≤ 140737488355328 := by omega
      have hn : n ≤ 100 := by have h1 := ho.len; have h2 := Ly.con_len m hm k; omega
      have hs := Kept.mk (Ly.con_succ m k)
      have Ho := Kept.mk ho
      have Hb := Kept.mk hb
      have hz := hb.size
      clear ho hb
      generalize m k = x at *
      go_wp2_with (go_at_call 46; refine (vappend_any A n c W1.heap.size x _ wr Ho.out hz (by omega) (by omega)).mono ?_; rintro r w2 ⟨A2, n2, c2, rfl, ho2, hg2, -⟩; have o2 := Kept.mk ho2; have b2 := Kept.mk (Hb.out.trans (own_grown_below Ho.out hz hg2)); clear ho2 hg2)
      go_roundw
      case rel => exact ⟨k + 1, by omega, by go_num, A2, n2, c2, rfl, by rw [hs.out]; exact o2.out, b2.out⟩
      case measure => simp [intOf]; omega
    · obtain rfl : k = 4 := by omega
      have Ho := Kept.mk ho
      have Hb := Kept.mk hb
      clear ho hb
      go_wp2
      go_ret
      exact ⟨A, n, c, rfl, Ho.out.base (by omega), hb0.out.trans (Hb.out.mono (by omega))⟩
set_option maxRecDepth 100000 in
set_option maxHeartbeats 2000000 in
theorem refContents_any (m : Nat → Nat) (w : World) (hm : ∀ i, m i ≤ 140737488355328) :
    Calls Tryd.prog 70 #[.agg (Ly.at5 m)] w fun e w' => ∃ A n c, e = .returned (.slice A n c) ∧ OwnB w' w.heap.size A n c (Ly.con m 4) ∧ Below w.heap.size w w' := by
  obtain ⟨W1, hW1⟩ : ∃ W1, W1 = w.alloc (.cells (Ly.at5 m) 67) := ⟨_, rfl⟩
  have hb0 : Kept (Below w.heap.size w W1) := ⟨by rw [hW1]; exact (Below.refl _ w).alloc (Nat.le_refl _) _⟩
  have hz0 : Kept (W1.heap.size = w.heap.size + 1) := ⟨by rw [hW1]; simp⟩
  have hz1 : w.heap.size < W1.heap.size := by rw [hz0.out]; omega
  have hcl : Kept (∀ k, k < 5 → W1.cell? ⟨w.heap.size, k, none⟩ = some (.int .i64 (m k : Int))) := ⟨fun k hk => by rw [hW1]; exact (World.cell?_alloc_mark w _ _ _ k).trans (Ly.at5_get m k hk)⟩
  have HW : Kept (w.alloc (.cells #[.int .i64 (m 0 : Int), .int .i64 (m 1 : Int), .int .i64 (m 2 : Int), .int .i64 (m 3 : Int), .int .i64 (m 4 : Int)] 67) = W1) := ⟨hW1.symm⟩
  clear hW1
  show Calls _ _ #[.agg #[.int .i64 (m 0 : Int), .int .i64 (m 1 : Int), .int .i64 (m 2 : Int), .int .i64 (m 3 : Int), .int .i64 (m 4 : Int)]] _ _
  go_enter Tryd.func70, Tryd.ntmps70
  go_upto_region 2 with fail
  rw [HW.out]
  go_wp2
  go_loopw [3, 4] (fun o i wr => ∃ k : Nat, k ≤ 4 ∧ i = .int .i64 k ∧ ∃ A n c, o = .slice A n c ∧ OwnB wr W1.heap.size A n c (Ly.con m k) ∧ Below W1.heap.size W1 wr) (fun _ i _ => 4 - (intOf i).toNat)
  case atStart => exact ⟨0, by omega, rfl, none, 0, 0, rfl, OwnB.nil _ _, Below.refl _ _⟩
  case round =>
    obtain ⟨k, hk, rfl, A, n, c, rfl, ho, hb⟩ := hrel
    by_cases hlt : k < 4
    · have hc := (hb.cell (p := ⟨w.heap.size, k, none⟩) hz1).trans (hcl.out k (by omega))
      have hmk := hm k
      have hmk2 : (m k : Int) ≤ 140737488355328 := by omega
      have hn : n ≤ 100 := by have h1 := ho.len; have h2 := Ly.con_len m hm k; omega
      have hs := Kept.mk (Ly.con_succ m k)
      have hel := Kept.mk (Vi.enc_len (m k) (by omega))
      have Ho := Kept.mk ho
      have Hb := Kept.mk hb
      have hz := hb.size
      clear ho hb
      generalize m k = x at *
      go_wp2_with (first
        | (go_at_call 48; refine (refEncode_any x wr (by omega)).mono ?_; rintro r w2 ⟨A2, n2, c2, rfl, ho2, hb2⟩; have r2 := Kept.mk ho2.rd; have hn2 : n2 ≤ 10 := (by have h1 := ho2.len; have h2 := hel.out; omega); have o2 := Kept.mk (OwnB.keep Ho.out hb2); have b2 := Kept.mk (bl_next Hb.out hb2); have z2 := b2.out.size; clear ho2 hb2)
        | (at_builtin; refine wpList_appB rfl (.tmp 9) (.tmp 14) rfl W1.heap.size _ _ _ _ rfl o2.out _ _ _ _ _ rfl r2.out (by omega) z2 ?_; intro A3 c3 w3 hown hgrow hat; have o3 := Kept.mk hown; have b3 := Kept.mk (b2.out.trans (own_grown_below o2.out z2 hgrow)); clear hown hgrow hat))
      go_roundw
      case rel => exact ⟨k + 1, by omega, by go_num, A3, n + n2, c3, rfl, by rw [hs.out]; exact o3.out, b3.out⟩
      case measure => simp [intOf]; omega
    · obtain rfl : k = 4 := by omega
      have Ho := Kept.mk ho
      have Hb := Kept.mk hb
      clear ho hb
      go_wp2
      go_ret
      exact ⟨A, n, c, rfl, Ho.out.base (by omega), hb0.out.trans (Hb.out.mono (by omega))⟩
end Go.Proofs.YtknfkbgnfjfpeaaDoor
