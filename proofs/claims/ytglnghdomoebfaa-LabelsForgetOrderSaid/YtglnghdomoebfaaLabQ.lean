/- slices.Grow, slices.Concat, slices.Reverse at labels. (Printed by gen_labq.py.) -/
import Derived.Test.YtglnghdomoebfaaLabN
import Derived.Lib.AppendZerosOnto
import Derived.RegionTactic
namespace Go.Proofs.Ytglnghdomoebfaa
open Go.RowKit Go.Shelf

set_option maxHeartbeats 1000000 in
theorem growL_any (n : Nat) (w : World) (hn : n ≤ 1000) :
    Calls Try.prog 67 #[.slice none 0 0, .int .i64 n] w fun e w' => ∃ A c, e = .returned (.slice A 0 c) ∧ w'.ownsRow w.heap.size 57 2 (.slice A 0 c) 0 [] ∧ Below w.heap.size w w' := by
  by_cases h0 : n = 0
  · subst h0
    go_enter Try.func67, Try.ntmps67
    go_wp2
    go_ret
    exact ⟨none, 0, rfl, World.ownsRow_nil _ _ _ _, Below.refl _ _⟩
  · obtain ⟨i0, hi0, hz0, hz1, hz2⟩ := info_parts infoL
    have hp : (0 : Int) < (n : Int) := by omega
    have hrz : ∀ ty, (Builtin.append_ #[46, 3] ty #[.slice none 0 0, .int .i64 (n : Int)]).run Try.prog w =
        .ok (.slice (some ⟨w.heap.size, 0, none⟩) (0 + n) (grownCap w (0 + n) 0 57)) (w.drew.alloc (.cells (([] : List Value).toArray ++ Builtin.zeroCells (Value.agg #[.string ByteArray.empty, .string ByteArray.empty]).cells n ++ Builtin.zeroCells (Value.agg #[.string ByteArray.empty, .string ByteArray.empty]).cells (grownCap w (0 + n) 0 57 - (0 + n))) 57)) := fun ty => by
      refine Lib.run_append_grow_zeros w 46 3 ty 57 i0 (.agg #[.string ByteArray.empty, .string ByteArray.empty]) .i64 .i64 Try.underlying46 Try.underlying3 hi0 hz0 none 0 0 [] (run_firstCells_none w.drew i0.size 0 0 0) n (by omega) (by omega) (by omega) (by omega) (by rw [hz2]; omega) ?_
      rw [hz2]
      exact growslice_fits (by omega) (by omega)
    have hlo := grownCap_ge w (0 + n) 0 57
    have hhi := grownCap_le_maxLen w (0 + n) 0 57 (by unfold maxLen; omega)
    have hsz : (([] : List Value).toArray ++ Builtin.zeroCells (Value.agg #[.string ByteArray.empty, .string ByteArray.empty]).cells n ++ Builtin.zeroCells (Value.agg #[.string ByteArray.empty, .string ByteArray.empty]).cells (grownCap w (0 + n) 0 57 - (0 + n))).size = grownCap w (0 + n) 0 57 * 2 := by
      rw [Nat.zero_add] at hlo ⊢
      simp [Builtin.zeroCells, Value.cells]
      omega
    generalize (([] : List Value).toArray ++ Builtin.zeroCells (Value.agg #[.string ByteArray.empty, .string ByteArray.empty]).cells n ++ Builtin.zeroCells (Value.agg #[.string ByteArray.empty, .string ByteArray.empty]).cells (grownCap w (0 + n) 0 57 - (0 + n))) = C at *
    generalize grownCap w (0 + n) 0 57 = G at *
    have ho : (w.drew.alloc (.cells C 57)).ownsRow w.heap.size 57 2 (.slice (some ⟨w.heap.size, 0, none⟩) 0 G) 0 [] := World.ownsRow_made w.drew C G (Nat.le_refl _) hhi (by omega)
    have hb : Below w.heap.size w (w.drew.alloc (.cells C 57)) := ((Below.refl _ w).drew).alloc (Nat.le_refl _) _
    unfold maxLen at hhi
    rw [Nat.zero_add] at hrz hlo
    have Ho := Kept.mk ho
    have Hb := Kept.mk hb
    clear ho hb hsz hz0 hz1 hz2 hi0
    go_enter Try.func67, Try.ntmps67
    go_wp2_with (at_builtin; refine Lib.wpList_append_run _ rfl _ _ _ _ rfl _ _ rfl rfl _ _ (hrz _) ?_)
    all_goals
      go_ret
      exact ⟨_, G, rfl, Ho.out, Hb.out⟩

set_option maxRecDepth 100000 in
set_option maxHeartbeats 4000000 in
theorem concatL_any (P1 P2 : Option Addr) (m1 d1 m2 d2 g B : Nat) (vs1 vs2 : List Value) (w : World) (hg : g < B) (hc0 : w.cell? ⟨g, 0, none⟩ = some (.slice P1 m1 d1)) (hc1 : w.cell? ⟨g, 1, none⟩ = some (.slice P2 m2 d2))
    (h1 : Rd w B 2 P1 m1 d1 vs1) (h2 : Rd w B 2 P2 m2 d2 vs2) (o1 : ∀ u ∈ vs1, u.oneCell' = true) (o2 : ∀ u ∈ vs2, u.oneCell' = true) (hB : B ≤ w.heap.size) (hm : m1 + m2 ≤ 1000) :
    Calls Try.prog 42 #[.slice (some ⟨g, 0, none⟩) 2 2] w fun e w' => ∃ A3 n3 c3, e = .returned (.slice A3 n3 c3) ∧ n3 = m1 + m2 ∧ w'.ownsRow w.heap.size 57 2 (.slice A3 n3 c3) n3 (vs1 ++ vs2) ∧ Below w.heap.size w w' := by
  have H1 := Kept.mk h1
  have H2 := Kept.mk h2
  have O1 := Kept.mk o1
  have O2 := Kept.mk o2
  clear h1 h2 o1 o2
  obtain ⟨i0, hi0, hz0, hz1, hz2⟩ := info_parts infoL
  go_enter Try.func42, Try.ntmps42
  go_wp2
  go_loop [3, 11] (fun s i => ∃ k t : Nat, k ≤ 2 ∧ i = .int .i64 k ∧ s = .int .i64 t ∧ t ≤ m1 + m2 ∧ (k = 0 ∧ Kept (t = 0) ∨ k = 1 ∧ Kept (t = m1) ∨ k = 2 ∧ Kept (t = m1 + m2))) (fun _ i => 2 - (intOf i).toNat)
  case atStart => exact ⟨0, 0, by omega, rfl, rfl, by omega, .inl ⟨rfl, ⟨rfl⟩⟩⟩
  case round =>
    obtain ⟨k, t, hk, rfl, rfl, ht, (⟨rfl, e⟩ | ⟨rfl, e⟩ | ⟨rfl, e⟩)⟩ := hrel
    · go_wp2
      go_round
      case rel => exact ⟨1, t + m1, by omega, by go_num, by go_num, by have := e.out; omega, .inr (.inl ⟨rfl, ⟨by have := e.out; omega⟩⟩)⟩
      case measure => simp [intOf]
    · have := e.out
      go_wp2
      go_round
      case rel => exact ⟨2, t + m2, by omega, by go_num, by go_num, by have := e.out; omega, .inr (.inr ⟨rfl, ⟨by have := e.out; omega⟩⟩)⟩
      case measure => simp [intOf]
    · go_wp2_with (go_at_call 67; refine (growL_any t _ (by omega)).mono ?_; rintro e w1 ⟨A0, c0, rfl, ho, hb⟩)
      go_loopw [6, 27] (fun o i wr => ∃ k n3 A3 c3 vs, k ≤ 2 ∧ i = .int .i64 (k : Nat) ∧ o = .slice A3 n3 c3 ∧ wr.ownsRow w.heap.size 57 2 (.slice A3 n3 c3) n3 vs ∧ Below w.heap.size w wr ∧ n3 ≤ 1000 ∧
        (k = 0 ∧ Kept (n3 = 0 ∧ vs = []) ∨ k = 1 ∧ Kept (n3 = m1 ∧ vs = vs1) ∨ k = 2 ∧ Kept (n3 = m1 + m2 ∧ vs = vs1 ++ vs2))) (fun _ i _ => 2 - (intOf i).toNat)
      case atStart => exact ⟨0, 0, A0, c0, [], by omega, rfl, rfl, ho, hb, by omega, .inl ⟨rfl, ⟨rfl, rfl⟩⟩⟩
      case round =>
        clear ho hb e
        obtain ⟨k, n3, A3, c3, vs, hk, rfl, rfl, ho, hb, hn3, (⟨rfl, e⟩ | ⟨rfl, e⟩ | ⟨rfl, e⟩)⟩ := hrel
        · have hl0 := (hb.cell (p := ⟨g, 0, none⟩) (by show g < _; omega)).trans hc0
          have hz := hb.size
          have hA := Kept.mk (own_lt ho)
          have R1 := Kept.mk ((H1.out.more hB).below hb)
          go_wp2_with (at_builtin; refine wpList_app _ rfl (.tmp 31) (.tmp 32) _ rfl w.heap.size 57 i0 (.agg #[.string ByteArray.empty, .string ByteArray.empty]) 2 32 Try.underlying46 hi0 hz0 hz1 hz2 rfl (by decide) A3 n3 c3 vs rfl ho w.heap.size _ _ _ vs1 rfl R1.out O1.out (by unfold maxLen; omega) (by omega) (by omega) ?_; intro A4 c4 w4 hown4 hgrow4 hat4)
          have hb4 : Below w.heap.size w w4 := hb.grown hgrow4 hz (fun g hg => (hA.out g hg).1)
          go_roundw
          case rel => exact ⟨1, n3 + m1, A4, c4, vs ++ vs1, by omega, by go_num, rfl, hown4, hb4, by have := e.out.1; omega, .inr (.inl ⟨rfl, ⟨by have := e.out.1; omega, by rw [e.out.2]; rfl⟩⟩)⟩
          case measure => simp [intOf]
        · have hl0 := (hb.cell (p := ⟨g, 1, none⟩) (by show g < _; omega)).trans hc1
          have hz := hb.size
          have hA := Kept.mk (own_lt ho)
          have R2 := Kept.mk ((H2.out.more hB).below hb)
          go_wp2_with (at_builtin; refine wpList_app _ rfl (.tmp 31) (.tmp 32) _ rfl w.heap.size 57 i0 (.agg #[.string ByteArray.empty, .string ByteArray.empty]) 2 32 Try.underlying46 hi0 hz0 hz1 hz2 rfl (by decide) A3 n3 c3 vs rfl ho w.heap.size _ _ _ vs2 rfl R2.out O2.out (by unfold maxLen; omega) (by omega) (by omega) ?_; intro A4 c4 w4 hown4 hgrow4 hat4)
          have hb4 : Below w.heap.size w w4 := hb.grown hgrow4 hz (fun g hg => (hA.out g hg).1)
          go_roundw
          case rel => exact ⟨2, n3 + m2, A4, c4, vs ++ vs2, by omega, by go_num, rfl, hown4, hb4, by have := e.out.1; omega, .inr (.inr ⟨rfl, ⟨by have := e.out.1; omega, by rw [e.out.2]⟩⟩)⟩
          case measure => simp [intOf]
        · go_wp2
          go_ret
          refine ⟨A3, n3, c3, rfl, e.out.1, ?_, hb⟩
          rw [← e.out.2]
          exact ho

end Go.Proofs.Ytglnghdomoebfaa
