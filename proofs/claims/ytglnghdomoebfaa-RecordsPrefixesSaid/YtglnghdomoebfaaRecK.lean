/- Chapter 13: Total and Unused at the chapter's example. -/
import Derived.Test.YtglnghdomoebfaaRecI
import Derived.Maps.OwnOps
namespace Go.Proofs.Ytglnghdomoebfaa
open Go.RowKit Go.Shelf
open Go.Maps (Keyed)

theorem plainElem_bool_inv {H : Type} {P : Program} {e : TypeId} (he : P.underlying e = some .bool) {v : Value} {z : DataW H × List MemPlace} (h : plainElem P e v = some z) : ∃ x, v = .bool x ∧ z = (.lit (.bool x), []) := by
  unfold plainElem at h
  rw [he] at h
  split at h
  · cases h; exact ⟨_, rfl, rfl⟩
  · rename_i h1; cases h1
  · rename_i h1; cases h1
  · cases h
theorem wpList_lookup_own_bool {H : Type} {P : Program} (w : World) {ops : Array Oper} {rest : List Oper} {o : Oper} {a : Act} {Q : Exit → Act → World → Prop}
    (hg : o.guard = none) (m x : Operand) (t : TypeId) (hop : o.op = Op.lookup t m x false)
    (k e : TypeId) (K : Keyed P k) (ht : P.underlying t = some (.map k e)) (he : P.underlying e = some .bool) (hz : (zeroValue e).run P w = .ok (.bool false) w) (b n : Nat) (D : DataW H)
    (hm : a.eval m = .map (some b)) (hown : w.ownsMap P k (plainElem P e) b n D) (key : Value) (kl : Lit) (hx : a.eval x = key) (hkey : keyOf P k key = some kl) (c : Bool) (hc : D.atKey kl (.lit (.bool false)) = .lit (.bool c))
    (hK : wpList P ops Q rest (a.put o.dst (.bool c)) w) :
    wpList P ops Q (o :: rest) a w := by
  refine wpList_plain hg fun K' hK' => ?_
  obtain ⟨v, ps, hrun, hv⟩ := hown.lookup K ht hz (plainElem_bool he false) hkey
  obtain ⟨c', rfl, hv'⟩ := plainElem_bool_inv he hv
  have : c' = c := by
    simp only [Prod.mk.injEq] at hv'
    rw [hc] at hv'
    have := hv'.1
    injection this with this
    injection this with this
    exact this.symm
  subst this
  unfold Oper.wp
  simp [execOp, hop, hm, hx, hrun, Result.andThen]
  exact hK' _ _ hK
set_option maxRecDepth 100000 in
set_option maxHeartbeats 4000000 in
theorem total_ex (A : Option Addr) (c : Nat) (L : List Lab) (w : World) (hv : RdR w w.heap.size A 1 c [(L, [20])]) :
    Calls Try.prog 45 #[.slice A 1 c] w fun e w' => e = .returned (.int .i64 20) ∧ Below w.heap.size w w' := by
  obtain ⟨hlc, hcm⟩ := hv.cap
  unfold maxLen at hcm
  have V := Kept.mk hv
  clear hv
  go_enter Try.func45, Try.ntmps45
  go_wp2
  go_loopw [3, 10] (fun s i wr => ∃ k : Nat, k ≤ 1 ∧ i = .int .i64 k ∧ ((k = 0 ∧ s = .int .i64 0) ∨ (k = 1 ∧ s = .int .i64 20)) ∧ Below w.heap.size w wr) (fun _ i _ => 1 - (intOf i).toNat)
  case atStart => exact ⟨0, by omega, rfl, .inl ⟨rfl, rfl⟩, Below.refl _ _⟩
  case round =>
    obtain ⟨k, hk, rfl, hks, hb⟩ := hrel
    rcases hks with ⟨rfl, rfl⟩ | ⟨rfl, rfl⟩
    · obtain ⟨b, off, A3, n3, c3, A4, n4, c4, rfl, hL, hC, hc⟩ := V.out.cells (Nat.le_refl _) (show 0 < [(L, [(20 : Int)])].length by simp)
      obtain ⟨r0, r1⟩ := hc wr hb
      rw [Nat.zero_mul, Nat.add_zero] at r0 r1
      obtain rfl : n4 = 1 := hC.len
      have hc4 := hC.1
      have hm4 := hC.2.1
      unfold maxLen at hm4
      have C := Kept.mk hC
      have B := Kept.mk hb
      clear hL hC hc hb
      go_upto_region 6 with fail
      have B2 := Kept.mk (B.out.alloc B.out.size (.cells #[.slice A3 n3 c3, .slice A4 1 c4] 72))
      generalize (wr.alloc (.cells #[.slice A3 n3 c3, .slice A4 1 c4] 72)) = wq at *
      clear r0 r1
      go_loopw [3, 17] (fun s i wi => ∃ j : Nat, j ≤ 1 ∧ i = .int .i64 j ∧ ((j = 0 ∧ s = .int .i64 0) ∨ (j = 1 ∧ s = .int .i64 20)) ∧ Below w.heap.size w wi) (fun _ i _ => 1 - (intOf i).toNat)
      case atStart => exact ⟨0, by omega, rfl, .inl ⟨rfl, rfl⟩, B2.out⟩
      case round =>
        clear B2
        obtain ⟨j, hj, rfl, hjs, hb⟩ := hrel
        rcases hjs with ⟨rfl, rfl⟩ | ⟨rfl, rfl⟩
        · obtain ⟨b4, off4, rfl, -, z0⟩ := ((C.out.below hb).more hb.size).at_ (show 0 < [(20 : Int)].length by simp)
          rw [Nat.add_zero] at z0
          simp only [List.getElem_cons_zero] at z0
          have B3 := Kept.mk hb
          clear hb
          go_wp2
          go_roundw
          case rel => exact ⟨1, by omega, by go_num, .inr ⟨rfl, by go_num⟩, B3.out⟩
          case measure => simp [intOf]
        · have B3 := Kept.mk hb
          clear hb
          go_wp2
          go_roundw
          case rel => exact ⟨1, by omega, by go_num, .inr ⟨rfl, by go_num⟩, B3.out⟩
          case measure => simp [intOf]
    · have B3 := Kept.mk hb
      clear hb
      go_wp2
      go_ret
      exact ⟨rfl, B3.out⟩
end Go.Proofs.Ytglnghdomoebfaa
