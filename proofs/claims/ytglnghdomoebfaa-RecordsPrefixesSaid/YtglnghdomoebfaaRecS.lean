/- Chapter 13: the reference's number; chapter 10: the reference's Index. -/
import Derived.Test.YtglnghdomoebfaaRecI
import Derived.Test.YtglnghdomoebfaaRecH
namespace Go.Proofs.Ytglnghdomoebfaa
open Go.RowKit Go.Shelf

set_option maxHeartbeats 1000000 in
theorem number_any (A : Option Addr) (n c base x : Nat) (l : List UInt8) (w : World) (ho : OwnB w base A n c l) (hB : base ≤ w.heap.size) (hx : x < 9223372036854775808) (hn : n ≤ 140737488355000) :
    Calls Try.prog 48 #[.slice A n c, .int .i64 (x : Int)] w fun e w' => ∃ A3 n3 c3, e = .returned (.slice A3 n3 c3) ∧ OwnB w' base A3 n3 c3 (l ++ Vi.enc x) ∧ w.grownBy w' (ab A) := by
  have hel := Kept.mk (Vi.enc_len x (by omega))
  have hwx := wrap_u64 (x : Int) (by omega) (by omega)
  have Ho := Kept.mk ho
  clear ho
  go_enter Try.func48, Try.ntmps48
  go_wp2_with (first
    | (go_at_call 70; refine (refEncode_any x _ (by omega)).mono ?_; rintro e w1 ⟨A1, n1, c1, rfl, ho1, b1⟩; have hn1 : n1 ≤ 10 := (by have h1 := ho1.len; have h2 := hel.out; omega); have O1 := Kept.mk ho1.rd; have z1 := b1.size; have B1 := Kept.mk b1; have O2 := Kept.mk (OwnB.keep Ho.out b1); clear ho1)
    | (at_builtin; refine wpList_appB rfl (.tmp 5) (.tmp 8) rfl base _ _ _ _ rfl O2.out _ _ _ _ _ rfl O1.out (by omega) (by omega) ?_; intro A4 c4 w4 hown4 hgrow4 hat4))
  go_ret
  exact ⟨A4, _, c4, rfl, hown4, (grown_of_below B1.out).trans hgrow4⟩
def Sy.idxI (T : List ByteArray) (s : ByteArray) : Int := match Sy.idx T s with | some k => (k : Int) | none => -1
set_option maxHeartbeats 4000000 in
theorem refIndex_any (A : Option Addr) (n c : Nat) (T : List ByteArray) (s : ByteArray) (w : World) (hv : RdS w w.heap.size A n c T) :
    Calls Try.prog 49 #[.slice A n c, .string s] w fun e w' => e = .returned (.int .i64 (Sy.idxI T s)) ∧ w' = w := by
  have hlc := hv.1
  have hcm := hv.2.1
  unfold maxLen at hcm
  have hn := Kept.mk hv.len
  have V := Kept.mk hv
  clear hv
  obtain ⟨M, hM⟩ : ∃ M, M = Sy.idxI T s := ⟨_, rfl⟩
  rw [← hM]
  have HM := Kept.mk hM
  clear hM
  go_enter Try.func49, Try.ntmps49
  go_wp2
  go_loopw [5] (fun i wr => ∃ k : Nat, k ≤ n ∧ i = .int .i64 k ∧ Kept (∀ j (hj : j < T.length), j < k → T[j] ≠ s) ∧ wr = w) (fun i _ => n - (intOf i).toNat)
  case atStart => exact ⟨0, by omega, rfl, ⟨fun j _ hj => by omega⟩, rfl⟩
  case round =>
    obtain ⟨k, hk, rfl, hd, hw⟩ := hrel
    subst hw
    by_cases hlt : k < n
    · have hkl : k < T.length := by rw [← hn.out]; exact hlt
      obtain ⟨b, off, rfl, -, c0⟩ := V.out.at_ hkl
      have heqb := St.eq_iff T[k] s
      by_cases he : T[k] = s
      · have HM2 : Kept (M = (k : Int)) := ⟨by rw [HM.out, Sy.idxI, Sy.idx_at hkl he hd.out]⟩
        rw [decide_eq_true he] at heqb
        clear he
        generalize T[k] = x at *
        go_wp2
        go_ret
        exact ⟨by rw [HM2.out]; rfl, rfl⟩
      · have hd2 : Kept (∀ j (hj : j < T.length), j < k + 1 → T[j] ≠ s) := ⟨fun j hj hjk => by
          by_cases e : j = k
          · subst e; exact he
          · exact hd.out j hj (by omega)⟩
        rw [decide_eq_false he] at heqb
        clear he
        generalize T[k] = x at *
        go_wp2
        go_roundw
        case rel => exact ⟨k + 1, by omega, by go_num, hd2, by simp⟩
        case measure => simp [intOf]; omega
    · have HM2 : Kept (M = -1) := ⟨by rw [HM.out, Sy.idxI, Sy.idx_none.2 fun j hj => hd.out j hj (by have := hn.out; omega)]⟩
      clear hd
      go_wp2
      go_ret
      exact ⟨by rw [HM2.out]; rfl, rfl⟩
/-- what stays while the bytes grow: the row of a record's strings -/
structure Bq (w W : World) (A : Option Addr) (n c : Nat) (l : List UInt8) (As : Option Addr) (ns cS : Nat) (ss : List ByteArray) : Prop where
  own : OwnB W w.heap.size A n c l
  below : Below w.heap.size w W
  strs : OwnS W w.heap.size As ns cS ss
theorem Bq.len {w W : World} {A As : Option Addr} {n c ns cS : Nat} {l : List UInt8} {ss : List ByteArray} (h : Bq w W A n c l As ns cS ss) : n = l.length := h.own.len
theorem bq_app {w W : World} {A As : Option Addr} {n c ns cS x : Nat} {l : List UInt8} {ss : List ByteArray} (h : Bq w W A n c l As ns cS ss) (hx : x < 9223372036854775808) (hn : n ≤ 140737488355000) :
    Calls Try.prog 48 #[.slice A n c, .int .i64 (x : Int)] W fun e w' => ∃ A3 n3 c3, e = .returned (.slice A3 n3 c3) ∧ Bq w w' A3 n3 c3 (l ++ Vi.enc x) As ns cS ss :=
  (number_any A n c w.heap.size x l W h.own h.below.size hx hn).mono fun e w' ⟨A3, n3, c3, h1, h2, h3⟩ =>
    ⟨A3, n3, c3, h1, h2, h.below.trans (own_grown_below h.own h.below.size h3), own_grown h.strs h3 (own_apart h.strs h.own (by decide))⟩
end Go.Proofs.Ytglnghdomoebfaa
