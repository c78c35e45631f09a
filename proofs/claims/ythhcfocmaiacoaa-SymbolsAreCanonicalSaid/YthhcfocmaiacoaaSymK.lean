/- Chapter 10: alive; slices.Equal and slices.Clone at strings; bytes.Equal. -/
import Derived.Test.YthhcfocmaiacoaaSymN
import Derived.Test.YthhcfocmaiacoaaSymE
import Derived.Test.YthhcfocmaiacoaaSymJ
namespace Go.Proofs.Ythhcfocmaiacoaa
open Go.RowKit Go.Shelf

set_option maxHeartbeats 400000 in
theorem equal_any (A1 A2 : Option Addr) (n1 n2 c1 c2 : Nat) (l1 l2 : List UInt8) (w : World) (B1 B2 : Nat) (h1 : RdB w B1 A1 n1 c1 l1) (h2 : RdB w B2 A2 n2 c2 l2) :
    Calls Try.prog 23 #[.slice A1 n1 c1, .slice A2 n2 c2] w fun e w' => e = .returned (.bool (l1 == l2)) ∧ w = w' := by
  have k1 := run_bytes_str w B1 A1 n1 c1 l1 h1
  have k2 := run_bytes_str w B2 A2 n2 c2 l2 h2
  go_enter Try.func23, Try.ntmps23
  go_wp2
  go_ret
  exact ⟨rfl, rfl⟩
theorem equal_is (A1 A2 : Option Addr) (n1 n2 c1 c2 : Nat) (l1 l2 : List UInt8) (b : Bool) (w : World) (B1 B2 : Nat) (h1 : RdB w B1 A1 n1 c1 l1) (h2 : RdB w B2 A2 n2 c2 l2) (hb : (l1 == l2) = b) :
    Calls Try.prog 23 #[.slice A1 n1 c1, .slice A2 n2 c2] w fun e w' => e = .returned (.bool b) ∧ w = w' := by
  have h := equal_any A1 A2 n1 n2 c1 c2 l1 l2 w B1 B2 h1 h2
  rw [hb] at h; exact h
theorem RdS.getD {w : World} {B n c b off : Nat} {T : List ByteArray} (h : RdS w B (some ⟨b, off, none⟩) n c T) : ∀ j, j < T.length → w.cell? ⟨b, off + j, none⟩ = some (.string (T.getD j ByteArray.empty)) := by
  intro j hj
  obtain ⟨b', off', e', -, hc⟩ := h.at_ hj
  simp only [Option.some.injEq, Addr.mk.injEq, and_true] at e'
  obtain ⟨rfl, rfl⟩ := e'
  rw [hc]
  simp [List.getD, hj]
/-- slices.Equal at equal lists of strings -/
theorem eqS_any (A1 A2 : Option Addr) (n1 n2 c1 c2 B1 B2 : Nat) (T : List ByteArray) (w : World) (h1 : RdS w B1 A1 n1 c1 T) (h2 : RdS w B2 A2 n2 c2 T) :
    Calls Try.prog 25 #[.slice A1 n1 c1, .slice A2 n2 c2] w fun e w' => e = .returned (.bool true) ∧ ∃ q, w' = w.drewN q := by
  have e1 := h1.len
  have e2 := h2.len
  have m1 := h1.2.1
  have m2 := h2.2.1
  have k1 := h1.1
  have k2 := h2.1
  unfold maxLen at m1 m2
  rcases Nat.eq_zero_or_pos n1 with h0 | h0
  · subst h0
    have con := Any.slices_Equal_string_empty Try.eqS A1 A2 c1 n2 c2 w (by omega)
    change Calls Try.prog 25 _ _ _ at con
    exact con.mono fun e w' ⟨h3, h4⟩ => ⟨by rw [h3, decide_eq_true (by omega)], 0, h4⟩
  · obtain ⟨b1, o1, rfl, -, -⟩ := h1.2.2.2 h0
    obtain ⟨b2, o2, rfl, -, -⟩ := h2.2.2.2 (by omega)
    have con := Any.slices_Equal_string Try.eqS b1 o1 n1 c1 b2 o2 n2 c2 T T w (by omega) (by omega) (by omega) (by omega) h1.getD h2.getD
    change Calls Try.prog 25 _ _ _ at con
    exact con.mono fun e w' ⟨h3, h4⟩ => ⟨by rw [h3, decide_eq_true (by rw [e1, e2])], h4⟩
set_option maxHeartbeats 1000000 in
theorem cloneS_any (A : Option Addr) (n c B : Nat) (l : List ByteArray) (w : World) (hv : RdS w B A n c l) (hB : B ≤ w.heap.size) (hl : n ≤ 4398046511104) :
    Calls Try.prog 24 #[.slice A n c] w fun e w' => ∃ A3 c3, e = .returned (.slice A3 n c3) ∧ OwnS w' w.heap.size A3 n c3 l ∧ Below w.heap.size w w' := by
  have hlc := hv.1
  have hcm := hv.2.1
  unfold maxLen at hcm
  have Hv := Kept.mk hv
  have hn := Kept.mk hv.len
  clear hv
  have qT : ∀ (w : World) (a : Option Addr) (n c n' c' : Nat), (binOp .eql 22 (.slice a n c) (.slice none n' c')).run Try.prog w = .ok (.bool a.isNone) w := fun w a n c n' c' => Lib.run_eql_slice_nil w _ _ a n c n' c' Try.underlying22
  cases A with
  | none =>
    have h0 : n = 0 := by
      rcases Nat.eq_zero_or_pos n with h | h
      · exact h
      · obtain ⟨b, off, e, _⟩ := Hv.out.2.2.2 h; cases e
    subst h0
    obtain rfl : l = [] := List.eq_nil_of_length_eq_zero hn.out.symm
    go_enter Try.func24, Try.ntmps24
    go_wp2
    go_ret
    exact ⟨none, 0, rfl, OwnS.nil _ _, Below.refl _ _⟩
  | some a =>
    go_enter Try.func24, Try.ntmps24
    go_wp2_with (at_builtin; refine wpList_appS rfl (.tmp 5) (.tmp 6) rfl w.heap.size _ _ _ [] rfl (OwnS.made w _ (Nat.le_refl _)) B _ _ _ l rfl (Rd.alloc Hv.out hB _) (by omega) (by simp) ?_; intro A2 c2 w1 hown1 hgrow1 hat1; have hb1 : Below w.heap.size w w1 := ((Below.refl _ w).alloc (Nat.le_refl _) _).grown hgrow1 (by simp) (by simp [ab]))
    rw [List.nil_append, Nat.zero_add] at hown1
    go_ret
    exact ⟨A2, c2, rfl, hown1, hb1⟩
namespace Sy
def xa : ByteArray := ⟨#[97]⟩
def xb : ByteArray := ⟨#[98]⟩
def exT : List ByteArray := [xa, xb]
def exB : List UInt8 := [2, 1, 97, 1, 98]
theorem srt_ex : Srt exT := by
  unfold exT Srt
  rw [List.pairwise_cons]
  refine ⟨fun y hy => ?_, List.pairwise_singleton _ _⟩
  rw [List.mem_singleton.1 hy, St.lt, St.tl, St.tl]; rfl
theorem tab_ex : Tab [xb, xa, xb] exT := ⟨srt_ex, fun s => by simp [exT]; exact fun h => .inr h⟩
theorem long_ex : hasLong exT = false := by decide
theorem enc_ex : enc exT = (exB, 0) := by
  unfold enc
  rw [if_neg (by rw [long_ex]; simp), if_pos (ascB_iff.2 srt_ex)]
  congr 1
  unfold encB exT strE Wr.str
  simp only [List.flatMap_cons, List.flatMap_nil, List.length_cons, List.length_nil]
  rw [Vi.enc_lt (by omega)]
  have h1 : xa.data.toList = [97] := rfl
  have h2 : xb.data.toList = [98] := rfl
  rw [h1, h2]
  simp only [List.length_cons, List.length_nil]
  rw [Vi.enc_lt (by omega)]
  rfl
theorem idx_ex : idx exT xb = some 1 := idx_srt srt_ex (k := 1) (by decide) rfl
theorem fit_ex : ∀ s ∈ exT, s.size ≤ maxLen := fun s hs => by
  have : s.size ≤ 65535 := hasLong_no.1 long_ex s hs
  unfold maxLen; omega
end Sy
set_option maxRecDepth 100000 in
set_option maxHeartbeats 4000000 in
theorem alive10_any (w : World) : Calls Try.prog 17 #[] w fun e w' => e = .returned (.bool true) ∧ Below w.heap.size w w' := by
  have R0 : Kept (RdS (w.alloc (.cells #[.string ⟨#[98]⟩, .string ⟨#[97]⟩, .string ⟨#[98]⟩] 9)) (w.alloc (.cells #[.string ⟨#[98]⟩, .string ⟨#[97]⟩, .string ⟨#[98]⟩] 9)).heap.size (some ⟨w.heap.size, 0, none⟩) 3 3 [Sy.xb, Sy.xa, Sy.xb]) := ⟨by
    have h := RdS.lit w [Sy.xb, Sy.xa, Sy.xb] (by decide)
    simp only [World.size_alloc]
    exact h⟩
  have B0 : Kept (Below w.heap.size w (w.alloc (.cells #[.string ⟨#[98]⟩, .string ⟨#[97]⟩, .string ⟨#[98]⟩] 9))) := ⟨(Below.refl _ _).alloc (Nat.le_refl _) _⟩
  go_enter Try.func17, Try.ntmps17
  go_wp2_with (first
    | (go_at_call 26; refine (stable_any _ 3 3 [Sy.xb, Sy.xa, Sy.xb] _ R0.out (by omega)).mono ?_; rintro r w1 ⟨A1, n1, c1, T, rfl, ht, hr, hb⟩; obtain rfl := ht.uniq Sy.tab_ex; have R1 := Kept.mk hr; have hn1 : n1 ≤ 1000000 := (by have h1 := hr.len; rw [h1]; decide); have B1 := Kept.mk (B0.out.trans (hb.mono B0.out.size)); clear ht hr hb)
    | (go_at_call 21; refine (encodeS_any A1 n1 c1 Sy.exT w1 R1.out Sy.fit_ex hn1).mono ?_; rintro r w2 ⟨A2, n2, c2, rfl, ho, hb⟩; rw [Sy.enc_ex] at ho ⊢; have O2 := Kept.mk ho.rd; have R2 := Kept.mk ((R1.out.below hb).more hb.size); have B2 := Kept.mk (bl_next B1.out hb); clear ho hb)
    | (go_at_call 19; refine (sindex_any A1 n1 c1 Sy.exT Sy.xb w2 R2.out Sy.srt_ex hn1).mono ?_; rintro r w3 ⟨rfl, q3, hq3⟩; rw [Sy.idx_ex]; have R3 : Kept (RdS w3 w3.heap.size A1 n1 c1 Sy.exT) := ⟨by rw [hq3]; exact R2.out.drewN q3⟩; have O3 : Kept (RdB w3 w3.heap.size A2 n2 c2 Sy.exB) := ⟨by rw [hq3]; exact O2.out⟩; have B3 : Kept (Below w.heap.size w w3) := ⟨by rw [hq3]; exact below_drewN B2.out q3⟩; clear hq3)
    | (go_at_call 25; refine (eqS_any A1 _ n1 2 c1 2 w3.heap.size (w3.heap.size + 1) Sy.exT _ (R3.out.alloc (Nat.le_refl _) _) (RdS.lit w3 Sy.exT (by decide))).mono ?_; rintro r w4 ⟨rfl, q4, hq4⟩; have O4 : Kept (RdB w4 w3.heap.size A2 n2 c2 Sy.exB) := ⟨by rw [hq4]; exact Rd.alloc O3.out (Nat.le_refl _) _⟩; have B4 : Kept (Below w.heap.size w w4) := ⟨by rw [hq4]; exact below_drewN (B3.out.alloc B3.out.size _) q4⟩; have z4 : w3.heap.size ≤ w4.heap.size := (by rw [hq4]; show w3.heap.size ≤ (w3.alloc _).heap.size; simp); clear hq4)
    | (go_at_call 23; refine (equal_is _ _ _ _ _ _ Sy.exB Sy.exB true _ _ _ (O4.out.alloc z4 _) (RdB.lit w4 Sy.exB (by decide)) (by decide)).mono ?_; rintro r w5 ⟨rfl, hw⟩; have B5 : Kept (Below w.heap.size w w5) := ⟨by rw [← hw]; exact B4.out.alloc B4.out.size _⟩; clear hw))
  go_ret
  exact ⟨rfl, B5.out⟩
end Go.Proofs.Ythhcfocmaiacoaa
