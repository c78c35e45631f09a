/- wire.AppendBytes, AppendSection; the reference's Bytes, Frame; Clone. -/
import Derived.Test.YtknfkbgnfjfpeaaDoorVarD
import Derived.Test.YtknfkbgnfjfpeaaDoorCrcC
import Derived.Lib.AppendStr
import Derived.Lib.SliceRun
namespace Go.Proofs.YtknfkbgnfjfpeaaDoor
open Go.RowKit Go.Shelf

theorem OwnB.nil (w : World) (base : Nat) : OwnB w base none 0 0 [] := World.ownsRow_nil _ _ _ _
theorem OwnB.base {w : World} {base base' n c : Nat} {A : Option Addr} {l : List UInt8} (h : OwnB w base A n c l) (hb : base' ≤ base) : OwnB w base' A n c l := by
  refine ⟨h.1, ?_⟩
  rcases h.2 with hn | ⟨g, cap, cur, hv, h1, rest⟩
  · exact .inl hn
  · exact .inr ⟨g, cap, cur, hv, by omega, rest⟩
theorem OwnB.keep {w w' : World} {base n c : Nat} {A : Option Addr} {l : List UInt8} (h : OwnB w base A n c l) (hb : Below w.heap.size w w') : OwnB w' base A n c l := own_below h hb (fun g hg => (own_lt h g hg).2)
theorem Tab.base {w w' : World} {base : Nat} (h : Tab w) (hg : 0 < base) (hb : Below base w w') : Tab w' := fun i hi => (hb.cell (p := ⟨_, i, none⟩) hg).trans (h i hi)
theorem bl_next {w W W' : World} (h : Below w.heap.size w W) (h2 : Below W.heap.size W W') : Below w.heap.size w W' := h.trans (h2.mono h.size)
theorem own_grown_below {w w' : World} {base n c : Nat} {A : Option Addr} {l : List UInt8} (h : OwnB w base A n c l) (hb : base ≤ w.heap.size) (hg : w.grownBy w' (ab A)) : Below base w w' :=
  (Below.refl _ w).grown hg hb (fun g e => (own_lt h g e).1)
theorem wpList_appS {w : World} {ops : Array Oper} {rest : List Oper} {o : Oper} {a : Act} {Q : Exit → Act → World → Prop} (hgd : o.guard = none) (s x : Operand)
    (ho : o.op = .call { callee := .builtin .append, args := #[s, x], argTypes := #[22, 9] })
    (base : Nat) (A : Option Addr) (n c : Nat) (l : List UInt8) (hs : a.eval s = .slice A n c) (hown : OwnB w base A n c l)
    (str : ByteArray) (hx : a.eval x = .string str) (hlen : n + str.size ≤ 140737488355328) (hbase : base ≤ w.heap.size)
    (h : ∀ A2 c2 w', OwnB w' base A2 (n + str.size) c2 (l ++ str.data.toList) → w.grownBy w' (ab A) → wpList Tryd.prog ops Q rest (a.put o.dst (.slice A2 (n + str.size) c2)) w') : wpList Tryd.prog ops Q (o :: rest) a w := by
  obtain ⟨i0, hi0, hz0, hz1, hz2⟩ := info_parts infoB
  refine Lib.wpList_append_own_string (P := Tryd.prog) w hgd s x _ _ ho base 5 i0 Tryd.underlying22 Tryd.underlying9 hi0 hz0 hz1 hz2 (.slice A n c) n (bvs l) hs hown str hx (by unfold maxLen; omega) hlen hbase ?_
  intro v' w' h2 h3 _
  obtain ⟨A2, c2, rfl, _⟩ := own_form h2
  rw [own_block] at h3
  refine h A2 c2 w' ?_ h3
  have e : bvs l ++ Lib.strCells str = bvs (l ++ str.data.toList) := by rw [bvs_append]; rfl
  rw [e] at h2
  exact h2

set_option maxHeartbeats 1000000 in
theorem clone_any (A : Option Addr) (n c B : Nat) (l : List UInt8) (w : World) (hv : RdB w B A n c l) (hB : B ≤ w.heap.size) (hl : n ≤ 140737488355232) :
    Calls Tryd.prog 17 #[.slice A n c] w fun e w' => ∃ A3 c3, e = .returned (.slice A3 n c3) ∧ OwnB w' w.heap.size A3 n c3 l ∧ Below w.heap.size w w' := by
  have hlc := hv.1
  have hcm := hv.2.1
  unfold maxLen at hcm
  have Hv := Kept.mk hv
  have hn := Kept.mk hv.len
  clear hv
  have qT : ∀ (w : World) (a : Option Addr) (n c n' c' : Nat), (binOp .eql 22 (.slice a n c) (.slice none n' c')).run Tryd.prog w = .ok (.bool a.isNone) w := fun w a n c n' c' => Lib.run_eql_slice_nil w _ _ a n c n' c' Tryd.underlying22
  cases A with
  | none =>
    have h0 : n = 0 := by
      rcases Nat.eq_zero_or_pos n with h | h
      · exact h
      · obtain ⟨b, off, e, _⟩ := Hv.out.2.2.2 h; cases e
    subst h0
    obtain rfl : l = [] := List.eq_nil_of_length_eq_zero hn.out.symm
    go_enter Tryd.func17, Tryd.ntmps17
    go_wp2
    go_ret
    exact ⟨none, 0, rfl, OwnB.nil _ _, Below.refl _ _⟩
  | some a =>
    go_enter Tryd.func17, Tryd.ntmps17
    go_wp2_with (at_builtin; refine wpList_appB rfl (.tmp 5) (.tmp 6) rfl w.heap.size _ _ _ [] rfl (OwnB.made w _ (Nat.le_refl _)) B _ _ _ l rfl (Rd.alloc Hv.out hB _) (by omega) (by simp) ?_; intro A2 c2 w1 hown1 hgrow1 hat1; have hb1 : Below w.heap.size w w1 := ((Below.refl _ w).alloc (Nat.le_refl _) _).grown hgrow1 (by simp) (by simp [ab]))
    rw [List.nil_append, Nat.zero_add] at hown1
    go_ret
    exact ⟨A2, c2, rfl, hown1, hb1⟩
set_option maxHeartbeats 1000000 in
theorem sclone_any (A : Option Addr) (n c B : Nat) (l : List UInt8) (w : World) (hv : RdB w B A n c l) (hB : B ≤ w.heap.size) (hl : n ≤ 140737488355232) :
    Calls Tryd.prog 50 #[.slice A n c] w fun e w' => ∃ A3 c3, e = .returned (.slice A3 n c3) ∧ OwnB w' w.heap.size A3 n c3 l ∧ Below w.heap.size w w' := by
  have hlc := hv.1
  have hcm := hv.2.1
  unfold maxLen at hcm
  have Hv := Kept.mk hv
  have hn := Kept.mk hv.len
  clear hv
  have qT : ∀ (w : World) (a : Option Addr) (n c n' c' : Nat), (binOp .eql 22 (.slice a n c) (.slice none n' c')).run Tryd.prog w = .ok (.bool a.isNone) w := fun w a n c n' c' => Lib.run_eql_slice_nil w _ _ a n c n' c' Tryd.underlying22
  cases A with
  | none =>
    have h0 : n = 0 := by
      rcases Nat.eq_zero_or_pos n with h | h
      · exact h
      · obtain ⟨b, off, e, _⟩ := Hv.out.2.2.2 h; cases e
    subst h0
    obtain rfl : l = [] := List.eq_nil_of_length_eq_zero hn.out.symm
    go_enter Tryd.func50, Tryd.ntmps50
    go_wp2
    go_ret
    exact ⟨none, 0, rfl, OwnB.nil _ _, Below.refl _ _⟩
  | some a =>
    go_enter Tryd.func50, Tryd.ntmps50
    go_wp2_with (at_builtin; refine wpList_appB rfl (.tmp 5) (.tmp 6) rfl w.heap.size _ _ _ [] rfl (OwnB.made w _ (Nat.le_refl _)) B _ _ _ l rfl (Rd.alloc Hv.out hB _) (by omega) (by simp) ?_; intro A2 c2 w1 hown1 hgrow1 hat1; have hb1 : Below w.heap.size w w1 := ((Below.refl _ w).alloc (Nat.le_refl _) _).grown hgrow1 (by simp) (by simp [ab]))
    rw [List.nil_append, Nat.zero_add] at hown1
    go_ret
    exact ⟨A2, c2, rfl, hown1, hb1⟩

/-- a string of bytes with its length -/
def Wr.str (d : List UInt8) : List UInt8 := Vi.enc d.length ++ d
/-- the frame of a section -/
def Wr.frame (id : UInt8) (d : List UInt8) : List UInt8 := Crc.app (id :: Wr.str d)
theorem Wr.str_len (d : List UInt8) (h : d.length ≤ 140737488355328) : (Wr.str d).length ≤ d.length + 10 := by
  have := Vi.enc_len d.length (by omega)
  unfold Wr.str
  rw [List.length_append]
  omega

set_option maxRecDepth 100000 in
set_option maxHeartbeats 1000000 in
theorem appendBytes_any (A : Option Addr) (n c base : Nat) (l : List UInt8) (s : ByteArray) (w : World) (ho : OwnB w base A n c l) (hB : base ≤ w.heap.size) (hn : n + s.size ≤ 140737488354000) :
    Calls Tryd.prog 16 #[.slice A n c, .string s] w fun e w' => ∃ A3 n3 c3, e = .returned (.slice A3 n3 c3) ∧ OwnB w' base A3 n3 c3 (l ++ Wr.str s.data.toList) ∧ Below base w w' := by
  have Ho := Kept.mk ho
  have hlen := Kept.mk ho.len
  have hs : s.size ≤ 140737488354000 := by omega
  have hel := Kept.mk (Vi.enc_len s.size (by omega))
  have hst : Kept (Wr.str s.data.toList = Vi.enc s.size ++ s.data.toList) := ⟨by unfold Wr.str; simp⟩
  clear ho
  go_enter Tryd.func16, Tryd.ntmps16
  go_wp2_with (first
    | (go_at_call 46; refine (vappend_any _ _ _ base s.size l _ Ho.out hB (by omega) (by omega)).mono ?_; rintro e w1 ⟨A1, n1, c1, rfl, ho1, hg1, -⟩; have hn1 : n1 ≤ n + 10 := (by have h1 := ho1.len; have h2 := hel.out; have h3 := hlen.out; simp at h1; omega); have O1 := Kept.mk ho1; have b1 := own_grown_below Ho.out hB hg1; have z1 := b1.size; clear ho1 hg1)
    | (at_builtin; refine wpList_appS rfl (.tmp 9) (.tmp 10) rfl base _ _ _ _ rfl O1.out s rfl (by omega) (by omega) ?_; intro A4 c4 w4 hown4 hgrow4))
  go_ret
  refine ⟨A4, _, c4, rfl, ?_, b1.trans (own_grown_below O1.out (by omega) hgrow4)⟩
  rw [hst.out, ← List.append_assoc]
  exact hown4
end Go.Proofs.YtknfkbgnfjfpeaaDoor
