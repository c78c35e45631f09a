/- Cut by cut_tpl.py out of WireA, WireB, WireC, WireD, WireE, WireF, WireG, WireH, WireM, WireQ, WireR: what this seat reaches. -/
import Derived.Test.YthhcfocmaiacoaaVarD
import Derived.Lib.AppendStr
import Derived.Lib.SliceRun
import Derived.BigQuiet
import Derived.Deep.RegionWith
import Derived.Deep.DeepCutAuto
import Derived.Test.YthhcfocmaiacoaaStrMath
import Derived.Deep.RegionHeld3
import Derived.Deep.QuietTactic
import Derived.BigQuiet
namespace Go.Proofs.Ythhcfocmaiacoaa
open Go.RowKit Go.Shelf

theorem OwnB.nil (w : World) (base : Nat) : OwnB w base none 0 0 [] := World.ownsRow_nil _ _ _ _
theorem OwnB.base {w : World} {base base' n c : Nat} {A : Option Addr} {l : List UInt8} (h : OwnB w base A n c l) (hb : base' ≤ base) : OwnB w base' A n c l := by
  refine ⟨h.1, ?_⟩
  rcases h.2 with hn | ⟨g, cap, cur, hv, h1, rest⟩
  · exact .inl hn
  · exact .inr ⟨g, cap, cur, hv, by omega, rest⟩
theorem OwnB.keep {w w' : World} {base n c : Nat} {A : Option Addr} {l : List UInt8} (h : OwnB w base A n c l) (hb : Below w.heap.size w w') : OwnB w' base A n c l := own_below h hb (fun g hg => (own_lt h g hg).2)
theorem bl_next {w W W' : World} (h : Below w.heap.size w W) (h2 : Below W.heap.size W W') : Below w.heap.size w W' := h.trans (h2.mono h.size)
theorem own_grown_below {w w' : World} {base n c : Nat} {A : Option Addr} {l : List UInt8} (h : OwnB w base A n c l) (hb : base ≤ w.heap.size) (hg : w.grownBy w' (ab A)) : Below base w w' :=
  (Below.refl _ w).grown hg hb (fun g e => (own_lt h g e).1)
theorem wpList_appStr {w : World} {ops : Array Oper} {rest : List Oper} {o : Oper} {a : Act} {Q : Exit → Act → World → Prop} (hgd : o.guard = none) (s x : Operand)
    (ho : o.op = .call { callee := .builtin .append, args := #[s, x], argTypes := #[30, 9] })
    (base : Nat) (A : Option Addr) (n c : Nat) (l : List UInt8) (hs : a.eval s = .slice A n c) (hown : OwnB w base A n c l)
    (str : ByteArray) (hx : a.eval x = .string str) (hlen : n + str.size ≤ 140737488355328) (hbase : base ≤ w.heap.size)
    (h : ∀ A2 c2 w', OwnB w' base A2 (n + str.size) c2 (l ++ str.data.toList) → w.grownBy w' (ab A) → wpList Try.prog ops Q rest (a.put o.dst (.slice A2 (n + str.size) c2)) w') : wpList Try.prog ops Q (o :: rest) a w := by
  obtain ⟨i0, hi0, hz0, hz1, hz2⟩ := info_parts infoB
  refine Lib.wpList_append_own_string (P := Try.prog) w hgd s x _ _ ho base 5 i0 Try.underlying30 Try.underlying9 hi0 hz0 hz1 hz2 (.slice A n c) n (bvs l) hs hown str hx (by unfold maxLen; omega) hlen hbase ?_
  intro v' w' h2 h3 _
  obtain ⟨A2, c2, rfl, _⟩ := own_form h2
  rw [own_block] at h3
  refine h A2 c2 w' ?_ h3
  have e : bvs l ++ Lib.strCells str = bvs (l ++ str.data.toList) := by rw [bvs_append]; rfl
  rw [e] at h2
  exact h2

set_option maxHeartbeats 1000000 in
theorem sclone_any (A : Option Addr) (n c B : Nat) (l : List UInt8) (w : World) (hv : RdB w B A n c l) (hB : B ≤ w.heap.size) (hl : n ≤ 140737488355232) :
    Calls Try.prog 97 #[.slice A n c] w fun e w' => ∃ A3 c3, e = .returned (.slice A3 n c3) ∧ OwnB w' w.heap.size A3 n c3 l ∧ Below w.heap.size w w' := by
  have hlc := hv.1
  have hcm := hv.2.1
  unfold maxLen at hcm
  have Hv := Kept.mk hv
  have hn := Kept.mk hv.len
  clear hv
  have qT : ∀ (w : World) (a : Option Addr) (n c n' c' : Nat), (binOp .eql 30 (.slice a n c) (.slice none n' c')).run Try.prog w = .ok (.bool a.isNone) w := fun w a n c n' c' => Lib.run_eql_slice_nil w _ _ a n c n' c' Try.underlying30
  cases A with
  | none =>
    have h0 : n = 0 := by
      rcases Nat.eq_zero_or_pos n with h | h
      · exact h
      · obtain ⟨b, off, e, _⟩ := Hv.out.2.2.2 h; cases e
    subst h0
    obtain rfl : l = [] := List.eq_nil_of_length_eq_zero hn.out.symm
    go_enter Try.func97, Try.ntmps97
    go_wp2
    go_ret
    exact ⟨none, 0, rfl, OwnB.nil _ _, Below.refl _ _⟩
  | some a =>
    go_enter Try.func97, Try.ntmps97
    go_wp2_with (at_builtin; refine wpList_appB rfl (.tmp 5) (.tmp 6) rfl w.heap.size _ _ _ [] rfl (OwnB.made w _ (Nat.le_refl _)) B _ _ _ l rfl (Rd.alloc Hv.out hB _) (by omega) (by simp) ?_; intro A2 c2 w1 hown1 hgrow1 hat1; have hb1 : Below w.heap.size w w1 := ((Below.refl _ w).alloc (Nat.le_refl _) _).grown hgrow1 (by simp) (by simp [ab]))
    rw [List.nil_append, Nat.zero_add] at hown1
    go_ret
    exact ⟨A2, c2, rfl, hown1, hb1⟩

/-- a string of bytes with its length -/
def Wr.str (d : List UInt8) : List UInt8 := Vi.enc d.length ++ d
theorem Wr.str_len (d : List UInt8) (h : d.length ≤ 140737488355328) : (Wr.str d).length ≤ d.length + 10 := by
  have := Vi.enc_len d.length (by omega)
  unfold Wr.str
  rw [List.length_append]
  omega

set_option maxRecDepth 100000 in
set_option maxHeartbeats 1000000 in
theorem appendBytes_any (A : Option Addr) (n c base : Nat) (l : List UInt8) (s : ByteArray) (w : World) (ho : OwnB w base A n c l) (hB : base ≤ w.heap.size) (hn : n + s.size ≤ 140737488354000) :
    Calls Try.prog 53 #[.slice A n c, .string s] w fun e w' => ∃ A3 n3 c3, e = .returned (.slice A3 n3 c3) ∧ OwnB w' base A3 n3 c3 (l ++ Wr.str s.data.toList) ∧ Below base w w' := by
  have Ho := Kept.mk ho
  have hlen := Kept.mk ho.len
  have hs : s.size ≤ 140737488354000 := by omega
  have hel := Kept.mk (Vi.enc_len s.size (by omega))
  have hst : Kept (Wr.str s.data.toList = Vi.enc s.size ++ s.data.toList) := ⟨by unfold Wr.str; simp⟩
  clear ho
  go_enter Try.func53, Try.ntmps53
  go_wp2_with (first
    | (go_at_call 52; refine (vappend_any _ _ _ base s.size l _ Ho.out hB (by omega) (by omega)).mono ?_; rintro e w1 ⟨A1, n1, c1, rfl, ho1, hg1, -⟩; have hn1 : n1 ≤ n + 10 := (by have h1 := ho1.len; have h2 := hel.out; have h3 := hlen.out; simp at h1; omega); have O1 := Kept.mk ho1; have b1 := own_grown_below Ho.out hB hg1; have z1 := b1.size; clear ho1 hg1)
    | (at_builtin; refine wpList_appStr rfl (.tmp 9) (.tmp 10) rfl base _ _ _ _ rfl O1.out s rfl (by omega) (by omega) ?_; intro A4 c4 w4 hown4 hgrow4))
  go_ret
  refine ⟨A4, _, c4, rfl, ?_, b1.trans (own_grown_below O1.out (by omega) hgrow4)⟩
  rw [hst.out, ← List.append_assoc]
  exact hown4

set_option maxRecDepth 100000 in
set_option maxHeartbeats 1000000 in
theorem refBytes_any (s : ByteArray) (w : World) (hn : s.size ≤ 140737488353000) :
    Calls Try.prog 55 #[.string s] w fun e w' => ∃ A3 n3 c3, e = .returned (.slice A3 n3 c3) ∧ OwnB w' w.heap.size A3 n3 c3 (Wr.str s.data.toList) ∧ Below w.heap.size w w' := by
  have hel := Kept.mk (Vi.enc_len s.size (by omega))
  have hst : Kept (Wr.str s.data.toList = Vi.enc s.size ++ s.data.toList) := ⟨by unfold Wr.str; simp⟩
  go_enter Try.func55, Try.ntmps55
  go_wp2_with (first
    | (go_at_call 54; refine (refEncode_any s.size _ (by omega)).mono ?_; rintro e w1 ⟨A1, n1, c1, rfl, ho1, b1⟩; have hn1 : n1 ≤ 10 := (by have h1 := ho1.len; have h2 := hel.out; omega); have O1 := Kept.mk ho1; have z1 := b1.size; clear ho1)
    | (at_builtin; refine wpList_appStr rfl (.tmp 6) (.tmp 7) rfl w.heap.size _ _ _ _ rfl O1.out s rfl (by omega) (by omega) ?_; intro A4 c4 w4 hown4 hgrow4))
  go_ret
  refine ⟨A4, _, c4, rfl, ?_, b1.trans (own_grown_below O1.out (by omega) hgrow4)⟩
  rw [hst.out]
  exact hown4


theorem grown_set (w : World) (a : Addr) (v : Value) : w.grownBy (w.setCell a v) (some a.block) :=
  ⟨rfl, rfl, rfl, by simp, fun k _ hne => Below.heap_setCell w a v k (fun e => hne (by rw [e]))⟩
/-- a reader in block p: its bytes, its offset, its error -/
def Rdr (w : World) (p : Nat) (l : List UInt8) (at_ : Nat) (e : Int) : Prop :=
  ∃ A n c, w.heap[p]? = some (.cells #[.slice A n c, .int .i64 (at_ : Int), .int .i64 e] 142 (0, 0)) ∧ RdB w p A n c l ∧ n ≤ 140737488354000 ∧ at_ ≤ n
theorem Rdr.lt {w : World} {p at_ : Nat} {l : List UInt8} {e : Int} (h : Rdr w p l at_ e) : p < w.heap.size := by
  obtain ⟨A, n, c, h, _⟩ := h
  exact (Array.getElem?_eq_some_iff.1 h).1
theorem Rdr.len {w : World} {p at_ : Nat} {l : List UInt8} {e : Int} (h : Rdr w p l at_ e) : l.length ≤ 140737488354000 ∧ at_ ≤ l.length := by
  obtain ⟨A, n, c, _, h, h2, h3⟩ := h
  have := h.len
  omega
theorem Rdr.below {w w' : World} {p at_ : Nat} {l : List UInt8} {e : Int} (h : Rdr w p l at_ e) {B : Nat} (hb : Below B w w') (hB : p < B) : Rdr w' p l at_ e := by
  obtain ⟨A, n, c, h1, h2, h3, h4⟩ := h
  exact ⟨A, n, c, (hb.block p hB).trans h1, RdB.below h2 (hb.mono (by omega)), h3, h4⟩
theorem Rdr.grown {w w' : World} {p at_ : Nat} {l : List UInt8} {e : Int} (h : Rdr w p l at_ e) {row : Option Nat} (hg : w.grownBy w' row) (hr : ∀ g, row = some g → p < g) : Rdr w' p l at_ e := by
  have hp := h.lt
  obtain ⟨A, n, c, h1, h2, h3, h4⟩ := h
  refine ⟨A, n, c, (hg.block p hp (fun e => by have := hr _ e.symm; omega)).trans h1, h2.grown hg (by omega) (fun g e => by have := hr _ e; omega), h3, h4⟩
theorem Rdr.move {w : World} {p at_ : Nat} {l : List UInt8} {e : Int} (h : Rdr w p l at_ e) (a : Nat) (ha : a ≤ l.length) : Rdr (w.setCell ⟨p, 1, none⟩ (.int .i64 (a : Int))) p l a e := by
  obtain ⟨A, n, c, h1, h2, h3, h4⟩ := h
  exact ⟨A, n, c, by rw [heap_setCell_same w p 1 _ _ _ h1]; rfl, h2.setCell (p := ⟨p, 1, none⟩) (Nat.le_refl _) _, h3, by have := h2.len; omega⟩
theorem Rdr.fail {w : World} {p at_ : Nat} {l : List UInt8} {e : Int} (h : Rdr w p l at_ e) (f : Int) : Rdr (w.setCell ⟨p, 2, none⟩ (.int .i64 f)) p l at_ f := by
  obtain ⟨A, n, c, h1, h2, h3, h4⟩ := h
  exact ⟨A, n, c, by rw [heap_setCell_same w p 2 _ _ _ h1]; rfl, h2.setCell (p := ⟨p, 2, none⟩) (Nat.le_refl _) _, h3, h4⟩
/-- the cells -/
theorem Rdr.cells {w : World} {p at_ : Nat} {l : List UInt8} {e : Int} (h : Rdr w p l at_ e) : ∃ A n c, w.cell? ⟨p, 0, none⟩ = some (.slice A n c) ∧ w.cell? ⟨p, 1, none⟩ = some (.int .i64 (at_ : Int)) ∧ w.cell? ⟨p, 2, none⟩ = some (.int .i64 e) ∧
    w.frozen? ⟨p, 1, none⟩ = false ∧ w.frozen? ⟨p, 2, none⟩ = false ∧ RdB w p A n c l ∧ n ≤ 140737488354000 ∧ at_ ≤ n ∧ n ≤ c ∧ c ≤ 9223372036854775807 := by
  obtain ⟨A, n, c, h1, h2, h3, h4⟩ := h
  have hc := h2.2.1
  unfold maxLen at hc
  exact ⟨A, n, c, cell_of_row _ _ _ _ _ _ h1, cell_of_row _ _ _ _ _ _ h1, cell_of_row _ _ _ _ _ _ h1, frozen_of_row _ _ _ _ _ h1, frozen_of_row _ _ _ _ _ h1, h2, h3, h4, h2.1, by omega⟩

set_option maxHeartbeats 1000000 in
theorem err_any (p at_ : Nat) (l : List UInt8) (e : Int) (w : World) (h : Rdr w p l at_ e) : Calls Try.prog 62 #[.pointer (some ⟨p, 0, none⟩)] w fun r w' => r = .returned (.int .i64 e) ∧ w = w' := by
  obtain ⟨A, n, c, c0, c1, c2, f1, f2, hr, h3, h4, h5, h6⟩ := h.cells
  clear h hr
  go_enter Try.func62, Try.ntmps62
  go_wp2
  go_ret
  exact ⟨rfl, rfl⟩
set_option maxHeartbeats 1000000 in
theorem at_any (p at_ : Nat) (l : List UInt8) (e : Int) (w : World) (h : Rdr w p l at_ e) : Calls Try.prog 109 #[.pointer (some ⟨p, 0, none⟩)] w fun r w' => r = .returned (.int .i64 (at_ : Int)) ∧ w = w' := by
  obtain ⟨A, n, c, c0, c1, c2, f1, f2, hr, h3, h4, h5, h6⟩ := h.cells
  clear h hr
  go_enter Try.func109, Try.ntmps109
  go_wp2
  go_ret
  exact ⟨rfl, rfl⟩
set_option maxHeartbeats 1000000 in
theorem left_any (p at_ : Nat) (l : List UInt8) (e : Int) (a : Int) (w : World) (h : Rdr w p l at_ e) (h0 : 0 ≤ a) (h1 : a ≤ 9223372036854775807) : Calls Try.prog 100 #[.pointer (some ⟨p, 0, none⟩), .int .i64 a] w fun r w' => r = .returned (.int .i64 ((l.length : Int) - a)) ∧ w = w' := by
  obtain ⟨A, n, c, c0, c1, c2, f1, f2, hr, h3, h4, h5, h6⟩ := h.cells
  have hl := Kept.mk hr.len
  clear h hr
  go_enter Try.func100, Try.ntmps100
  go_wp2
  go_ret
  exact ⟨by rw [← hl.out]; rfl, rfl⟩
set_option maxHeartbeats 1000000 in
theorem fail_any (p at_ : Nat) (l : List UInt8) (e f : Int) (w : World) (h : Rdr w p l at_ e) : Calls Try.prog 63 #[.pointer (some ⟨p, 0, none⟩), .int .i64 f] w fun r w' => r = .returned (.tuple #[]) ∧ Rdr w' p l at_ (if e = 0 then f else e) ∧ w.grownBy w' (some p) := by
  obtain ⟨A, n, c, c0, c1, c2, f1, f2, hr, h3, h4, h5, h6⟩ := h.cells
  have H := Kept.mk h
  clear h hr
  by_cases he : e = 0
  · subst he
    go_enter Try.func63, Try.ntmps63
    go_wp2
    go_end0
    exact ⟨rfl, H.out.fail f, grown_set w ⟨p, 2, none⟩ _⟩
  · have heb : (e == 0) = false := by simpa using he
    have hif : Kept ((if e = 0 then f else e) = e) := ⟨if_neg he⟩
    rw [hif.out]
    clear he
    go_enter Try.func63, Try.ntmps63
    go_wp2
    go_end0
    exact ⟨rfl, H.out, World.grownBy.refl _ _⟩
def Wr.fin (l : List UInt8) (at_ : Nat) (e : Int) : Int := if e ≠ 0 then e else if at_ < l.length then 4 else 0
set_option maxHeartbeats 1000000 in
theorem end_any (p at_ : Nat) (l : List UInt8) (e : Int) (w : World) (h : Rdr w p l at_ e) : Calls Try.prog 64 #[.pointer (some ⟨p, 0, none⟩)] w fun r w' => r = .returned (.int .i64 (Wr.fin l at_ e)) ∧ w = w' := by
  obtain ⟨A, n, c, c0, c1, c2, f1, f2, hr, h3, h4, h5, h6⟩ := h.cells
  have H := Kept.mk h
  have hl := Kept.mk hr.len
  clear h hr
  by_cases he : e = 0
  · subst he
    have hfin : Kept (Wr.fin l at_ 0 = if at_ < l.length then 4 else 0) := ⟨by unfold Wr.fin; rw [if_neg (by simp)]⟩
    have h7 : Kept (((l.length : Int) - (at_ : Int)) = (n : Int) - (at_ : Int)) := ⟨by rw [← hl.out]⟩
    by_cases hlt : at_ < n
    · have hlt' : (at_ : Int) < (n : Int) := by omega
      go_enter Try.func64, Try.ntmps64
      go_wp2_with (first
        | (go_at_call 62; refine (err_any _ _ _ _ _ H.out).mono ?_; rintro r w1 ⟨rfl, rfl⟩)
        | (go_at_call 100; refine (left_any _ _ _ _ _ _ H.out (by omega) (by omega)).mono ?_; rintro r w1 ⟨rfl, rfl⟩; rw [h7.out]))
      go_ret
      exact ⟨by rw [hfin.out, if_pos (by rw [← hl.out]; exact hlt)]; rfl, rfl⟩
    · obtain rfl : at_ = n := by omega
      go_enter Try.func64, Try.ntmps64
      go_wp2_with (first
        | (go_at_call 62; refine (err_any _ _ _ _ _ H.out).mono ?_; rintro r w1 ⟨rfl, rfl⟩)
        | (go_at_call 100; refine (left_any _ _ _ _ _ _ H.out (by omega) (by omega)).mono ?_; rintro r w1 ⟨rfl, rfl⟩; rw [h7.out]))
      go_ret
      exact ⟨by rw [hfin.out, if_neg (by rw [← hl.out]; omega)]; rfl, rfl⟩
  · have heb : (e == 0) = false := by simpa using he
    have hen : (e != 0) = true := by simpa using he
    have hfin : Kept (Wr.fin l at_ e = e) := ⟨by unfold Wr.fin; rw [if_pos he]⟩
    clear he
    go_enter Try.func64, Try.ntmps64
    go_wp2_with (go_at_call 62; refine (err_any _ _ _ _ _ H.out).mono ?_; rintro r w1 ⟨rfl, rfl⟩)
    go_ret
    exact ⟨by rw [hfin.out]; rfl, rfl⟩

set_option maxHeartbeats 1000000 in
theorem newReader_any (A : Option Addr) (n c B : Nat) (l : List UInt8) (w : World) (hv : RdB w B A n c l) (hB : B ≤ w.heap.size) (hn : n ≤ 140737488354000) :
    Calls Try.prog 60 #[.slice A n c] w fun r w' => ∃ p, r = .returned (.pointer (some ⟨p, 0, none⟩)) ∧ w.heap.size ≤ p ∧ p < w'.heap.size ∧ Rdr w' p l 0 0 ∧ Below w.heap.size w w' := by
  have Hv := Kept.mk hv
  have hlc := hv.1
  clear hv
  go_enter Try.func60, Try.ntmps60
  go_wp2_with (go_at_call 97; refine (sclone_any _ _ _ B l _ Hv.out hB (by omega)).mono ?_; rintro e w1 ⟨A1, c1, rfl, ho, hb⟩)
  go_ret
  have hz := hb.size
  exact ⟨w1.heap.size, rfl, hz, by simp, ⟨A1, n, c1, heap_alloc_new w1 _, ho.rd.alloc (Nat.le_refl _) _, hn, Nat.zero_le _⟩, hb.alloc hz _⟩

set_option maxHeartbeats 1000000 in
theorem readUint_err (p at_ : Nat) (l : List UInt8) (e : Int) (F : Value) (w : World) (h : Rdr w p l at_ e) (he : e ≠ 0) :
    Calls Try.prog 120 #[.pointer (some ⟨p, 0, none⟩), F] w fun r w' => r = .returned (.int .u64 0) ∧ w = w' := by
  have H := Kept.mk h
  have heb : (e == 0) = false := by simpa using he
  have hen : (e != 0) = true := by simpa using he
  clear h he
  go_enter Try.func120, Try.ntmps120
  go_wp2_with (go_at_call 62; refine (err_any _ _ _ _ _ H.out).mono ?_; rintro r w1 ⟨rfl, rfl⟩)
  go_ret
  exact ⟨rfl, rfl⟩
set_option maxHeartbeats 1000000 in
theorem readUint_bad (p at_ fid : Nat) (l : List UInt8) (tt er : Int) (c1 c2 : Value) (w : World) (R : World → Prop) (h : Rdr w p l at_ 0) (he : er ≠ 0)
    (hent : ∀ args w, (callFunc fid args).run Try.prog w = .ok (.enter fid args) w)
    (hf : Calls Try.prog fid #[.int .i64 (at_ : Int), c1, c2] w fun r w' => (∃ V, r = .returned (.tuple #[V, .int .i64 tt, .int .i64 er])) ∧ R w') (hR : ∀ w', R w' → Rdr w' p l at_ 0) :
    Calls Try.prog 120 #[.pointer (some ⟨p, 0, none⟩), .func (.func fid) #[] #[c1, c2]] w fun r w' => r = .returned (.int .u64 0) ∧ ∃ w1, R w1 ∧ w' = w1.setCell ⟨p, 2, none⟩ (.int .i64 er) := by
  obtain ⟨A, n, c, k0, k1, k2, f1, f2, hr, h3, h4, h5, h6⟩ := h.cells
  have H := Kept.mk h
  have HF := Kept.mk hf
  have HR := Kept.mk hR
  have heb : (er == 0) = false := by simpa using he
  have hen : (er != 0) = true := by simpa using he
  clear h he hr hf hR
  go_enter Try.func120, Try.ntmps120
  go_wp2_with (go_at_call 62; refine (err_any _ _ _ _ _ H.out).mono ?_; rintro r w1 ⟨rfl, rfl⟩)
  refine HF.out.mono ?_
  rintro r w1 ⟨⟨V, rfl⟩, hw1⟩
  obtain ⟨A', n', c', j0, j1, j2, g1, g2, -⟩ := (HR.out _ hw1).cells
  have HW := Kept.mk hw1
  clear k0 k1 k2 f1 f2 hw1
  go_wp2
  go_ret
  exact ⟨rfl, w1, HW.out, rfl⟩
set_option maxHeartbeats 1000000 in
theorem readUint_ok (p at_ fid : Nat) (l : List UInt8) (tt : Int) (c1 c2 : Value) (w : World) (R : Value → World → Prop) (h : Rdr w p l at_ 0)
    (hent : ∀ args w, (callFunc fid args).run Try.prog w = .ok (.enter fid args) w)
    (hf : Calls Try.prog fid #[.int .i64 (at_ : Int), c1, c2] w fun r w' => ∃ V, r = .returned (.tuple #[V, .int .i64 tt, .int .i64 0]) ∧ R V w') (hR : ∀ V w', R V w' → Rdr w' p l at_ 0) :
    Calls Try.prog 120 #[.pointer (some ⟨p, 0, none⟩), .func (.func fid) #[] #[c1, c2]] w fun r w' => ∃ V, r = .returned V ∧ ∃ w1, R V w1 ∧ w' = w1.setCell ⟨p, 1, none⟩ (.int .i64 tt) := by
  obtain ⟨A, n, c, k0, k1, k2, f1, f2, hr, h3, h4, h5, h6⟩ := h.cells
  have H := Kept.mk h
  have HF := Kept.mk hf
  have HR := Kept.mk hR
  clear h hr hf hR
  go_enter Try.func120, Try.ntmps120
  go_wp2_with (go_at_call 62; refine (err_any _ _ _ _ _ H.out).mono ?_; rintro r w1 ⟨rfl, rfl⟩)
  refine HF.out.mono ?_
  rintro r w1 ⟨V, rfl, hw1⟩
  obtain ⟨A', n', c', j0, j1, j2, g1, g2, -⟩ := (HR.out _ _ hw1).cells
  have HW := Kept.mk hw1
  clear k0 k1 k2 f1 f2 hw1
  go_wp2
  go_ret
  exact ⟨V, rfl, w1, HW.out, rfl⟩

set_option maxHeartbeats 1000000 in
theorem readString_err (p at_ : Nat) (l : List UInt8) (e : Int) (F : Value) (w : World) (h : Rdr w p l at_ e) (he : e ≠ 0) :
    Calls Try.prog 98 #[.pointer (some ⟨p, 0, none⟩), F] w fun r w' => r = .returned (.string ⟨#[]⟩) ∧ w = w' := by
  have H := Kept.mk h
  have heb : (e == 0) = false := by simpa using he
  have hen : (e != 0) = true := by simpa using he
  clear h he
  go_enter Try.func98, Try.ntmps98
  go_wp2_with (go_at_call 62; refine (err_any _ _ _ _ _ H.out).mono ?_; rintro r w1 ⟨rfl, rfl⟩)
  go_ret
  exact ⟨rfl, rfl⟩
set_option maxHeartbeats 1000000 in
theorem readString_bad (p at_ fid : Nat) (l : List UInt8) (tt er : Int) (c1 c2 : Value) (w : World) (R : World → Prop) (h : Rdr w p l at_ 0) (he : er ≠ 0)
    (hent : ∀ args w, (callFunc fid args).run Try.prog w = .ok (.enter fid args) w)
    (hf : Calls Try.prog fid #[.int .i64 (at_ : Int), c1, c2] w fun r w' => (∃ V, r = .returned (.tuple #[V, .int .i64 tt, .int .i64 er])) ∧ R w') (hR : ∀ w', R w' → Rdr w' p l at_ 0) :
    Calls Try.prog 98 #[.pointer (some ⟨p, 0, none⟩), .func (.func fid) #[] #[c1, c2]] w fun r w' => r = .returned (.string ⟨#[]⟩) ∧ ∃ w1, R w1 ∧ w' = w1.setCell ⟨p, 2, none⟩ (.int .i64 er) := by
  obtain ⟨A, n, c, k0, k1, k2, f1, f2, hr, h3, h4, h5, h6⟩ := h.cells
  have H := Kept.mk h
  have HF := Kept.mk hf
  have HR := Kept.mk hR
  have heb : (er == 0) = false := by simpa using he
  have hen : (er != 0) = true := by simpa using he
  clear h he hr hf hR
  go_enter Try.func98, Try.ntmps98
  go_wp2_with (go_at_call 62; refine (err_any _ _ _ _ _ H.out).mono ?_; rintro r w1 ⟨rfl, rfl⟩)
  refine HF.out.mono ?_
  rintro r w1 ⟨⟨V, rfl⟩, hw1⟩
  obtain ⟨A', n', c', j0, j1, j2, g1, g2, -⟩ := (HR.out _ hw1).cells
  have HW := Kept.mk hw1
  clear k0 k1 k2 f1 f2 hw1
  go_wp2
  go_ret
  exact ⟨rfl, w1, HW.out, rfl⟩
set_option maxHeartbeats 1000000 in
theorem readString_ok (p at_ fid : Nat) (l : List UInt8) (tt : Int) (c1 c2 : Value) (w : World) (R : Value → World → Prop) (h : Rdr w p l at_ 0)
    (hent : ∀ args w, (callFunc fid args).run Try.prog w = .ok (.enter fid args) w)
    (hf : Calls Try.prog fid #[.int .i64 (at_ : Int), c1, c2] w fun r w' => ∃ V, r = .returned (.tuple #[V, .int .i64 tt, .int .i64 0]) ∧ R V w') (hR : ∀ V w', R V w' → Rdr w' p l at_ 0) :
    Calls Try.prog 98 #[.pointer (some ⟨p, 0, none⟩), .func (.func fid) #[] #[c1, c2]] w fun r w' => ∃ V, r = .returned V ∧ ∃ w1, R V w1 ∧ w' = w1.setCell ⟨p, 1, none⟩ (.int .i64 tt) := by
  obtain ⟨A, n, c, k0, k1, k2, f1, f2, hr, h3, h4, h5, h6⟩ := h.cells
  have H := Kept.mk h
  have HF := Kept.mk hf
  have HR := Kept.mk hR
  clear h hr hf hR
  go_enter Try.func98, Try.ntmps98
  go_wp2_with (go_at_call 62; refine (err_any _ _ _ _ _ H.out).mono ?_; rintro r w1 ⟨rfl, rfl⟩)
  refine HF.out.mono ?_
  rintro r w1 ⟨V, rfl, hw1⟩
  obtain ⟨A', n', c', j0, j1, j2, g1, g2, -⟩ := (HR.out _ _ hw1).cells
  have HW := Kept.mk hw1
  clear k0 k1 k2 f1 f2 hw1
  go_wp2
  go_ret
  exact ⟨V, rfl, w1, HW.out, rfl⟩

def Wr.byte (l : List UInt8) (a : Nat) (e : Int) : Nat × Nat × Int := if e ≠ 0 then (0, a, e) else if h : a < l.length then (l[a].toNat, a + 1, 0) else (0, a, 3)
def Wr.uint (l : List UInt8) (a : Nat) (e : Int) (most : Nat) : Nat × Nat × Int :=
  if e ≠ 0 then (0, a, e) else
    let r := Vi.get l (a : Int)
    if r.2.2 ≠ 0 then (0, a, (r.2.2 : Int)) else if most < r.1 then (0, a, 7) else (r.1, r.2.1.toNat, 0)

theorem Rdr.box {w : World} {p a : Nat} {l : List UInt8} {e : Int} (h : Rdr w p l a e) (o : Obj) : Rdr (w.alloc o) p l a e := h.below ((Below.refl _ w).alloc (Nat.le_refl _) o) h.lt


theorem Vi.get_to {l : List UInt8} {a x : Nat} {t : Int} (h : Vi.get l (a : Int) = (x, t, 0)) : (a : Int) < t ∧ t ≤ l.length := by
  unfold Vi.get at h
  by_cases hc : (a : Int) < 0 ∨ (l.length : Int) < a
  · rw [if_pos hc] at h; cases h
  · rw [if_neg hc] at h
    have key : ∀ (r : List UInt8) (i y : Nat), (Vi.get1 r i y).2.2 = 0 → i < (Vi.get1 r i y).2.1 ∧ (Vi.get1 r i y).2.1 ≤ i + r.length := by
      intro r
      induction r with
      | nil => intro i y h; cases h
      | cons c r ih =>
        intro i y
        rw [Vi.get1_cons]
        split
        · intro h; cases h
        · split
          · intro h; cases h
          · split
            · intro _; simp
            · intro h
              have := ih _ _ h
              simp; omega
    have k := key (l.drop (a : Int).toNat) 0 0
    revert h k
    generalize Vi.get1 (l.drop (a : Int).toNat) 0 0 = q
    intro h k
    simp only at h
    by_cases hq : q.2.2 = 0
    · rw [if_pos hq] at h
      have := k hq
      simp only [List.length_drop, Int.toNat_natCast] at this
      cases h
      omega
    · rw [if_neg hq] at h
      simp only [Prod.mk.injEq] at h
      exact absurd h.2.2 hq

set_option maxHeartbeats 1000000 in
theorem uint1_any (p a bx bm m : Nat) (l : List UInt8) (e : Int) (w : World) (h : Rdr w p l a e) (hb : w.cell? ⟨bx, 0, none⟩ = some (.pointer (some ⟨p, 0, none⟩))) (hm : w.cell? ⟨bm, 0, none⟩ = some (.int .u64 (m : Int))) :
    Calls Try.prog 121 #[.int .i64 (a : Int), .pointer (some ⟨bx, 0, none⟩), .pointer (some ⟨bm, 0, none⟩)] w fun r w' => r = .returned (.tuple #[.int .u64 ((Vi.get l (a : Int)).1 : Int), .int .i64 (Vi.get l (a : Int)).2.1,
      .int .i64 (if (Vi.get l (a : Int)).2.2 = 0 ∧ m < (Vi.get l (a : Int)).1 then 7 else ((Vi.get l (a : Int)).2.2 : Int))]) ∧ w = w' := by
  obtain ⟨A, n, c, k0, k1, k2, f1, f2, hr, h3, h4, h5, h6⟩ := h.cells
  have HG := Kept.mk (get_any A n c p l (a : Int) w hr (by omega) (by omega))
  clear h hr
  obtain ⟨r, hr⟩ : ∃ r, Vi.get l (a : Int) = r := ⟨_, rfl⟩
  rw [hr] at HG ⊢
  obtain ⟨x, t, er⟩ := r
  unfold getV at HG
  simp only at HG ⊢
  clear hr
  by_cases h0 : er = 0
  · subst h0
    by_cases hx : m < x
    · rw [if_pos ⟨rfl, hx⟩]
      have hx' : (m : Int) < (x : Int) := by omega
      go_enter Try.func121, Try.ntmps121
      go_wp2_with (go_at_call 59; refine HG.out.mono ?_; rintro r w1 ⟨rfl, rfl⟩)
      go_ret3
      exact ⟨rfl, rfl⟩
    · rw [if_neg (fun h => hx h.2)]
      have hx' : (x : Int) ≤ (m : Int) := by omega
      go_enter Try.func121, Try.ntmps121
      go_wp2_with (go_at_call 59; refine HG.out.mono ?_; rintro r w1 ⟨rfl, rfl⟩)
      go_ret3
      exact ⟨rfl, rfl⟩
  · rw [if_neg (fun h => h0 h.1)]
    have h0' : ((er : Int) == 0) = false := by simp; omega
    clear h0
    go_enter Try.func121, Try.ntmps121
    go_wp2_with (go_at_call 59; refine HG.out.mono ?_; rintro r w1 ⟨rfl, rfl⟩)
    go_ret3
    exact ⟨rfl, rfl⟩
set_option maxHeartbeats 1000000 in
theorem uint_any (p a m : Nat) (l : List UInt8) (e : Int) (w : World) (h : Rdr w p l a e) :
    Calls Try.prog 108 #[.pointer (some ⟨p, 0, none⟩), .int .u64 (m : Int)] w fun r w' => r = .returned (.int .u64 ((Wr.uint l a e m).1 : Int)) ∧ Rdr w' p l (Wr.uint l a e m).2.1 (Wr.uint l a e m).2.2 ∧ w.grownBy w' (some p) := by
  have bb := ((Boxed.new w 94 (.pointer (some ⟨p, 0, none⟩))).alloc (.cells #[.int .u64 (m : Int)] 84)).cell
  have bm := (Boxed.new (w.alloc (.cells #[.pointer (some ⟨p, 0, none⟩)] 94)) 84 (.int .u64 (m : Int))).cell
  have H := Kept.mk ((h.box (.cells #[.pointer (some ⟨p, 0, none⟩)] 94)).box (.cells #[.int .u64 (m : Int)] 84))
  have g0 : w.grownBy ((w.alloc (.cells #[.pointer (some ⟨p, 0, none⟩)] 94)).alloc (.cells #[.int .u64 (m : Int)] 84)) (some p) := (World.grownBy_alloc _ _ _).trans (World.grownBy_alloc _ _ _)
  rw [World.size_alloc] at bm
  have hU := uint1_any p a w.heap.size (w.heap.size + 1) m l e _ H.out bb bm
  obtain ⟨W2, hW2⟩ : ∃ W2, W2 = (w.alloc (.cells #[.pointer (some ⟨p, 0, none⟩)] 94)).alloc (.cells #[.int .u64 (m : Int)] 84) := ⟨_, rfl⟩
  have hlen := h.len
  by_cases he : e = 0
  · subst he
    obtain ⟨r, hr⟩ : ∃ r, Vi.get l (a : Int) = r := ⟨_, rfl⟩
    have hto := fun x t (hh : r = (x, t, 0)) => Vi.get_to (hr.trans hh)
    have hm : Wr.uint l a 0 m = if r.2.2 ≠ 0 then (0, a, (r.2.2 : Int)) else if m < r.1 then (0, a, 7) else (r.1, r.2.1.toNat, 0) := by
      unfold Wr.uint; rw [if_neg (by simp), hr]
    rw [hm]
    rw [hr] at hU
    obtain ⟨x, t, er⟩ := r
    simp only at hU ⊢
    by_cases hbad : (if er = 0 ∧ m < x then (7 : Int) else (er : Int)) = 0
    · have h00 : er = 0 := by
        by_cases h : er = 0
        · exact h
        · rw [if_neg (fun hh => h hh.1)] at hbad; omega
      subst h00
      have hx : ¬ m < x := fun hh => by rw [if_pos ⟨rfl, hh⟩] at hbad; omega
      have ht := hto x t rfl
      rw [if_neg (by simp), if_neg hx]
      rw [if_neg (fun hh => hx hh.2)] at hU
      have HF := Kept.mk (readUint_ok p a 121 l t (.pointer (some ⟨w.heap.size, 0, none⟩)) (.pointer (some ⟨w.heap.size + 1, 0, none⟩)) _ (fun V w' => V = .int .u64 (x : Int) ∧ w' = W2) H.out
        (enters_of Try.func121 (by kernel_rfl) rfl) (hU.mono fun r w' ⟨h1, h2⟩ => ⟨_, h1, rfl, by rw [hW2, h2]⟩) (fun V w' ⟨_, h⟩ => by rw [h, hW2]; exact H.out))
      have G0 := Kept.mk g0
      have HW2 := Kept.mk hW2
      have ht1 : ((t.toNat : Nat) : Int) = t := by omega
      have HM := Kept.mk (H.out.move t.toNat (by omega))
      rw [ht1] at HM
      clear h g0 hm bb bm hU hto hr hW2 ht1
      go_enter Try.func108, Try.ntmps108
      go_wp2_with (go_at_call 120; refine HF.out.mono ?_; rintro r w1 ⟨V, rfl, w2, ⟨rfl, rfl⟩, rfl⟩; rw [HW2.out])
      go_ret
      exact ⟨rfl, HM.out, G0.out.trans (grown_set _ ⟨p, 1, none⟩ _)⟩
    · have hres : (if er ≠ 0 then (0, a, (er : Int)) else if m < x then (0, a, 7) else (x, t.toNat, 0) : Nat × Nat × Int) = (0, a, if er = 0 ∧ m < x then (7 : Int) else (er : Int)) := by
        by_cases h : er = 0
        · subst h
          by_cases hx : m < x
          · rw [if_neg (by simp), if_pos hx, if_pos ⟨rfl, hx⟩]
          · rw [if_neg (fun hh => hx hh.2)] at hbad; exact absurd rfl hbad
        · rw [if_pos h, if_neg (fun hh => h hh.1)]
      rw [hres]
      clear hres hm
      generalize (if er = 0 ∧ m < x then (7 : Int) else (er : Int)) = f at *
      have HF := Kept.mk (readUint_bad p a 121 l t f (.pointer (some ⟨w.heap.size, 0, none⟩)) (.pointer (some ⟨w.heap.size + 1, 0, none⟩)) _ (fun w' => w' = W2) H.out hbad
        (enters_of Try.func121 (by kernel_rfl) rfl) (hU.mono fun r w' ⟨h1, h2⟩ => ⟨⟨_, h1⟩, by rw [hW2, h2]⟩) (fun w' h => by rw [h, hW2]; exact H.out))
      have G0 := Kept.mk g0
      have HW2 := Kept.mk hW2
      clear h g0 bb bm hU hto hr hW2 hbad
      go_enter Try.func108, Try.ntmps108
      go_wp2_with (go_at_call 120; refine HF.out.mono ?_; rintro r w1 ⟨rfl, w2, rfl, rfl⟩; rw [HW2.out])
      go_ret
      exact ⟨rfl, H.out.fail f, G0.out.trans (grown_set _ ⟨p, 2, none⟩ _)⟩
  · have hm : Wr.uint l a e m = (0, a, e) := by unfold Wr.uint; rw [if_pos he]
    rw [hm]
    have HF := Kept.mk (readUint_err p a l e (.func (.func 121) #[] #[.pointer (some ⟨w.heap.size, 0, none⟩), .pointer (some ⟨w.heap.size + 1, 0, none⟩)]) _ H.out he)
    have G0 := Kept.mk g0
    clear h g0 hm bb bm he hU hW2
    go_enter Try.func108, Try.ntmps108
    go_wp2_with (go_at_call 120; refine HF.out.mono ?_; rintro r w1 ⟨rfl, rfl⟩)
    go_ret
    exact ⟨rfl, H.out, G0.out⟩

/-- only draws -/
def Quiet (w w' : World) : Prop := ∃ n, w' = w.drewN n
theorem Quiet.below {w w' : World} (h : Quiet w w') (B : Nat) : Below B w w' := by obtain ⟨n, rfl⟩ := h; exact below_drewN (Below.refl _ _) n
theorem Quiet.grown {w w' : World} (h : Quiet w w') (row : Option Nat) : w.grownBy w' row := by obtain ⟨n, rfl⟩ := h; exact ⟨rfl, rfl, rfl, Nat.le_refl _, fun _ _ _ => rfl⟩
def Wr.take (l : List UInt8) (a : Nat) (e n : Int) : List UInt8 × Nat × Int :=
  if e ≠ 0 then ([], a, e) else if n < 0 then ([], a, 2) else if (l.length : Int) - a < n then ([], a, 3) else ((l.drop a).take n.toNat, a + n.toNat, 0)

/-- a cut of a slice, as the walk spells it -/
theorem RdB.cut {w : World} {B n c : Nat} {A : Option Addr} {l : List UInt8} (h : RdB w B A n c l) {a k : Nat} (hk : a + k ≤ n) : RdB w B (if c = a then A else A.map (·.add a)) k (c - a) ((l.drop a).take k) := (h.drop (by omega)).take (by omega)

theorem below_grown {w w' : World} (h : Below w.heap.size w w') (row : Option Nat) : w.grownBy w' row := ⟨h.os, h.tape, h.output, h.size, fun k hk _ => h.block k hk⟩
theorem OwnB.far {w : World} {base n c : Nat} {A : Option Addr} {l : List UInt8} (h : OwnB w base A n c l) {a : Addr} (ha : a.block < base) (v : Value) : OwnB (w.setCell a v) base A n c l :=
  h.apart (grown_set w a v) (fun r e => by cases e; exact .inl fun e2 => by have := (own_lt h _ e2).1; omega)

def Wr.string1 (l : List UInt8) (r : Nat × Int × Nat) (m : Int) : List UInt8 × Int × Int :=
  if r.2.2 ≠ 0 then ([], 0, (r.2.2 : Int)) else if m < 0 ∨ m < (r.1 : Int) then ([], 0, 7) else if (l.length : Int) - r.2.1 < (r.1 : Int) then ([], 0, 3) else ((l.drop r.2.1.toNat).take r.1, r.2.1 + (r.1 : Int), 0)
def Wr.string (l : List UInt8) (a : Nat) (e m : Int) : List UInt8 × Nat × Int :=
  if e ≠ 0 then ([], a, e) else if (Wr.string1 l (Vi.get l (a : Int)) m).2.2 ≠ 0 then ([], a, (Wr.string1 l (Vi.get l (a : Int)) m).2.2) else ((Wr.string1 l (Vi.get l (a : Int)) m).1, (Wr.string1 l (Vi.get l (a : Int)) m).2.1.toNat, 0)

def strV (r : List UInt8 × Int × Int) : Value := .tuple #[.string ⟨r.1.toArray⟩, .int .i64 r.2.1, .int .i64 r.2.2]
set_option maxRecDepth 100000 in
set_option maxHeartbeats 2000000 in
theorem string1_any (p a bx bm : Nat) (l : List UInt8) (e m : Int) (w : World) (h : Rdr w p l a e) (hb : w.cell? ⟨bx, 0, none⟩ = some (.pointer (some ⟨p, 0, none⟩))) (hm : w.cell? ⟨bm, 0, none⟩ = some (.int .i64 m)) (m1 : m ≤ 9223372036854775807) :
    Calls Try.prog 99 #[.int .i64 (a : Int), .pointer (some ⟨bx, 0, none⟩), .pointer (some ⟨bm, 0, none⟩)] w fun r w' => r = .returned (strV (Wr.string1 l (Vi.get l (a : Int)) m)) ∧ w = w' := by
  have HL := Kept.mk (fun (t : Int) (h0 : 0 ≤ t) (h1 : t ≤ 9223372036854775807) => left_any p a l e t w h h0 h1)
  obtain ⟨A, n, c, k0, k1, k2, f1, f2, hr, h3, h4, h5, h6⟩ := h.cells
  have HG := Kept.mk (get_any A n c p l (a : Int) w hr (by omega) (by omega))
  have hl := Kept.mk hr.len
  have HR := Kept.mk hr
  clear h hr
  obtain ⟨r, hr⟩ : ∃ r, Vi.get l (a : Int) = r := ⟨_, rfl⟩
  have hto := fun x t (hh : r = (x, t, 0)) => Vi.get_to (hr.trans hh)
  rw [hr] at HG ⊢
  clear hr
  obtain ⟨x, t, er⟩ := r
  unfold getV at HG
  simp only at HG
  by_cases h0 : er = 0
  · subst h0
    obtain ⟨ht1, ht2⟩ := hto x t rfl
    obtain ⟨tn, rfl⟩ := Int.eq_ofNat_of_zero_le (show 0 ≤ t by omega)
    have ht3 : (tn : Int) ≤ (n : Int) := by have := hl.out; omega
    clear hto ht2
    by_cases hm0 : m < 0
    · have hres : Kept (Wr.string1 l (x, (tn : Int), 0) m = ([], 0, 7)) := ⟨by unfold Wr.string1; rw [if_neg (by simp), if_pos (.inl hm0)]⟩
      rw [hres.out]
      go_enter Try.func99, Try.ntmps99
      go_wp2_with (go_at_call 59; refine HG.out.mono ?_; rintro r w1 ⟨rfl, rfl⟩)
      go_ret3
      exact ⟨rfl, rfl⟩
    · have hm0' : 0 ≤ m := by omega
      by_cases hmx : m < (x : Int)
      · have hres : Kept (Wr.string1 l (x, (tn : Int), 0) m = ([], 0, 7)) := ⟨by unfold Wr.string1; rw [if_neg (by simp), if_pos (.inr hmx)]⟩
        rw [hres.out]
        clear hm0
        go_enter Try.func99, Try.ntmps99
        go_wp2_with (go_at_call 59; refine HG.out.mono ?_; rintro r w1 ⟨rfl, rfl⟩)
        go_ret3
        exact ⟨rfl, rfl⟩
      · have hmx' : (x : Int) ≤ m := by omega
        have e1 : Kept ((l.length : Int) - (tn : Int) = (n : Int) - (tn : Int)) := ⟨by rw [← hl.out]⟩
        by_cases hfar : (n : Int) - (tn : Int) < (x : Int)
        · have hres : Kept (Wr.string1 l (x, (tn : Int), 0) m = ([], 0, 3)) := ⟨by unfold Wr.string1; rw [if_neg (by simp), if_neg (by simp; omega), if_pos (by rw [← hl.out]; exact hfar)]⟩
          rw [hres.out]
          clear hm0 hmx
          go_enter Try.func99, Try.ntmps99
          go_wp2_with (first
            | (go_at_call 59; refine HG.out.mono ?_; rintro r w1 ⟨rfl, rfl⟩)
            | (go_at_call 100; refine (HL.out _ (by omega) (by omega)).mono ?_; rintro r w1 ⟨rfl, rfl⟩; rw [e1.out]))
          go_ret3
          exact ⟨rfl, rfl⟩
        · have hnear : (x : Int) ≤ (n : Int) - (tn : Int) := by omega
          have hres : Kept (Wr.string1 l (x, (tn : Int), 0) m = ((l.drop tn).take x, (tn : Int) + (x : Int), 0)) := ⟨by unfold Wr.string1; rw [if_neg (by simp), if_neg (by simp; omega), if_neg (by rw [← hl.out]; exact hfar)]; rfl⟩
          rw [hres.out]
          have hcut := HR.out.cut (show tn + x ≤ n by omega)
          clear hm0 hmx hfar
          by_cases hct : c = tn
          · rw [if_pos hct] at hcut
            have kc := run_bytes_str w p A x (c - tn) _ hcut
            obtain rfl : x = 0 := by omega
            obtain rfl : n = c := by omega
            subst hct
            rw [Nat.sub_self] at kc
            clear hcut e1
            have e1 : Kept ((l.length : Int) - (n : Int) = 0) := ⟨by have := hl.out; omega⟩
            go_enter Try.func99, Try.ntmps99
            go_wp2_with (first
              | (go_at_call 59; refine HG.out.mono ?_; rintro r w1 ⟨rfl, rfl⟩)
              | (go_at_call 100; refine (HL.out _ (by omega) (by omega)).mono ?_; rintro r w1 ⟨rfl, rfl⟩; rw [e1.out]))
            go_ret3
            exact ⟨by simp [strV], rfl⟩
          · rw [if_neg hct] at hcut
            have kc := run_bytes_str w p _ x (c - tn) _ hcut
            have hct' : (tn : Int) < (c : Int) := by omega
            have e2 : ((tn : Int) + (x : Int)).toNat = tn + x := by omega
            have i3 : (tn : Int) + (x : Int) ≤ (n : Int) := by omega
            have i4 : (tn : Int) + (x : Int) ≤ (c : Int) := by omega
            clear hcut hct
            generalize (l.drop tn).take x = S at *
            go_enter Try.func99, Try.ntmps99
            go_wp2_with (first
              | (go_at_call 59; refine HG.out.mono ?_; rintro r w1 ⟨rfl, rfl⟩)
              | (go_at_call 100; refine (HL.out _ (by omega) (by omega)).mono ?_; rintro r w1 ⟨rfl, rfl⟩; rw [e1.out]))
            go_ret3
            exact ⟨rfl, rfl⟩
  · have hres : Kept (Wr.string1 l (x, t, er) m = ([], 0, (er : Int))) := ⟨by unfold Wr.string1; rw [if_pos (by simpa using h0)]⟩
    rw [hres.out]
    have h0' : ((er : Int) == 0) = false := by simp; omega
    have h0'' : ((er : Int) != 0) = true := by simp; omega
    clear h0 hto
    go_enter Try.func99, Try.ntmps99
    go_wp2_with (go_at_call 59; refine HG.out.mono ?_; rintro r w1 ⟨rfl, rfl⟩)
    go_ret3
    exact ⟨rfl, rfl⟩
theorem Wr.string1_to {l : List UInt8} {a : Nat} {m : Int} (h : (Wr.string1 l (Vi.get l (a : Int)) m).2.2 = 0) : 0 ≤ (Wr.string1 l (Vi.get l (a : Int)) m).2.1 ∧ (Wr.string1 l (Vi.get l (a : Int)) m).2.1 ≤ l.length := by
  obtain ⟨r, hr⟩ : ∃ r, Vi.get l (a : Int) = r := ⟨_, rfl⟩
  rw [hr] at h ⊢
  obtain ⟨x, t, er⟩ := r
  unfold Wr.string1 at h ⊢
  by_cases h0 : er = 0
  · subst h0
    have ht := Vi.get_to hr
    rw [if_neg (by simp)] at h ⊢
    split
    · rename_i h1; rw [if_pos h1] at h; simp at h
    · rename_i h1
      rw [if_neg h1] at h
      split
      · rename_i h2; rw [if_pos h2] at h; simp at h
      · simp only at *; omega
  · rw [if_pos (by simpa using h0)] at h
    simp at h; omega

set_option maxHeartbeats 1000000 in
theorem string_any (p a : Nat) (l : List UInt8) (e m : Int) (w : World) (h : Rdr w p l a e) (m1 : m ≤ 9223372036854775807) :
    Calls Try.prog 61 #[.pointer (some ⟨p, 0, none⟩), .int .i64 m] w fun r w' => r = .returned (.string ⟨(Wr.string l a e m).1.toArray⟩) ∧ Rdr w' p l (Wr.string l a e m).2.1 (Wr.string l a e m).2.2 ∧ w.grownBy w' (some p) := by
  have bb := ((Boxed.new w 94 (.pointer (some ⟨p, 0, none⟩))).alloc (.cells #[.int .i64 m] 3)).cell
  have bm := (Boxed.new (w.alloc (.cells #[.pointer (some ⟨p, 0, none⟩)] 94)) 3 (.int .i64 m)).cell
  have H := Kept.mk ((h.box (.cells #[.pointer (some ⟨p, 0, none⟩)] 94)).box (.cells #[.int .i64 m] 3))
  have g0 : w.grownBy ((w.alloc (.cells #[.pointer (some ⟨p, 0, none⟩)] 94)).alloc (.cells #[.int .i64 m] 3)) (some p) := (World.grownBy_alloc _ _ _).trans (World.grownBy_alloc _ _ _)
  rw [World.size_alloc] at bm
  have hU := string1_any p a w.heap.size (w.heap.size + 1) l e m _ H.out bb bm m1
  obtain ⟨W2, hW2⟩ : ∃ W2, W2 = (w.alloc (.cells #[.pointer (some ⟨p, 0, none⟩)] 94)).alloc (.cells #[.int .i64 m] 3) := ⟨_, rfl⟩
  have HW2 := Kept.mk hW2
  by_cases he : e = 0
  · subst he
    obtain ⟨s, hs⟩ : ∃ s, Wr.string1 l (Vi.get l (a : Int)) m = s := ⟨_, rfl⟩
    have hto := Wr.string1_to (l := l) (a := a) (m := m)
    have hmm : Wr.string l a 0 m = if s.2.2 ≠ 0 then ([], a, s.2.2) else (s.1, s.2.1.toNat, 0) := by unfold Wr.string; rw [if_neg (by simp), hs]
    rw [hmm]
    rw [hs] at hU hto
    obtain ⟨S, t, er⟩ := s
    unfold strV at hU
    simp only at hU hto ⊢
    by_cases h0 : er = 0
    · subst h0
      obtain ⟨ht0, ht1⟩ := hto rfl
      rw [if_neg (by simp)]
      have HF := Kept.mk (readString_ok p a 99 l t (.pointer (some ⟨w.heap.size, 0, none⟩)) (.pointer (some ⟨w.heap.size + 1, 0, none⟩)) _ (fun V w' => V = .string ⟨S.toArray⟩ ∧ w' = W2) H.out
        (enters_of Try.func99 (by kernel_rfl) rfl) (hU.mono fun r w' ⟨h1, h2⟩ => ⟨_, h1, rfl, by rw [hW2, h2]⟩) (fun V w' ⟨_, h⟩ => by rw [h, hW2]; exact H.out))
      have G0 := Kept.mk g0
      have ht2 : ((t.toNat : Nat) : Int) = t := by omega
      have HM := Kept.mk (H.out.move t.toNat (by omega))
      rw [ht2] at HM
      clear h g0 hmm bb bm hU hto hs hW2 ht2
      go_enter Try.func61, Try.ntmps61
      go_wp2_with (go_at_call 98; refine HF.out.mono ?_; rintro r w1 ⟨V, rfl, w2, ⟨rfl, rfl⟩, rfl⟩; rw [HW2.out])
      go_ret
      exact ⟨rfl, HM.out, G0.out.trans (grown_set _ ⟨p, 1, none⟩ _)⟩
    · rw [if_pos h0]
      have HF := Kept.mk (readString_bad p a 99 l t er (.pointer (some ⟨w.heap.size, 0, none⟩)) (.pointer (some ⟨w.heap.size + 1, 0, none⟩)) _ (fun w' => w' = W2) H.out h0
        (enters_of Try.func99 (by kernel_rfl) rfl) (hU.mono fun r w' ⟨h1, h2⟩ => ⟨⟨_, h1⟩, by rw [hW2, h2]⟩) (fun w' h => by rw [h, hW2]; exact H.out))
      have G0 := Kept.mk g0
      clear h g0 bb bm hU hto hs hW2 hmm h0
      go_enter Try.func61, Try.ntmps61
      go_wp2_with (go_at_call 98; refine HF.out.mono ?_; rintro r w1 ⟨rfl, w2, rfl, rfl⟩; rw [HW2.out])
      go_ret
      exact ⟨rfl, H.out.fail er, G0.out.trans (grown_set _ ⟨p, 2, none⟩ _)⟩
  · have hmm : Wr.string l a e m = ([], a, e) := by unfold Wr.string; rw [if_pos he]
    rw [hmm]
    have HF := Kept.mk (readString_err p a l e (.func (.func 99) #[] #[.pointer (some ⟨w.heap.size, 0, none⟩), .pointer (some ⟨w.heap.size + 1, 0, none⟩)]) _ H.out he)
    have G0 := Kept.mk g0
    clear h g0 hmm bb bm he hU hW2
    go_enter Try.func61, Try.ntmps61
    go_wp2_with (go_at_call 98; refine HF.out.mono ?_; rintro r w1 ⟨rfl, rfl⟩)
    go_ret
    exact ⟨rfl, H.out, G0.out⟩

open Go.RowKit

theorem Wr.string_str (P R d : List UInt8) (m : Int) (hd : d.length < 18446744073709551616) (hm : (d.length : Int) ≤ m) : Wr.string (P ++ Wr.str d ++ R) P.length 0 m = (d, P.length + (Wr.str d).length, 0) := by
  have hsl : (Wr.str d).length = (Vi.enc d.length).length + d.length := by unfold Wr.str; simp
  have hlen : (P ++ Wr.str d ++ R).length = P.length + (Wr.str d).length + R.length := by simp; omega
  have hget : Vi.get (P ++ Wr.str d ++ R) (P.length : Int) = (d.length, ((P.length + (Vi.enc d.length).length : Nat) : Int), 0) := by
    have h := Vi.get_enc P d.length (d ++ R) hd
    have e : P ++ Wr.str d ++ R = P ++ Vi.enc d.length ++ (d ++ R) := by unfold Wr.str; simp
    rw [e]
    exact h
  have hs1 : Wr.string1 (P ++ Wr.str d ++ R) (Vi.get (P ++ Wr.str d ++ R) (P.length : Int)) m = (d, ((P.length + (Wr.str d).length : Nat) : Int), 0) := by
    rw [hget]
    unfold Wr.string1
    rw [if_neg (by simp), if_neg (by simp; omega), if_neg (by simp only; rw [hlen]; omega)]
    simp only [Int.toNat_natCast]
    have e4 : ((P ++ Wr.str d ++ R).drop (P.length + (Vi.enc d.length).length)).take d.length = d := by
      have e : P ++ Wr.str d ++ R = (P ++ Vi.enc d.length) ++ (d ++ R) := by unfold Wr.str; simp
      have e5 : P.length + (Vi.enc d.length).length = (P ++ Vi.enc d.length).length := by simp
      rw [e, e5, List.drop_left, List.take_left]
    rw [e4]
    simp only [Prod.mk.injEq, true_and, and_true]
    omega
  unfold Wr.string
  rw [if_neg (by simp), hs1]
  simp only [ne_eq, not_true_eq_false, if_false, Int.toNat_natCast]

/-- a reader of the reference in block p: its bytes, its offset, its error -/
def RdrQ (w : World) (p : Nat) (l : List UInt8) (at_ : Nat) (e : Int) : Prop :=
  ∃ A n c, w.heap[p]? = some (.cells #[.slice A n c, .int .i64 (at_ : Int), .int .i64 e] 103 (0, 0)) ∧ RdB w p A n c l ∧ n ≤ 140737488354000 ∧ at_ ≤ n
theorem RdrQ.lt {w : World} {p at_ : Nat} {l : List UInt8} {e : Int} (h : RdrQ w p l at_ e) : p < w.heap.size := by
  obtain ⟨A, n, c, h, _⟩ := h
  exact (Array.getElem?_eq_some_iff.1 h).1
theorem RdrQ.len {w : World} {p at_ : Nat} {l : List UInt8} {e : Int} (h : RdrQ w p l at_ e) : l.length ≤ 140737488354000 ∧ at_ ≤ l.length := by
  obtain ⟨A, n, c, _, h, h2, h3⟩ := h
  have := h.len
  omega
theorem RdrQ.below {w w' : World} {p at_ : Nat} {l : List UInt8} {e : Int} (h : RdrQ w p l at_ e) {B : Nat} (hb : Below B w w') (hB : p < B) : RdrQ w' p l at_ e := by
  obtain ⟨A, n, c, h1, h2, h3, h4⟩ := h
  exact ⟨A, n, c, (hb.block p hB).trans h1, RdB.below h2 (hb.mono (by omega)), h3, h4⟩
theorem RdrQ.grown {w w' : World} {p at_ : Nat} {l : List UInt8} {e : Int} (h : RdrQ w p l at_ e) {row : Option Nat} (hg : w.grownBy w' row) (hr : ∀ g, row = some g → p < g) : RdrQ w' p l at_ e := by
  have hp := h.lt
  obtain ⟨A, n, c, h1, h2, h3, h4⟩ := h
  refine ⟨A, n, c, (hg.block p hp (fun e => by have := hr _ e.symm; omega)).trans h1, h2.grown hg (by omega) (fun g e => by have := hr _ e; omega), h3, h4⟩
theorem RdrQ.move {w : World} {p at_ : Nat} {l : List UInt8} {e : Int} (h : RdrQ w p l at_ e) (a : Nat) (ha : a ≤ l.length) : RdrQ (w.setCell ⟨p, 1, none⟩ (.int .i64 (a : Int))) p l a e := by
  obtain ⟨A, n, c, h1, h2, h3, h4⟩ := h
  exact ⟨A, n, c, by rw [heap_setCell_same w p 1 _ _ _ h1]; rfl, h2.setCell (p := ⟨p, 1, none⟩) (Nat.le_refl _) _, h3, by have := h2.len; omega⟩
theorem RdrQ.fail {w : World} {p at_ : Nat} {l : List UInt8} {e : Int} (h : RdrQ w p l at_ e) (f : Int) : RdrQ (w.setCell ⟨p, 2, none⟩ (.int .i64 f)) p l at_ f := by
  obtain ⟨A, n, c, h1, h2, h3, h4⟩ := h
  exact ⟨A, n, c, by rw [heap_setCell_same w p 2 _ _ _ h1]; rfl, h2.setCell (p := ⟨p, 2, none⟩) (Nat.le_refl _) _, h3, h4⟩
/-- the cells -/
theorem RdrQ.cells {w : World} {p at_ : Nat} {l : List UInt8} {e : Int} (h : RdrQ w p l at_ e) : ∃ A n c, w.cell? ⟨p, 0, none⟩ = some (.slice A n c) ∧ w.cell? ⟨p, 1, none⟩ = some (.int .i64 (at_ : Int)) ∧ w.cell? ⟨p, 2, none⟩ = some (.int .i64 e) ∧
    w.frozen? ⟨p, 1, none⟩ = false ∧ w.frozen? ⟨p, 2, none⟩ = false ∧ RdB w p A n c l ∧ n ≤ 140737488354000 ∧ at_ ≤ n ∧ n ≤ c ∧ c ≤ 9223372036854775807 := by
  obtain ⟨A, n, c, h1, h2, h3, h4⟩ := h
  have hc := h2.2.1
  unfold maxLen at hc
  exact ⟨A, n, c, cell_of_row _ _ _ _ _ _ h1, cell_of_row _ _ _ _ _ _ h1, cell_of_row _ _ _ _ _ _ h1, frozen_of_row _ _ _ _ _ h1, frozen_of_row _ _ _ _ _ h1, h2, h3, h4, h2.1, by omega⟩

theorem RdrQ.box {w : World} {p a : Nat} {l : List UInt8} {e : Int} (h : RdrQ w p l a e) (o : Obj) : RdrQ (w.alloc o) p l a e := h.below ((Below.refl _ w).alloc (Nat.le_refl _) o) h.lt
theorem RdrQ.block {w : World} {p a : Nat} {l : List UInt8} {e : Int} (h : RdrQ w p l a e) : ∃ A n c, RdB w p A n c l ∧ n = l.length ∧ n ≤ 140737488354000 := by
  obtain ⟨A, n, c, _, h1, h2, _⟩ := h
  exact ⟨A, n, c, h1, h1.len, h2⟩

set_option maxHeartbeats 1000000 in
theorem failq_any (p at_ : Nat) (l : List UInt8) (e f : Int) (w : World) (h : RdrQ w p l at_ e) : Calls Try.prog 67 #[.pointer (some ⟨p, 0, none⟩), .int .i64 f] w fun r w' => r = .returned (.tuple #[]) ∧ w' = (if e = 0 then w.setCell ⟨p, 2, none⟩ (.int .i64 f) else w) := by
  obtain ⟨A, n, c, c0, c1, c2, f1, f2, hr, h3, h4, h5, h6⟩ := h.cells
  clear h hr
  by_cases he : e = 0
  · subst he
    rw [if_pos rfl]
    go_enter Try.func67, Try.ntmps67
    go_wp2
    go_end0
    exact ⟨rfl, rfl⟩
  · have heb : (e == 0) = false := by simpa using he
    rw [if_neg he]
    clear he
    go_enter Try.func67, Try.ntmps67
    go_wp2
    go_end0
    exact ⟨rfl, rfl⟩
set_option maxHeartbeats 1000000 in
theorem endq_any (p at_ : Nat) (l : List UInt8) (e : Int) (w : World) (h : RdrQ w p l at_ e) : Calls Try.prog 68 #[.pointer (some ⟨p, 0, none⟩)] w fun r w' => r = .returned (.int .i64 (Wr.fin l at_ e)) ∧ Quiet w w' := by
  obtain ⟨A, n, c, c0, c1, c2, f1, f2, hr, h3, h4, h5, h6⟩ := h.cells
  have hl := Kept.mk hr.len
  clear h hr
  by_cases he : e = 0
  · subst he
    have hfin : Kept (Wr.fin l at_ 0 = if at_ < l.length then 4 else 0) := ⟨by unfold Wr.fin; rw [if_neg (by simp)]⟩
    by_cases hlt : at_ < n
    · have hlt' : (at_ : Int) < (n : Int) := by omega
      go_enter Try.func68, Try.ntmps68
      go_wp2
      go_quiet (fail)
      go_wp2
      go_ret
      exact ⟨by rw [hfin.out, if_pos (by rw [← hl.out]; exact hlt)]; rfl, ⟨_, rfl⟩⟩
    · obtain rfl : at_ = n := by omega
      go_enter Try.func68, Try.ntmps68
      go_wp2
      go_quiet (fail)
      go_wp2
      go_ret
      exact ⟨by rw [hfin.out, if_neg (by rw [← hl.out]; omega)]; rfl, ⟨_, rfl⟩⟩
  · have heb : (e == 0) = false := by simpa using he
    have hen : (e != 0) = true := by simpa using he
    have hfin : Kept (Wr.fin l at_ e = e) := ⟨by unfold Wr.fin; rw [if_pos he]⟩
    clear he
    go_enter Try.func68, Try.ntmps68
    go_wp2
    go_quiet (fail)
    go_wp2
    go_ret
    exact ⟨by rw [hfin.out]; rfl, ⟨_, rfl⟩⟩

set_option maxRecDepth 100000 in
set_option maxHeartbeats 2000000 in
theorem uintq_any (p a m : Nat) (l : List UInt8) (e : Int) (w : World) (h : RdrQ w p l a e) :
    Calls Try.prog 81 #[.pointer (some ⟨p, 0, none⟩), .int .u64 (m : Int)] w fun r w' => r = .returned (.int .u64 ((Wr.uint l a e m).1 : Int)) ∧ RdrQ w' p l (Wr.uint l a e m).2.1 (Wr.uint l a e m).2.2 ∧ w.grownBy w' (some p) := by
  have H := Kept.mk h
  obtain ⟨A, n, c, c0, c1, c2, f1, f2, hr, h3, h4, h5, h6⟩ := h.cells
  have hl := Kept.mk hr.len
  by_cases he : e = 0
  · subst he
    obtain ⟨g, hg⟩ : ∃ g, Vi.get l (a : Int) = g := ⟨_, rfl⟩
    have HG := fun (W : World) (hW : RdB W p A n c l) => refget_any A n c p l (a : Int) W hW (by omega) (by omega) (by omega)
    rw [hg] at HG
    have HR := Kept.mk hr
    have hm : Wr.uint l a 0 m = if g.2.2 ≠ 0 then (0, a, (g.2.2 : Int)) else if m < g.1 then (0, a, 7) else (g.1, g.2.1.toNat, 0) := by unfold Wr.uint; rw [if_neg (by simp), hg]
    have hto := fun x t (hh : g = (x, t, 0)) => Vi.get_to (a := a) (hg.trans hh)
    obtain ⟨x, t, er⟩ := g
    unfold getV at HG
    simp only at HG hm
    rw [hm]
    have HG' := Kept.mk HG
    by_cases h0 : er = 0
    · subst h0
      have ht := hto x t rfl
      rw [if_neg (by simp)]
      by_cases hmx : m < x
      · rw [if_pos hmx]
        have hmx' : (m : Int) < (x : Int) := by omega
        clear h hr hm ht hto HG hg hmx
        go_enter Try.func81, Try.ntmps81
        go_wp2
        go_quiet ((go_at_call 65; exact (HG'.out _ (by exact HR.out)).mono fun _ _ q => ⟨q.1, _, q.2.symm⟩))
        go_wp2_with ((go_at_call 67; refine (failq_any p a l 0 7 _ (by exact H.out)).mono ?_; rintro r w1 ⟨rfl, hw1⟩; rw [if_pos rfl] at hw1; subst hw1))
        go_ret
        exact ⟨rfl, H.out.fail 7, (Quiet.grown ⟨_, rfl⟩ _).trans (grown_set _ ⟨p, 2, none⟩ _)⟩
      · rw [if_neg hmx]
        have hmx' : (x : Int) ≤ (m : Int) := by omega
        have ht2 : Kept (((t.toNat : Nat) : Int) = t) := ⟨by omega⟩
        have ht3 : Kept (t.toNat ≤ l.length) := ⟨by omega⟩
        clear h hr hm ht hto HG hg hmx
        go_enter Try.func81, Try.ntmps81
        go_wp2
        go_quiet ((go_at_call 65; exact (HG'.out _ (by exact HR.out)).mono fun _ _ q => ⟨q.1, _, q.2.symm⟩))
        go_wp2
        go_ret
        have hm2 := H.out.move t.toNat ht3.out
        rw [ht2.out] at hm2
        exact ⟨rfl, hm2, (Quiet.grown ⟨_, rfl⟩ _).trans (grown_set _ ⟨p, 1, none⟩ _)⟩
    · have h0' : ((er : Int) == 0) = false := by simp; omega
      have h0'' : ((er : Int) != 0) = true := by simp; omega
      rw [if_pos h0]
      clear h hr hm hto HG hg h0
      go_enter Try.func81, Try.ntmps81
      go_wp2
      go_quiet ((go_at_call 65; exact (HG'.out _ (by exact HR.out)).mono fun _ _ q => ⟨q.1, _, q.2.symm⟩))
      go_wp2_with ((go_at_call 67; refine (failq_any p a l 0 (er : Int) _ (by exact H.out)).mono ?_; rintro r w1 ⟨rfl, hw1⟩; rw [if_pos rfl] at hw1; subst hw1))
      go_ret
      exact ⟨rfl, H.out.fail _, (Quiet.grown ⟨_, rfl⟩ _).trans (grown_set _ ⟨p, 2, none⟩ _)⟩
  · have hm : Wr.uint l a e m = (0, a, e) := by unfold Wr.uint; rw [if_pos he]
    rw [hm]
    have heb : (e == 0) = false := by simpa using he
    have hen : (e != 0) = true := by simpa using he
    clear h hr hm he
    go_enter Try.func81, Try.ntmps81
    go_wp2
    go_ret
    exact ⟨rfl, H.out, World.grownBy.refl _ _⟩
theorem step_appB {w : World} {ops : Array Oper} {o : Oper} {a : Act} {K : Act → World → Prop} {Q : Exit → Act → World → Prop} {E : Prop} (hgd : o.guard = none) (s x : Operand)
    (ho : o.op = .call { callee := .builtin .append, args := #[s, x], argTypes := #[30, 30] })
    (base : Nat) (A : Option Addr) (n c : Nat) (l : List UInt8) (hs : a.eval s = .slice A n c) (hown : OwnB w base A n c l)
    (B : Nat) (S : Option Addr) (m d : Nat) (k : List UInt8) (hx : a.eval x = .slice S m d) (hr : RdB w B S m d k)
    (hlen : n + m ≤ 140737488355328) (hbase : base ≤ w.heap.size)
    (h : ∀ A2 c2 w', OwnB w' base A2 (n + m) c2 (l ++ k) → w.grownBy w' (ab A) → (ab A2 = ab A ∨ ab A2 = some w.heap.size) → K (a.put o.dst (.slice A2 (n + m) c2)) w') :
    if Region.wanted o (yielded ops a.tmps) = true then Oper.wp Try.prog o a w K Q else E := by
  have hw : Region.wanted o (yielded ops a.tmps) = true := by simp [Region.wanted, hgd]
  rw [if_pos hw]
  obtain ⟨i0, hi0, hz0, hz1, hz2⟩ := info_parts infoB
  refine wp_app w s x _ ho base 5 i0 (.int .u8 0) 1 1 Try.underlying30 hi0 hz0 hz1 hz2 rfl (by decide) A n c (bvs l) hs hown B S m d (bvs k) hx hr (bvs_one k) (by unfold maxLen; omega) (by omega) hbase ?_
  rw [← bvs_append]
  exact h
set_option maxRecDepth 100000 in
set_option maxHeartbeats 2000000 in
theorem stringq_any (p a : Nat) (l : List UInt8) (e m : Int) (w : World) (h : RdrQ w p l a e) (m1 : m ≤ 9223372036854775807) :
    Calls Try.prog 66 #[.pointer (some ⟨p, 0, none⟩), .int .i64 m] w fun r w' => r = .returned (.string ⟨(Wr.string l a e m).1.toArray⟩) ∧ RdrQ w' p l (Wr.string l a e m).2.1 (Wr.string l a e m).2.2 ∧ w.grownBy w' (some p) := by
  have H := Kept.mk h
  obtain ⟨A, n, c, c0, c1, c2, f1, f2, hr, h3, h4, h5, h6⟩ := h.cells
  have hl := Kept.mk hr.len
  by_cases he : e = 0
  · subst he
    obtain ⟨g, hg⟩ : ∃ g, Vi.get l (a : Int) = g := ⟨_, rfl⟩
    have HG := fun (W : World) (hW : RdB W p A n c l) => refget_any A n c p l (a : Int) W hW (by omega) (by omega) (by omega)
    rw [hg] at HG
    have HR := Kept.mk hr
    have hto := fun x t (hh : g = (x, t, 0)) => Vi.get_to (a := a) (hg.trans hh)
    obtain ⟨s, hs⟩ : ∃ s, Wr.string1 l g m = s := ⟨_, rfl⟩
    have hm : Wr.string l a 0 m = if s.2.2 ≠ 0 then ([], a, s.2.2) else (s.1, s.2.1.toNat, 0) := by unfold Wr.string; rw [if_neg (by simp), hg, hs]
    rw [hm]
    obtain ⟨x, t, er⟩ := g
    unfold getV at HG
    simp only at HG
    have HG' := Kept.mk HG
    unfold Wr.string1 at hs
    by_cases h0 : er = 0
    · subst h0
      have ht := hto x t rfl
      rw [if_neg (by simp)] at hs
      obtain ⟨tn, rfl⟩ := Int.eq_ofNat_of_zero_le (show 0 ≤ t by omega)
      have ht3 : (tn : Int) ≤ (n : Int) := by have := hl.out; omega
      by_cases hmx : m < 0 ∨ m < (x : Int)
      · rw [if_pos hmx] at hs
        subst hs
        rw [if_pos (by simp)]
        have key : ∀ (hq : (m < 0 ∧ True) ∨ (0 ≤ m ∧ m < (x : Int))), Calls Try.prog 66 #[.pointer (some ⟨p, 0, none⟩), .int .i64 m] w fun r w' => r = .returned (.string ⟨#[]⟩) ∧ RdrQ w' p l a 7 ∧ w.grownBy w' (some p) := by
          clear h hr hm ht hto HG hg hmx
          rintro (⟨hq, -⟩ | ⟨hq, hq2⟩)
          all_goals
            go_enter Try.func66, Try.ntmps66
            go_wp2
            go_quiet ((go_at_call 65; exact (HG'.out _ (by exact HR.out)).mono fun _ _ q => ⟨q.1, _, q.2.symm⟩))
            go_wp2_with ((go_at_call 67; refine (failq_any p a l 0 7 _ (by exact H.out)).mono ?_; rintro r w1 ⟨rfl, hw1⟩; rw [if_pos rfl] at hw1; subst hw1))
            go_ret
            exact ⟨rfl, H.out.fail 7, (Quiet.grown ⟨_, rfl⟩ _).trans (grown_set _ ⟨p, 2, none⟩ _)⟩
        rcases hmx with hh | hh
        · exact key (.inl ⟨hh, trivial⟩)
        · by_cases h00 : m < 0
          · exact key (.inl ⟨h00, trivial⟩)
          · exact key (.inr ⟨by omega, hh⟩)
      · rw [if_neg hmx] at hs
        have hm0 : 0 ≤ m := by omega
        have hmx' : (x : Int) ≤ m := by omega
        by_cases hfar : (l.length : Int) - (tn : Int) < (x : Int)
        · rw [if_pos hfar] at hs
          subst hs
          rw [if_pos (by simp)]
          have hfar' : (n : Int) - (tn : Int) < (x : Int) := by have := hl.out; omega
          clear h hr hm ht hto HG hg hmx hfar
          go_enter Try.func66, Try.ntmps66
          go_wp2
          go_quiet ((go_at_call 65; exact (HG'.out _ (by exact HR.out)).mono fun _ _ q => ⟨q.1, _, q.2.symm⟩))
          go_wp2_with ((go_at_call 67; refine (failq_any p a l 0 3 _ (by exact H.out)).mono ?_; rintro r w1 ⟨rfl, hw1⟩; rw [if_pos rfl] at hw1; subst hw1))
          go_ret
          exact ⟨rfl, H.out.fail 3, (Quiet.grown ⟨_, rfl⟩ _).trans (grown_set _ ⟨p, 2, none⟩ _)⟩
        · rw [if_neg hfar] at hs
          subst hs
          rw [if_neg (by simp)]
          have hnear : (x : Int) ≤ (n : Int) - (tn : Int) := by have := hl.out; omega
          have i1 : (tn : Int) ≤ (tn : Int) + (x : Int) := by omega
          have i2 : (tn : Int) + (x : Int) ≤ (n : Int) := by omega
          have i3 : (tn : Int) + (x : Int) ≤ (c : Int) := by omega
          have e2 : ((tn : Int) + (x : Int)).toNat = tn + x := by omega
          have ht2 : Kept (tn + x ≤ l.length) := ⟨by have := hl.out; omega⟩
          have hm1 := Kept.mk (fun k => (show RdrQ (w.drewN k) p l a 0 from H.out).move (tn + x) ht2.out)
          rw [Int.natCast_add] at hm1
          have hcut := HR.out.cut (show tn + x ≤ n by omega)
          simp only [Int.toNat_natCast, e2]
          by_cases hct : c = tn
          · rw [if_pos hct] at hcut
            obtain rfl : x = 0 := by omega
            obtain rfl : n = c := by omega
            subst hct
            rw [Nat.sub_self] at hcut
            have kc : ∀ k j, (convert 30 9 (.slice A 0 0)).run Try.prog (((w.drewN k).setCell ⟨p, 1, none⟩ (.int .i64 (n : Int))).drewN j) = .ok (.string ⟨((l.drop n).take 0).toArray⟩) (((w.drewN k).setCell ⟨p, 1, none⟩ (.int .i64 (n : Int))).drewN j) := fun k j => run_bytes_str _ p _ _ _ _ (RdB.drewN (RdB.setCell (hcut.drewN k) (p := ⟨p, 1, none⟩) (Nat.le_refl _) _) j)
            simp only [Int.natCast_zero, Int.add_zero, Nat.add_zero] at *
            have kw : IntKind.i64.wrap (n : Int) = (n : Int) := by rw [IntKind.wrap_i64]; omega
            clear h hr hm ht hto HG hg hmx hfar hcut
            generalize (l.drop n).take 0 = S at *
            go_enter Try.func66, Try.ntmps66
            go_wp2
            go_quiet ((go_at_call 65; exact (HG'.out _ (by exact HR.out)).mono fun _ _ q => ⟨q.1, _, q.2.symm⟩))
            go_wp2
            go_quiet (fail)
            go_wp2
            go_ret
            exact ⟨rfl, hm1.out _, ((Quiet.grown ⟨_, rfl⟩ _).trans (grown_set _ ⟨p, 1, none⟩ _)).trans (Quiet.grown ⟨_, rfl⟩ _)⟩
          · rw [if_neg hct] at hcut
            have hct' : (tn : Int) < (c : Int) := by omega
            have kc : ∀ k j, (convert 30 9 (.slice (A.map (·.add tn)) x (c - tn))).run Try.prog (((w.drewN k).setCell ⟨p, 1, none⟩ (.int .i64 ((tn : Int) + (x : Int)))).drewN j) = .ok (.string ⟨((l.drop tn).take x).toArray⟩) (((w.drewN k).setCell ⟨p, 1, none⟩ (.int .i64 ((tn : Int) + (x : Int)))).drewN j) := fun k j => run_bytes_str _ p _ _ _ _ (RdB.drewN (RdB.setCell (hcut.drewN k) (p := ⟨p, 1, none⟩) (Nat.le_refl _) _) j)
            clear h hr hm ht hto HG hg hmx hfar hcut hct
            generalize (l.drop tn).take x = S at *
            go_enter Try.func66, Try.ntmps66
            go_wp2
            go_quiet ((go_at_call 65; exact (HG'.out _ (by exact HR.out)).mono fun _ _ q => ⟨q.1, _, q.2.symm⟩))
            go_wp2
            go_quiet (fail)
            go_wp2
            go_ret
            exact ⟨rfl, hm1.out _, ((Quiet.grown ⟨_, rfl⟩ _).trans (grown_set _ ⟨p, 1, none⟩ _)).trans (Quiet.grown ⟨_, rfl⟩ _)⟩
    · have h0' : ((er : Int) == 0) = false := by simp; omega
      have h0'' : ((er : Int) != 0) = true := by simp; omega
      rw [if_pos (by simpa using h0)] at hs
      subst hs
      rw [if_pos (by simp; omega)]
      clear h hr hm hto HG hg h0
      go_enter Try.func66, Try.ntmps66
      go_wp2
      go_quiet ((go_at_call 65; exact (HG'.out _ (by exact HR.out)).mono fun _ _ q => ⟨q.1, _, q.2.symm⟩))
      go_wp2_with ((go_at_call 67; refine (failq_any p a l 0 (er : Int) _ (by exact H.out)).mono ?_; rintro r w1 ⟨rfl, hw1⟩; rw [if_pos rfl] at hw1; subst hw1))
      go_ret
      exact ⟨rfl, H.out.fail _, (Quiet.grown ⟨_, rfl⟩ _).trans (grown_set _ ⟨p, 2, none⟩ _)⟩
  · have hm : Wr.string l a e m = ([], a, e) := by unfold Wr.string; rw [if_pos he]
    rw [hm]
    have heb : (e == 0) = false := by simpa using he
    have hen : (e != 0) = true := by simpa using he
    clear h hr hm he
    go_enter Try.func66, Try.ntmps66
    go_wp2
    go_ret
    exact ⟨rfl, H.out, World.grownBy.refl _ _⟩
end Go.Proofs.Ythhcfocmaiacoaa
