/- Cut by cut_tpl.py out of RecA, RecC, RecI, RecP, RecQ: what this seat reaches. -/
import Derived.Test.YthhcfocmaiacoaaSymW
import Derived.Test.YthhcfocmaiacoaaSymMath
import Derived.Test.YthhcfocmaiacoaaLabMath
import Derived.Test.YthhcfocmaiacoaaMemS
import Derived.Test.YthhcfocmaiacoaaMemL
import Derived.Test.YthhcfocmaiacoaaGr
import Derived.Test.YthhcfocmaiacoaaMemI
import Derived.Deep.Cut
namespace Go.Proofs.Ythhcfocmaiacoaa
open Go.RowKit Go.Shelf

/-- what a reading of a number leaves -/
theorem Wr.uint_le (l : List UInt8) (a m : Nat) (e : Int) : (Wr.uint l a e m).1 ≤ m := by
  unfold Wr.uint
  split
  · exact Nat.zero_le _
  · simp only []
    split
    · exact Nat.zero_le _
    · split
      · exact Nat.zero_le _
      · omega
theorem Wr.uint_zero (l : List UInt8) (a m : Nat) (e : Int) (h : (Wr.uint l a e m).2.2 ≠ 0) : (Wr.uint l a e m).1 = 0 := by
  unfold Wr.uint at h ⊢
  split
  · rfl
  · rw [if_neg (by assumption)] at h
    simp only [] at h ⊢
    split
    · rfl
    · rw [if_neg (by assumption)] at h
      split
      · rfl
      · rw [if_neg (by assumption)] at h
        exact absurd rfl h
theorem Wr.uint_at (l : List UInt8) (a m : Nat) (e : Int) (h : a ≤ l.length) : (Wr.uint l a e m).2.1 ≤ l.length := by
  unfold Wr.uint
  split
  · exact h
  · simp only []
    split
    · exact h
    · next h2 =>
      split
      · exact h
      · have h3 : (Vi.get l (a : Int)).2.2 = 0 := by simpa using h2
        generalize hg : Vi.get l (a : Int) = G at *
        obtain ⟨x, t, f⟩ := G
        have h5 : f = 0 := h3
        subst h5
        have h4 := (Vi.get_to hg).2
        show t.toNat ≤ l.length
        omega
namespace Rc
def mx : Nat := 18446744073709551615
def cnt (l : List UInt8) (a : Nat) (e : Int) : Nat × Nat × Int :=
  let r := Wr.uint l a e mx
  if r.2.2 ≠ 0 then (0, r.2.1, r.2.2) else if l.length - r.2.1 < r.1 then (0, r.2.1, 3) else r
def sym (T : List ByteArray) (l : List UInt8) (a : Nat) (e : Int) : ByteArray × Nat × Int :=
  let r := Wr.uint l a e mx
  if r.2.2 ≠ 0 then (ByteArray.empty, r.2.1, r.2.2) else if T.length ≤ r.1 then (ByteArray.empty, r.2.1, 14) else (T.getD r.1 ByteArray.empty, r.2.1, 0)
def lab (T : List ByteArray) (l : List UInt8) (a : Nat) (e : Int) : Lab × Nat × Int :=
  let r := sym T l a e
  let s := sym T l r.2.1 r.2.2
  (⟨r.1, s.1⟩, s.2)
def len (l : List UInt8) (a : Nat) (e : Int) : Nat × Nat × Int :=
  let r := Wr.uint l a e mx
  if r.1 < 1 ∨ 2147483647 < r.1 then (r.1, r.2.1, if r.2.2 = 0 then 23 else r.2.2) else r
end Rc
theorem drewN_grown {w w' : World} {n : Nat} {row : Option Nat} (h : (w.drewN n).grownBy w' row) : w.grownBy w' row := ⟨h.os, h.tape, h.output, h.size, h.block⟩
theorem drewN_grown' {row : Option Nat} (w : World) (n : Nat) : w.grownBy (w.drewN n) row := ⟨rfl, rfl, rfl, Nat.le_refl _, fun _ _ _ => rfl⟩

theorem grown_box {w w3 : World} {o : Obj} {row : Option Nat} (h : (w.alloc o).grownBy w3 row) : w.grownBy w3 row :=
  ⟨h.os, h.tape, h.output, by have := h.size; simp at this; omega, fun k hk hne => (h.block k (by simp; omega) hne).trans (Below.heap_alloc _ _ k hk)⟩
theorem grown_new_set {w w3 : World} {row : Option Nat} {g k : Nat} {v : Value} (h : w.grownBy w3 row) (hg : w.heap.size ≤ g) : w.grownBy (w3.setCell ⟨g, k, none⟩ v) row := by
  have s := grown_set w3 ⟨g, k, none⟩ v
  exact ⟨s.os.trans h.os, s.tape.trans h.tape, s.output.trans h.output, Nat.le_trans h.size s.size, fun j hj hne => (s.block j (by have := h.size; omega) (fun e => by have := Option.some.inj e; simp at this; omega)).trans (h.block j hj hne)⟩
theorem grown_of_below {w w' : World} {row : Option Nat} (h : Below w.heap.size w w') : w.grownBy w' row := ⟨h.os, h.tape, h.output, h.size, fun k hk _ => h.block k hk⟩
theorem put2_row (w : World) (g : Nat) (a b : Value) {cs : Array Value} {t : TypeId} (h : w.heap[g]? = some (.cells cs t (0, 0))) (hs : cs.size = 2) : ((w.setCell ⟨g, 0, none⟩ a).setCell ⟨g, 1, none⟩ b).heap[g]? = some (.cells #[a, b] t (0, 0)) := by
  rw [heap_setCell_same _ g 1 _ t _ (heap_setCell_same w g 0 _ t _ h)]
  obtain ⟨L, rfl⟩ : ∃ L : List Value, cs = L.toArray := ⟨cs.toList, by simp⟩
  match L, hs with
  | [_, _], _ => rfl
namespace Rc
/-- the list that n readings give -/
def lst {X : Type} (rd : Nat → Int → X × Nat × Int) : Nat → List X → Nat → Int → List X × Nat × Int
  | 0, acc, a, e => (acc, a, e)
  | n + 1, acc, a, e => let r := rd a e; if r.2.2 ≠ 0 then ([], r.2.1, r.2.2) else lst rd n (acc ++ [r.1]) r.2.1 r.2.2
theorem lst_zero {X : Type} (rd : Nat → Int → X × Nat × Int) (acc : List X) (a : Nat) (e : Int) : lst rd 0 acc a e = (acc, a, e) := rfl
theorem lst_bad {X : Type} (rd : Nat → Int → X × Nat × Int) (n : Nat) (acc : List X) (a : Nat) (e : Int) (hn : 0 < n) (h : (rd a e).2.2 ≠ 0) : lst rd n acc a e = ([], (rd a e).2.1, (rd a e).2.2) := by
  obtain ⟨m, rfl⟩ : ∃ m, n = m + 1 := ⟨n - 1, by omega⟩
  unfold lst
  exact if_pos h
theorem lst_ok {X : Type} (rd : Nat → Int → X × Nat × Int) (n : Nat) (acc : List X) (a : Nat) (e : Int) (hn : 0 < n) (h : (rd a e).2.2 = 0) : lst rd n acc a e = lst rd (n - 1) (acc ++ [(rd a e).1]) (rd a e).2.1 0 := by
  obtain ⟨m, rfl⟩ : ∃ m, n = m + 1 := ⟨n - 1, by omega⟩
  rw [Nat.add_sub_cancel]
  conv => lhs; unfold lst
  refine (if_neg (by simp [h])).trans ?_
  rw [h]
theorem cnt_le (l : List UInt8) (a : Nat) (e : Int) (h : a ≤ l.length) : (cnt l a e).1 ≤ l.length := by
  unfold cnt
  simp only []
  split
  · exact Nat.zero_le _
  · split
    · exact Nat.zero_le _
    · have := Wr.uint_at l a mx e h; omega
end Rc

namespace Rc
def symE (T : List ByteArray) (s : ByteArray) : List UInt8 := Vi.enc ((Sy.idx T s).getD 0)
theorem drop_get {α : Type} (l : List α) (k : Nat) (h : k < l.length) : l.drop k = l[k] :: l.drop (k + 1) := List.drop_eq_getElem_cons h
end Rc
theorem OwnB.apartT {w : World} {base n c g : Nat} {A : Option Addr} {l : List UInt8} {cs : Array Value} {t : TypeId} {fr : Nat × Nat} (h : OwnB w base A n c l) (hg : w.heap[g]? = some (.cells cs t fr)) (ht : t ≠ 5) : ab A ≠ some g := by
  intro e
  rcases h.2 with ⟨hv, _⟩ | ⟨g', cap, cur, hv, _, hg', _⟩
  · injection hv with h1; rw [h1] at e; cases e
  · injection hv with h1
    rw [h1] at e
    have : g' = g := Option.some.inj e
    subst this
    rw [hg] at hg'
    injection hg' with h2
    injection h2 with _ h3
    exact ht h3

theorem Vi.get1_canon (l : List UInt8) : ∀ (i x y k : Nat), Vi.get1 l i x = (y, k, 0) → ∃ z, y = x + z * 128 ^ i ∧ i < k ∧ l.take (k - i) = Vi.enc z ∧ k - i ≤ l.length ∧ (0 < i → 0 < z) := by
  induction l with
  | nil => intro i x y k h; simp [Vi.get1] at h
  | cons c l ih =>
    intro i x y k h
    rw [Vi.get1_cons] at h
    have hc := c.toNat_lt
    split at h
    · simp at h
    · split at h
      · simp at h
      · rename_i h2
        split at h
        · rename_i h3
          simp only [Prod.mk.injEq] at h
          obtain ⟨rfl, rfl, _⟩ := h
          refine ⟨c.toNat, by rw [Nat.mod_eq_of_lt h3], by omega, ?_, by simp, fun hi => by omega⟩
          rw [Vi.enc_lt h3, show i + 1 - i = 1 by omega]
          simp
        · rename_i h3
          obtain ⟨z, h4, h5, h6, h7, h8⟩ := ih _ _ _ _ h
          have hz := h8 (by omega)
          have e1 : (c.toNat % 128 + z * 128) % 128 = c.toNat % 128 := by omega
          have e2 : (c.toNat % 128 + z * 128) / 128 = z := by omega
          refine ⟨c.toNat % 128 + z * 128, ?_, by omega, ?_, by simp; omega, fun _ => by omega⟩
          · rw [h4, Nat.pow_succ, Nat.add_mul, Nat.mul_assoc z 128, Nat.mul_comm 128, Nat.add_assoc]
          · rw [Vi.enc_ge (by omega), e1, e2, ← h6, show k - i = (k - (i + 1)) + 1 by omega, List.take_succ_cons]
            congr 1
            rw [show c.toNat % 128 + 128 = c.toNat by omega]
            simp
theorem Vi.get_canon {l : List UInt8} {a x : Nat} {t : Int} (h : Vi.get l (a : Int) = (x, t, 0)) : (l.drop a).take (t.toNat - a) = Vi.enc x ∧ a < t.toNat ∧ t.toNat ≤ l.length := by
  have hto := Vi.get_to h
  refine ⟨?_, by omega, by omega⟩
  unfold Vi.get at h
  split at h
  · simp at h
  · simp only at h
    split at h
    · rename_i h0
      rw [Int.toNat_natCast] at h h0
      obtain ⟨r, hr⟩ : ∃ r, Vi.get1 (l.drop a) 0 0 = r := ⟨_, rfl⟩
      rw [hr] at h h0
      obtain ⟨y, k, er⟩ := r
      simp only at h0
      subst h0
      simp only [Prod.mk.injEq, and_true] at h
      obtain ⟨z, h4, h5, h6, h7, h8⟩ := Vi.get1_canon _ _ _ _ _ hr
      have e : t.toNat - a = k := by omega
      rw [e]
      rw [Nat.sub_zero] at h6
      rw [h6]
      congr 1
      simp at h4
      omega
    · rename_i h0
      simp only [Prod.mk.injEq] at h
      exact absurd h.2.2 h0
theorem take_cut (l : List UInt8) (a b : Nat) (h : a ≤ b) : l.take b = l.take a ++ (l.drop a).take (b - a) := by
  conv => lhs; rw [show b = a + (b - a) by omega, List.take_add]
theorem Vi.get1_app (m : List UInt8) : ∀ (l : List UInt8) (i x : Nat), (Vi.get1 l i x).2.2 ≠ 3 → Vi.get1 (l ++ m) i x = Vi.get1 l i x
  | [], _, _, h => absurd rfl h
  | c :: l, i, x, h => by
    rw [Vi.get1_cons] at h
    rw [List.cons_append, Vi.get1_cons, Vi.get1_cons]
    by_cases h1 : i = 9 ∧ 1 < c.toNat
    · rw [if_pos h1, if_pos h1]
    · rw [if_neg h1] at h ⊢
      rw [if_neg h1]
      by_cases h2 : c.toNat = 0 ∧ 0 < i
      · rw [if_pos h2, if_pos h2]
      · rw [if_neg h2] at h ⊢
        rw [if_neg h2]
        by_cases h3 : c.toNat < 128
        · rw [if_pos h3, if_pos h3]
        · rw [if_neg h3] at h ⊢
          rw [if_neg h3]
          exact Vi.get1_app m l _ _ h
theorem Vi.get_app (m l : List UInt8) (a : Nat) (ha : a ≤ l.length) (h : (Vi.get l (a : Int)).2.2 ≠ 3) : Vi.get (l ++ m) (a : Int) = Vi.get l (a : Int) := by
  have c1 : ¬ ((a : Int) < 0 ∨ (l.length : Int) < (a : Int)) := by omega
  have c2 : ¬ ((a : Int) < 0 ∨ ((l ++ m).length : Int) < (a : Int)) := by rw [List.length_append]; omega
  unfold Vi.get at h ⊢
  rw [if_neg c1] at h
  rw [if_neg c1, if_neg c2]
  simp only [Int.toNat_natCast] at h ⊢
  have h4 : (Vi.get1 (l.drop a) 0 0).2.2 ≠ 3 := fun h3 => by
    rw [if_neg (by omega)] at h
    exact h h3
  rw [List.drop_append_of_le_length ha, Vi.get1_app m (l.drop a) 0 0 h4]
theorem cut_app (l m : List UInt8) (a k : Nat) (h : a + k ≤ l.length) : ((l ++ m).drop a).take k = (l.drop a).take k := by
  rw [List.drop_append_of_le_length (by omega), List.take_append_of_le_length (by rw [List.length_drop]; omega)]

namespace Rc
theorem mx_lt {n : Nat} (h : n ≤ mx) : n < 18446744073709551616 := by unfold mx at h; omega
/-- a reader of one kind of value: what it reads is the value's encoding, it reads what was written, and a longer string changes nothing once it did not run out of bytes -/
structure Good {X : Type} (rd : List UInt8 → Nat → Int → X × Nat × Int) (E : X → List UInt8) (OK : X → Prop) : Prop where
  canon : ∀ l a x a', a ≤ l.length → rd l a 0 = (x, a', 0) → OK x ∧ l.drop a = E x ++ l.drop a' ∧ a ≤ a' ∧ a' ≤ l.length
  fwd : ∀ p x r, OK x → rd (p ++ (E x ++ r)) p.length 0 = (x, p.length + (E x).length, 0)
  app : ∀ l m a, a ≤ l.length → (rd l a 0).2.2 ≠ 3 → rd (l ++ m) a 0 = rd l a 0
  bad : ∃ d, ∀ l a e, e ≠ 0 → rd l a e = (d, a, e)
  pos : ∀ x, OK x → 0 < (E x).length
theorem Good.err {X : Type} {rd : List UInt8 → Nat → Int → X × Nat × Int} {E : X → List UInt8} {OK : X → Prop} (g : Good rd E OK) (l : List UInt8) (a : Nat) (e : Int) (he : e ≠ 0) : (rd l a e).2.2 = e := by
  obtain ⟨d, h⟩ := g.bad
  rw [h l a e he]
theorem Good.at_ {X : Type} {rd : List UInt8 → Nat → Int → X × Nat × Int} {E : X → List UInt8} {OK : X → Prop} (g : Good rd E OK) {l : List UInt8} {a : Nat} {x : X} {r : List UInt8} (h : OK x) (hd : l.drop a = E x ++ r) (ha : a ≤ l.length) :
    rd l a 0 = (x, a + (E x).length, 0) ∧ l.drop (a + (E x).length) = r ∧ a + (E x).length ≤ l.length := by
  have e : l = l.take a ++ (E x ++ r) := by rw [← hd, List.take_append_drop]
  have hl : (l.take a).length = a := by rw [List.length_take]; omega
  have h1 := g.fwd (l.take a) x r h
  rw [← e, hl] at h1
  refine ⟨h1, ?_, ?_⟩
  · rw [← List.drop_drop, hd, List.drop_left]
  · have := congrArg List.length hd
    rw [List.length_drop, List.length_append] at this
    have hp := g.pos x h
    omega
theorem Good.pre {X : Type} {rd : List UInt8 → Nat → Int → X × Nat × Int} {E : X → List UInt8} {OK : X → Prop} (g : Good rd E OK) (p : List UInt8) (x : X) (k : Nat) (h : OK x) (hk : k < (E x).length) : (rd (p ++ (E x).take k) p.length 0).2.2 = 3 := by
  apply Classical.byContradiction
  intro hn
  have h1 := g.app (p ++ (E x).take k) ((E x).drop k) p.length (by simp) hn
  rw [List.append_assoc, List.take_append_drop] at h1
  have h2 := g.fwd p x [] h
  rw [List.append_nil] at h2
  rw [h2] at h1
  have h3 := (g.canon _ _ _ _ (by simp) h1.symm).2.2.2
  rw [List.length_append, List.length_take] at h3
  omega
theorem drop_split {l : List UInt8} {a b : Nat} (h : a ≤ b) : l.drop a = (l.drop a).take (b - a) ++ l.drop b := by
  conv => lhs; rw [← List.take_append_drop (b - a) (l.drop a)]
  rw [List.drop_drop, show a + (b - a) = b by omega]
theorem uint_good : Good (fun l a e => Wr.uint l a e mx) Vi.enc (fun n => n ≤ mx) where
  canon := fun l a x a' ha h => by
    unfold Wr.uint at h
    rw [if_neg (by simp)] at h
    simp only [] at h
    split at h
    · rename_i h1
      simp only [Prod.mk.injEq] at h
      exact absurd (by exact_mod_cast h.2.2) h1
    · rename_i h1
      split at h
      · simp at h
      · rename_i h2
        simp only [Prod.mk.injEq] at h
        obtain ⟨h3, h4, -⟩ := h
        obtain ⟨c1, c2, c3⟩ := Vi.get_canon (l := l) (a := a) (x := (Vi.get l (a : Int)).1) (t := (Vi.get l (a : Int)).2.1) (by
          have : (Vi.get l (a : Int)).2.2 = 0 := by omega
          rw [← this])
        rw [h4] at c1 c2 c3
        rw [h3] at c1
        refine ⟨by omega, ?_, by omega, c3⟩
        rw [← c1]
        exact drop_split (by omega)
  fwd := fun p x r hx => by
    have h := Vi.get_enc p x r (mx_lt hx)
    rw [List.append_assoc] at h
    show Wr.uint _ _ _ _ = _
    unfold Wr.uint
    rw [if_neg (by simp), h]
    simp only []
    rw [if_neg (by simp), if_neg (by omega), Int.toNat_natCast]
  app := fun l m a ha h => by
    show Wr.uint _ _ _ _ = Wr.uint _ _ _ _
    have h' : (Vi.get l (a : Int)).2.2 ≠ 3 := fun e => by
      apply h
      show (Wr.uint _ _ _ _).2.2 = 3
      unfold Wr.uint
      rw [if_neg (by simp)]
      simp only []
      rw [if_pos (by omega), e]
      rfl
    unfold Wr.uint
    rw [Vi.get_app m l a ha h']
  bad := ⟨0, fun l a e he => by
    show Wr.uint _ _ _ _ = _
    unfold Wr.uint
    rw [if_pos he]⟩
  pos := fun x _ => Vi.enc_pos x
end Rc

namespace Rc
theorem sym_good {T : List ByteArray} (hS : Sy.Srt T) (hT : T.length ≤ mx) : Good (sym T) (symE T) (fun s => (Sy.idx T s).isSome = true) where
  canon := fun l a x a' ha h => by
    unfold sym at h
    simp only [] at h
    split at h
    · rename_i h1
      simp only [Prod.mk.injEq] at h
      exact absurd h.2.2 h1
    · rename_i h1
      split at h
      · simp at h
      · rename_i h2
        simp only [Prod.mk.injEq] at h
        obtain ⟨h3, h4, -⟩ := h
        have hk : (Wr.uint l a 0 mx).1 < T.length := by omega
        have hx : T[(Wr.uint l a 0 mx).1] = x := by rw [← h3]; simp [List.getD, hk]
        have hi := Sy.idx_srt hS hk hx
        obtain ⟨c1, c2, c3, c4⟩ := uint_good.canon l a _ a' ha (show Wr.uint l a 0 mx = ((Wr.uint l a 0 mx).1, a', 0) by rw [← h4]; exact Prod.ext rfl (Prod.ext rfl (by simpa using h1)))
        refine ⟨by rw [hi]; rfl, ?_, c3, c4⟩
        unfold symE
        rw [hi]
        exact c2
  fwd := fun p x r hx => by
    obtain ⟨k, hk⟩ := Option.isSome_iff_exists.1 hx
    obtain ⟨hk2, hx2, -⟩ := Sy.idx_some hk
    have hE : symE T x = Vi.enc k := by unfold symE; rw [hk]; rfl
    rw [hE]
    have h := uint_good.fwd p k r (by omega)
    unfold sym
    rw [h]
    simp only []
    rw [if_neg (by simp), if_neg (by omega)]
    simp [List.getD, hk2, hx2]
  app := fun l m a ha h => by
    have h' : (Wr.uint l a 0 mx).2.2 ≠ 3 := fun e => by
      apply h
      unfold sym
      simp only []
      rw [if_pos (by rw [e]; decide), e]
    have := uint_good.app l m a ha h'
    unfold sym
    rw [this]
  bad := ⟨ByteArray.empty, fun l a e he => by
    have h : Wr.uint l a e mx = (0, a, e) := by unfold Wr.uint; rw [if_pos he]
    unfold sym
    rw [h]
    exact if_pos he⟩
  pos := fun x _ => Vi.enc_pos _
theorem len_good : Good len Vi.enc (fun n => 1 ≤ n ∧ n ≤ 2147483647) where
  canon := fun l a x a' ha h => by
    unfold len at h
    simp only [] at h
    split at h
    · simp only [Prod.mk.injEq] at h
      have := h.2.2
      split at this
      · cases this
      · rename_i h1; exact absurd this h1
    · rename_i h1
      obtain ⟨c1, c2, c3, c4⟩ := uint_good.canon l a x a' ha h
      rw [h] at h1
      exact ⟨by simp only [] at h1; omega, c2, c3, c4⟩
  fwd := fun p x r hx => by
    have h := uint_good.fwd p x r (by unfold mx; omega)
    unfold len
    rw [h]
    simp only []
    rw [if_neg (by omega)]
  app := fun l m a ha h => by
    have h' : (Wr.uint l a 0 mx).2.2 ≠ 3 := fun e => by
      apply h
      unfold len
      simp only []
      split
      · simp only [e]; rfl
      · exact e
    have := uint_good.app l m a ha h'
    unfold len
    rw [this]
  bad := ⟨0, fun l a e he => by
    have h : Wr.uint l a e mx = (0, a, e) := by unfold Wr.uint; rw [if_pos he]
    unfold len
    rw [h]
    simp only []
    rw [if_pos (.inl (by omega)), if_neg he]⟩
  pos := fun x _ => Vi.enc_pos _
section
variable {X Y : Type} {rd : List UInt8 → Nat → Int → X × Nat × Int} {E : X → List UInt8} {OK : X → Prop}
def pr (rd : List UInt8 → Nat → Int → X × Nat × Int) (rd2 : List UInt8 → Nat → Int → Y × Nat × Int) (l : List UInt8) (a : Nat) (e : Int) : (X × Y) × Nat × Int :=
  let r := rd l a e
  let s := rd2 l r.2.1 r.2.2
  ((r.1, s.1), s.2)
theorem pr_good {rd2 : List UInt8 → Nat → Int → Y × Nat × Int} {E2 : Y → List UInt8} {OK2 : Y → Prop} (g : Good rd E OK) (g2 : Good rd2 E2 OK2) : Good (pr rd rd2) (fun x => E x.1 ++ E2 x.2) (fun x => OK x.1 ∧ OK2 x.2) where
  canon := fun l a x a' ha h => by
    unfold pr at h
    simp only [] at h
    have h0 : (rd l a 0).2.2 = 0 := by
      apply Classical.byContradiction
      intro hn
      have := g2.err l (rd l a 0).2.1 _ hn
      have h2 := congrArg (fun z => z.2.2) h
      simp only [] at h2
      rw [this] at h2
      exact hn h2
    obtain ⟨c1, c2, c3, c4⟩ := g.canon l a (rd l a 0).1 (rd l a 0).2.1 ha (Prod.ext rfl (Prod.ext rfl h0))
    rw [h0] at h
    simp only [Prod.mk.injEq] at h
    obtain ⟨h1, h2⟩ := h
    obtain ⟨d1, d2, d3, d4⟩ := g2.canon l _ (rd2 l (rd l a 0).2.1 0).1 a' c4 (Prod.ext rfl h2)
    subst h1
    exact ⟨⟨c1, d1⟩, by rw [c2, d2, List.append_assoc], by omega, d4⟩
  fwd := fun p x r hx => by
    obtain ⟨h1, h2, h3⟩ := g.at_ (l := p ++ (E x.1 ++ E2 x.2 ++ r)) (a := p.length) (r := E2 x.2 ++ r) hx.1 (by rw [List.drop_left, List.append_assoc]) (by simp)
    obtain ⟨i1, i2, i3⟩ := g2.at_ hx.2 h2 h3
    unfold pr
    rw [h1]
    simp only []
    rw [i1]
    simp only [List.length_append, Nat.add_assoc]
  app := fun l m a ha h => by
    have h1 : (rd l a 0).2.2 ≠ 3 := fun e => by
      apply h
      unfold pr
      simp only []
      rw [e]
      exact g2.err _ _ 3 (by decide)
    unfold pr at h ⊢
    rw [g.app l m a ha h1]
    simp only [] at h ⊢
    by_cases h0 : (rd l a 0).2.2 = 0
    · obtain ⟨c1, c2, c3, c4⟩ := g.canon l a (rd l a 0).1 (rd l a 0).2.1 ha (Prod.ext rfl (Prod.ext rfl h0))
      rw [h0] at h ⊢
      rw [g2.app l m _ c4 h]
    · obtain ⟨d, hd⟩ := g2.bad
      rw [hd _ _ _ h0, hd _ _ _ h0]
  bad := by
    obtain ⟨d, hd⟩ := g.bad
    obtain ⟨d2, hd2⟩ := g2.bad
    exact ⟨(d, d2), fun l a e he => by unfold pr; rw [hd l a e he]; simp only []; rw [hd2 l a e he]⟩
  pos := fun x hx => by have := g.pos x.1 hx.1; simp; omega
/-- a reader whose value is named otherwise -/
theorem map_good {rd2 : List UInt8 → Nat → Int → Y × Nat × Int} {E2 : Y → List UInt8} {OK2 : Y → Prop} (f : X → Y) (f' : Y → X) (hf : ∀ y, f (f' y) = y) (g : Good rd E OK) (hr : ∀ l a e, rd2 l a e = (f (rd l a e).1, (rd l a e).2)) (hE : ∀ x, E2 (f x) = E x) (hO : ∀ x, OK2 (f x) ↔ OK x) : Good rd2 E2 OK2 where
  canon := fun l a y a' ha h => by
    rw [hr] at h
    simp only [Prod.mk.injEq] at h
    obtain ⟨h1, h2⟩ := h
    obtain ⟨c1, c2, c3, c4⟩ := g.canon l a (rd l a 0).1 a' ha (Prod.ext rfl h2)
    subst h1
    exact ⟨(hO _).2 c1, by rw [hE]; exact c2, c3, c4⟩
  fwd := fun p y r hy => by
    rw [← hf y] at hy ⊢
    rw [hr, hE, g.fwd p (f' y) r ((hO _).1 hy)]
  app := fun l m a ha h => by
    rw [hr] at h
    rw [hr, hr, g.app l m a ha h]
  bad := by
    obtain ⟨d, hd⟩ := g.bad
    exact ⟨f d, fun l a e he => by rw [hr, hd l a e he]⟩
  pos := fun y hy => by
    rw [← hf y] at hy ⊢
    rw [hE]
    exact g.pos _ ((hO _).1 hy)
/-- lists of what a reader reads -/
def lsR (rd : List UInt8 → Nat → Int → X × Nat × Int) (l : List UInt8) (a : Nat) (e : Int) : List X × Nat × Int := lst (rd l) (cnt l a e).1 [] (cnt l a e).2.1 (cnt l a e).2.2
def lsE (E : X → List UInt8) (xs : List X) : List UInt8 := Vi.enc xs.length ++ xs.flatMap E
theorem lst_canon (g : Good rd E OK) : ∀ (n : Nat) (l : List UInt8) (acc : List X) (a : Nat) (xs : List X) (a' : Nat), a ≤ l.length → lst (rd l) n acc a 0 = (xs, a', 0) → ∃ ys, xs = acc ++ ys ∧ ys.length = n ∧ (∀ y ∈ ys, OK y) ∧ l.drop a = ys.flatMap E ++ l.drop a' ∧ a ≤ a' ∧ a' ≤ l.length
  | 0, l, acc, a, xs, a', ha, h => by
    rw [lst_zero] at h
    simp only [Prod.mk.injEq, and_true] at h
    obtain ⟨rfl, rfl⟩ := h
    exact ⟨[], by simp, rfl, by simp, by simp, Nat.le_refl _, ha⟩
  | n + 1, l, acc, a, xs, a', ha, h => by
    by_cases h0 : (rd l a 0).2.2 = 0
    · rw [lst_ok _ _ _ _ _ (by omega) h0] at h
      obtain ⟨c1, c2, c3, c4⟩ := g.canon l a (rd l a 0).1 (rd l a 0).2.1 ha (Prod.ext rfl (Prod.ext rfl h0))
      obtain ⟨ys, d1, d2, d3, d4, d5, d6⟩ := lst_canon g n l _ _ xs a' c4 h
      refine ⟨(rd l a 0).1 :: ys, by rw [d1]; simp, by simp [d2], fun y hy => ?_, by rw [c2, d4]; simp, by omega, d6⟩
      rcases List.mem_cons.1 hy with rfl | hy
      · exact c1
      · exact d3 y hy
    · rw [lst_bad _ _ _ _ _ (by omega) h0] at h
      simp only [Prod.mk.injEq] at h
      exact absurd h.2.2 h0
theorem lst_fwd (g : Good rd E OK) : ∀ (ys : List X) (l : List UInt8) (acc : List X) (a : Nat) (r : List UInt8), (∀ y ∈ ys, OK y) → l.drop a = ys.flatMap E ++ r → a ≤ l.length → lst (rd l) ys.length acc a 0 = (acc ++ ys, a + (ys.flatMap E).length, 0)
  | [], l, acc, a, r, h, hd, ha => by rw [List.length_nil, lst_zero]; simp
  | y :: ys, l, acc, a, r, h, hd, ha => by
    rw [List.flatMap_cons, List.append_assoc] at hd
    obtain ⟨h1, h2, h3⟩ := g.at_ (h y (by simp)) hd ha
    rw [lst_ok _ _ _ _ _ (by simp) (by rw [h1]), h1]
    simp only []
    rw [List.length_cons, Nat.add_sub_cancel, lst_fwd g ys l _ _ r (fun z hz => h z (by simp [hz])) h2 h3]
    simp [Nat.add_assoc]
theorem lst_app (g : Good rd E OK) (m : List UInt8) : ∀ (n : Nat) (l : List UInt8) (acc : List X) (a : Nat), a ≤ l.length → (lst (rd l) n acc a 0).2.2 ≠ 3 → lst (rd (l ++ m)) n acc a 0 = lst (rd l) n acc a 0
  | 0, l, acc, a, ha, h => rfl
  | n + 1, l, acc, a, ha, h => by
    by_cases h0 : (rd l a 0).2.2 = 0
    · rw [lst_ok _ _ _ _ _ (by omega) h0] at h ⊢
      obtain ⟨c1, c2, c3, c4⟩ := g.canon l a (rd l a 0).1 (rd l a 0).2.1 ha (Prod.ext rfl (Prod.ext rfl h0))
      have ha2 := g.app l m a ha (by rw [h0]; decide)
      rw [lst_ok _ _ _ _ _ (by omega) (by rw [ha2]; exact h0), ha2]
      exact lst_app g m n l _ _ c4 h
    · rw [lst_bad _ _ _ _ _ (by omega) h0] at h ⊢
      have ha2 := g.app l m a ha h
      rw [lst_bad _ _ _ _ _ (by omega) (by rw [ha2]; exact h0), ha2]
theorem flat_len (g : Good rd E OK) : ∀ (ys : List X), (∀ y ∈ ys, OK y) → ys.length ≤ (ys.flatMap E).length
  | [], _ => by simp
  | y :: ys, h => by
    have h1 := g.pos y (h y (by simp))
    have h2 := flat_len g ys fun z hz => h z (by simp [hz])
    rw [List.flatMap_cons, List.length_append, List.length_cons]; omega
theorem cnt_ok {l : List UInt8} {a n a' : Nat} (h : cnt l a 0 = (n, a', 0)) : Wr.uint l a 0 mx = (n, a', 0) ∧ n ≤ l.length - a' := by
  unfold cnt at h
  simp only [] at h
  split at h
  · rename_i h1
    simp only [Prod.mk.injEq] at h
    exact absurd h.2.2 h1
  · split at h
    · simp at h
    · rename_i h2
      rw [h] at h2
      exact ⟨h, by simp only [] at h2; omega⟩
theorem ls_good (g : Good rd E OK) : Good (lsR rd) (lsE E) (fun xs => xs.length ≤ mx ∧ ∀ x ∈ xs, OK x) where
  canon := fun l a xs a' ha h => by
    unfold lsR at h
    by_cases h0 : (cnt l a 0).2.2 = 0
    · obtain ⟨u1, u2⟩ := cnt_ok (show cnt l a 0 = ((cnt l a 0).1, (cnt l a 0).2.1, 0) from Prod.ext rfl (Prod.ext rfl h0))
      obtain ⟨c1, c2, c3, c4⟩ := uint_good.canon l a _ _ ha u1
      rw [h0] at h
      obtain ⟨ys, d1, d2, d3, d4, d5, d6⟩ := lst_canon g _ l _ _ xs a' c4 h
      rw [List.nil_append] at d1
      subst d1
      refine ⟨⟨by rw [d2]; exact c1, d3⟩, ?_, by omega, d6⟩
      unfold lsE
      rw [c2, d4, d2, List.append_assoc]
    · have hz : (cnt l a 0).1 = 0 := by
        unfold cnt at h0 ⊢
        simp only [] at h0 ⊢
        split
        · rfl
        · split
          · rfl
          · rename_i h1 h2
            rw [if_neg h1, if_neg h2] at h0
            exact absurd (by simpa using h1) h0
      rw [hz, lst_zero] at h
      simp only [Prod.mk.injEq] at h
      exact absurd h.2.2 h0
  fwd := fun p xs r hx => by
    have hu := uint_good.fwd p xs.length (xs.flatMap E ++ r) hx.1
    have hl := flat_len g xs hx.2
    have hc : cnt (p ++ (lsE E xs ++ r)) p.length 0 = (xs.length, p.length + (Vi.enc xs.length).length, 0) := by
      unfold cnt lsE
      rw [List.append_assoc]
      simp only []
      rw [hu]
      simp only []
      rw [if_neg (by simp), if_neg (by simp only [List.length_append]; omega)]
    unfold lsR
    rw [hc]
    simp only []
    rw [lst_fwd g xs _ _ _ r hx.2 (by
      unfold lsE
      rw [← List.drop_drop, List.drop_left, List.append_assoc, List.drop_left]) (by unfold lsE; simp)]
    unfold lsE
    simp [Nat.add_assoc]
  app := fun l m a ha h => by
    unfold lsR at h ⊢
    have h1 : (cnt l a 0).2.2 ≠ 3 := fun e => by
      have hz : (cnt l a 0).1 = 0 := by
        unfold cnt at e ⊢
        simp only [] at e ⊢
        split
        · rfl
        · split
          · rfl
          · rename_i h1 h2
            rw [if_neg h1, if_neg h2] at e
            rw [e] at h1
            exact absurd (by decide) h1
      rw [hz, lst_zero] at h
      exact h e
    have hu : (Wr.uint l a 0 mx).2.2 ≠ 3 := fun e => by
      apply h1
      unfold cnt
      simp only []
      rw [if_pos (by rw [e]; decide), e]
    have hua := uint_good.app l m a ha hu
    have hc : cnt (l ++ m) a 0 = cnt l a 0 := by
      unfold cnt
      rw [hua]
      simp only []
      by_cases h2 : (Wr.uint l a 0 mx).2.2 ≠ 0
      · rw [if_pos h2, if_pos h2]
      · rw [if_neg h2, if_neg h2]
        have h3 : ¬ l.length - (Wr.uint l a 0 mx).2.1 < (Wr.uint l a 0 mx).1 := fun h3 => by
          apply h1
          unfold cnt
          simp only []
          rw [if_neg h2, if_pos h3]
        rw [if_neg h3, if_neg (by rw [List.length_append]; omega)]
    rw [hc]
    by_cases h0 : (cnt l a 0).2.2 = 0
    · obtain ⟨u1, u2⟩ := cnt_ok (show cnt l a 0 = ((cnt l a 0).1, (cnt l a 0).2.1, 0) from Prod.ext rfl (Prod.ext rfl h0))
      obtain ⟨c1, c2, c3, c4⟩ := uint_good.canon l a _ _ ha u1
      rw [h0] at h ⊢
      exact lst_app g m _ l _ _ c4 h
    · have hz : (cnt l a 0).1 = 0 := by
        unfold cnt at h0 ⊢
        simp only [] at h0 ⊢
        split
        · rfl
        · split
          · rfl
          · rename_i h1 h2
            rw [if_neg h1, if_neg h2] at h0
            exact absurd (by simpa using h1) h0
      rw [hz, lst_zero, lst_zero]
  bad := ⟨[], fun l a e he => by
    have h : Wr.uint l a e mx = (0, a, e) := by unfold Wr.uint; rw [if_pos he]
    have hc : cnt l a e = (0, a, e) := by
      unfold cnt
      rw [h]
      exact if_pos he
    unfold lsR
    rw [hc, lst_zero]⟩
  pos := fun xs _ => by unfold lsE; have := Vi.enc_pos xs.length; simp; omega
end
theorem lab_good {T : List ByteArray} (hS : Sy.Srt T) (hT : T.length ≤ mx) : Good (lab T) (fun x => symE T x.n ++ symE T x.v) (fun x => (Sy.idx T x.n).isSome = true ∧ (Sy.idx T x.v).isSome = true) :=
  map_good (fun p => (⟨p.1, p.2⟩ : Lab)) (fun x => (x.n, x.v)) (fun _ => rfl) (pr_good (sym_good hS hT) (sym_good hS hT)) (fun _ _ _ => rfl) (fun _ => rfl) (fun _ => Iff.rfl)
theorem strs_flat (T : List ByteArray) (L : List Lab) : (Lb.strs L).flatMap (symE T) = L.flatMap fun x => symE T x.n ++ symE T x.v := by
  unfold Lb.strs
  induction L with
  | nil => rfl
  | cons x L ih => rw [List.flatMap_cons, List.flatMap_append, ih, List.flatMap_cons]; simp
end Rc
end Go.Proofs.Ythhcfocmaiacoaa
