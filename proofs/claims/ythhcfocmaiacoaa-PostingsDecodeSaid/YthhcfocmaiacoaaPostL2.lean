/- Cut by cut_tpl.py out of ListsC, ListsD, ListsE, ListsF, ListsG: what this seat reaches. -/
import Derived.Test.YthhcfocmaiacoaaPostL
import Derived.Lib.SliceRun
import Derived.Test.YthhcfocmaiacoaaRange
import Derived.Deep.CutBlock
import Derived.RangeFuncBox
import Derived.OwnWalk
namespace Go.Proofs.Ythhcfocmaiacoaa
open Go.RowKit

/-- a slice of slices of ints that reads as a list of lists -/
def RdII (w : World) (B : Nat) (A : Option Addr) (n c : Nat) (LL : List (List Int)) : Prop :=
  ∃ vs : List Value, Rd w B 1 A n c vs ∧ vs.length = LL.length ∧ ∀ (i : Nat) (l : List Int), LL[i]? = some l → ∃ A' n' c', vs[i]? = some (.slice A' n' c') ∧ RdI w B A' n' c' l
section
variable {w w' : World} {B n c : Nat} {A : Option Addr} {LL : List (List Int)}
theorem RdII.below (h : RdII w B A n c LL) (hb : Below B w w') : RdII w' B A n c LL := by
  obtain ⟨vs, h1, h2, h3⟩ := h
  refine ⟨vs, h1.below hb, h2, fun i l hl => ?_⟩
  obtain ⟨A', n', c', e, hr⟩ := h3 i l hl
  exact ⟨A', n', c', e, hr.below hb⟩
theorem RdII.more {B' : Nat} (h : RdII w B A n c LL) (hB : B ≤ B') : RdII w B' A n c LL := by
  obtain ⟨vs, h1, h2, h3⟩ := h
  refine ⟨vs, h1.more hB, h2, fun i l hl => ?_⟩
  obtain ⟨A', n', c', e, hr⟩ := h3 i l hl
  exact ⟨A', n', c', e, hr.more hB⟩
theorem RdII.len (h : RdII w B A n c LL) : n = LL.length := by
  obtain ⟨vs, h1, h2, _⟩ := h
  have := h1.2.2.1
  omega
theorem RdII.cap (h : RdII w B A n c LL) : n ≤ c ∧ c ≤ maxLen := by
  obtain ⟨vs, h1, _⟩ := h
  exact ⟨h1.1, h1.2.1⟩
theorem RdII.at_ {k : Nat} (h : RdII w B A n c LL) (hk : k < LL.length) :
    ∃ b off A' n' c', A = some ⟨b, off, none⟩ ∧ b < B ∧ w.cell? ⟨b, off + k, none⟩ = some (.slice A' n' c') ∧ RdI w B A' n' c' LL[k] := by
  have hn := h.len
  obtain ⟨vs, h1, h2, h3⟩ := h
  obtain ⟨b, off, u, e, hb, hu, hc⟩ := h1.at_ (k := k) (by omega)
  obtain ⟨A', n', c', e', hr⟩ := h3 k LL[k] (List.getElem?_eq_getElem hk)
  rw [hu] at e'
  injection e' with e'
  subst e'
  exact ⟨b, off, A', n', c', e, hb, hc, hr⟩
theorem RdII.take (h : RdII w B A n c LL) {k : Nat} (hk : k ≤ n) : RdII w B A k c (LL.take k) := by
  have hn := h.len
  obtain ⟨vs, h1, h2, h3⟩ := h
  have := h1.take hk
  rw [Nat.mul_one] at this
  refine ⟨_, this, by simp [h2], fun i l hl => ?_⟩
  rw [List.getElem?_take] at hl
  split at hl
  · next hi =>
    obtain ⟨A', n', c', e', hr⟩ := h3 i l hl
    exact ⟨A', n', c', by rw [List.getElem?_take, if_pos hi]; exact e', hr⟩
  · cases hl
theorem RdII.drop (h : RdII w B A n c LL) {k : Nat} (hk : k ≤ n) : RdII w B (if c = k then A else A.map (·.add k)) (n - k) (c - k) (LL.drop k) := by
  have hn := h.len
  obtain ⟨vs, h1, h2, h3⟩ := h
  have := h1.drop hk
  rw [Nat.mul_one] at this
  refine ⟨_, this, by simp [h2], fun i l hl => ?_⟩
  rw [List.getElem?_drop] at hl
  obtain ⟨A', n', c', e', hr⟩ := h3 _ l hl
  exact ⟨A', n', c', by rw [List.getElem?_drop]; exact e', hr⟩
end
/-- one list, just laid -/
theorem RdII.one {w : World} {B n c : Nat} {A : Option Addr} {l : List Int} (h : RdI w B A n c l) (hB : B ≤ w.heap.size) :
    RdII (w.alloc (.cells #[.slice A n c] 70)) (w.heap.size + 1) (some ⟨w.heap.size, 0, none⟩) 1 1 [l] :=
  ⟨[.slice A n c], ⟨Nat.le_refl _, by unfold maxLen; omega, rfl, fun _ => ⟨_, 0, rfl, by omega, fun i u hu => by
    match i, hu with
    | 0, hu =>
      simp at hu
      subst hu
      exact World.cell?_alloc_mark w _ _ _ 0⟩⟩, rfl, fun i l' hl => by
    match i, hl with
    | 0, hl =>
      simp at hl
      subst hl
      exact ⟨A, n, c, rfl, (h.alloc hB _).more (by omega)⟩⟩

def Ls.tot (LL : List (List Int)) : Nat := (LL.map List.length).sum
theorem Ls.tot_nil : Ls.tot [] = 0 := rfl
theorem Ls.tot_take {LL : List (List Int)} {k : Nat} (h : k < LL.length) : Ls.tot (LL.take (k + 1)) = Ls.tot (LL.take k) + LL[k].length := by
  unfold Ls.tot
  rw [List.take_succ_eq_append_getElem h, List.map_append, List.sum_append]
  simp
theorem Ls.tot_take_le (LL : List (List Int)) (k : Nat) : Ls.tot (LL.take k) ≤ Ls.tot LL := by
  unfold Ls.tot
  conv => rhs; rw [← List.take_append_drop k LL, List.map_append, List.sum_append]
  omega
theorem Ls.uni_take {LL : List (List Int)} {k : Nat} (h : k < LL.length) : Ls.uni (LL.take (k + 1)) = Ls.insAll (Ls.uni (LL.take k)) LL[k] := by
  unfold Ls.uni
  rw [List.take_succ_eq_append_getElem h, List.foldl_append]
  rfl
theorem Ls.insAll_take {acc l : List Int} {k : Nat} (h : k < l.length) : Ls.insAll acc (l.take (k + 1)) = Ls.ins (Ls.insAll acc (l.take k)) l[k] := by
  unfold Ls.insAll
  rw [List.take_succ_eq_append_getElem h, List.foldl_append]
  rfl

theorem Ls.isc_take {l0 : List Int} {r : List (List Int)} {k : Nat} (h : k < l0.length) :
    Ls.isc (l0.take (k + 1) :: r) = if r.all (fun m => Ls.has m l0[k]) then Ls.isc (l0.take k :: r) ++ [l0[k]] else Ls.isc (l0.take k :: r) := by
  show List.filter _ _ = _
  rw [List.take_succ_eq_append_getElem h, List.filter_append]
  cases hh : r.all (fun m => Ls.has m l0[k]) <;> simp [hh, Ls.isc]
theorem Ls.all_take {r : List (List Int)} {x : Int} {k : Nat} (h : k < r.length) :
    (r.take (k + 1)).all (fun m => Ls.has m x) = ((r.take k).all (fun m => Ls.has m x) && Ls.has r[k] x) := by
  rw [List.take_succ_eq_append_getElem h, List.all_append]
  simp

theorem has_q {A : Option Addr} {n c : Nat} {l : List Int} {x : Int} {w : World} {B : Nat} {b : Bool} (hb : Ls.has l x = b) (hv : RdI w B A n c l) {m : Nat} :
    Calls Try.prog 119 #[.slice A n c, .int .i64 x] (w.drewN m) fun e w' => e = .returned (.bool b) ∧ w' = w.drewN m := by
  have h := has_any A n c l x (w.drewN m) B (hv.drewN m)
  rw [hb] at h
  exact h.mono fun _ _ q => ⟨q.1, q.2.symm⟩

open Go.RowKit Go.Shelf

/-- what merge's iterator hands to yield -/
def encO (p : Int × Bool × Bool) : Array Value := #[.int .i64 p.1, .agg #[.bool p.2.1, .bool p.2.2]]
def lenV : Option Value → Nat
  | some (.slice _ n _) => n
  | _ => 0
/-- the two boxes of the iterator -/
structure Boxes (w : World) (B ba bb : Nat) (Aa Ab : Option Addr) (na nb ca cb : Nat) (a b : List Int) : Prop where
  c1 : w.cell? ⟨ba, 0, none⟩ = some (.slice Aa na ca)
  c2 : w.cell? ⟨bb, 0, none⟩ = some (.slice Ab nb cb)
  f1 : w.frozen? ⟨ba, 0, none⟩ = false
  f2 : w.frozen? ⟨bb, 0, none⟩ = false
  r1 : RdI w B Aa na ca a
  r2 : RdI w B Ab nb cb b
/-- what the iterator leans on -/
def KpI (B ba bb : Nat) (X Y : World) : Prop := Below B X Y ∧ Y.heap[ba]? = X.heap[ba]? ∧ Y.heap[bb]? = X.heap[bb]?
theorem KpI.trans {B ba bb : Nat} {X Y Z : World} (h : KpI B ba bb X Y) (k : KpI B ba bb Y Z) : KpI B ba bb X Z := ⟨h.1.trans k.1, k.2.1.trans h.2.1, k.2.2.trans h.2.2⟩
theorem KpI.grown {B ba bb M : Nat} {W W' : World} {row : Option Nat} (hM : M ≤ W.heap.size) (hB : B ≤ M) (ha : ba < M) (hb : bb < M) (g : W.grownBy W' row) (hr : ∀ r, row = some r → M ≤ r) : KpI B ba bb W W' :=
  ⟨(Below.refl _ _).grown g (by omega) (fun r e => by have := hr r e; omega), g.block _ (by omega) (fun e => by have := hr _ e.symm; omega), g.block _ (by omega) (fun e => by have := hr _ e.symm; omega)⟩
theorem Boxes.kp {w w' : World} {B ba bb : Nat} {Aa Ab : Option Addr} {na nb ca cb : Nat} {a b : List Int} (h : Boxes w B ba bb Aa Ab na nb ca cb a b) (hb : KpI B ba bb w w') :
    Boxes w' B ba bb Aa Ab na nb ca cb a b :=
  ⟨(World.cell?_of_block hb.2.1).trans h.c1, (World.cell?_of_block hb.2.2).trans h.c2, (World.frozen?_of_block hb.2.1).trans h.f1, (World.frozen?_of_block hb.2.2).trans h.f2, h.r1.below hb.1, h.r2.below hb.1⟩

/-- what may have changed: the blocks p and q, and what is new -/
structure Two (p q : Nat) (w w' : World) : Prop where
  os : w'.os = w.os
  tape : w'.tape = w.tape
  output : w'.output = w.output
  size : w.heap.size ≤ w'.heap.size
  block : ∀ k, k < w.heap.size → k ≠ p → k ≠ q → w'.heap[k]? = w.heap[k]?
theorem Two.of {p q : Nat} {w w' : World} (g : w.grownBy w' none) : Two p q w w' := ⟨g.os, g.tape, g.output, g.size, fun k hk _ _ => g.block k hk (by simp)⟩
theorem Two.drewN {p q : Nat} {w w' : World} (g : Two p q w w') (n : Nat) : Two p q w (w'.drewN n) := ⟨g.os, g.tape, g.output, g.size, g.block⟩
theorem Two.set {p q : Nat} {w w' : World} (g : Two p q w w') (x : Addr) (v : Value) (hx : x.block = p ∨ x.block = q ∨ w.heap.size ≤ x.block) : Two p q w (w'.setCell x v) :=
  ⟨g.os, g.tape, g.output, by have := g.size; simpa using this, fun k hk h1 h2 => (Below.heap_setCell w' x v k (by omega)).trans (g.block k hk h1 h2)⟩
theorem Minds.two {β : Type} {J : β → World → Prop} {p q : Nat} (hJ : Minds (fun r => r = p ∨ r = q) J) {s : β} {w w' : World} (h : J s w) (g : Two p q w w') : J s w' := by
  by_cases hq : q < w.heap.size
  · have hq' : q < w'.heap.size := Nat.lt_of_lt_of_le hq g.size
    obtain ⟨X, hX⟩ : ∃ X, X = w.putObj q (w'.heap[q]) := ⟨_, rfl⟩
    have g1 : w.grownBy X (some q) := by rw [hX]; exact grownBy_putObj' w q _
    refine hJ s X w' (some p) (hJ s w X (some q) h g1 (fun r e => by cases e; exact .inr rfl)) ⟨?_, ?_, ?_, ?_, ?_⟩ (fun r e => by cases e; exact .inl rfl)
    · rw [g1.os, g.os]
    · rw [g1.tape, g.tape]
    · rw [g1.output, g.output]
    · have : X.heap.size = w.heap.size := by rw [hX]; simp [World.putObj]
      rw [this]; exact g.size
    · intro k hk hkp
      have hs : X.heap.size = w.heap.size := by rw [hX]; simp [World.putObj]
      rw [hs] at hk
      by_cases hkq : k = q
      · subst hkq
        rw [hX, World.putObj_heap_same hq]
        exact Array.getElem?_eq_getElem hq'
      · rw [g.block k hk (fun e => hkp (by rw [e])) hkq, hX, World.putObj_heap_other hkq]
  · refine hJ s w w' (some p) h ⟨g.os, g.tape, g.output, g.size, fun k hk hkp => g.block k hk (fun e => hkp (by rw [e])) (by omega)⟩ (fun r e => by cases e; exact .inl rfl)
section
variable {w1 : World} {p o i k : Nat} {v u v0 : Value}
theorem st_p (hpo : p ≠ o) (hc : w1.cell? ⟨p, 0, none⟩ = some v0) : (((w1.drewN k).setCell ⟨p, 0, none⟩ v).setCell ⟨o, i, none⟩ u).cell? ⟨p, 0, none⟩ = some v := by
  rw [World.cell?_setCell_other _ _ _ _ (fun e => by injection e with e1; exact hpo e1.symm), World.cell?_setCell_same' _ _ _ (by show (w1.cell? _).isSome = true; rw [hc]; rfl)]
theorem st_o (hpo : p ≠ o) (hc : w1.cell? ⟨o, i, none⟩ = some v0) : (((w1.drewN k).setCell ⟨p, 0, none⟩ v).setCell ⟨o, i, none⟩ u).cell? ⟨o, i, none⟩ = some u := by
  rw [World.cell?_setCell_same']
  rw [World.cell?_setCell_other _ _ _ _ (fun e => by injection e with e1; exact hpo e1)]
  show (w1.cell? _).isSome = true
  rw [hc]; rfl
theorem st_far {q j : Nat} (h1 : q ≠ p) (h2 : q ≠ o ∨ j ≠ i) : (((w1.drewN k).setCell ⟨p, 0, none⟩ v).setCell ⟨o, i, none⟩ u).cell? ⟨q, j, none⟩ = w1.cell? ⟨q, j, none⟩ := by
  rw [World.cell?_setCell_other _ _ _ _ (fun e => by injection e with e1 e2; rcases h2 with h2 | h2; exact h2 e1.symm; exact h2 e2.symm), World.cell?_setCell_other _ _ _ _ (fun e => by injection e with e1; exact h1 e1.symm)]
  rfl
theorem st_frozen {q j : Nat} : (((w1.drewN k).setCell ⟨p, 0, none⟩ v).setCell ⟨o, i, none⟩ u).frozen? ⟨q, j, none⟩ = w1.frozen? ⟨q, j, none⟩ := by
  rw [World.frozen?_setCell, World.frozen?_setCell]; rfl
theorem st_rd {B : Nat} {A : Option Addr} {n c : Nat} {l : List Int} (h : RdI w1 B A n c l) (hp : B ≤ p) (ho : B ≤ o) : RdI (((w1.drewN k).setCell ⟨p, 0, none⟩ v).setCell ⟨o, i, none⟩ u) B A n c l :=
  ((h.drewN k).setCell (p := ⟨p, 0, none⟩) hp v).setCell (p := ⟨o, i, none⟩) ho u
end
section
variable {w1 : World} {p q o k : Nat} {v v' u u' a0 b0 c0 d0 : Value}
theorem s4_p (hpq : p ≠ q) (hpo : p ≠ o) (hp : w1.cell? ⟨p, 0, none⟩ = some a0) :
    (((((w1.drewN k).setCell ⟨p, 0, none⟩ v).setCell ⟨q, 0, none⟩ v').setCell ⟨o, 0, none⟩ u).setCell ⟨o, 1, none⟩ u').cell? ⟨p, 0, none⟩ = some v := by
  rw [World.cell?_setCell_other _ _ _ _ (fun e => by injection e with e1; exact hpo e1.symm), World.cell?_setCell_other _ _ _ _ (fun e => by injection e with e1; exact hpo e1.symm)]
  exact st_p hpq hp
theorem s4_q (hpq : p ≠ q) (hqo : q ≠ o) (hq : w1.cell? ⟨q, 0, none⟩ = some a0) :
    (((((w1.drewN k).setCell ⟨p, 0, none⟩ v).setCell ⟨q, 0, none⟩ v').setCell ⟨o, 0, none⟩ u).setCell ⟨o, 1, none⟩ u').cell? ⟨q, 0, none⟩ = some v' := by
  rw [World.cell?_setCell_other _ _ _ _ (fun e => by injection e with e1; exact hqo e1.symm), World.cell?_setCell_other _ _ _ _ (fun e => by injection e with e1; exact hqo e1.symm)]
  exact st_o hpq hq
theorem s4_o0 (hpo : o ≠ p) (hqo : o ≠ q) (h : w1.cell? ⟨o, 0, none⟩ = some a0) :
    (((((w1.drewN k).setCell ⟨p, 0, none⟩ v).setCell ⟨q, 0, none⟩ v').setCell ⟨o, 0, none⟩ u).setCell ⟨o, 1, none⟩ u').cell? ⟨o, 0, none⟩ = some u := by
  rw [World.cell?_setCell_other _ _ _ _ (fun e => by injection e with _ e2; cases e2), World.cell?_setCell_same']
  rw [st_far hpo (.inl hqo), h]; rfl
theorem s4_o1 (hpo : o ≠ p) (hqo : o ≠ q) (h : w1.cell? ⟨o, 1, none⟩ = some a0) :
    (((((w1.drewN k).setCell ⟨p, 0, none⟩ v).setCell ⟨q, 0, none⟩ v').setCell ⟨o, 0, none⟩ u).setCell ⟨o, 1, none⟩ u').cell? ⟨o, 1, none⟩ = some u' := by
  rw [World.cell?_setCell_same']
  rw [World.cell?_setCell_other _ _ _ _ (fun e => by injection e with _ e2; cases e2), st_far hpo (.inl hqo), h]; rfl
theorem s4_frozen {b j : Nat} : (((((w1.drewN k).setCell ⟨p, 0, none⟩ v).setCell ⟨q, 0, none⟩ v').setCell ⟨o, 0, none⟩ u).setCell ⟨o, 1, none⟩ u').frozen? ⟨b, j, none⟩ = w1.frozen? ⟨b, j, none⟩ := by
  rw [World.frozen?_setCell, World.frozen?_setCell, st_frozen]
theorem s4_rd {B : Nat} {A : Option Addr} {n c : Nat} {l : List Int} (h : RdI w1 B A n c l) (hp : B ≤ p) (hq : B ≤ q) (ho : B ≤ o) :
    RdI (((((w1.drewN k).setCell ⟨p, 0, none⟩ v).setCell ⟨q, 0, none⟩ v').setCell ⟨o, 0, none⟩ u).setCell ⟨o, 1, none⟩ u') B A n c l :=
  ((st_rd h hp hq).setCell (p := ⟨o, 0, none⟩) ho u).setCell (p := ⟨o, 1, none⟩) ho u'
end
theorem Ls.mrg_fst (x : Int) (a b : List Int) (h : ∀ y ∈ b.head?, x < y) : Ls.mrg (x :: a) b = (x, true, false) :: Ls.mrg a b := by
  match b, h with
  | [], _ => rw [Ls.mrg]
  | y :: b, h => rw [Ls.mrg, if_pos (h y rfl)]
theorem Ls.mrg_snd (y : Int) (a b : List Int) (h : ∀ x ∈ a.head?, y < x) : Ls.mrg a (y :: b) = (y, false, true) :: Ls.mrg a b := by
  match a, h with
  | [], _ => rw [Ls.mrg]
  | x :: a, h =>
    have := h x rfl
    rw [Ls.mrg, if_neg (by omega), if_pos this]
theorem Ls.mrg_both (x : Int) (a b : List Int) : Ls.mrg (x :: a) (x :: b) = (x, true, true) :: Ls.mrg a b := by
  rw [Ls.mrg, if_neg (by omega), if_neg (by omega)]

set_option maxHeartbeats 4000000 in
theorem merge_yields (n ba bb B N : Nat) (Aa Ab : Option Addr) (na nb ca cb : Nat) (a b : List Int) (w : World) (hw : Boxes w B ba bb Aa Ab na nb ca cb a b)
    (hab : ba ≠ bb) (hBa : B ≤ ba) (hBb : B ≤ bb) (haN : ba < N) (hbN : bb < N) (hl : na + nb ≤ 2000000) (hN : N ≤ w.heap.size) :
    Yields n Try.prog 152 #[.pointer (some ⟨ba, 0, none⟩), .pointer (some ⟨bb, 0, none⟩)] encO (fun r => r = ba ∨ r = bb) (KpI B ba bb) (Ls.mrg a b) w := by
  intro l J Jx W hK hJ hJx hround h0
  have hW := hw.kp hK
  have hNW : N ≤ W.heap.size := Nat.le_trans hN hK.1.size
  have Hround := hide hround
  have hJ2 := hide hJ
  clear hw hK hN hround hJ
  refine callsIn_wide.2 ?_
  go_enter Try.func152, Try.ntmps152
  go_wp2
  go_loopw [] (fun wr => ∃ pre Aa Ab na nb ca cb a' b', Boxes wr B ba bb Aa Ab na nb ca cb a' b' ∧ na + nb ≤ 2000000 ∧ N ≤ wr.heap.size ∧ Kept (Ls.mrg a b = pre ++ Ls.mrg a' b') ∧ Kept (J pre wr)) (fun wr => lenV (wr.cell? ⟨ba, 0, none⟩) + lenV (wr.cell? ⟨bb, 0, none⟩))
  case atStart => exact ⟨[], Aa, Ab, na, nb, ca, cb, a, b, hW, hl, hNW, ⟨rfl⟩, ⟨h0⟩⟩
  case round =>
    clear hW hl h0 hNW
    obtain ⟨pre, Aa, Ab, na, nb, ca, cb, a', b', hx, hl, hNr, hm, hj⟩ := hrel
    obtain ⟨hc1, hc2, hf1, hf2, hr1, hr2⟩ := hx
    have hlc1 := hr1.1
    have hlc2 := hr2.1
    have hcm1 := hr1.2.1
    have hcm2 := hr2.2.1
    have hn1 := Kept.mk hr1.len
    have hn2 := Kept.mk hr2.len
    have Hr1 := hide hr1
    have Hr2 := hide hr2
    clear hr1 hr2
    unfold maxLen at hcm1 hcm2
    by_cases hz : na + nb = 0
    · obtain rfl : na = 0 := by omega
      obtain rfl : nb = 0 := by omega
      obtain rfl : a' = [] := List.eq_nil_of_length_eq_zero hn1.out.symm
      obtain rfl : b' = [] := List.eq_nil_of_length_eq_zero hn2.out.symm
      go_wp2
      first | go_end0 | go_ret
      have e : pre = Ls.mrg a b := by rw [hm.out, Ls.mrg, List.append_nil]
      exact ⟨⟨_, rfl⟩, .inl (e ▸ hj.out)⟩
    · go_upto_block 2 with fail
      go_cut [5] (fun xv wx => ∃ (p : Int × Bool × Bool) (Aa2 Ab2 : Option Addr) (na2 nb2 ca2 cb2 : Nat) (a2 b2 : List Int), xv = .int .i64 p.1 ∧ Boxes wx B ba bb Aa2 Ab2 na2 nb2 ca2 cb2 a2 b2 ∧ na2 + nb2 < na + nb ∧ N ≤ wx.heap.size ∧
        Kept (Ls.mrg a' b' = p :: Ls.mrg a2 b2) ∧ Kept (J pre wx) ∧ wx.cell? ⟨wr.heap.size, 0, none⟩ = some (.bool p.2.1) ∧ wx.cell? ⟨wr.heap.size, 1, none⟩ = some (.bool p.2.2))
      case first =>
        clear Hround
        have g1 : wr.grownBy (wr.alloc (.cells #[.bool false, .bool false] 168)) none := ⟨rfl, rfl, rfl, by simp, fun k hk _ => Below.heap_alloc _ _ _ hk⟩
        have hg := Kept.mk (Two.of (p := ba) (q := bb) g1)
        have d1 : (wr.alloc (.cells #[.bool false, .bool false] 168)).cell? ⟨ba, 0, none⟩ = _ := (World.cell?_alloc_lt wr _ ⟨ba, 0, none⟩ (by show ba < _; omega)).trans hc1
        have d2 : (wr.alloc (.cells #[.bool false, .bool false] 168)).cell? ⟨bb, 0, none⟩ = _ := (World.cell?_alloc_lt wr _ ⟨bb, 0, none⟩ (by show bb < _; omega)).trans hc2
        have e1 : (wr.alloc (.cells #[.bool false, .bool false] 168)).frozen? ⟨ba, 0, none⟩ = _ := (World.frozen?_of_block (Below.heap_alloc wr _ ba (by omega))).trans hf1
        have e2 : (wr.alloc (.cells #[.bool false, .bool false] 168)).frozen? ⟨bb, 0, none⟩ = _ := (World.frozen?_of_block (Below.heap_alloc wr _ bb (by omega))).trans hf2
        have o1 : (wr.alloc (.cells #[.bool false, .bool false] 168)).heap[wr.heap.size]? = some (.cells #[.bool false, .bool false] 168 (0, 0)) := heap_alloc_new wr _
        have Hs1 := hide (Hr1.out.alloc (by omega) (.cells #[.bool false, .bool false] 168))
        have Hs2 := hide (Hr2.out.alloc (by omega) (.cells #[.bool false, .bool false] 168))
        have o2 : (wr.alloc (.cells #[.bool false, .bool false] 168)).cell? ⟨wr.heap.size, 0, none⟩ = some (.bool false) := cell_of_row _ _ _ _ _ _ o1
        have o3 : (wr.alloc (.cells #[.bool false, .bool false] 168)).cell? ⟨wr.heap.size, 1, none⟩ = some (.bool false) := cell_of_row _ _ _ _ _ _ o1
        have o4 : (wr.alloc (.cells #[.bool false, .bool false] 168)).frozen? ⟨wr.heap.size, 0, none⟩ = false := frozen_of_row _ _ _ _ _ o1
        have o5 : (wr.alloc (.cells #[.bool false, .bool false] 168)).frozen? ⟨wr.heap.size, 1, none⟩ = false := frozen_of_row _ _ _ _ _ o1
        have hs1 : Kept (N ≤ (wr.alloc (.cells #[.bool false, .bool false] 168)).heap.size) := ⟨by simp; omega⟩
        have hne1 : ba ≠ wr.heap.size := by omega
        have hne2 : bb ≠ wr.heap.size := by omega
        have hne3 : wr.heap.size ≠ ba := by omega
        have hne4 : wr.heap.size ≠ bb := by omega
        have hba : bb ≠ ba := fun e => hab e.symm
        clear o1 hc1 hc2 hf1 hf2 Hr1 Hr2 g1
        generalize wr.alloc (.cells #[.bool false, .bool false] 168) = w1 at *
        by_cases hnb : nb = 0
        · have hpos : (0 : Int) < (na : Int) := by omega
          have hnb' : ((nb : Int) == 0) = true := by simp; omega
          obtain rfl : b' = [] := List.eq_nil_of_length_eq_zero (by have := hn2.out; omega)
          obtain ⟨x, a2, rfl⟩ : ∃ x a2, a' = x :: a2 := by
            match a', hn1.out with
            | x :: a2, _ => exact ⟨x, a2, rfl⟩
            | [], h => simp at h; omega
          obtain ⟨bA, oA, rfl, hbA, hcbA⟩ := Hs1.out.at_ (k := 0) (by simp)
          simp only [List.getElem_cons_zero, Nat.add_zero] at hcbA
          by_cases hcca : ca = 1
          · obtain rfl : na = 1 := by omega
            subst hcca
            obtain rfl : a2 = [] := by have := hn1.out; simp at this; exact this
            have Rca := Kept.mk (RdI.zero w1 B (some ⟨bA, oA, none⟩) (m := 0) (c := 0) rfl (by unfold maxLen; omega))
            go_wp2_with fail
            go_quiet (fail)
            go_wp2_with fail
            go_region
            go_wp2_with fail
            go_meet
            exact ⟨(x, true, false), (some ⟨bA, oA, none⟩), _, 0, _, 0, _, [], _, rfl, ⟨st_p hne1 d1, (st_far hba (.inl hne2)).trans d2, st_frozen.trans e1, st_frozen.trans e2, st_rd Rca.out hBa (by omega), st_rd Hs2.out hBa (by omega)⟩, by omega, by simpa using hs1.out, ⟨Ls.mrg_fst _ _ _ (fun y hy => by cases hy)⟩,
              ⟨hJ2.out.two hj.out (((hg.out.drewN _).set _ _ (.inl rfl)).set _ _ (.inr (.inr (Nat.le_refl _))))⟩, st_o hne1 o2, (st_far hne3 (.inr (by decide))).trans o3⟩
          · have Rca := Hs1.out.drop (k := 1) (by omega)
            rw [if_neg hcca] at Rca
            simp only [Option.map_some, add_plain, List.drop_succ_cons, List.drop_zero] at Rca
            replace Rca := Kept.mk Rca
            go_wp2_with fail
            go_quiet (fail)
            go_wp2_with fail
            go_region
            go_wp2_with fail
            go_meet
            exact ⟨(x, true, false), (some ⟨bA, oA + 1, none⟩), _, (na - 1), _, (ca - 1), _, a2, _, rfl, ⟨st_p hne1 d1, (st_far hba (.inl hne2)).trans d2, st_frozen.trans e1, st_frozen.trans e2, st_rd Rca.out hBa (by omega), st_rd Hs2.out hBa (by omega)⟩, by omega, by simpa using hs1.out, ⟨Ls.mrg_fst _ _ _ (fun y hy => by cases hy)⟩,
              ⟨hJ2.out.two hj.out (((hg.out.drewN _).set _ _ (.inl rfl)).set _ _ (.inr (.inr (Nat.le_refl _))))⟩, st_o hne1 o2, (st_far hne3 (.inr (by decide))).trans o3⟩
        · have hnb' : ((nb : Int) == 0) = false := by simp; omega
          by_cases hna : na = 0
          · have hpos : (0 : Int) < (nb : Int) := by omega
            have hna' : ((na : Int) == 0) = true := by simp; omega
            have hna2 : decide ((0 : Int) < (na : Int)) = false := by simp; omega
            obtain rfl : a' = [] := List.eq_nil_of_length_eq_zero (by have := hn1.out; omega)
            obtain ⟨y, b2, rfl⟩ : ∃ y b2, b' = y :: b2 := by
              match b', hn2.out with
              | y :: b2, _ => exact ⟨y, b2, rfl⟩
              | [], h => simp at h; omega
            obtain ⟨bB, oB, rfl, hbB, hcbB⟩ := Hs2.out.at_ (k := 0) (by simp)
            simp only [List.getElem_cons_zero, Nat.add_zero] at hcbB
            by_cases hccb : cb = 1
            · obtain rfl : nb = 1 := by omega
              subst hccb
              obtain rfl : b2 = [] := by have := hn2.out; simp at this; exact this
              have Rcb := Kept.mk (RdI.zero w1 B (some ⟨bB, oB, none⟩) (m := 0) (c := 0) rfl (by unfold maxLen; omega))
              go_wp2_with fail
              go_quiet (fail)
              go_wp2_with fail
              go_quiet (fail)
              go_wp2_with fail
              go_region
              go_wp2_with fail
              go_meet
              exact ⟨(y, false, true), _, (some ⟨bB, oB, none⟩), _, 0, _, 0, _, [], rfl, ⟨(st_far hab (.inl hne1)).trans d1, st_p hne2 d2, st_frozen.trans e1, st_frozen.trans e2, st_rd Hs1.out hBb (by omega), st_rd Rcb.out hBb (by omega)⟩, by omega, by simpa using hs1.out, ⟨Ls.mrg_snd _ _ _ (fun y hy => by cases hy)⟩,
                ⟨hJ2.out.two hj.out (((hg.out.drewN _).set _ _ (.inr (.inl rfl))).set _ _ (.inr (.inr (Nat.le_refl _))))⟩, (st_far hne4 (.inr (by decide))).trans o2, st_o hne2 o3⟩
            · have Rcb := Hs2.out.drop (k := 1) (by omega)
              rw [if_neg hccb] at Rcb
              simp only [Option.map_some, add_plain, List.drop_succ_cons, List.drop_zero] at Rcb
              replace Rcb := Kept.mk Rcb
              go_wp2_with fail
              go_quiet (fail)
              go_wp2_with fail
              go_quiet (fail)
              go_wp2_with fail
              go_region
              go_wp2_with fail
              go_meet
              exact ⟨(y, false, true), _, (some ⟨bB, oB + 1, none⟩), _, (nb - 1), _, (cb - 1), _, b2, rfl, ⟨(st_far hab (.inl hne1)).trans d1, st_p hne2 d2, st_frozen.trans e1, st_frozen.trans e2, st_rd Hs1.out hBb (by omega), st_rd Rcb.out hBb (by omega)⟩, by omega, by simpa using hs1.out, ⟨Ls.mrg_snd _ _ _ (fun y hy => by cases hy)⟩,
                ⟨hJ2.out.two hj.out (((hg.out.drewN _).set _ _ (.inr (.inl rfl))).set _ _ (.inr (.inr (Nat.le_refl _))))⟩, (st_far hne4 (.inr (by decide))).trans o2, st_o hne2 o3⟩
          · have hpos : (0 : Int) < (nb : Int) := by omega
            have hpos1 : (0 : Int) < (na : Int) := by omega
            have hna' : ((na : Int) == 0) = false := by simp; omega
            have hna2 : decide ((0 : Int) < (na : Int)) = true := by simp; omega
            have hna3 : decide (0 < na) = true := by simp; omega
            obtain ⟨x, a2, rfl⟩ : ∃ x a2, a' = x :: a2 := by
              match a', hn1.out with
              | x :: a2, _ => exact ⟨x, a2, rfl⟩
              | [], h => simp at h; omega
            obtain ⟨bA, oA, rfl, hbA, hcbA⟩ := Hs1.out.at_ (k := 0) (by simp)
            simp only [List.getElem_cons_zero, Nat.add_zero] at hcbA
            obtain ⟨y, b2, rfl⟩ : ∃ y b2, b' = y :: b2 := by
              match b', hn2.out with
              | y :: b2, _ => exact ⟨y, b2, rfl⟩
              | [], h => simp at h; omega
            obtain ⟨bB, oB, rfl, hbB, hcbB⟩ := Hs2.out.at_ (k := 0) (by simp)
            simp only [List.getElem_cons_zero, Nat.add_zero] at hcbB
            by_cases hxy : x < y
            · have hxy' : decide (x < y) = true := by simp; omega
              by_cases hcca : ca = 1
              · obtain rfl : na = 1 := by omega
                subst hcca
                obtain rfl : a2 = [] := by have := hn1.out; simp at this; exact this
                have Rca := Kept.mk (RdI.zero w1 B (some ⟨bA, oA, none⟩) (m := 0) (c := 0) rfl (by unfold maxLen; omega))
                go_wp2_with fail
                go_quiet (fail)
                go_wp2_with fail
                go_region
                go_wp2_with fail
                go_meet
                exact ⟨(x, true, false), (some ⟨bA, oA, none⟩), _, 0, _, 0, _, [], _, rfl, ⟨st_p hne1 d1, (st_far hba (.inl hne2)).trans d2, st_frozen.trans e1, st_frozen.trans e2, st_rd Rca.out hBa (by omega), st_rd Hs2.out hBa (by omega)⟩, by omega, by simpa using hs1.out, ⟨Ls.mrg_fst _ _ _ (fun z hz => by cases hz; exact hxy)⟩,
                  ⟨hJ2.out.two hj.out (((hg.out.drewN _).set _ _ (.inl rfl)).set _ _ (.inr (.inr (Nat.le_refl _))))⟩, st_o hne1 o2, (st_far hne3 (.inr (by decide))).trans o3⟩
              · have Rca := Hs1.out.drop (k := 1) (by omega)
                rw [if_neg hcca] at Rca
                simp only [Option.map_some, add_plain, List.drop_succ_cons, List.drop_zero] at Rca
                replace Rca := Kept.mk Rca
                go_wp2_with fail
                go_quiet (fail)
                go_wp2_with fail
                go_region
                go_wp2_with fail
                go_meet
                exact ⟨(x, true, false), (some ⟨bA, oA + 1, none⟩), _, (na - 1), _, (ca - 1), _, a2, _, rfl, ⟨st_p hne1 d1, (st_far hba (.inl hne2)).trans d2, st_frozen.trans e1, st_frozen.trans e2, st_rd Rca.out hBa (by omega), st_rd Hs2.out hBa (by omega)⟩, by omega, by simpa using hs1.out, ⟨Ls.mrg_fst _ _ _ (fun z hz => by cases hz; exact hxy)⟩,
                  ⟨hJ2.out.two hj.out (((hg.out.drewN _).set _ _ (.inl rfl)).set _ _ (.inr (.inr (Nat.le_refl _))))⟩, st_o hne1 o2, (st_far hne3 (.inr (by decide))).trans o3⟩
            · by_cases hyx : y < x
              · have hxy' : decide (x < y) = false := by simp; omega
                have hyx' : decide (y < x) = true := by simp; omega
                by_cases hccb : cb = 1
                · obtain rfl : nb = 1 := by omega
                  subst hccb
                  obtain rfl : b2 = [] := by have := hn2.out; simp at this; exact this
                  have Rcb := Kept.mk (RdI.zero w1 B (some ⟨bB, oB, none⟩) (m := 0) (c := 0) rfl (by unfold maxLen; omega))
                  go_wp2_with fail
                  go_quiet (fail)
                  go_wp2_with fail
                  go_quiet (fail)
                  go_wp2_with fail
                  go_region
                  go_wp2_with fail
                  go_meet
                  exact ⟨(y, false, true), _, (some ⟨bB, oB, none⟩), _, 0, _, 0, _, [], rfl, ⟨(st_far hab (.inl hne1)).trans d1, st_p hne2 d2, st_frozen.trans e1, st_frozen.trans e2, st_rd Hs1.out hBb (by omega), st_rd Rcb.out hBb (by omega)⟩, by omega, by simpa using hs1.out, ⟨Ls.mrg_snd _ _ _ (fun z hz => by cases hz; exact hyx)⟩,
                    ⟨hJ2.out.two hj.out (((hg.out.drewN _).set _ _ (.inr (.inl rfl))).set _ _ (.inr (.inr (Nat.le_refl _))))⟩, (st_far hne4 (.inr (by decide))).trans o2, st_o hne2 o3⟩
                · have Rcb := Hs2.out.drop (k := 1) (by omega)
                  rw [if_neg hccb] at Rcb
                  simp only [Option.map_some, add_plain, List.drop_succ_cons, List.drop_zero] at Rcb
                  replace Rcb := Kept.mk Rcb
                  go_wp2_with fail
                  go_quiet (fail)
                  go_wp2_with fail
                  go_quiet (fail)
                  go_wp2_with fail
                  go_region
                  go_wp2_with fail
                  go_meet
                  exact ⟨(y, false, true), _, (some ⟨bB, oB + 1, none⟩), _, (nb - 1), _, (cb - 1), _, b2, rfl, ⟨(st_far hab (.inl hne1)).trans d1, st_p hne2 d2, st_frozen.trans e1, st_frozen.trans e2, st_rd Hs1.out hBb (by omega), st_rd Rcb.out hBb (by omega)⟩, by omega, by simpa using hs1.out, ⟨Ls.mrg_snd _ _ _ (fun z hz => by cases hz; exact hyx)⟩,
                    ⟨hJ2.out.two hj.out (((hg.out.drewN _).set _ _ (.inr (.inl rfl))).set _ _ (.inr (.inr (Nat.le_refl _))))⟩, (st_far hne4 (.inr (by decide))).trans o2, st_o hne2 o3⟩
              · have hxy' : decide (x < y) = false := by simp; omega
                have hyx' : decide (y < x) = false := by simp; omega
                obtain rfl : x = y := by omega
                by_cases hcca : ca = 1
                · obtain rfl : na = 1 := by omega
                  subst hcca
                  obtain rfl : a2 = [] := by have := hn1.out; simp at this; exact this
                  have Rca := Kept.mk (RdI.zero w1 B (some ⟨bA, oA, none⟩) (m := 0) (c := 0) rfl (by unfold maxLen; omega))
                  by_cases hccb : cb = 1
                  · obtain rfl : nb = 1 := by omega
                    subst hccb
                    obtain rfl : b2 = [] := by have := hn2.out; simp at this; exact this
                    have Rcb := Kept.mk (RdI.zero w1 B (some ⟨bB, oB, none⟩) (m := 0) (c := 0) rfl (by unfold maxLen; omega))
                    go_wp2_with fail
                    go_quiet (fail)
                    go_wp2_with fail
                    go_quiet (fail)
                    go_wp2_with fail
                    go_region
                    go_wp2_with fail
                    go_meet
                    exact ⟨(x, true, true), (some ⟨bA, oA, none⟩), (some ⟨bB, oB, none⟩), 0, 0, 0, 0, [], [], rfl, ⟨s4_p hab hne1 d1, s4_q hab hne2 d2, s4_frozen.trans e1, s4_frozen.trans e2, s4_rd Rca.out hBa hBb (by omega), s4_rd Rcb.out hBa hBb (by omega)⟩, by omega, by simpa using hs1.out, ⟨Ls.mrg_both _ _ _⟩,
                      ⟨hJ2.out.two hj.out (((((hg.out.drewN _).set _ _ (.inl rfl)).set _ _ (.inr (.inl rfl))).set _ _ (.inr (.inr (Nat.le_refl _)))).set _ _ (.inr (.inr (Nat.le_refl _))))⟩, s4_o0 hne3 hne4 o2, s4_o1 hne3 hne4 o3⟩
                  · have Rcb := Hs2.out.drop (k := 1) (by omega)
                    rw [if_neg hccb] at Rcb
                    simp only [Option.map_some, add_plain, List.drop_succ_cons, List.drop_zero] at Rcb
                    replace Rcb := Kept.mk Rcb
                    go_wp2_with fail
                    go_quiet (fail)
                    go_wp2_with fail
                    go_quiet (fail)
                    go_wp2_with fail
                    go_region
                    go_wp2_with fail
                    go_meet
                    exact ⟨(x, true, true), (some ⟨bA, oA, none⟩), (some ⟨bB, oB + 1, none⟩), 0, (nb - 1), 0, (cb - 1), [], b2, rfl, ⟨s4_p hab hne1 d1, s4_q hab hne2 d2, s4_frozen.trans e1, s4_frozen.trans e2, s4_rd Rca.out hBa hBb (by omega), s4_rd Rcb.out hBa hBb (by omega)⟩, by omega, by simpa using hs1.out, ⟨Ls.mrg_both _ _ _⟩,
                      ⟨hJ2.out.two hj.out (((((hg.out.drewN _).set _ _ (.inl rfl)).set _ _ (.inr (.inl rfl))).set _ _ (.inr (.inr (Nat.le_refl _)))).set _ _ (.inr (.inr (Nat.le_refl _))))⟩, s4_o0 hne3 hne4 o2, s4_o1 hne3 hne4 o3⟩
                · have Rca := Hs1.out.drop (k := 1) (by omega)
                  rw [if_neg hcca] at Rca
                  simp only [Option.map_some, add_plain, List.drop_succ_cons, List.drop_zero] at Rca
                  replace Rca := Kept.mk Rca
                  by_cases hccb : cb = 1
                  · obtain rfl : nb = 1 := by omega
                    subst hccb
                    obtain rfl : b2 = [] := by have := hn2.out; simp at this; exact this
                    have Rcb := Kept.mk (RdI.zero w1 B (some ⟨bB, oB, none⟩) (m := 0) (c := 0) rfl (by unfold maxLen; omega))
                    go_wp2_with fail
                    go_quiet (fail)
                    go_wp2_with fail
                    go_quiet (fail)
                    go_wp2_with fail
                    go_region
                    go_wp2_with fail
                    go_meet
                    exact ⟨(x, true, true), (some ⟨bA, oA + 1, none⟩), (some ⟨bB, oB, none⟩), (na - 1), 0, (ca - 1), 0, a2, [], rfl, ⟨s4_p hab hne1 d1, s4_q hab hne2 d2, s4_frozen.trans e1, s4_frozen.trans e2, s4_rd Rca.out hBa hBb (by omega), s4_rd Rcb.out hBa hBb (by omega)⟩, by omega, by simpa using hs1.out, ⟨Ls.mrg_both _ _ _⟩,
                      ⟨hJ2.out.two hj.out (((((hg.out.drewN _).set _ _ (.inl rfl)).set _ _ (.inr (.inl rfl))).set _ _ (.inr (.inr (Nat.le_refl _)))).set _ _ (.inr (.inr (Nat.le_refl _))))⟩, s4_o0 hne3 hne4 o2, s4_o1 hne3 hne4 o3⟩
                  · have Rcb := Hs2.out.drop (k := 1) (by omega)
                    rw [if_neg hccb] at Rcb
                    simp only [Option.map_some, add_plain, List.drop_succ_cons, List.drop_zero] at Rcb
                    replace Rcb := Kept.mk Rcb
                    go_wp2_with fail
                    go_quiet (fail)
                    go_wp2_with fail
                    go_quiet (fail)
                    go_wp2_with fail
                    go_region
                    go_wp2_with fail
                    go_meet
                    exact ⟨(x, true, true), (some ⟨bA, oA + 1, none⟩), (some ⟨bB, oB + 1, none⟩), (na - 1), (nb - 1), (ca - 1), (cb - 1), a2, b2, rfl, ⟨s4_p hab hne1 d1, s4_q hab hne2 d2, s4_frozen.trans e1, s4_frozen.trans e2, s4_rd Rca.out hBa hBb (by omega), s4_rd Rcb.out hBa hBb (by omega)⟩, by omega, by simpa using hs1.out, ⟨Ls.mrg_both _ _ _⟩,
                      ⟨hJ2.out.two hj.out (((((hg.out.drewN _).set _ _ (.inl rfl)).set _ _ (.inr (.inl rfl))).set _ _ (.inr (.inr (Nat.le_refl _)))).set _ _ (.inr (.inr (Nat.le_refl _))))⟩, s4_o0 hne3 hne4 o2, s4_o1 hne3 hne4 o3⟩
      case rest =>
        obtain ⟨⟨x, f, s⟩, Aa2, Ab2, na2, nb2, ca2, cb2, a2, b2, rfl, hx2, hlt, hNx, hm2, hj2, hoc1, hoc2⟩ := hcut
        have hpre : pre ++ [(x, f, s)] <+: Ls.mrg a b := ⟨Ls.mrg a2 b2, by rw [hm.out, hm2.out]; simp⟩
        have hm3 : Kept (Ls.mrg a b = (pre ++ [(x, f, s)]) ++ Ls.mrg a2 b2) := ⟨by rw [hm.out, hm2.out]; simp⟩
        obtain ⟨fn, tmps, assign, body, hy, hri⟩ := Hround.out pre (x, f, s) wc hj2.out hpre
        have hlen0 : Kept (lenV (wr.cell? ⟨ba, 0, none⟩) + lenV (wr.cell? ⟨bb, 0, none⟩) = na + nb) := ⟨by rw [hc1, hc2]; rfl⟩
        unfold encO at hy
        have Hpre := hide hpre
        clear hc1 hc2 hf1 hf2 hpre
        rename_i a1
        refine a1 _ _ ?_
        refine (wpIn_wide (n := n)).1 ?_
        gi_wp2
        refine ⟨(fun h => by simp [Fence.wide] at h), hri.mono ?_⟩
        rintro e W' (⟨rfl, hj', hb'⟩ | ⟨rfl, hjx⟩)
        · have hx3 := hx2.kp hb'
          have hsz := hb'.1.size
          have hlen1 : Kept (lenV (W'.cell? ⟨ba, 0, none⟩) + lenV (W'.cell? ⟨bb, 0, none⟩) = na2 + nb2) := ⟨by rw [hx3.c1, hx3.c2]; rfl⟩
          gi_wp2
          go_roundw
          case rel => exact ⟨pre ++ [(x, f, s)], Aa2, Ab2, na2, nb2, ca2, cb2, a2, b2, hx3, by omega, by omega, hm3, ⟨hj'⟩⟩
          case measure => rw [hlen0.out, hlen1.out]; exact hlt
        · gi_wp2
          refine bodyPost_ret (results_none rfl _ _ _) rfl ?_
          exact ⟨⟨_, rfl⟩, .inr ⟨_, Hpre.out, hjx⟩⟩

attribute [local go_sem] Oper.semAt_some

set_option maxHeartbeats 1000000 in
theorem merge_any (Aa Ab : Option Addr) (na nb ca cb : Nat) (w : World) :
    Calls Try.prog 143 #[.slice Aa na ca, .slice Ab nb cb] w fun e w' => e = .returned (.func (.func 152) #[] #[.pointer (some ⟨w.heap.size, 0, none⟩), .pointer (some ⟨w.heap.size + 1, 0, none⟩)]) ∧
      w' = (w.alloc (.cells #[.slice Aa na ca] 70)).alloc (.cells #[.slice Ab nb cb] 70) := by
  go_enter Try.func143, Try.ntmps143
  go_wp2
  go_ret
  exact ⟨rfl, rfl⟩

/-- the picked numbers of a part of the merged list -/
def Ls.pk (ok : Bool → Bool → Bool) (l : List (Int × Bool × Bool)) : List Int := (l.filter fun p => ok p.2.1 p.2.2).map (·.1)
theorem Ls.pk_yes {ok : Bool → Bool → Bool} {l : List (Int × Bool × Bool)} {p : Int × Bool × Bool} (h : ok p.2.1 p.2.2 = true) : Ls.pk ok (l ++ [p]) = Ls.pk ok l ++ [p.1] := by simp [Ls.pk, h]
theorem Ls.pk_no {ok : Bool → Bool → Bool} {l : List (Int × Bool × Bool)} {p : Int × Bool × Bool} (h : ok p.2.1 p.2.2 = false) : Ls.pk ok (l ++ [p]) = Ls.pk ok l := by simp [Ls.pk, h]
theorem Ls.pk_len (ok : Bool → Bool → Bool) (l : List (Int × Bool × Bool)) : (Ls.pk ok l).length ≤ l.length := by
  unfold Ls.pk; rw [List.length_map]; exact List.length_filter_le _ _
theorem Ls.mrg_len : ∀ (n : Nat) (a b : List Int), a.length + b.length ≤ n → (Ls.mrg a b).length ≤ a.length + b.length
  | n, [], [], _ => by simp [Ls.mrg]
  | 0, x :: a, _, h => by simp at h
  | 0, [], y :: b, h => by simp at h
  | n + 1, x :: a, [], h => by have := Ls.mrg_len n a [] (by simp at h ⊢; omega); rw [Ls.mrg]; simp at this ⊢; omega
  | n + 1, [], y :: b, h => by have := Ls.mrg_len n [] b (by simp at h ⊢; omega); rw [Ls.mrg]; simp at this ⊢; omega
  | n + 1, x :: a, y :: b, h => by
    have h1 := Ls.mrg_len n a (y :: b) (by simp at h ⊢; omega)
    have h2 := Ls.mrg_len n (x :: a) b (by simp at h ⊢; omega)
    have h3 := Ls.mrg_len n a b (by simp at h ⊢; omega)
    rw [Ls.mrg]
    split
    · simp at h1 ⊢; omega
    · split
      · simp at h2 ⊢; omega
      · simp at h3 ⊢; omega

/-- what lies between two rounds -/
def PickI (w : World) (N fid : Nat) (ok : Bool → Bool → Bool) (pre : List (Int × Bool × Bool)) (W : World) : Prop :=
  (∃ A n c, Boxed W (w.heap.size + 1) 70 (.slice A n c) ∧ OwnI W N A n c (Ls.pk ok pre)) ∧ Boxed W w.heap.size 169 (.func (.func fid) #[] #[]) ∧ Below w.heap.size w W
theorem own_kept {W W' : World} {row : Option Nat} {base n c sz : Nat} {A : Option Addr} {xs : List Value} {e : TypeId} {M : Nat} (h : W.ownsRow base e sz (.slice A n c) n xs) (hg : W.grownBy W' row)
    (hr : ∀ r, row = some r → r < base ∨ (M ≤ r ∧ ∃ o : Obj, W.heap[r]? = some o ∧ o.isCells = false)) : W'.ownsRow base e sz (.slice A n c) n xs := by
  refine ⟨h.1, ?_⟩
  rcases h.2 with hn | ⟨g, cap, cur, hv, h1, h2, rest⟩
  · exact .inl hn
  · refine .inr ⟨g, cap, cur, hv, h1, ?_, rest⟩
    rw [hg.block g (Array.getElem?_eq_some_iff.1 h2).1]
    · exact h2
    · intro e'
      rcases hr g e'.symm with h3 | ⟨_, o, ho, hoc⟩
      · omega
      · rw [h2] at ho; cases ho; cases hoc
theorem PickI.own {w : World} {N fid : Nat} {ok : Bool → Bool → Bool} {O : Nat → Prop} (hO : ∀ r, O r → w.heap.size + 1 < r ∧ r < N) (hN : w.heap.size + 2 ≤ N) : MindsOwn N O (PickI w N fid ok) := by
  rintro s W W' row ⟨⟨A, n, c, hb, ho⟩, hb2, hbl⟩ hg hr
  have hrow : ∀ r, row = some r → w.heap.size + 1 < r := fun r e => by
    rcases hr r e with h | ⟨h, _⟩
    · exact (hO r h).1
    · omega
  refine ⟨⟨A, n, c, hb.kept hg (fun e => by have := hrow _ e.symm; omega), own_kept (M := N) ho hg fun r e => ?_⟩, hb2.kept hg (fun e => by have := hrow _ e.symm; omega), hbl.grown hg hbl.size (fun r e => by have := hrow r e; omega)⟩
  rcases hr r e with h | h
  · exact .inl (hO r h).2
  · exact .inr h

set_option maxHeartbeats 2000000 in
set_option maxRecDepth 100000 in
theorem pick_any (fid : Nat) (ok : Bool → Bool → Bool) (Aa Ab : Option Addr) (na nb ca cb B : Nat) (a b : List Int) (w : World)
    (hent : ∀ args w, (callFunc fid args).run Try.prog w = .ok (.enter fid args) w)
    (hok : ∀ f s w, Calls Try.prog fid #[.agg #[.bool f, .bool s]] w fun e w' => e = .returned (.bool (ok f s)) ∧ Below w.heap.size w w')
    (h1 : RdI w B Aa na ca a) (h2 : RdI w B Ab nb cb b) (hB : B ≤ w.heap.size) (hl : na + nb ≤ 2000000) :
    Calls Try.prog 123 #[.slice Aa na ca, .slice Ab nb cb, .func (.func fid) #[] #[]] w fun e w' => ∃ A3 n3 c3, e = .returned (.slice A3 n3 c3) ∧ n3 ≤ na + nb ∧ OwnI w' w.heap.size A3 n3 c3 (Ls.pick ok a b) ∧ Below w.heap.size w w' := by
  have hla := h1.len
  have hlb := h2.len
  have Hm := Kept.mk (Ls.mrg_len _ a b (Nat.le_refl _))
  have hpk := Kept.mk (show Ls.pick ok a b = Ls.pk ok (Ls.mrg a b) from rfl)
  have Hok := hide hok
  have Hent := hide hent
  have H1 := hide h1
  have H2 := hide h2
  replace hla := Kept.mk hla
  replace hlb := Kept.mk hlb
  clear hok hent h1 h2
  refine (callsIn_wide (n := 9)).1 ?_
  refine callsIn_of_wp_marks Try.func123 rfl trivial ?_ rfl
  simp only [Try.ntmps123, List.size_toArray, List.length_cons, List.length_nil, Nat.reduceAdd, Nat.reduceSub, Array.replicate_succ, Array.replicate_zero, List.push_toArray, List.append_toArray, List.nil_append, List.cons_append]
  refine wpIn_wide.2 ?_
  go_wp2_with (go_at_call 143; refine (merge_any _ _ _ _ _ _ _).mono ?_; rintro e w2 ⟨rfl, rfl⟩)
  have bF := Boxed.new w 169 (.func (.func fid) #[] #[])
  have bO := Boxed.new (w.alloc (.cells #[.func (.func fid) #[] #[]] 169)) 70 (.slice none 0 0)
  have bA := Boxed.new ((w.alloc (.cells #[.func (.func fid) #[] #[]] 169)).alloc (.cells #[.slice none 0 0] 70)) 70 (.slice Aa na ca)
  have bB := Boxed.new (((w.alloc (.cells #[.func (.func fid) #[] #[]] 169)).alloc (.cells #[.slice none 0 0] 70)).alloc (.cells #[.slice Aa na ca] 70)) 70 (.slice Ab nb cb)
  replace bF := ((bF.alloc (.cells #[.slice none 0 0] 70)).alloc (.cells #[.slice Aa na ca] 70)).alloc (.cells #[.slice Ab nb cb] 70)
  replace bO := (bO.alloc (.cells #[.slice Aa na ca] 70)).alloc (.cells #[.slice Ab nb cb] 70)
  replace bA := bA.alloc (.cells #[.slice Ab nb cb] 70)
  have hB0 : Below w.heap.size w ((((w.alloc (.cells #[.func (.func fid) #[] #[]] 169)).alloc (.cells #[.slice none 0 0] 70)).alloc (.cells #[.slice Aa na ca] 70)).alloc (.cells #[.slice Ab nb cb] 70)) :=
    ((((Below.refl _ w).alloc (Nat.le_refl _) _).alloc (by simp) _).alloc (by simp; omega) _).alloc (by simp; omega) _
  have hsz : ((((w.alloc (.cells #[.func (.func fid) #[] #[]] 169)).alloc (.cells #[.slice none 0 0] 70)).alloc (.cells #[.slice Aa na ca] 70)).alloc (.cells #[.slice Ab nb cb] 70)).heap.size = w.heap.size + 4 := by simp
  simp only [World.size_alloc] at bF bO bA bB
  generalize (((w.alloc (.cells #[.func (.func fid) #[] #[]] 169)).alloc (.cells #[.slice none 0 0] 70)).alloc (.cells #[.slice Aa na ca] 70)).alloc (.cells #[.slice Ab nb cb] 70) = w4 at *
  have hx : Boxes w4 B (w.heap.size + 1 + 1) (w.heap.size + 1 + 1 + 1) Aa Ab na nb ca cb a b := ⟨bA.cell, bB.cell, bA.frozen, bB.frozen, H1.out.below (hB0.mono hB), H2.out.below (hB0.mono hB)⟩
  refine (wpIn_wide (n := 9)).1 ?_
  refine wp_range (by decide) (gf := 152) (lb := #[.pointer (some ⟨w.heap.size + 1 + 1, 0, none⟩), .pointer (some ⟨w.heap.size + 1 + 1 + 1, 0, none⟩)]) rfl (enters_of Try.func152 (by kernel_rfl) rfl)
    (merge_yields 8 (w.heap.size + 1 + 1) (w.heap.size + 1 + 1 + 1) B (w.heap.size + 4) Aa Ab na nb ca cb a b w4 hx (by omega) (by omega) (by omega) (by omega) (by omega) hl (by omega))
    (by rintro r (rfl | rfl) <;> omega) (fun h k => h.trans k) (fun W W' row hW hg hr => KpI.grown hW (by omega) (by omega) (by omega) hg hr) (fun _ => rfl)
    (PickI w (w.heap.size + 4) fid ok) (fun _ _ _ => False)
    (fun pre x a₁ W => PickI w (w.heap.size + 4) fid ok pre W ∧ ∃ g, W.heap[g]? = some (.cells #[.bool x.2.1, .bool x.2.2] 168 (0, 0)) ∧ w.heap.size + 4 ≤ g ∧
      a₁ = { tmps := #[.slice Aa na ca, .slice Ab nb cb, .func (.func fid) #[] #[], undef, undef, .pointer (some ⟨w.heap.size, 0, none⟩), .slice none 0 0, .pointer (some ⟨w.heap.size + 1, 0, none⟩), .int .i64 x.1, .pointer (some ⟨g, 0, none⟩), .slice Aa na ca, .slice Ab nb cb,
        .func (.func 152) #[] #[.pointer (some ⟨w.heap.size + 1 + 1, 0, none⟩), .pointer (some ⟨w.heap.size + 1 + 1 + 1, 0, none⟩)], .int .i64 x.1, .agg #[.bool x.2.1, .bool x.2.2], undef, undef, undef, undef, undef, undef, undef, undef], defers := [] })
    ?hI (fun _ _ _ _ _ h _ _ => h) ?hM ?h0 ?assign ?body ?done ?stop
  case hI => rw [hsz]; exact PickI.own (by rintro r (rfl | rfl) <;> omega) (by omega)
  case hM =>
    rw [hsz]
    rintro pre x a₁ u W W' row ⟨hI, g, hg, hgN, ha⟩ hgr hr
    refine ⟨PickI.own (O := fun r => r = w.heap.size + 1 + 1 ∨ r = w.heap.size + 1 + 1 + 1) (by rintro r (rfl | rfl) <;> omega) (by omega) _ _ _ _ hI hgr hr, g, (hgr.block g (Array.getElem?_eq_some_iff.1 hg).1 fun e => ?_).trans hg, hgN, ha⟩
    rcases hr g e.symm with h | ⟨_, o, ho, hoc⟩
    · rcases h with h | h <;> omega
    · rw [hg] at ho; cases ho; cases hoc
  case h0 => exact ⟨⟨none, 0, 0, bO, World.ownsRow_nil _ _ _ _⟩, bF, hB0⟩
  case assign =>
    rintro l pre ⟨x, f, s⟩ W hI hpre hW
    unfold encO
    gi_wp2
    have hga : W.grownBy (W.alloc (.cells #[.bool f, .bool s] 168)) none := World.grownBy_alloc W _ none
    exact ⟨KeepsFrom.of_grownBy hga (fun _ e => by cases e), KpI.grown hW (by omega) (by omega) (by omega) hga (fun _ e => by cases e),
      PickI.own (O := fun r => r = w.heap.size + 1 + 1 ∨ r = w.heap.size + 1 + 1 + 1) (by rintro r (rfl | rfl) <;> omega) (by omega) _ _ _ _ hI hga (fun _ e => by cases e), W.heap.size, heap_alloc_new W _, by omega, rfl⟩
  case body =>
    rintro l pre ⟨x, f, s⟩ a₁ W ⟨⟨⟨A, n, c, hb, ho⟩, hb2, hbl⟩, g, hg, hgN, rfl⟩ hpre hW
    have hl1 : n ≤ 2000000 := by
      have h1 := ho.len
      have h2 := Ls.pk_len ok pre
      have h3 := hpre.length_le
      have h4 := Hm.out
      have h5 := hla.out
      have h6 := hlb.out
      simp at h3
      omega
    have hcF := hb2.cell
    have hg0 : W.cell? ⟨g, 0, none⟩ = some (.bool f) := cell_of_row _ _ _ _ _ _ hg
    have hg1 : W.cell? ⟨g, 1, none⟩ = some (.bool s) := cell_of_row _ _ _ _ _ _ hg
    have hent := Hent.out
    have Hcall := Kept.mk (callsIn_wide (n := 6).2 (Hok.out f s W))
    have hltO := hb.lt
    cases hres : ok f s with
    | false =>
      have hno := Kept.mk (Ls.pk_no (l := pre) (p := (x, f, s)) hres)
      gi_wp2
      refine ⟨trivial, (CallsIn.inRound l Hcall.out).mono ?_⟩
      rintro e W1 ⟨rfl, hk⟩
      rw [hres]
      gi_wp2
      have hsz1 := hk.size
      have hgk : KeepsFrom w4.heap.size W W1 := ⟨hk.size, fun k o _ h _ => (hk.block k (Array.getElem?_eq_some_iff.1 h).1).trans h⟩
      exact ⟨hgk, ⟨hk.mono (by omega), hk.block _ (by omega), hk.block _ (by omega)⟩, ⟨A, n, c, (hk.block _ hltO).trans hb, by rw [hno.out]; exact own_below ho hk (fun g hg => (own_lt ho g hg).2)⟩, (hk.block _ (by omega)).trans hb2, hbl.trans (hk.mono (by omega))⟩
    | true =>
      have hyes := Kept.mk (Ls.pk_yes (l := pre) (p := (x, f, s)) hres)
      gi_wp2
      refine ⟨trivial, (CallsIn.inRound l Hcall.out).mono ?_⟩
      rintro e W1 ⟨rfl, hk⟩
      rw [hres]
      have hsz1 := hk.size
      have hgk : KeepsFrom w4.heap.size W W1 := ⟨hk.size, fun k o _ h _ => (hk.block k (Array.getElem?_eq_some_iff.1 h).1).trans h⟩
      have hbO : Boxed W1 (w.heap.size + 1) 70 (.slice A n c) := (hk.block _ hltO).trans hb
      have hbF : Boxed W1 w.heap.size 169 (.func (.func fid) #[] #[]) := (hk.block _ (by omega)).trans hb2
      have hoO : OwnI W1 (w.heap.size + 4) A n c (Ls.pk ok pre) := own_below ho hk (fun g hg => (own_lt ho g hg).2)
      have hcO := hbO.cell
      obtain ⟨i0, hi0, hz0, hz1, hz2⟩ := info_parts infoI
      gi_wp2_with (gi_at_builtin; refine wpListIn_app _ rfl (.tmp 18) (.tmp 20) _ rfl (w.heap.size + 4) 3 i0 (.int .i64 0) 1 8 Try.underlying70 hi0 hz0 hz1 hz2 rfl (by decide) A n c _ rfl (World.ownsRow.alloc hoO _) (W1.heap.size + 1) _ _ _ (ivs [x]) rfl (RdI.one W1 x) (ivs_one _) (by unfold maxLen; omega) (by omega) (by simp; omega) ?_; intro A4 c4 w5 hown4 hgrow4 hat4; have hbO5 : Boxed w5 (w.heap.size + 1) 70 (.slice A n c) := (hbO.alloc _).kept hgrow4 (fun e => by have := own_lt hoO _ e.symm; omega); have hcO5 := hbO5.cell; have hfO5 := hbO5.frozen)
      have hltA := own_lt hoO
      have hgs : w5.grownBy (w5.setCell ⟨w.heap.size + 1, 0, none⟩ (.slice A4 (n + 1) c4)) (some (w.heap.size + 1)) := grownBy_setCell' _ _ _
      have hcl : ∀ j o, ab A = some j → (W1.alloc (.cells #[.int .i64 x] 3)).heap[j]? = some o → o.isCells = true := by
        intro j o ej hj
        rcases (World.ownsRow.alloc hoO (.cells #[.int .i64 x] 3)).2 with ⟨hv, _⟩ | ⟨g', cap, cur, hv, _, hgb, _⟩
        · injection hv with hv1; rw [hv1] at ej; cases ej
        · injection hv with hv1
          rw [hv1] at ej
          obtain rfl : g' = j := by simpa [ab] using ej
          rw [hgb] at hj; cases hj; rfl
      have hk5 : KeepsFrom w4.heap.size W (w5.setCell ⟨w.heap.size + 1, 0, none⟩ (.slice A4 (n + 1) c4)) :=
        hgk.trans ((((KeepsOthers.alloc W1 _).trans (KeepsOthers.of_grownBy hgrow4 hcl)).trans (KeepsOthers.setCell _ _ _)).from _)
      have hb5 : Below w.heap.size W1 (w5.setCell ⟨w.heap.size + 1, 0, none⟩ (.slice A4 (n + 1) c4)) :=
        (((Below.refl _ W1).alloc (by omega) _).grown hgrow4 (by simp; omega) (fun g e => by have := hltA g e; omega)).setCell (p := ⟨w.heap.size + 1, 0, none⟩) (by simp) _
      have hs5 : ∀ k, k < w.heap.size + 4 → k ≠ w.heap.size + 1 → (w5.setCell ⟨w.heap.size + 1, 0, none⟩ (.slice A4 (n + 1) c4)).heap[k]? = W.heap[k]? := fun k hk1 hk2 =>
        (Below.heap_setCell w5 _ _ k hk2).trans ((hgrow4.block k (by simp; omega) (fun e => by have := hltA _ e.symm; omega)).trans ((Below.heap_alloc _ _ _ (by omega)).trans (hk.block k (by omega))))
      refine ⟨hk5, ⟨(hk.mono (by omega)).trans (hb5.mono hB), hs5 _ (by omega) (by omega), hs5 _ (by omega) (by omega)⟩, ⟨A4, n + 1, c4, hbO5.set _, ?_⟩, (hs5 _ (by omega) (by omega)).trans hb2, hbl.trans ((hk.mono (by omega)).trans hb5)⟩
      rw [hyes.out]
      refine own_kept (M := 0) ?_ hgs (fun r e => by cases e; exact .inl (by omega))
      rw [ivs_append]
      exact hown4
  case done =>
    rintro D W hD ⟨⟨A, n, c, hb, ho⟩, hb2, hbl⟩ hK
    have hc := hb.cell
    have hn2 : n ≤ na + nb := by
      have hn := ho.len
      have h2 := Ls.pk_len ok (Ls.mrg a b)
      have h4 := Hm.out
      have h5 := hla.out
      have h6 := hlb.out
      omega
    have Hn2 := Kept.mk hn2
    go_wp2
    refine ⟨by simp, .inl ⟨_, _, rfl, run_takeDeferred hK, ?_⟩⟩
    have hgo : W.grownBy (W.putObj D (.deferred none)) (some D) := grownBy_putObj' W D _
    refine ⟨_, results_tmp rfl _ _ _, A, n, c, rfl, Hn2.out, ?_, hbl.grown hgo hbl.size (fun g e => by cases e; omega)⟩
    rw [hpk.out]
    exact own_base (own_kept (M := 0) ho hgo (fun r e => by cases e; exact .inr ⟨Nat.zero_le _, _, hK, rfl⟩)) (by omega)
  case stop =>
    rintro D c pre W _ _ h _
    exact h.elim

set_option maxHeartbeats 1000000 in
theorem okU_any (f s : Bool) (w : World) : Calls Try.prog 124 #[.agg #[.bool f, .bool s]] w fun e w' => e = .returned (.bool ((fun _ _ => true) f s)) ∧ Below w.heap.size w w' := by
  have hb : Below w.heap.size w (w.alloc (.cells #[.bool f, .bool s] 168)) := (Below.refl _ w).alloc (Nat.le_refl _) _
  go_enter Try.func124, Try.ntmps124
  go_wp2
  go_ret
  exact ⟨rfl, hb⟩
theorem Ls.puni_take {LL : List (List Int)} {k : Nat} (h : k < LL.length) : Ls.puni [] (LL.take (k + 1)) = Ls.pick (fun _ _ => true) (Ls.puni [] (LL.take k)) LL[k] := by
  unfold Ls.puni
  rw [List.take_succ_eq_append_getElem h, List.foldl_append]
  rfl
theorem Ls.pisc_take {l : List Int} {LL : List (List Int)} {k : Nat} (h : k < LL.length) : Ls.pisc l (LL.take (k + 1)) = Ls.pick (fun f s => f && s) (Ls.pisc l (LL.take k)) LL[k] := by
  unfold Ls.pisc
  rw [List.take_succ_eq_append_getElem h, List.foldl_append]
  rfl

set_option maxHeartbeats 1000000 in
theorem union_any (A : Option Addr) (n c B : Nat) (LL : List (List Int)) (w : World) (hv : RdII w B A n c LL) (hB : B ≤ w.heap.size) (hl : Ls.tot LL ≤ 1000000) :
    Calls Try.prog 111 #[.slice A n c] w fun e w' => ∃ A3 n3 c3, e = .returned (.slice A3 n3 c3) ∧ n3 ≤ Ls.tot LL ∧ OwnI w' w.heap.size A3 n3 c3 (Ls.puni [] LL) ∧ Below w.heap.size w w' := by
  have hlc := hv.cap.1
  have hcm := hv.cap.2
  unfold maxLen at hcm
  have hn := Kept.mk hv.len
  have Hv := hide hv
  have Hl := Kept.mk hl
  clear hv hl
  go_enter Try.func111, Try.ntmps111
  go_wp2
  go_loopw [3, 8] (fun o i wr => ∃ k : Nat, k ≤ n ∧ i = .int .i64 k ∧ ∃ A3 n3 c3, o = .slice A3 n3 c3 ∧ Kept (n3 ≤ Ls.tot (LL.take k)) ∧ OwnI wr w.heap.size A3 n3 c3 (Ls.puni [] (LL.take k)) ∧ Below w.heap.size w wr) (fun _ i _ => n - (intOf i).toNat)
  case atStart => exact ⟨0, by omega, rfl, none, 0, 0, rfl, ⟨by simp⟩, OwnI.nil _ _, Below.refl _ _⟩
  case round =>
    obtain ⟨k, hk, rfl, A3, n3, c3, rfl, hn3, ho, hb⟩ := hrel
    by_cases hlt : k < n
    · have hkl : k < LL.length := by rw [← hn.out]; exact hlt
      have ht1 := Kept.mk (Ls.tot_take hkl)
      have ht2 := Kept.mk (Ls.tot_take_le LL (k + 1))
      have hu := Kept.mk (Ls.puni_take hkl)
      obtain ⟨b, off, A', n', c', rfl, hbb, hcell, hr⟩ := Hv.out.at_ hkl
      have hn' := Kept.mk hr.len
      have Hr := Kept.mk (hr.below (hb.mono hB))
      have hz := hb.size
      clear hr
      generalize LL[k] = l at *
      generalize Ls.puni [] (LL.take k) = acc at *
      have hlive := (hb.mono hB).cell (p := ⟨b, off + k, none⟩) hbb
      rw [hcell] at hlive
      have hsum : Kept (n3 + n' ≤ 2000000) := ⟨by have h1 := hn3.out; have h2 := ht1.out; have h3 := ht2.out; have h4 := Hl.out; have h5 := hn'.out; omega⟩
      clear hcell
      go_wp2_with (go_at_call 123; refine (pick_any 124 (fun _ _ => true) _ _ _ _ _ _ wr.heap.size acc l wr (enters_of Try.func124 (by kernel_rfl) rfl) okU_any ho.rd (Hr.out.more (by omega)) (Nat.le_refl _) hsum.out).mono ?_; rintro e w2 ⟨A4, n4, c4, rfl, hn4, ho4, hb4⟩)
      have hb5 := hb.trans (hb4.mono hz)
      go_roundw
      case rel => exact ⟨k + 1, by omega, by go_num, A4, n4, c4, rfl, ⟨by rw [ht1.out]; have h1 := hn3.out; have h2 := hn'.out; omega⟩, by rw [hu.out]; exact own_base ho4 hz, hb5⟩
      case measure => simp [intOf]; omega
    · obtain rfl : k = n := by omega
      have hall : Kept (LL.take k = LL) := ⟨List.take_of_length_le (by rw [← hn.out]; omega)⟩
      rw [hall.out] at ho hn3
      go_wp2
      go_ret
      exact ⟨A3, n3, c3, rfl, hn3.out, ho, hb⟩

/-- the program's Intersect -/
def Ls.piscs : List (List Int) → List Int
  | [] => []
  | l :: r => Ls.pisc l r
theorem Ls.tot_cons (l : List Int) (r : List (List Int)) : Ls.tot (l :: r) = l.length + Ls.tot r := by simp [Ls.tot]

theorem Ls.upto_len (n : Nat) : (Ls.upto n).length = n := by simp [Ls.upto]
theorem Ls.upto_succ (n : Nat) : Ls.upto (n + 1) = Ls.upto n ++ [(n : Int)] := by simp [Ls.upto, List.range_succ]
end Go.Proofs.Ythhcfocmaiacoaa
