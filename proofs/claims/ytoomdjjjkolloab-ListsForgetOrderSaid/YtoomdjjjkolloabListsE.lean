/- lists.merge's iterator yields the merged numbers. (Printed by gen_merge.py.) -/
import Derived.Test.YtoomdjjjkolloabListsD
import Derived.Test.YtoomdjjjkolloabRange
import Derived.Deep.CutBlock
namespace Go.Proofs.Ytoomdjjjkolloab
open Go.RowKit Go.Shelf

/-- what merge's iterator hands to yield -/
def encO (p : Int × Bool × Bool) : Array Value := #[.int .i64 p.1, .agg #[.bool p.2.1, .bool p.2.2]]
def lenV : Option Value → Nat
  | some (.slice _ n _) => n
  | _ => 0
/-- the two boxes of the iterator -/
structure Boxes (w : World) (B ba bb : Nat) (Aa Ab : Option Addr) (na nb ca cb : Nat) (a b : List Int) : Prop where
  c1 : w.cell? ⟨ba, 0, none⟩ = some (.slice Aa na ca)
  c2 : w.cell? ⟨bb, 0, none⟩ = some (.slice Ab nb cb)
  f1 : w.frozen? ⟨ba, 0, none⟩ = false
  f2 : w.frozen? ⟨bb, 0, none⟩ = false
  r1 : RdI w B Aa na ca a
  r2 : RdI w B Ab nb cb b
/-- what the iterator leans on -/
def KpM (B ba bb : Nat) (X Y : World) : Prop := Below B X Y ∧ Y.heap[ba]? = X.heap[ba]? ∧ Y.heap[bb]? = X.heap[bb]?
theorem KpM.trans {B ba bb : Nat} {X Y Z : World} (h : KpM B ba bb X Y) (k : KpM B ba bb Y Z) : KpM B ba bb X Z := ⟨h.1.trans k.1, k.2.1.trans h.2.1, k.2.2.trans h.2.2⟩
theorem KpM.grown {B ba bb M : Nat} {W W' : World} {row : Option Nat} (hM : M ≤ W.heap.size) (hB : B ≤ M) (ha : ba < M) (hb : bb < M) (g : W.grownBy W' row) (hr : ∀ r, row = some r → M ≤ r) : KpM B ba bb W W' :=
  ⟨(Below.refl _ _).grown g (by omega) (fun r e => by have := hr r e; omega), g.block _ (by omega) (fun e => by have := hr _ e.symm; omega), g.block _ (by omega) (fun e => by have := hr _ e.symm; omega)⟩
theorem Boxes.kp {w w' : World} {B ba bb : Nat} {Aa Ab : Option Addr} {na nb ca cb : Nat} {a b : List Int} (h : Boxes w B ba bb Aa Ab na nb ca cb a b) (hb : KpM B ba bb w w') :
    Boxes w' B ba bb Aa Ab na nb ca cb a b :=
  ⟨(World.cell?_of_block hb.2.1).trans h.c1, (World.cell?_of_block hb.2.2).trans h.c2, (World.frozen?_of_block hb.2.1).trans h.f1, (World.frozen?_of_block hb.2.2).trans h.f2, h.r1.below hb.1, h.r2.below hb.1⟩

/-- what may have changed: the blocks p and q, and what is new -/
structure Two (p q : Nat) (w w' : World) : Prop where
  os : w'.os = w.os
  tape : w'.tape = w.tape
  output : w'.output = w.output
  size : w.heap.size ≤ w'.heap.size
  block : ∀ k, k < w.heap.size → k ≠ p → k ≠ q → w'.heap[k]? = w.heap[k]?
theorem Two.of {p q : Nat} {w w' : World} (g : w.grownBy w' none) : Two p q w w' := ⟨g.os, g.tape, g.output, g.size, fun k hk _ _ => g.block k hk (by simp)⟩
theorem Two.drewN {p q : Nat} {w w' : World} (g : Two p q w w') (n : Nat) : Two p q w (w'.drewN n) := ⟨g.os, g.tape, g.output, g.size, g.block⟩
theorem Two.set {p q : Nat} {w w' : World} (g : Two p q w w') (x : Addr) (v : Value) (hx : x.block = p ∨ x.block = q ∨ w.heap.size ≤ x.block) : Two p q w (w'.setCell x v) :=
  ⟨g.os, g.tape, g.output, by have := g.size; simpa using this, fun k hk h1 h2 => (Below.heap_setCell w' x v k (by omega)).trans (g.block k hk h1 h2)⟩
theorem Minds.two {β : Type} {J : β → World → Prop} {p q : Nat} (hJ : Minds (fun r => r = p ∨ r = q) J) {s : β} {w w' : World} (h : J s w) (g : Two p q w w') : J s w' := by
  by_cases hq : q < w.heap.size
  · have hq' : q < w'.heap.size := Nat.lt_of_lt_of_le hq g.size
    obtain ⟨X, hX⟩ : ∃ X, X = w.putObj q (w'.heap[q]) := ⟨_, rfl⟩
    have g1 : w.grownBy X (some q) := by rw [hX]; exact grownBy_putObj' w q _
    refine hJ s X w' (some p) (hJ s w X (some q) h g1 (fun r e => by cases e; exact .inr rfl)) ⟨?_, ?_, ?_, ?_, ?_⟩ (fun r e => by cases e; exact .inl rfl)
    · rw [g1.os, g.os]
    · rw [g1.tape, g.tape]
    · rw [g1.output, g.output]
    · have : X.heap.size = w.heap.size := by rw [hX]; simp [World.putObj]
      rw [this]; exact g.size
    · intro k hk hkp
      have hs : X.heap.size = w.heap.size := by rw [hX]; simp [World.putObj]
      rw [hs] at hk
      by_cases hkq : k = q
      · subst hkq
        rw [hX, World.putObj_heap_same hq]
        exact Array.getElem?_eq_getElem hq'
      · rw [g.block k hk (fun e => hkp (by rw [e])) hkq, hX, World.putObj_heap_other hkq]
  · refine hJ s w w' (some p) h ⟨g.os, g.tape, g.output, g.size, fun k hk hkp => g.block k hk (fun e => hkp (by rw [e])) (by omega)⟩ (fun r e => by cases e; exact .inl rfl)
section
variable {w1 : World} {p o i k : Nat} {v u v0 : Value}
theorem st_p (hpo : p ≠ o) (hc : w1.cell? ⟨p, 0, none⟩ = some v0) : (((w1.drewN k).setCell ⟨p, 0, none⟩ v).setCell ⟨o, i, none⟩ u).cell? ⟨p, 0, none⟩ = some v := by
  rw [World.cell?_setCell_other _ _ _ _ (fun e => by injection e with e1; exact hpo e1.symm), World.cell?_setCell_same' _ _ _ (by show (w1.cell? _).isSome = true; rw [hc]; rfl)]
theorem st_o (hpo : p ≠ o) (hc : w1.cell? ⟨o, i, none⟩ = some v0) : (((w1.drewN k).setCell ⟨p, 0, none⟩ v).setCell ⟨o, i, none⟩ u).cell? ⟨o, i, none⟩ = some u := by
  rw [World.cell?_setCell_same']
  rw [World.cell?_setCell_other _ _ _ _ (fun e => by injection e with e1; exact hpo e1)]
  show (w1.cell? _).isSome = true
  rw [hc]; rfl
theorem st_far {q j : Nat} (h1 : q ≠ p) (h2 : q ≠ o ∨ j ≠ i) : (((w1.drewN k).setCell ⟨p, 0, none⟩ v).setCell ⟨o, i, none⟩ u).cell? ⟨q, j, none⟩ = w1.cell? ⟨q, j, none⟩ := by
  rw [World.cell?_setCell_other _ _ _ _ (fun e => by injection e with e1 e2; rcases h2 with h2 | h2; exact h2 e1.symm; exact h2 e2.symm), World.cell?_setCell_other _ _ _ _ (fun e => by injection e with e1; exact h1 e1.symm)]
  rfl
theorem st_frozen {q j : Nat} : (((w1.drewN k).setCell ⟨p, 0, none⟩ v).setCell ⟨o, i, none⟩ u).frozen? ⟨q, j, none⟩ = w1.frozen? ⟨q, j, none⟩ := by
  rw [World.frozen?_setCell, World.frozen?_setCell]; rfl
theorem st_rd {B : Nat} {A : Option Addr} {n c : Nat} {l : List Int} (h : RdI w1 B A n c l) (hp : B ≤ p) (ho : B ≤ o) : RdI (((w1.drewN k).setCell ⟨p, 0, none⟩ v).setCell ⟨o, i, none⟩ u) B A n c l :=
  ((h.drewN k).setCell (p := ⟨p, 0, none⟩) hp v).setCell (p := ⟨o, i, none⟩) ho u
end
section
variable {w1 : World} {p q o k : Nat} {v v' u u' a0 b0 c0 d0 : Value}
theorem s4_p (hpq : p ≠ q) (hpo : p ≠ o) (hp : w1.cell? ⟨p, 0, none⟩ = some a0) :
    (((((w1.drewN k).setCell ⟨p, 0, none⟩ v).setCell ⟨q, 0, none⟩ v').setCell ⟨o, 0, none⟩ u).setCell ⟨o, 1, none⟩ u').cell? ⟨p, 0, none⟩ = some v := by
  rw [World.cell?_setCell_other _ _ _ _ (fun e => by injection e with e1; exact hpo e1.symm), World.cell?_setCell_other _ _ _ _ (fun e => by injection e with e1; exact hpo e1.symm)]
  exact st_p hpq hp
theorem s4_q (hpq : p ≠ q) (hqo : q ≠ o) (hq : w1.cell? ⟨q, 0, none⟩ = some a0) :
    (((((w1.drewN k).setCell ⟨p, 0, none⟩ v).setCell ⟨q, 0, none⟩ v').setCell ⟨o, 0, none⟩ u).setCell ⟨o, 1, none⟩ u').cell? ⟨q, 0, none⟩ = some v' := by
  rw [World.cell?_setCell_other _ _ _ _ (fun e => by injection e with e1; exact hqo e1.symm), World.cell?_setCell_other _ _ _ _ (fun e => by injection e with e1; exact hqo e1.symm)]
  exact st_o hpq hq
theorem s4_o0 (hpo : o ≠ p) (hqo : o ≠ q) (h : w1.cell? ⟨o, 0, none⟩ = some a0) :
    (((((w1.drewN k).setCell ⟨p, 0, none⟩ v).setCell ⟨q, 0, none⟩ v').setCell ⟨o, 0, none⟩ u).setCell ⟨o, 1, none⟩ u').cell? ⟨o, 0, none⟩ = some u := by
  rw [World.cell?_setCell_other _ _ _ _ (fun e => by injection e with _ e2; cases e2), World.cell?_setCell_same']
  rw [st_far hpo (.inl hqo), h]; rfl
theorem s4_o1 (hpo : o ≠ p) (hqo : o ≠ q) (h : w1.cell? ⟨o, 1, none⟩ = some a0) :
    (((((w1.drewN k).setCell ⟨p, 0, none⟩ v).setCell ⟨q, 0, none⟩ v').setCell ⟨o, 0, none⟩ u).setCell ⟨o, 1, none⟩ u').cell? ⟨o, 1, none⟩ = some u' := by
  rw [World.cell?_setCell_same']
  rw [World.cell?_setCell_other _ _ _ _ (fun e => by injection e with _ e2; cases e2), st_far hpo (.inl hqo), h]; rfl
theorem s4_frozen {b j : Nat} : (((((w1.drewN k).setCell ⟨p, 0, none⟩ v).setCell ⟨q, 0, none⟩ v').setCell ⟨o, 0, none⟩ u).setCell ⟨o, 1, none⟩ u').frozen? ⟨b, j, none⟩ = w1.frozen? ⟨b, j, none⟩ := by
  rw [World.frozen?_setCell, World.frozen?_setCell, st_frozen]
theorem s4_rd {B : Nat} {A : Option Addr} {n c : Nat} {l : List Int} (h : RdI w1 B A n c l) (hp : B ≤ p) (hq : B ≤ q) (ho : B ≤ o) :
    RdI (((((w1.drewN k).setCell ⟨p, 0, none⟩ v).setCell ⟨q, 0, none⟩ v').setCell ⟨o, 0, none⟩ u).setCell ⟨o, 1, none⟩ u') B A n c l :=
  ((st_rd h hp hq).setCell (p := ⟨o, 0, none⟩) ho u).setCell (p := ⟨o, 1, none⟩) ho u'
end
theorem Ls.mrg_fst (x : Int) (a b : List Int) (h : ∀ y ∈ b.head?, x < y) : Ls.mrg (x :: a) b = (x, true, false) :: Ls.mrg a b := by
  match b, h with
  | [], _ => rw [Ls.mrg]
  | y :: b, h => rw [Ls.mrg, if_pos (h y rfl)]
theorem Ls.mrg_snd (y : Int) (a b : List Int) (h : ∀ x ∈ a.head?, y < x) : Ls.mrg a (y :: b) = (y, false, true) :: Ls.mrg a b := by
  match a, h with
  | [], _ => rw [Ls.mrg]
  | x :: a, h =>
    have := h x rfl
    rw [Ls.mrg, if_neg (by omega), if_pos this]
theorem Ls.mrg_both (x : Int) (a b : List Int) : Ls.mrg (x :: a) (x :: b) = (x, true, true) :: Ls.mrg a b := by
  rw [Ls.mrg, if_neg (by omega), if_neg (by omega)]

set_option maxHeartbeats 4000000 in
theorem merge_yields (n ba bb B N : Nat) (Aa Ab : Option Addr) (na nb ca cb : Nat) (a b : List Int) (w : World) (hw : Boxes w B ba bb Aa Ab na nb ca cb a b)
    (hab : ba ≠ bb) (hBa : B ≤ ba) (hBb : B ≤ bb) (haN : ba < N) (hbN : bb < N) (hl : na + nb ≤ 2000000) (hN : N ≤ w.heap.size) :
    Yields n Try.prog 34 #[.pointer (some ⟨ba, 0, none⟩), .pointer (some ⟨bb, 0, none⟩)] encO (fun r => r = ba ∨ r = bb) (KpM B ba bb) (Ls.mrg a b) w := by
  intro l J Jx W hK hJ hJx hround h0
  have hW := hw.kp hK
  have hNW : N ≤ W.heap.size := Nat.le_trans hN hK.1.size
  have Hround := hide hround
  have hJ2 := hide hJ
  clear hw hK hN hround hJ
  refine callsIn_wide.2 ?_
  go_enter Try.func34, Try.ntmps34
  go_wp2
  go_loopw [] (fun wr => ∃ pre Aa Ab na nb ca cb a' b', Boxes wr B ba bb Aa Ab na nb ca cb a' b' ∧ na + nb ≤ 2000000 ∧ N ≤ wr.heap.size ∧ Kept (Ls.mrg a b = pre ++ Ls.mrg a' b') ∧ Kept (J pre wr)) (fun wr => lenV (wr.cell? ⟨ba, 0, none⟩) + lenV (wr.cell? ⟨bb, 0, none⟩))
  case atStart => exact ⟨[], Aa, Ab, na, nb, ca, cb, a, b, hW, hl, hNW, ⟨rfl⟩, ⟨h0⟩⟩
  case round =>
    clear hW hl h0 hNW
    obtain ⟨pre, Aa, Ab, na, nb, ca, cb, a', b', hx, hl, hNr, hm, hj⟩ := hrel
    obtain ⟨hc1, hc2, hf1, hf2, hr1, hr2⟩ := hx
    have hlc1 := hr1.1
    have hlc2 := hr2.1
    have hcm1 := hr1.2.1
    have hcm2 := hr2.2.1
    have hn1 := Kept.mk hr1.len
    have hn2 := Kept.mk hr2.len
    have Hr1 := hide hr1
    have Hr2 := hide hr2
    clear hr1 hr2
    unfold maxLen at hcm1 hcm2
    by_cases hz : na + nb = 0
    · obtain rfl : na = 0 := by omega
      obtain rfl : nb = 0 := by omega
      obtain rfl : a' = [] := List.eq_nil_of_length_eq_zero hn1.out.symm
      obtain rfl : b' = [] := List.eq_nil_of_length_eq_zero hn2.out.symm
      go_wp2
      first | go_end0 | go_ret
      have e : pre = Ls.mrg a b := by rw [hm.out, Ls.mrg, List.append_nil]
      exact ⟨⟨_, rfl⟩, .inl (e ▸ hj.out)⟩
    · go_upto_block 2 with fail
      go_cut [5] (fun xv wx => ∃ (p : Int × Bool × Bool) (Aa2 Ab2 : Option Addr) (na2 nb2 ca2 cb2 : Nat) (a2 b2 : List Int), xv = .int .i64 p.1 ∧ Boxes wx B ba bb Aa2 Ab2 na2 nb2 ca2 cb2 a2 b2 ∧ na2 + nb2 < na + nb ∧ N ≤ wx.heap.size ∧
        Kept (Ls.mrg a' b' = p :: Ls.mrg a2 b2) ∧ Kept (J pre wx) ∧ wx.cell? ⟨wr.heap.size, 0, none⟩ = some (.bool p.2.1) ∧ wx.cell? ⟨wr.heap.size, 1, none⟩ = some (.bool p.2.2))
      case first =>
        clear Hround
        have g1 : wr.grownBy (wr.alloc (.cells #[.bool false, .bool false] 42)) none := ⟨rfl, rfl, rfl, by simp, fun k hk _ => Below.heap_alloc _ _ _ hk⟩
        have hg := Kept.mk (Two.of (p := ba) (q := bb) g1)
        have d1 : (wr.alloc (.cells #[.bool false, .bool false] 42)).cell? ⟨ba, 0, none⟩ = _ := (World.cell?_alloc_lt wr _ ⟨ba, 0, none⟩ (by show ba < _; omega)).trans hc1
        have d2 : (wr.alloc (.cells #[.bool false, .bool false] 42)).cell? ⟨bb, 0, none⟩ = _ := (World.cell?_alloc_lt wr _ ⟨bb, 0, none⟩ (by show bb < _; omega)).trans hc2
        have e1 : (wr.alloc (.cells #[.bool false, .bool false] 42)).frozen? ⟨ba, 0, none⟩ = _ := (World.frozen?_of_block (Below.heap_alloc wr _ ba (by omega))).trans hf1
        have e2 : (wr.alloc (.cells #[.bool false, .bool false] 42)).frozen? ⟨bb, 0, none⟩ = _ := (World.frozen?_of_block (Below.heap_alloc wr _ bb (by omega))).trans hf2
        have o1 : (wr.alloc (.cells #[.bool false, .bool false] 42)).heap[wr.heap.size]? = some (.cells #[.bool false, .bool false] 42 (0, 0)) := heap_alloc_new wr _
        have Hs1 := hide (Hr1.out.alloc (by omega) (.cells #[.bool false, .bool false] 42))
        have Hs2 := hide (Hr2.out.alloc (by omega) (.cells #[.bool false, .bool false] 42))
        have o2 : (wr.alloc (.cells #[.bool false, .bool false] 42)).cell? ⟨wr.heap.size, 0, none⟩ = some (.bool false) := cell_of_row _ _ _ _ _ _ o1
        have o3 : (wr.alloc (.cells #[.bool false, .bool false] 42)).cell? ⟨wr.heap.size, 1, none⟩ = some (.bool false) := cell_of_row _ _ _ _ _ _ o1
        have o4 : (wr.alloc (.cells #[.bool false, .bool false] 42)).frozen? ⟨wr.heap.size, 0, none⟩ = false := frozen_of_row _ _ _ _ _ o1
        have o5 : (wr.alloc (.cells #[.bool false, .bool false] 42)).frozen? ⟨wr.heap.size, 1, none⟩ = false := frozen_of_row _ _ _ _ _ o1
        have hs1 : Kept (N ≤ (wr.alloc (.cells #[.bool false, .bool false] 42)).heap.size) := ⟨by simp; omega⟩
        have hne1 : ba ≠ wr.heap.size := by omega
        have hne2 : bb ≠ wr.heap.size := by omega
        have hne3 : wr.heap.size ≠ ba := by omega
        have hne4 : wr.heap.size ≠ bb := by omega
        have hba : bb ≠ ba := fun e => hab e.symm
        clear o1 hc1 hc2 hf1 hf2 Hr1 Hr2 g1
        generalize wr.alloc (.cells #[.bool false, .bool false] 42) = w1 at *
        by_cases hnb : nb = 0
        · have hpos : (0 : Int) < (na : Int) := by omega
          have hnb' : ((nb : Int) == 0) = true := by simp; omega
          obtain rfl : b' = [] := List.eq_nil_of_length_eq_zero (by have := hn2.out; omega)
          obtain ⟨x, a2, rfl⟩ : ∃ x a2, a' = x :: a2 := by
            match a', hn1.out with
            | x :: a2, _ => exact ⟨x, a2, rfl⟩
            | [], h => simp at h; omega
          obtain ⟨bA, oA, rfl, hbA, hcbA⟩ := Hs1.out.at_ (k := 0) (by simp)
          simp only [List.getElem_cons_zero, Nat.add_zero] at hcbA
          by_cases hcca : ca = 1
          · obtain rfl : na = 1 := by omega
            subst hcca
            obtain rfl : a2 = [] := by have := hn1.out; simp at this; exact this
            have Rca := Kept.mk (RdI.zero w1 B (some ⟨bA, oA, none⟩) (m := 0) (c := 0) rfl (by unfold maxLen; omega))
            go_wp2_with fail
            go_quiet (fail)
            go_wp2_with fail
            go_region
            go_wp2_with fail
            go_meet
            exact ⟨(x, true, false), (some ⟨bA, oA, none⟩), _, 0, _, 0, _, [], _, rfl, ⟨st_p hne1 d1, (st_far hba (.inl hne2)).trans d2, st_frozen.trans e1, st_frozen.trans e2, st_rd Rca.out hBa (by omega), st_rd Hs2.out hBa (by omega)⟩, by omega, by simpa using hs1.out, ⟨Ls.mrg_fst _ _ _ (fun y hy => by cases hy)⟩,
              ⟨hJ2.out.two hj.out (((hg.out.drewN _).set _ _ (.inl rfl)).set _ _ (.inr (.inr (Nat.le_refl _))))⟩, st_o hne1 o2, (st_far hne3 (.inr (by decide))).trans o3⟩
          · have Rca := Hs1.out.drop (k := 1) (by omega)
            rw [if_neg hcca] at Rca
            simp only [Option.map_some, add_plain, List.drop_succ_cons, List.drop_zero] at Rca
            replace Rca := Kept.mk Rca
            go_wp2_with fail
            go_quiet (fail)
            go_wp2_with fail
            go_region
            go_wp2_with fail
            go_meet
            exact ⟨(x, true, false), (some ⟨bA, oA + 1, none⟩), _, (na - 1), _, (ca - 1), _, a2, _, rfl, ⟨st_p hne1 d1, (st_far hba (.inl hne2)).trans d2, st_frozen.trans e1, st_frozen.trans e2, st_rd Rca.out hBa (by omega), st_rd Hs2.out hBa (by omega)⟩, by omega, by simpa using hs1.out, ⟨Ls.mrg_fst _ _ _ (fun y hy => by cases hy)⟩,
              ⟨hJ2.out.two hj.out (((hg.out.drewN _).set _ _ (.inl rfl)).set _ _ (.inr (.inr (Nat.le_refl _))))⟩, st_o hne1 o2, (st_far hne3 (.inr (by decide))).trans o3⟩
        · have hnb' : ((nb : Int) == 0) = false := by simp; omega
          by_cases hna : na = 0
          · have hpos : (0 : Int) < (nb : Int) := by omega
            have hna' : ((na : Int) == 0) = true := by simp; omega
            have hna2 : decide ((0 : Int) < (na : Int)) = false := by simp; omega
            obtain rfl : a' = [] := List.eq_nil_of_length_eq_zero (by have := hn1.out; omega)
            obtain ⟨y, b2, rfl⟩ : ∃ y b2, b' = y :: b2 := by
              match b', hn2.out with
              | y :: b2, _ => exact ⟨y, b2, rfl⟩
              | [], h => simp at h; omega
            obtain ⟨bB, oB, rfl, hbB, hcbB⟩ := Hs2.out.at_ (k := 0) (by simp)
            simp only [List.getElem_cons_zero, Nat.add_zero] at hcbB
            by_cases hccb : cb = 1
            · obtain rfl : nb = 1 := by omega
              subst hccb
              obtain rfl : b2 = [] := by have := hn2.out; simp at this; exact this
              have Rcb := Kept.mk (RdI.zero w1 B (some ⟨bB, oB, none⟩) (m := 0) (c := 0) rfl (by unfold maxLen; omega))
              go_wp2_with fail
              go_quiet (fail)
              go_wp2_with fail
              go_quiet (fail)
              go_wp2_with fail
              go_region
              go_wp2_with fail
              go_meet
              exact ⟨(y, false, true), _, (some ⟨bB, oB, none⟩), _, 0, _, 0, _, [], rfl, ⟨(st_far hab (.inl hne1)).trans d1, st_p hne2 d2, st_frozen.trans e1, st_frozen.trans e2, st_rd Hs1.out hBb (by omega), st_rd Rcb.out hBb (by omega)⟩, by omega, by simpa using hs1.out, ⟨Ls.mrg_snd _ _ _ (fun y hy => by cases hy)⟩,
                ⟨hJ2.out.two hj.out (((hg.out.drewN _).set _ _ (.inr (.inl rfl))).set _ _ (.inr (.inr (Nat.le_refl _))))⟩, (st_far hne4 (.inr (by decide))).trans o2, st_o hne2 o3⟩
            · have Rcb := Hs2.out.drop (k := 1) (by omega)
              rw [if_neg hccb] at Rcb
              simp only [Option.map_some, add_plain, List.drop_succ_cons, List.drop_zero] at Rcb
              replace Rcb := Kept.mk Rcb
              go_wp2_with fail
              go_quiet (fail)
              go_wp2_with fail
              go_quiet (fail)
              go_wp2_with fail
              go_region
              go_wp2_with fail
              go_meet
              exact ⟨(y, false, true), _, (some ⟨bB, oB + 1, none⟩), _, (nb - 1), _, (cb - 1), _, b2, rfl, ⟨(st_far hab (.inl hne1)).trans d1, st_p hne2 d2, st_frozen.trans e1, st_frozen.trans e2, st_rd Hs1.out hBb (by omega), st_rd Rcb.out hBb (by omega)⟩, by omega, by simpa using hs1.out, ⟨Ls.mrg_snd _ _ _ (fun y hy => by cases hy)⟩,
                ⟨hJ2.out.two hj.out (((hg.out.drewN _).set _ _ (.inr (.inl rfl))).set _ _ (.inr (.inr (Nat.le_refl _))))⟩, (st_far hne4 (.inr (by decide))).trans o2, st_o hne2 o3⟩
          · have hpos : (0 : Int) < (nb : Int) := by omega
            have hpos1 : (0 : Int) < (na : Int) := by omega
            have hna' : ((na : Int) == 0) = false := by simp; omega
            have hna2 : decide ((0 : Int) < (na : Int)) = true := by simp; omega
            have hna3 : decide (0 < na) = true := by simp; omega
            obtain ⟨x, a2, rfl⟩ : ∃ x a2, a' = x :: a2 := by
              match a', hn1.out with
              | x :: a2, _ => exact ⟨x, a2, rfl⟩
              | [], h => simp at h; omega
            obtain ⟨bA, oA, rfl, hbA, hcbA⟩ := Hs1.out.at_ (k := 0) (by simp)
            simp only [List.getElem_cons_zero, Nat.add_zero] at hcbA
            obtain ⟨y, b2, rfl⟩ : ∃ y b2, b' = y :: b2 := by
              match b', hn2.out with
              | y :: b2, _ => exact ⟨y, b2, rfl⟩
              | [], h => simp at h; omega
            obtain ⟨bB, oB, rfl, hbB, hcbB⟩ := Hs2.out.at_ (k := 0) (by simp)
            simp only [List.getElem_cons_zero, Nat.add_zero] at hcbB
            by_cases hxy : x < y
            · have hxy' : decide (x < y) = true := by simp; omega
              by_cases hcca : ca = 1
              · obtain rfl : na = 1 := by omega
                subst hcca
                obtain rfl : a2 = [] := by have := hn1.out; simp at this; exact this
                have Rca := Kept.mk (RdI.zero w1 B (some ⟨bA, oA, none⟩) (m := 0) (c := 0) rfl (by unfold maxLen; omega))
                go_wp2_with fail
                go_quiet (fail)
                go_wp2_with fail
                go_region
                go_wp2_with fail
                go_meet
                exact ⟨(x, true, false), (some ⟨bA, oA, none⟩), _, 0, _, 0, _, [], _, rfl, ⟨st_p hne1 d1, (st_far hba (.inl hne2)).trans d2, st_frozen.trans e1, st_frozen.trans e2, st_rd Rca.out hBa (by omega), st_rd Hs2.out hBa (by omega)⟩, by omega, by simpa using hs1.out, ⟨Ls.mrg_fst _ _ _ (fun z hz => by cases hz; exact hxy)⟩,
                  ⟨hJ2.out.two hj.out (((hg.out.drewN _).set _ _ (.inl rfl)).set _ _ (.inr (.inr (Nat.le_refl _))))⟩, st_o hne1 o2, (st_far hne3 (.inr (by decide))).trans o3⟩
              · have Rca := Hs1.out.drop (k := 1) (by omega)
                rw [if_neg hcca] at Rca
                simp only [Option.map_some, add_plain, List.drop_succ_cons, List.drop_zero] at Rca
                replace Rca := Kept.mk Rca
                go_wp2_with fail
                go_quiet (fail)
                go_wp2_with fail
                go_region
                go_wp2_with fail
                go_meet
                exact ⟨(x, true, false), (some ⟨bA, oA + 1, none⟩), _, (na - 1), _, (ca - 1), _, a2, _, rfl, ⟨st_p hne1 d1, (st_far hba (.inl hne2)).trans d2, st_frozen.trans e1, st_frozen.trans e2, st_rd Rca.out hBa (by omega), st_rd Hs2.out hBa (by omega)⟩, by omega, by simpa using hs1.out, ⟨Ls.mrg_fst _ _ _ (fun z hz => by cases hz; exact hxy)⟩,
                  ⟨hJ2.out.two hj.out (((hg.out.drewN _).set _ _ (.inl rfl)).set _ _ (.inr (.inr (Nat.le_refl _))))⟩, st_o hne1 o2, (st_far hne3 (.inr (by decide))).trans o3⟩
            · by_cases hyx : y < x
              · have hxy' : decide (x < y) = false := by simp; omega
                have hyx' : decide (y < x) = true := by simp; omega
                by_cases hccb : cb = 1
                · obtain rfl : nb = 1 := by omega
                  subst hccb
                  obtain rfl : b2 = [] := by have := hn2.out; simp at this; exact this
                  have Rcb := Kept.mk (RdI.zero w1 B (some ⟨bB, oB, none⟩) (m := 0) (c := 0) rfl (by unfold maxLen; omega))
                  go_wp2_with fail
                  go_quiet (fail)
                  go_wp2_with fail
                  go_quiet (fail)
                  go_wp2_with fail
                  go_region
                  go_wp2_with fail
                  go_meet
                  exact ⟨(y, false, true), _, (some ⟨bB, oB, none⟩), _, 0, _, 0, _, [], rfl, ⟨(st_far hab (.inl hne1)).trans d1, st_p hne2 d2, st_frozen.trans e1, st_frozen.trans e2, st_rd Hs1.out hBb (by omega), st_rd Rcb.out hBb (by omega)⟩, by omega, by simpa using hs1.out, ⟨Ls.mrg_snd _ _ _ (fun z hz => by cases hz; exact hyx)⟩,
                    ⟨hJ2.out.two hj.out (((hg.out.drewN _).set _ _ (.inr (.inl rfl))).set _ _ (.inr (.inr (Nat.le_refl _))))⟩, (st_far hne4 (.inr (by decide))).trans o2, st_o hne2 o3⟩
                · have Rcb := Hs2.out.drop (k := 1) (by omega)
                  rw [if_neg hccb] at Rcb
                  simp only [Option.map_some, add_plain, List.drop_succ_cons, List.drop_zero] at Rcb
                  replace Rcb := Kept.mk Rcb
                  go_wp2_with fail
                  go_quiet (fail)
                  go_wp2_with fail
                  go_quiet (fail)
                  go_wp2_with fail
                  go_region
                  go_wp2_with fail
                  go_meet
                  exact ⟨(y, false, true), _, (some ⟨bB, oB + 1, none⟩), _, (nb - 1), _, (cb - 1), _, b2, rfl, ⟨(st_far hab (.inl hne1)).trans d1, st_p hne2 d2, st_frozen.trans e1, st_frozen.trans e2, st_rd Hs1.out hBb (by omega), st_rd Rcb.out hBb (by omega)⟩, by omega, by simpa using hs1.out, ⟨Ls.mrg_snd _ _ _ (fun z hz => by cases hz; exact hyx)⟩,
                    ⟨hJ2.out.two hj.out (((hg.out.drewN _).set _ _ (.inr (.inl rfl))).set _ _ (.inr (.inr (Nat.le_refl _))))⟩, (st_far hne4 (.inr (by decide))).trans o2, st_o hne2 o3⟩
              · have hxy' : decide (x < y) = false := by simp; omega
                have hyx' : decide (y < x) = false := by simp; omega
                obtain rfl : x = y := by omega
                by_cases hcca : ca = 1
                · obtain rfl : na = 1 := by omega
                  subst hcca
                  obtain rfl : a2 = [] := by have := hn1.out; simp at this; exact this
                  have Rca := Kept.mk (RdI.zero w1 B (some ⟨bA, oA, none⟩) (m := 0) (c := 0) rfl (by unfold maxLen; omega))
                  by_cases hccb : cb = 1
                  · obtain rfl : nb = 1 := by omega
                    subst hccb
                    obtain rfl : b2 = [] := by have := hn2.out; simp at this; exact this
                    have Rcb := Kept.mk (RdI.zero w1 B (some ⟨bB, oB, none⟩) (m := 0) (c := 0) rfl (by unfold maxLen; omega))
                    go_wp2_with fail
                    go_quiet (fail)
                    go_wp2_with fail
                    go_quiet (fail)
                    go_wp2_with fail
                    go_region
                    go_wp2_with fail
                    go_meet
                    exact ⟨(x, true, true), (some ⟨bA, oA, none⟩), (some ⟨bB, oB, none⟩), 0, 0, 0, 0, [], [], rfl, ⟨s4_p hab hne1 d1, s4_q hab hne2 d2, s4_frozen.trans e1, s4_frozen.trans e2, s4_rd Rca.out hBa hBb (by omega), s4_rd Rcb.out hBa hBb (by omega)⟩, by omega, by simpa using hs1.out, ⟨Ls.mrg_both _ _ _⟩,
                      ⟨hJ2.out.two hj.out (((((hg.out.drewN _).set _ _ (.inl rfl)).set _ _ (.inr (.inl rfl))).set _ _ (.inr (.inr (Nat.le_refl _)))).set _ _ (.inr (.inr (Nat.le_refl _))))⟩, s4_o0 hne3 hne4 o2, s4_o1 hne3 hne4 o3⟩
                  · have Rcb := Hs2.out.drop (k := 1) (by omega)
                    rw [if_neg hccb] at Rcb
                    simp only [Option.map_some, add_plain, List.drop_succ_cons, List.drop_zero] at Rcb
                    replace Rcb := Kept.mk Rcb
                    go_wp2_with fail
                    go_quiet (fail)
                    go_wp2_with fail
                    go_quiet (fail)
                    go_wp2_with fail
                    go_region
                    go_wp2_with fail
                    go_meet
                    exact ⟨(x, true, true), (some ⟨bA, oA, none⟩), (some ⟨bB, oB + 1, none⟩), 0, (nb - 1), 0, (cb - 1), [], b2, rfl, ⟨s4_p hab hne1 d1, s4_q hab hne2 d2, s4_frozen.trans e1, s4_frozen.trans e2, s4_rd Rca.out hBa hBb (by omega), s4_rd Rcb.out hBa hBb (by omega)⟩, by omega, by simpa using hs1.out, ⟨Ls.mrg_both _ _ _⟩,
                      ⟨hJ2.out.two hj.out (((((hg.out.drewN _).set _ _ (.inl rfl)).set _ _ (.inr (.inl rfl))).set _ _ (.inr (.inr (Nat.le_refl _)))).set _ _ (.inr (.inr (Nat.le_refl _))))⟩, s4_o0 hne3 hne4 o2, s4_o1 hne3 hne4 o3⟩
                · have Rca := Hs1.out.drop (k := 1) (by omega)
                  rw [if_neg hcca] at Rca
                  simp only [Option.map_some, add_plain, List.drop_succ_cons, List.drop_zero] at Rca
                  replace Rca := Kept.mk Rca
                  by_cases hccb : cb = 1
                  · obtain rfl : nb = 1 := by omega
                    subst hccb
                    obtain rfl : b2 = [] := by have := hn2.out; simp at this; exact this
                    have Rcb := Kept.mk (RdI.zero w1 B (some ⟨bB, oB, none⟩) (m := 0) (c := 0) rfl (by unfold maxLen; omega))
                    go_wp2_with fail
                    go_quiet (fail)
                    go_wp2_with fail
                    go_quiet (fail)
                    go_wp2_with fail
                    go_region
                    go_wp2_with fail
                    go_meet
                    exact ⟨(x, true, true), (some ⟨bA, oA + 1, none⟩), (some ⟨bB, oB, none⟩), (na - 1), 0, (ca - 1), 0, a2, [], rfl, ⟨s4_p hab hne1 d1, s4_q hab hne2 d2, s4_frozen.trans e1, s4_frozen.trans e2, s4_rd Rca.out hBa hBb (by omega), s4_rd Rcb.out hBa hBb (by omega)⟩, by omega, by simpa using hs1.out, ⟨Ls.mrg_both _ _ _⟩,
                      ⟨hJ2.out.two hj.out (((((hg.out.drewN _).set _ _ (.inl rfl)).set _ _ (.inr (.inl rfl))).set _ _ (.inr (.inr (Nat.le_refl _)))).set _ _ (.inr (.inr (Nat.le_refl _))))⟩, s4_o0 hne3 hne4 o2, s4_o1 hne3 hne4 o3⟩
                  · have Rcb := Hs2.out.drop (k := 1) (by omega)
                    rw [if_neg hccb] at Rcb
                    simp only [Option.map_some, add_plain, List.drop_succ_cons, List.drop_zero] at Rcb
                    replace Rcb := Kept.mk Rcb
                    go_wp2_with fail
                    go_quiet (fail)
                    go_wp2_with fail
                    go_quiet (fail)
                    go_wp2_with fail
                    go_region
                    go_wp2_with fail
                    go_meet
                    exact ⟨(x, true, true), (some ⟨bA, oA + 1, none⟩), (some ⟨bB, oB + 1, none⟩), (na - 1), (nb - 1), (ca - 1), (cb - 1), a2, b2, rfl, ⟨s4_p hab hne1 d1, s4_q hab hne2 d2, s4_frozen.trans e1, s4_frozen.trans e2, s4_rd Rca.out hBa hBb (by omega), s4_rd Rcb.out hBa hBb (by omega)⟩, by omega, by simpa using hs1.out, ⟨Ls.mrg_both _ _ _⟩,
                      ⟨hJ2.out.two hj.out (((((hg.out.drewN _).set _ _ (.inl rfl)).set _ _ (.inr (.inl rfl))).set _ _ (.inr (.inr (Nat.le_refl _)))).set _ _ (.inr (.inr (Nat.le_refl _))))⟩, s4_o0 hne3 hne4 o2, s4_o1 hne3 hne4 o3⟩
      case rest =>
        obtain ⟨⟨x, f, s⟩, Aa2, Ab2, na2, nb2, ca2, cb2, a2, b2, rfl, hx2, hlt, hNx, hm2, hj2, hoc1, hoc2⟩ := hcut
        have hpre : pre ++ [(x, f, s)] <+: Ls.mrg a b := ⟨Ls.mrg a2 b2, by rw [hm.out, hm2.out]; simp⟩
        have hm3 : Kept (Ls.mrg a b = (pre ++ [(x, f, s)]) ++ Ls.mrg a2 b2) := ⟨by rw [hm.out, hm2.out]; simp⟩
        obtain ⟨fn, tmps, assign, body, hy, hri⟩ := Hround.out pre (x, f, s) wc hj2.out hpre
        have hlen0 : Kept (lenV (wr.cell? ⟨ba, 0, none⟩) + lenV (wr.cell? ⟨bb, 0, none⟩) = na + nb) := ⟨by rw [hc1, hc2]; rfl⟩
        unfold encO at hy
        have Hpre := hide hpre
        clear hc1 hc2 hf1 hf2 hpre
        rename_i a1
        refine a1 _ _ ?_
        refine (wpIn_wide (n := n)).1 ?_
        gi_wp2
        refine ⟨(fun h => by simp [Fence.wide] at h), hri.mono ?_⟩
        rintro e W' (⟨rfl, hj', hb'⟩ | ⟨rfl, hjx⟩)
        · have hx3 := hx2.kp hb'
          have hsz := hb'.1.size
          have hlen1 : Kept (lenV (W'.cell? ⟨ba, 0, none⟩) + lenV (W'.cell? ⟨bb, 0, none⟩) = na2 + nb2) := ⟨by rw [hx3.c1, hx3.c2]; rfl⟩
          gi_wp2
          go_roundw
          case rel => exact ⟨pre ++ [(x, f, s)], Aa2, Ab2, na2, nb2, ca2, cb2, a2, b2, hx3, by omega, by omega, hm3, ⟨hj'⟩⟩
          case measure => rw [hlen0.out, hlen1.out]; exact hlt
        · gi_wp2
          refine bodyPost_ret (results_none rfl _ _ _) rfl ?_
          exact ⟨⟨_, rfl⟩, .inr ⟨_, Hpre.out, hjx⟩⟩
end Go.Proofs.Ytoomdjjjkolloab
