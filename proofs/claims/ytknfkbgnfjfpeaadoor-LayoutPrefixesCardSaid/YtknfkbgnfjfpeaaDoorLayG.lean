/- Chapter 16: what parse computes; its walk up to the table of contents. -/
import Derived.Test.YtknfkbgnfjfpeaaDoorLayF
import Derived.Laws.Rows
namespace Go.Proofs.YtknfkbgnfjfpeaaDoor
open Go.RowKit Go.Shelf

namespace Ly
/-- offset and error after k sections -/
def st (l : List UInt8) (a : Nat) (e : Int) : Nat → Nat × Int
  | 0 => (a, e)
  | k + 1 => (Wr.sect l (st l a e k).1 (st l a e k).2 (UInt8.ofNat (1 + k))).2
def dat (l : List UInt8) (a : Nat) (e : Int) (k : Nat) : List UInt8 := (Wr.sect l (st l a e k).1 (st l a e k).2 (UInt8.ofNat (1 + k))).1
def a0 (l : List UInt8) : Nat := if lit l head = 0 then 5 else 0
def S (l : List UInt8) (k : Nat) : Nat × Int := st l (a0 l) (lit l head) k
def sec (l : List UInt8) (k : Nat) : List UInt8 := dat l (a0 l) (lit l head) k
def aoff (l : List UInt8) (k : Nat) : Nat := (S l k).1
/-- the error of a file -/
def pe (l : List UInt8) : Int :=
  if (S l 5).2 ≠ 0 then (S l 5).2
  else if sec l 4 ≠ con (aoff l) 4 then 13
  else if l.length - aoff l 5 < 4 then 3
  else if Crc.chk (l.take (aoff l 5 + 4)) = false then 12
  else if lit (l.drop (aoff l 5 + 4)) tail ≠ 0 then lit (l.drop (aoff l 5 + 4)) tail
  else if aoff l 5 + 8 < l.length then 4 else 0
theorem S_succ (l : List UInt8) (k : Nat) : S l (k + 1) = (Wr.sect l (S l k).1 (S l k).2 (UInt8.ofNat (1 + k))).2 := rfl
theorem sec_eq (l : List UInt8) (k : Nat) : sec l k = (Wr.sect l (S l k).1 (S l k).2 (UInt8.ofNat (1 + k))).1 := rfl
def gate (k : Nat) (D : Nat → List UInt8) (i : Nat) : List UInt8 := if i < k then D i else []
theorem ar4_set (V : Nat → Value) (k : Nat) (v : Value) (h : k < 4) : (ar4 V).setIfInBounds k v = ar4 (fun i => if i = k then v else V i) := by
  match k, h with
  | 0, _ => simp [ar4]
  | 1, _ => simp [ar4]
  | 2, _ => simp [ar4]
  | 3, _ => simp [ar4]
end Ly
/-- cells that hold no byte -/
def NoB (cs : Array Value) : Prop := ∀ (j : Nat) (x : UInt8), cs[j]? ≠ some (.int .u8 (x.toNat : Int))
theorem NoB.at5 (m : Nat → Nat) : NoB (Ly.at5 m) := fun j x h => by
  match j with
  | 0 => simp [Ly.at5] at h
  | 1 => simp [Ly.at5] at h
  | 2 => simp [Ly.at5] at h
  | 3 => simp [Ly.at5] at h
  | 4 => simp [Ly.at5] at h
  | k + 5 => simp [Ly.at5] at h
theorem NoB.ar4 (V : Nat → Value) (h : ∀ i, i < 4 → ∃ A n c, V i = .slice A n c) : NoB (Ly.ar4 V) := fun j x hj => by
  obtain ⟨A0, n0, c0, h0⟩ := h 0 (by omega)
  obtain ⟨A1, n1, c1, h1⟩ := h 1 (by omega)
  obtain ⟨A2, n2, c2, h2⟩ := h 2 (by omega)
  obtain ⟨A3, n3, c3, h3⟩ := h 3 (by omega)
  match j with
  | 0 => simp [Ly.ar4, h0] at hj
  | 1 => simp [Ly.ar4, h1] at hj
  | 2 => simp [Ly.ar4, h2] at hj
  | 3 => simp [Ly.ar4, h3] at hj
  | k + 4 => simp [Ly.ar4] at hj
theorem RdB.notin {w : World} {B n c g : Nat} {A : Option Addr} {l : List UInt8} (h : RdB w B A n c l) {cs : Array Value} {t : TypeId} {fr : Nat × Nat} (hg : w.heap[g]? = some (.cells cs t fr)) (hn : NoB cs) (k : Nat) (v : Value) : RdB (w.setCell ⟨g, k, none⟩ v) B A n c l := by
  refine ⟨h.1, h.2.1, h.2.2.1, fun h0 => ?_⟩
  obtain ⟨b, off, e, hb, hc⟩ := h.2.2.2 h0
  refine ⟨b, off, e, hb, fun i u hu => ?_⟩
  have h1 := hc i u hu
  have hne : b ≠ g := by
    rintro rfl
    rw [cell_of_row w b (off + i) _ _ _ hg] at h1
    simp only [bvs, List.getElem?_map] at hu
    obtain ⟨z, _, hz⟩ := Option.map_eq_some_iff.1 hu
    rw [← hz] at h1
    exact hn _ z h1
  exact (World.cell?_setCell_other w ⟨g, k, none⟩ ⟨b, off + i, none⟩ v (fun e => by injection e with e1 _ _; exact hne e1.symm)).trans h1
theorem Rdr.store {w : World} {p a g : Nat} {l : List UInt8} {e : Int} (h : Rdr w p l a e) {cs : Array Value} {t : TypeId} {fr : Nat × Nat} (hg : w.heap[g]? = some (.cells cs t fr)) (hn : NoB cs) (hne : g ≠ p) (k : Nat) (v : Value) : Rdr (w.setCell ⟨g, k, none⟩ v) p l a e := by
  obtain ⟨A, n, c, h1, h2, h3, h4⟩ := h
  exact ⟨A, n, c, (Below.heap_setCell w ⟨g, k, none⟩ v p (fun e => hne e.symm)).trans h1, h2.notin hg hn k v, h3, h4⟩
theorem RdrQ.store {w : World} {p a g : Nat} {l : List UInt8} {e : Int} (h : RdrQ w p l a e) {cs : Array Value} {t : TypeId} {fr : Nat × Nat} (hg : w.heap[g]? = some (.cells cs t fr)) (hn : NoB cs) (hne : g ≠ p) (k : Nat) (v : Value) : RdrQ (w.setCell ⟨g, k, none⟩ v) p l a e := by
  obtain ⟨A, n, c, h1, h2, h3, h4⟩ := h
  exact ⟨A, n, c, (Below.heap_setCell w ⟨g, k, none⟩ v p (fun e => hne e.symm)).trans h1, h2.notin hg hn k v, h3, h4⟩
theorem OwnB.past {w w' : World} {base n c q : Nat} {A : Option Addr} {l : List UInt8} (h : OwnB w base A n c l) (hg : w.grownBy w' (some q)) (hq : q < base) : OwnB w' base A n c l :=
  own_grown h hg (by
    rcases hA : ab A with _ | g
    · exact .inl rfl
    · refine .inr fun e => ?_
      have := (own_lt h g hA).1
      have := Option.some.inj e
      omega)
/-- four slices of the call's own -/
def FourO (w : World) (base : Nat) (V : Nat → Value) (D : Nat → List UInt8) : Prop := ∀ i, i < 4 → ∃ A n c, V i = .slice A n c ∧ OwnB w base A n c (D i)
theorem FourO.form {w : World} {base : Nat} {V : Nat → Value} {D : Nat → List UInt8} (h : FourO w base V D) : ∀ i, i < 4 → ∃ A n c, V i = .slice A n c := fun i hi => by obtain ⟨A, n, c, h1, _⟩ := h i hi; exact ⟨A, n, c, h1⟩
theorem FourO.grown {w w' : World} {base g : Nat} {V : Nat → Value} {D : Nat → List UInt8} (h : FourO w base V D) (hg : w.grownBy w' (some g)) (h1 : g < base) : FourO w' base V D := fun i hi => by
  obtain ⟨A, n, c, h2, h3⟩ := h i hi
  exact ⟨A, n, c, h2, OwnB.past h3 hg h1⟩
theorem FourO.below {w w' : World} {base : Nat} {V : Nat → Value} {D : Nat → List UInt8} (h : FourO w base V D) (hb : Below w.heap.size w w') : FourO w' base V D := fun i hi => by
  obtain ⟨A, n, c, h2, h3⟩ := h i hi
  exact ⟨A, n, c, h2, OwnB.keep h3 hb⟩
theorem FourO.put {w : World} {base k : Nat} {V : Nat → Value} {D : Nat → List UInt8} (h : FourO w base V (Ly.gate k D)) {A : Option Addr} {n c : Nat} (ho : OwnB w base A n c (D k)) : FourO w base (fun i => if i = k then .slice A n c else V i) (Ly.gate (k + 1) D) := fun i hi => by
  by_cases he : i = k
  · subst he
    exact ⟨A, n, c, by simp, by unfold Ly.gate; rw [if_pos (by omega)]; exact ho⟩
  · obtain ⟨A', n', c', h1, h2⟩ := h i hi
    refine ⟨A', n', c', by simp [he, h1], ?_⟩
    unfold Ly.gate at h2 ⊢
    by_cases hk : i < k
    · rw [if_pos hk] at h2; rw [if_pos (by omega)]; exact h2
    · rw [if_neg hk] at h2; rw [if_neg (by omega)]; exact h2
end Go.Proofs.YtknfkbgnfjfpeaaDoor
