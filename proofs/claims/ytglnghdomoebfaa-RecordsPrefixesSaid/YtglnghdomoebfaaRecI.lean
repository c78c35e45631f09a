/- Chapter 13: the program's Encode. -/
import Derived.Test.YtglnghdomoebfaaRecH
namespace Go.Proofs.Ytglnghdomoebfaa
open Go.RowKit Go.Shelf

namespace Rc
def symE (T : List ByteArray) (s : ByteArray) : List UInt8 := Vi.enc ((Sy.idx T s).getD 0)
def chE (n : Int) : List UInt8 := Vi.enc n.toNat
def recE (T : List ByteArray) (r : RecV) : List UInt8 := Vi.enc r.1.length ++ (Lb.strs r.1).flatMap (symE T) ++ (Vi.enc r.2.length ++ r.2.flatMap chE)
def encB (T : List ByteArray) (rs : List RecV) : List UInt8 := Vi.enc rs.length ++ rs.flatMap (recE T)
def chErr : List Int → Int
  | [] => 0
  | n :: l => if n < 1 ∨ 2147483647 < n then 23 else chErr l
def symErr (T : List ByteArray) (C : List Int) : List ByteArray → Int
  | [] => if C = [] then 23 else chErr C
  | s :: l => if Sy.idx T s = none then 14 else symErr T C l
def err (T : List ByteArray) : List RecV → Int
  | [] => 0
  | r :: rs => if symErr T r.2 (Lb.strs r.1) ≠ 0 then symErr T r.2 (Lb.strs r.1) else err T rs
def enc (T : List ByteArray) (rs : List RecV) : List UInt8 × Int := if err T rs = 0 then (encB T rs, 0) else ([], err T rs)
theorem drop_get {α : Type} (l : List α) (k : Nat) (h : k < l.length) : l.drop k = l[k] :: l.drop (k + 1) := List.drop_eq_getElem_cons h
end Rc
theorem RdR.cells {w : World} {B n c k : Nat} {A : Option Addr} {rs : List RecV} (h : RdR w B A n c rs) (hB : B ≤ w.heap.size) (hk : k < rs.length) :
    ∃ b off A1 n1 c1 A2 n2 c2, A = some ⟨b, off, none⟩ ∧ RdL w B A1 n1 c1 rs[k].1 ∧ RdI w B A2 n2 c2 rs[k].2 ∧ ∀ W, Below w.heap.size w W → W.cell? ⟨b, off + k * 2, none⟩ = some (.slice A1 n1 c1) ∧ W.cell? ⟨b, off + k * 2 + 1, none⟩ = some (.slice A2 n2 c2) := by
  have hn := h.len
  obtain ⟨hs, h1, h2, h3⟩ := h
  obtain ⟨A1, n1, c1, A2, n2, c2, e, p, q⟩ := h3 k (by omega) hk
  obtain ⟨b, off, rfl, hb, hc⟩ := h1.2.2.2 (by omega)
  obtain ⟨g1, g2⟩ := hflat_get hs k (by omega)
  rw [e] at g1 g2
  refine ⟨b, off, A1, n1, c1, A2, n2, c2, rfl, p, q, fun W hW => ⟨(hW.cell (p := ⟨b, _, none⟩) (by show b < _; omega)).trans (hc _ _ g1), (hW.cell (p := ⟨b, _, none⟩) (by show b < _; omega)).trans ?_⟩⟩
  rw [Nat.add_assoc]
  exact hc _ _ g2
theorem RdR.cap {w : World} {B n c : Nat} {A : Option Addr} {rs : List RecV} (h : RdR w B A n c rs) : n ≤ c ∧ c ≤ maxLen := by
  obtain ⟨hs, h1, _⟩ := h
  exact ⟨h1.1, h1.2.1⟩
theorem wrap_u64 (k : Int) (h0 : 0 ≤ k) (h : k < 18446744073709551616) : IntKind.u64.wrap k = k := by simp [IntKind.wrap, IntKind.bits, IntKind.signed]; omega
/-- what stays while the bytes grow: the box of the record and the row of its strings -/
structure Bx (w W : World) (A : Option Addr) (n c : Nat) (l : List UInt8) (G : Nat) (u v : Value) (As : Option Addr) (ns cS : Nat) (ss : List ByteArray) : Prop where
  own : OwnB W w.heap.size A n c l
  below : Below w.heap.size w W
  strs : OwnS W w.heap.size As ns cS ss
  box : W.heap[G]? = some (.cells #[u, v] 72 (0, 0))
theorem Bx.len {w W : World} {A As : Option Addr} {n c G ns cS : Nat} {l : List UInt8} {u v : Value} {ss : List ByteArray} (h : Bx w W A n c l G u v As ns cS ss) : n = l.length := h.own.len
theorem Bx.cells {w W : World} {A As : Option Addr} {n c G ns cS : Nat} {l : List UInt8} {u v : Value} {ss : List ByteArray} (h : Bx w W A n c l G u v As ns cS ss) : W.cell? ⟨G, 0, none⟩ = some u ∧ W.cell? ⟨G, 1, none⟩ = some v :=
  ⟨cell_row W G 0 _ _ _ h.box, cell_row W G 1 _ _ _ h.box⟩
theorem OwnB.apartT {w : World} {base n c g : Nat} {A : Option Addr} {l : List UInt8} {cs : Array Value} {t : TypeId} {fr : Nat × Nat} (h : OwnB w base A n c l) (hg : w.heap[g]? = some (.cells cs t fr)) (ht : t ≠ 5) : ab A ≠ some g := by
  intro e
  rcases h.2 with ⟨hv, _⟩ | ⟨g', cap, cur, hv, _, hg', _⟩
  · injection hv with h1; rw [h1] at e; cases e
  · injection hv with h1
    rw [h1] at e
    have : g' = g := Option.some.inj e
    subst this
    rw [hg] at hg'
    injection hg' with h2
    injection h2 with _ h3
    exact ht h3
theorem Bx.drewN {w W : World} {A As : Option Addr} {n c G ns cS : Nat} {l : List UInt8} {u v : Value} {ss : List ByteArray} (h : Bx w W A n c l G u v As ns cS ss) (q : Nat) : Bx w (W.drewN q) A n c l G u v As ns cS ss :=
  ⟨h.own, below_drewN h.below q, h.strs, h.box⟩
theorem bx_app {w W : World} {A As : Option Addr} {n c G ns cS x : Nat} {l : List UInt8} {u v : Value} {ss : List ByteArray} (h : Bx w W A n c l G u v As ns cS ss) (hx : x < 18446744073709551616) (hn : n ≤ 140737488355000) :
    Calls Try.prog 46 #[.slice A n c, .int .u64 (x : Int)] W fun e w' => ∃ A3 n3 c3, e = .returned (.slice A3 n3 c3) ∧ Bx w w' A3 n3 c3 (l ++ Vi.enc x) G u v As ns cS ss :=
  (vappend_any A n c w.heap.size x l W h.own h.below.size hx hn).mono fun e w' ⟨A3, n3, c3, h1, h2, h3, _⟩ =>
    ⟨A3, n3, c3, h1, h2, h.below.trans (own_grown_below h.own h.below.size h3), own_grown h.strs h3 (own_apart h.strs h.own (by decide)),
      (h3.block G (Array.getElem?_eq_some_iff.1 h.box).1 (Ne.symm (h.own.apartT h.box (by decide)))).trans h.box⟩
end Go.Proofs.Ytglnghdomoebfaa
