/- Results that live in memory: two aggregates and a number; a whole aggregate stored cell by cell. -/
import Derived.Test.YtknfkbgnfjfpeaaDoorLayG
namespace Go.Proofs.YtknfkbgnfjfpeaaDoor
open Go.RowKit Go.Shelf

theorem results_cell2_row {P : Program} {fn : Func} {a b u : Tmp} {T1 T2 : TypeId} (h : fn.results = #[.cell a T1, .cell b T2, .tmp u]) (tmps : Array Value) (w : World) (g1 g2 : Nat) (cs1 cs2 : Array Value) (t1 t2 : TypeId) (f1 f2 : Nat × Nat) (d1 d2 : TypeDesc)
    (ha : tmps.getD a undef = .pointer (some ⟨g1, 0, none⟩)) (hb : tmps.getD b undef = .pointer (some ⟨g2, 0, none⟩)) (hg1 : w.heap[g1]? = some (.cells cs1 t1 f1)) (hg2 : w.heap[g2]? = some (.cells cs2 t2 f2))
    (hu1 : P.underlying T1 = some d1) (hd1 : (match d1 with | .struct _ | .array _ _ => true | _ => false) = true) (hi1 : (P.info? T1).map (·.size) = some cs1.size)
    (hu2 : P.underlying T2 = some d2) (hd2 : (match d2 with | .struct _ | .array _ _ => true | _ => false) = true) (hi2 : (P.info? T2).map (·.size) = some cs2.size) :
    (results fn tmps).run P w = .ok (.tuple #[.agg cs1, .agg cs2, tmps.getD u undef]) w := by
  have ha' : tmps[a]?.getD undef = .pointer (some ⟨g1, 0, none⟩) := by simpa using ha
  have hb' : tmps[b]?.getD undef = .pointer (some ⟨g2, 0, none⟩) := by simpa using hb
  simp [results, h, ha', hb', asAddr, run_loadVar_row w g1 t1 T1 cs1 f1 d1 hg1 hu1 hd1 hi1, run_loadVar_row w g2 t2 T2 cs2 f2 d2 hg2 hu2 hd2 hi2]
theorem results_cell1_row {P : Program} {fn : Func} {a u : Tmp} {T1 : TypeId} (h : fn.results = #[.cell a T1, .tmp u]) (tmps : Array Value) (w : World) (g1 : Nat) (cs1 : Array Value) (t1 : TypeId) (f1 : Nat × Nat) (d1 : TypeDesc)
    (ha : tmps.getD a undef = .pointer (some ⟨g1, 0, none⟩)) (hg1 : w.heap[g1]? = some (.cells cs1 t1 f1))
    (hu1 : P.underlying T1 = some d1) (hd1 : (match d1 with | .struct _ | .array _ _ => true | _ => false) = true) (hi1 : (P.info? T1).map (·.size) = some cs1.size) :
    (results fn tmps).run P w = .ok (.tuple #[.agg cs1, tmps.getD u undef]) w := by
  have ha' : tmps[a]?.getD undef = .pointer (some ⟨g1, 0, none⟩) := by simpa using ha
  simp [results, h, ha', asAddr, run_loadVar_row w g1 t1 T1 cs1 f1 d1 hg1 hu1 hd1 hi1]
/-- four cells stored -/
def put4 (w : World) (g : Nat) (a b c d : Value) : World := (((w.setCell ⟨g, 0, none⟩ a).setCell ⟨g, 1, none⟩ b).setCell ⟨g, 2, none⟩ c).setCell ⟨g, 3, none⟩ d
def put5 (w : World) (g : Nat) (a b c d e : Value) : World := ((((w.setCell ⟨g, 0, none⟩ a).setCell ⟨g, 1, none⟩ b).setCell ⟨g, 2, none⟩ c).setCell ⟨g, 3, none⟩ d).setCell ⟨g, 4, none⟩ e
theorem put4_row (w : World) (g : Nat) (a b c d : Value) {cs : Array Value} {t : TypeId} (h : w.heap[g]? = some (.cells cs t (0, 0))) (hs : cs.size = 4) : (put4 w g a b c d).heap[g]? = some (.cells #[a, b, c, d] t (0, 0)) := by
  unfold put4
  rw [heap_setCell_same _ g 3 _ t _ (heap_setCell_same _ g 2 _ t _ (heap_setCell_same _ g 1 _ t _ (heap_setCell_same w g 0 _ t _ h)))]
  obtain ⟨L, rfl⟩ : ∃ L : List Value, cs = L.toArray := ⟨cs.toList, by simp⟩
  match L, hs with
  | [_, _, _, _], _ => rfl
theorem put5_row (w : World) (g : Nat) (a b c d e : Value) {cs : Array Value} {t : TypeId} (h : w.heap[g]? = some (.cells cs t (0, 0))) (hs : cs.size = 5) : (put5 w g a b c d e).heap[g]? = some (.cells #[a, b, c, d, e] t (0, 0)) := by
  unfold put5
  rw [heap_setCell_same _ g 4 _ t _ (heap_setCell_same _ g 3 _ t _ (heap_setCell_same _ g 2 _ t _ (heap_setCell_same _ g 1 _ t _ (heap_setCell_same w g 0 _ t _ h))))]
  obtain ⟨L, rfl⟩ : ∃ L : List Value, cs = L.toArray := ⟨cs.toList, by simp⟩
  match L, hs with
  | [_, _, _, _, _], _ => rfl
theorem put4_grown (w : World) (g : Nat) (a b c d : Value) : w.grownBy (put4 w g a b c d) (some g) :=
  (((grown_set w ⟨g, 0, none⟩ a).trans (grown_set _ ⟨g, 1, none⟩ b)).trans (grown_set _ ⟨g, 2, none⟩ c)).trans (grown_set _ ⟨g, 3, none⟩ d)
theorem put5_grown (w : World) (g : Nat) (a b c d e : Value) : w.grownBy (put5 w g a b c d e) (some g) :=
  ((((grown_set w ⟨g, 0, none⟩ a).trans (grown_set _ ⟨g, 1, none⟩ b)).trans (grown_set _ ⟨g, 2, none⟩ c)).trans (grown_set _ ⟨g, 3, none⟩ d)).trans (grown_set _ ⟨g, 4, none⟩ e)
theorem put4_size (w : World) (g : Nat) (a b c d : Value) : (put4 w g a b c d).heap.size = w.heap.size := by simp [put4]
theorem put5_size (w : World) (g : Nat) (a b c d e : Value) : (put5 w g a b c d e).heap.size = w.heap.size := by simp [put5]
theorem FourO.drew {w : World} {base : Nat} {V : Nat → Value} {D : Nat → List UInt8} (h : FourO w base V D) : FourO w.drew base V D := h
theorem row_drew {w : World} {g : Nat} {x : Option Obj} (h : w.heap[g]? = x) : w.drew.heap[g]? = x := h
namespace Ly
def outS (l : List UInt8) (i : Nat) : List UInt8 := if pe l = 0 then sec l i else []
def outA (l : List UInt8) (i : Nat) : Nat := if pe l = 0 then aoff l i else 0
end Ly
end Go.Proofs.YtknfkbgnfjfpeaaDoor
