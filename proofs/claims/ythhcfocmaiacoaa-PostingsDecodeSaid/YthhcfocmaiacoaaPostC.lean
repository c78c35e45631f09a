/- Chapter 15: labels compared by name, then by value. -/
import Derived.Test.YthhcfocmaiacoaaSymL
import Derived.Test.YthhcfocmaiacoaaMemI
import Derived.Deep.RegionHeld3
namespace Go.Proofs.Ythhcfocmaiacoaa
open Go.RowKit Go.Shelf

/-- the first of two numbers that is not nought -/
def or2 (a b : Int) : Int := if a = 0 then b else a
set_option maxHeartbeats 1000000 in
theorem orI_any (A : Option Addr) (a b : Int) (w : World) (hv : RdI w w.heap.size A 2 2 [a, b]) :
    Calls Try.prog 105 #[.slice A 2 2] w fun e w' => e = .returned (.int .i64 (or2 a b)) ∧ w' = w := by
  obtain ⟨g, off, rfl, -, c0⟩ := hv.at_ (k := 0) (by simp)
  obtain ⟨g', off', e, -, c1⟩ := hv.at_ (k := 1) (by simp)
  cases e
  simp only [List.getElem_cons_zero, List.getElem_cons_succ, Nat.add_zero] at c0 c1
  clear hv
  go_enter Try.func105, Try.ntmps105
  go_wp2
  go_loopw [8] (fun i wr => ∃ k : Nat, k ≤ 2 ∧ i = .int .i64 k ∧ Kept ((1 ≤ k → a = 0) ∧ (2 ≤ k → b = 0)) ∧ wr = w) (fun i _ => 2 - (intOf i).toNat)
  case atStart => exact ⟨0, by omega, rfl, ⟨⟨fun h => by omega, fun h => by omega⟩⟩, rfl⟩
  case round =>
    obtain ⟨k, hk, rfl, hz, rfl⟩ := hrel
    have hcase : k = 0 ∨ k = 1 ∨ k = 2 := by omega
    rcases hcase with rfl | rfl | rfl
    · by_cases h : a = 0
      · subst h
        go_wp2
        go_roundw
        case rel => exact ⟨1, by omega, rfl, ⟨⟨fun _ => by simp, fun h => by omega⟩⟩, by simp⟩
        case measure => simp [intOf]
      · have h' : (a == 0) = false := by simp [h]
        go_wp2
        go_ret
        exact ⟨by simp [or2, h], rfl⟩
    · obtain rfl : a = 0 := hz.out.1 (by omega)
      by_cases h : b = 0
      · subst h
        go_wp2
        go_roundw
        case rel => exact ⟨2, by omega, rfl, ⟨⟨fun _ => by simp, fun _ => by simp⟩⟩, by simp⟩
        case measure => simp [intOf]
      · have h' : (b == 0) = false := by simp [h]
        go_wp2
        go_ret
        exact ⟨by simp [or2], rfl⟩
    · obtain rfl : a = 0 := hz.out.1 (by omega)
      obtain rfl : b = 0 := hz.out.2 (by omega)
      go_wp2
      go_ret
      exact ⟨by simp [or2], rfl⟩
/-- labels compared -/
def Lb.pc (x y : Lab) : Int := or2 (St.cmp x.n y.n) (St.cmp x.v y.v)
set_option maxRecDepth 100000 in
set_option maxHeartbeats 4000000 in
theorem pcompare_any (x y : Lab) (w : World) : Calls Try.prog 72 #[lbv x, lbv y] w fun e w' => e = .returned (.int .i64 (Lb.pc x y)) ∧ Gr w w' := by
  unfold lbv
  go_enter Try.func72, Try.ntmps72
  go_wp2_with fail
  have gW : Gr w ((w.alloc (Obj.cells #[.string x.n, .string x.v] 67)).alloc (Obj.cells #[.string y.n, .string y.v] 67)) := ((Gr.refl w).alloc _).alloc _
  have c2 : ((w.alloc (Obj.cells #[.string x.n, .string x.v] 67)).alloc (Obj.cells #[.string y.n, .string y.v] 67)).cell? ⟨w.heap.size + 1, 0, none⟩ = some (.string y.n) := by
    have := World.cell?_alloc_mark (w.alloc (Obj.cells #[.string x.n, .string x.v] 67)) #[.string y.n, .string y.v] 67 (0, 0) 0
    rw [World.size_alloc] at this; exact this
  have c3 : ((w.alloc (Obj.cells #[.string x.n, .string x.v] 67)).alloc (Obj.cells #[.string y.n, .string y.v] 67)).cell? ⟨w.heap.size + 1, 1, none⟩ = some (.string y.v) := by
    have := World.cell?_alloc_mark (w.alloc (Obj.cells #[.string x.n, .string x.v] 67)) #[.string y.n, .string y.v] 67 (0, 0) 1
    rw [World.size_alloc] at this; exact this
  have c0 : ((w.alloc (Obj.cells #[.string x.n, .string x.v] 67)).alloc (Obj.cells #[.string y.n, .string y.v] 67)).cell? ⟨w.heap.size, 0, none⟩ = some (.string x.n) :=
    (World.cell?_alloc_lt _ _ ⟨w.heap.size, 0, none⟩ (by simp)).trans (World.cell?_alloc_mark w _ _ _ 0)
  have c1 : ((w.alloc (Obj.cells #[.string x.n, .string x.v] 67)).alloc (Obj.cells #[.string y.n, .string y.v] 67)).cell? ⟨w.heap.size, 1, none⟩ = some (.string x.v) :=
    (World.cell?_alloc_lt _ _ ⟨w.heap.size, 1, none⟩ (by simp)).trans (World.cell?_alloc_mark w _ _ _ 1)
  have GW := Kept.mk gW
  have HZ : Kept (w.heap.size + 1 < ((w.alloc (Obj.cells #[.string x.n, .string x.v] 67)).alloc (Obj.cells #[.string y.n, .string y.v] 67)).heap.size) := ⟨by simp⟩
  clear gW
  generalize (w.alloc (Obj.cells #[.string x.n, .string x.v] 67)).alloc (Obj.cells #[.string y.n, .string y.v] 67) = w2 at *
  have hRL : RdI (w2.alloc (Obj.cells #[.int .i64 (St.cmp x.n y.n), .int .i64 (St.cmp x.v y.v)] 3)).drew (w2.alloc (Obj.cells #[.int .i64 (St.cmp x.n y.n), .int .i64 (St.cmp x.v y.v)] 3)).drew.heap.size (some ⟨w2.heap.size, 0, none⟩) 2 2 [St.cmp x.n y.n, St.cmp x.v y.v] := by
    have := RdI.lit w2 [St.cmp x.n y.n, St.cmp x.v y.v] (by simp)
    exact Rd.more (Rd.drew this) (by show _ ≤ (w2.alloc _).heap.size; simp)
  have hz2 : w.heap.size + 1 < w2.heap.size := HZ.out
  have KD : (w2.alloc (Obj.cells #[.int .i64 (St.cmp x.n y.n), .int .i64 (St.cmp x.v y.v)] 3)).drew.cell? ⟨w.heap.size, 0, none⟩ = some (.string x.n) ∧ (w2.alloc (Obj.cells #[.int .i64 (St.cmp x.n y.n), .int .i64 (St.cmp x.v y.v)] 3)).drew.cell? ⟨w.heap.size, 1, none⟩ = some (.string x.v) ∧
      (w2.alloc (Obj.cells #[.int .i64 (St.cmp x.n y.n), .int .i64 (St.cmp x.v y.v)] 3)).drew.cell? ⟨w.heap.size + 1, 0, none⟩ = some (.string y.n) ∧ (w2.alloc (Obj.cells #[.int .i64 (St.cmp x.n y.n), .int .i64 (St.cmp x.v y.v)] 3)).drew.cell? ⟨w.heap.size + 1, 1, none⟩ = some (.string y.v) :=
    ⟨(World.cell?_alloc_lt _ _ ⟨w.heap.size, 0, none⟩ (by show w.heap.size < _; omega)).trans c0, (World.cell?_alloc_lt _ _ ⟨w.heap.size, 1, none⟩ (by show w.heap.size < _; omega)).trans c1,
     (World.cell?_alloc_lt _ _ ⟨w.heap.size + 1, 0, none⟩ (by show w.heap.size + 1 < _; omega)).trans c2, (World.cell?_alloc_lt _ _ ⟨w.heap.size + 1, 1, none⟩ (by show w.heap.size + 1 < _; omega)).trans c3⟩
  have KK := Kept.mk KD
  clear KD
  go_region_held3 (fun w' => w'.cell? ⟨w.heap.size, 0, none⟩ = some (.string x.n) ∧ w'.cell? ⟨w.heap.size, 1, none⟩ = some (.string x.v) ∧ w'.cell? ⟨w.heap.size + 1, 0, none⟩ = some (.string y.n) ∧ w'.cell? ⟨w.heap.size + 1, 1, none⟩ = some (.string y.v)) (first | exact ⟨c0, c1, c2, c3⟩ | exact KK.out)
    (first
    | (go_at_call 106; refine (compare_str _ _ _).mono ?_; rintro e w3 ⟨rfl, rfl⟩)
    | (go_at_call 105; refine (orI_any _ _ _ _ hRL).mono ?_; rintro e w3 ⟨rfl, rfl⟩))
  go_wp2_with fail
  go_ret
  exact ⟨rfl, (GW.out.alloc _).drew⟩
end Go.Proofs.Ythhcfocmaiacoaa
