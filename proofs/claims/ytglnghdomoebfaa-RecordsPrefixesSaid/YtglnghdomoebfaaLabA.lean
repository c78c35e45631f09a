/- Chapter 11: comparing strings; the parts of a label; the comparison by a part; the error of one label. -/
import Derived.Test.YtglnghdomoebfaaLabMath
import Derived.Test.YtglnghdomoebfaaGr
import Derived.Shelf.SlSortCmp.QuietGrown
import Derived.BigQuiet
import Derived.Deep.DeepCutAuto
import Derived.Deep.Cut
import Derived.Laws.EntriesVeiled
namespace Go.Proofs.Ytglnghdomoebfaa
open Go.RowKit Go.Shelf

/-- a label as a value -/
def lbv (x : Lab) : Value := .agg #[.string x.n, .string x.v]
theorem part_ix0 (a b : Value) (W : World) : Sem.run Try.prog (Instr.index 103 (.agg #[a, b]) (.int .i64 0)) W = .ok (.agg #[a]) W := by kernel_rfl
theorem part_ix1 (a b : Value) (W : World) : Sem.run Try.prog (Instr.index 103 (.agg #[a, b]) (.int .i64 1)) W = .ok (.agg #[b]) W := by kernel_rfl
theorem ne_self (x : ByteArray) : (!(x.toList == x.toList)) = false := by simp
set_option maxHeartbeats 1000000 in
theorem isNaN_str (x : ByteArray) (w : World) : Calls Try.prog 94 #[.string x] w fun e w' => e = .returned (.bool false) ∧ w' = w := by
  go_enter Try.func94, Try.ntmps94
  go_wp2
  go_ret
  exact ⟨by simp, rfl⟩
set_option maxHeartbeats 1000000 in
theorem compare_str (x y : ByteArray) (w : World) : Calls Try.prog 83 #[.string x, .string y] w fun e w' => e = .returned (.int .i64 (St.cmp x y)) ∧ w' = w := by
  have h1 : Op.bytesLess x.toList y.toList = St.lt x y := rfl
  have h2 : (!(Op.bytesLess x.toList y.toList || x.toList == y.toList)) = (!(St.lt x y) && St.lt y x) := by
    rw [h1, St.eq_iff]
    by_cases e : x = y
    · subst e; simp [St.irrefl]
    · cases a : St.lt x y with
      | true => simp
      | false =>
        cases b : St.lt y x with
        | true => simp [e]
        | false => exact absurd (St.total a b) e
  by_cases a : St.lt x y = true
  · go_enter Try.func83, Try.ntmps83
    have a2 : Op.bytesLess x.toList y.toList = true := a
    go_wp2_with (go_at_call 94; refine (isNaN_str _ _).mono ?_; rintro e w' ⟨rfl, rfl⟩)
    go_ret
    exact ⟨by simp [St.cmp, a], rfl⟩
  · have a' : St.lt x y = false := by simpa using a
    have a2 : Op.bytesLess x.toList y.toList = false := a'
    rw [a'] at h2
    by_cases b : St.lt y x = true
    · rw [b] at h2
      rw [a2] at h2
      have h3 : (x.toList == y.toList) = false := by simpa using h2
      go_enter Try.func83, Try.ntmps83
      go_wp2_with (go_at_call 94; refine (isNaN_str _ _).mono ?_; rintro e w' ⟨rfl, rfl⟩)
      go_ret
      exact ⟨by simp [St.cmp, a', b], rfl⟩
    · have b' : St.lt y x = false := by simpa using b
      rw [b', a2] at h2
      have h3 : (x.toList == y.toList) = true := by simpa using h2
      go_enter Try.func83, Try.ntmps83
      go_wp2_with (go_at_call 94; refine (isNaN_str _ _).mono ?_; rintro e w' ⟨rfl, rfl⟩)
      go_ret
      exact ⟨by simp [St.cmp, a', b'], rfl⟩
set_option maxHeartbeats 1000000 in
theorem part1_any (x : Lab) (w : World) : Calls Try.prog 84 #[.agg #[.string x.n, .string x.v]] w fun e w' => e = .returned (.string x.n) ∧ ∃ q os', w' = Sort.grow (w.drewN q) os' := by
  go_enter Try.func84, Try.ntmps84
  go_wp2
  go_ret
  exact ⟨rfl, 0, _, by rw [Sort.alloc_eq_grow]; rfl⟩
set_option maxHeartbeats 1000000 in
theorem part2_any (x : Lab) (w : World) : Calls Try.prog 85 #[.agg #[.string x.n, .string x.v]] w fun e w' => e = .returned (.string x.v) ∧ ∃ q os', w' = Sort.grow (w.drewN q) os' := by
  go_enter Try.func85, Try.ntmps85
  go_wp2
  go_ret
  exact ⟨rfl, 0, _, by rw [Sort.alloc_eq_grow]; rfl⟩
set_option maxHeartbeats 1000000 in
theorem parts_any (w : World) : Calls Try.prog 60 #[] w fun e w' => e = .returned (.agg #[.func (.func 84) #[] #[], .func (.func 85) #[] #[]]) ∧ Gr w w' := by
  go_enter Try.func60, Try.ntmps60
  go_wp2
  refine bodyPost_ret (v := .agg #[.func (.func 84) #[] #[], .func (.func 85) #[] #[]]) ?hr rfl ?_
  case hr => exact results_cell_row (fn := Try.f60) (p := 0) (ty := 103) rfl _ _ w.heap.size _ _ _ _ rfl (heap_alloc_new w _) Try.underlying103 rfl (by kernel_rfl)
  exact ⟨rfl, (Gr.refl w).alloc _⟩
set_option maxHeartbeats 1000000 in
theorem by_any (v : Value) (hv : v.oneCell' = true) (w : World) : Calls Try.prog 59 #[v] w fun e w' => e = .returned (.func (.func 82) #[] #[.pointer (some ⟨w.heap.size, 0, none⟩)]) ∧ w' = w.alloc (.cells #[v] 100) := by
  go_enter Try.func59, Try.ntmps59
  go_wp2
  go_ret
  exact ⟨rfl, rfl⟩
set_option maxRecDepth 100000 in
set_option maxHeartbeats 2000000 in
theorem by1_any (g : Nat) (pf : Lab → ByteArray) (eg : ∀ args w, (callFunc g args).run Try.prog w = .ok (.enter g args) w)
    (hg : ∀ (x : Lab) (w : World), Calls Try.prog g #[.agg #[.string x.n, .string x.v]] w fun e w' => e = .returned (.string (pf x)) ∧ ∃ q os', w' = Sort.grow (w.drewN q) os')
    (B : Nat) (x y : Lab) (w : World) (hB : B < w.heap.size) (hc : w.cell? ⟨B, 0, none⟩ = some (.func (.func g) #[] #[])) :
    Calls Try.prog 82 #[.agg #[.string x.n, .string x.v], .agg #[.string y.n, .string y.v], .pointer (some ⟨B, 0, none⟩)] w fun e w' => e = .returned (.int .i64 (St.cmp (pf x) (pf y))) ∧ ∃ q os', w' = Sort.grow (w.drewN q) os' := by
  have mixed : Try.prog.follows .mixedOrders = true := by kernel_rfl
  have hcm := fun W => compare_str (pf x) (pf y) W
  have hx := hg x
  have hy := hg y
  generalize pf x = px at *
  generalize pf y = py at *
  generalize St.cmp px py = r at *
  go_enter Try.func82, Try.ntmps82
  go_wp2_with fail
  obtain ⟨W2, hW⟩ : ∃ W2, W2 = (w.alloc (.cells #[.string x.n, .string x.v] 57)).alloc (.cells #[.string y.n, .string y.v] 57) := ⟨_, rfl⟩
  have hz : W2.heap.size = w.heap.size + 2 := by rw [hW]; simp
  have gW : Gr w W2 := by rw [hW]; exact ((Gr.refl w).alloc _).alloc _
  have b0 : ∀ k, W2.cell? ⟨w.heap.size, k, none⟩ = (#[Value.string x.n, .string x.v] : Array Value)[k]? := fun k => by
    rw [hW, World.cell?_alloc_lt _ _ ⟨w.heap.size, k, none⟩ (by simp)]; exact World.cell?_alloc_mark w _ _ _ k
  have b1 : ∀ k, W2.cell? ⟨w.heap.size + 1, k, none⟩ = (#[Value.string y.n, .string y.v] : Array Value)[k]? := fun k => by

    rw [hW]; simp
  have c0 : ∀ n os, (Sort.grow (W2.drewN n) os).cell? ⟨B, 0, none⟩ = some (.func (.func g) #[] #[]) := fun n os => cell_grown (by show B < _; omega) ((gW.cell B 0 hB).trans hc) n os
  have c1 : ∀ n os, (Sort.grow (W2.drewN n) os).cell? ⟨w.heap.size, 0, none⟩ = some (.string x.n) := fun n os => cell_grown (by show w.heap.size < _; omega) (b0 0) n os
  have c2 : ∀ n os, (Sort.grow (W2.drewN n) os).cell? ⟨w.heap.size, 1, none⟩ = some (.string x.v) := fun n os => cell_grown (by show w.heap.size < _; omega) (b0 1) n os
  have c3 : ∀ n os, (Sort.grow (W2.drewN n) os).cell? ⟨w.heap.size + 1, 0, none⟩ = some (.string y.n) := fun n os => cell_grown (by show w.heap.size + 1 < _; omega) (b1 0) n os
  have c4 : ∀ n os, (Sort.grow (W2.drewN n) os).cell? ⟨w.heap.size + 1, 1, none⟩ = some (.string y.v) := fun n os => cell_grown (by show w.heap.size + 1 < _; omega) (b1 1) n os
  rw [← hW]
  clear hW b0 b1 hz hc
  have G := Kept.mk gW
  clear gW
  have hcm2 : ∀ W, Calls Try.prog 83 #[.string px, .string py] W fun e w' => e = .returned (.int .i64 r) ∧ ∃ q os', w' = Sort.grow (W.drewN q) os' := fun W => (hcm W).mono fun _ _ h => ⟨h.1, 0, #[], by rw [h.2, Sort.grow_empty]; rfl⟩
  go_quiet_grown (first | (go_at_fn g; refine Calls.grown_of (hx _)) | (go_at_fn g; refine Calls.grown_of (hy _)) | (go_at_call 83; go_loud (refine Calls.grown_of (hcm2 _))))
  go_wp2
  go_ret
  exact ⟨rfl, G.out.trans ⟨_, _, rfl⟩⟩
set_option maxHeartbeats 1000000 in
theorem single_any (x : Lab) (w : World) (h1 : x.n.size ≤ maxLen) (h2 : x.v.size ≤ maxLen) : Calls Try.prog 61 #[.agg #[.string x.n, .string x.v]] w fun e w' => e = .returned (.int .i64 (Lb.one x)) ∧ Gr w w' := by
  unfold maxLen at h1 h2
  have e1 : x.n.toList.isEmpty = decide (x.n.size = 0) := by
    rw [St.tl]
    obtain ⟨⟨l⟩⟩ := x.n
    cases l <;> simp [ByteArray.size]
  by_cases h0 : x.n.size = 0
  · rw [decide_eq_true h0] at e1
    have hr : Lb.one x = 17 := by simp [Lb.one, h0]
    rw [hr]
    go_enter Try.func61, Try.ntmps61
    go_wp2
    go_ret
    exact ⟨rfl, (Gr.refl w).alloc _⟩
  · rw [decide_eq_false h0] at e1
    by_cases hb : 65535 < x.n.size ∨ 65535 < x.v.size
    · have hr : Lb.one x = 7 := by simp [Lb.one, h0, hb]
      rw [hr]
      rcases Nat.lt_trichotomy x.n.size x.v.size with hlt | hlt | hlt
      all_goals
        go_enter Try.func61, Try.ntmps61
        go_wp2
        go_ret
        exact ⟨rfl, (Gr.refl w).alloc _⟩
    · have hr : Lb.one x = 0 := by simp [Lb.one, h0, hb]
      have hb1 : (x.n.size : Int) ≤ 65535 := by omega
      have hb2 : (x.v.size : Int) ≤ 65535 := by omega
      rw [hr]
      rcases Nat.lt_trichotomy x.n.size x.v.size with hlt | hlt | hlt
      all_goals
        go_enter Try.func61, Try.ntmps61
        go_wp2
        go_ret
        exact ⟨rfl, (Gr.refl w).alloc _⟩
end Go.Proofs.Ytglnghdomoebfaa
