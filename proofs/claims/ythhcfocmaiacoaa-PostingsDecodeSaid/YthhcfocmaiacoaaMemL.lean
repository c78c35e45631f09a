/- Slices of labels: two strings each. -/
import Derived.Test.YthhcfocmaiacoaaMem
import Derived.Test.YthhcfocmaiacoaaStrMath
namespace Go.Proofs.Ythhcfocmaiacoaa
open Go.RowKit

/-- a label -/
structure Lab where
  n : ByteArray
  v : ByteArray
instance : DecidableEq Lab := fun a b => decidable_of_iff (a.n = b.n ∧ a.v = b.v) ⟨fun h => by cases a; cases b; simp_all, fun h => by rw [h]; exact ⟨rfl, rfl⟩⟩
instance : Inhabited Lab := ⟨⟨ByteArray.empty, ByteArray.empty⟩⟩
def lbc (x : Lab) : List Value := [.string x.n, .string x.v]
def lbs (L : List Lab) : List Value := L.flatMap lbc
theorem lbs_length (L : List Lab) : (lbs L).length = L.length * 2 := by
  unfold lbs
  induction L with
  | nil => rfl
  | cons x L ih => rw [List.flatMap_cons, List.length_append, ih, List.length_cons]; simp [lbc]; omega
theorem lbs_get (L : List Lab) (i k : Nat) (h : i < L.length) (hk : k < 2) : (lbs L)[i * 2 + k]? = (lbc L[i])[k]? := by
  unfold lbs
  induction L generalizing i with
  | nil => simp at h
  | cons x L ih =>
    rw [List.flatMap_cons]
    have hx : (lbc x).length = 2 := rfl
    cases i with
    | zero => rw [List.getElem?_append_left (by omega)]; simp
    | succ i =>
      rw [List.getElem?_append_right (by omega), hx, show (i + 1) * 2 + k - 2 = i * 2 + k by omega]
      exact ih i (by simpa using h)
theorem lbs_one (L : List Lab) : ∀ u ∈ lbs L, u.oneCell' = true := by
  intro u hu
  obtain ⟨c, _, hc⟩ := List.mem_flatMap.1 hu
  simp [lbc] at hc
  rcases hc with rfl | rfl <;> rfl
theorem lbs_append (a b : List Lab) : lbs (a ++ b) = lbs a ++ lbs b := by simp [lbs]
theorem lbs_cons (x : Lab) (b : List Lab) : lbs (x :: b) = lbc x ++ lbs b := by simp [lbs]
theorem lbs_drop (L : List Lab) (k : Nat) : (lbs L).drop (k * 2) = lbs (L.drop k) := by
  induction k generalizing L with
  | zero => simp
  | succ k ih =>
    cases L with
    | nil => simp [lbs]
    | cons x L => rw [lbs_cons, List.drop_succ_cons, show (k + 1) * 2 = (k * 2 + 1) + 1 by omega]; simp only [lbc, List.cons_append, List.drop_succ_cons, List.nil_append]; exact ih L
theorem lbs_take (L : List Lab) (k : Nat) : (lbs L).take (k * 2) = lbs (L.take k) := by
  induction k generalizing L with
  | zero => simp [lbs]
  | succ k ih =>
    cases L with
    | nil => simp [lbs]
    | cons x L => rw [lbs_cons, List.take_succ_cons, lbs_cons, show (k + 1) * 2 = (k * 2 + 1) + 1 by omega]; simp only [lbc, List.cons_append, List.take_succ_cons, List.nil_append]; rw [ih L]
/-- a slice of labels that reads as a list -/
def RdL (w : World) (B : Nat) (A : Option Addr) (n c : Nat) (l : List Lab) : Prop := Rd w B 2 A n c (lbs l)
theorem RdL.len {w : World} {B n c : Nat} {A : Option Addr} {l : List Lab} (h : RdL w B A n c l) : n = l.length := by have := h.2.2.1; rw [lbs_length] at this; omega
section
variable {w w' : World} {B n c : Nat} {A : Option Addr} {l : List Lab}
theorem RdL.below (h : RdL w B A n c l) (hb : Below B w w') : RdL w' B A n c l := Rd.below h hb
theorem RdL.more {B' : Nat} (h : RdL w B A n c l) (hB : B ≤ B') : RdL w B' A n c l := Rd.more h hB
theorem RdL.alloc (h : RdL w B A n c l) (hB : B ≤ w.heap.size) (o : Obj) : RdL (w.alloc o) B A n c l := Rd.alloc h hB o
theorem RdL.drew (h : RdL w B A n c l) : RdL w.drew B A n c l := h
theorem RdL.drewN (h : RdL w B A n c l) (k : Nat) : RdL (w.drewN k) B A n c l := h
theorem RdL.setCell (h : RdL w B A n c l) {p : Addr} (hB : B ≤ p.block) (u : Value) : RdL (w.setCell p u) B A n c l := Rd.setCell h hB u
theorem RdL.grown (h : RdL w B A n c l) {row : Option Nat} (hg : w.grownBy w' row) (hB : B ≤ w.heap.size) (hr : ∀ g, row = some g → B ≤ g) : RdL w' B A n c l := Rd.grown h hg hB hr
theorem RdL.take (h : RdL w B A n c l) {k : Nat} (hk : k ≤ n) : RdL w B A k c (l.take k) := by
  have := Rd.take (k := k) h hk
  rwa [lbs_take] at this
theorem RdL.drop (h : RdL w B A n c l) {k : Nat} (hk : k ≤ n) : RdL w B (if c = k then A else A.map (·.add (k * 2))) (n - k) (c - k) (l.drop k) := by
  have := Rd.drop (k := k) h hk
  rwa [lbs_drop] at this
end
theorem RdL.at_ {w : World} {B n c k : Nat} {A : Option Addr} {l : List Lab} (h : RdL w B A n c l) (hk : k < l.length) : ∃ b off, A = some ⟨b, off, none⟩ ∧ b < B ∧ w.cell? ⟨b, off + k * 2, none⟩ = some (.string l[k].n) ∧ w.cell? ⟨b, off + (k * 2 + 1), none⟩ = some (.string l[k].v) := by
  obtain ⟨b, off, e, hb, hc⟩ := h.2.2.2 (by have := h.len; omega)
  refine ⟨b, off, e, hb, hc _ _ ?_, hc _ _ ?_⟩
  · have := lbs_get l k 0 hk (by omega); simpa [lbc] using this
  · have := lbs_get l k 1 hk (by omega); simpa [lbc] using this
/-- a row of labels of the call's own -/
def OwnL (w : World) (base : Nat) (A : Option Addr) (n c : Nat) (l : List Lab) : Prop := w.ownsRow base 67 2 (.slice A n c) n (lbs l)
theorem OwnL.rd {w : World} {base n c : Nat} {A : Option Addr} {l : List Lab} (h : OwnL w base A n c l) : RdL w w.heap.size A n c l := Rd.of_own h
theorem OwnL.len {w : World} {base n c : Nat} {A : Option Addr} {l : List Lab} (h : OwnL w base A n c l) : n = l.length := h.rd.len
theorem infoL : (Try.prog.info? 67).map (fun i => (i.zero, i.size, i.bytes)) = some (some (.agg #[.string ByteArray.empty, .string ByteArray.empty]), 2, 32) := by kernel_rfl
theorem wpList_appL {w : World} {ops : Array Oper} {rest : List Oper} {o : Oper} {a : Act} {Q : Exit → Act → World → Prop} (hgd : Region.wanted o (yielded ops a.tmps) = true) (s x : Operand)
    (ho : o.op = .call { callee := .builtin .append, args := #[s, x], argTypes := #[69, 69] })
    (base : Nat) (A : Option Addr) (n c : Nat) (l : List Lab) (hs : a.eval s = .slice A n c) (hown : OwnL w base A n c l)
    (B : Nat) (S : Option Addr) (m d : Nat) (k : List Lab) (hx : a.eval x = .slice S m d) (hr : RdL w B S m d k)
    (hlen : n + m ≤ 4398046511104) (hbase : base ≤ w.heap.size)
    (h : ∀ A2 c2 w', OwnL w' base A2 (n + m) c2 (l ++ k) → w.grownBy w' (ab A) → (ab A2 = ab A ∨ ab A2 = some w.heap.size) → wpList Try.prog ops Q rest (a.put o.dst (.slice A2 (n + m) c2)) w') : wpList Try.prog ops Q (o :: rest) a w := by
  obtain ⟨i0, hi0, hz0, hz1, hz2⟩ := info_parts infoL
  refine wpList_app w hgd s x _ ho base 67 i0 (.agg #[.string ByteArray.empty, .string ByteArray.empty]) 2 32 Try.underlying69 hi0 hz0 hz1 hz2 rfl (by decide) A n c (lbs l) hs hown B S m d (lbs k) hx hr (lbs_one k) (by unfold maxLen; omega) (by omega) hbase ?_
  rw [← lbs_append]
  exact h
theorem OwnL.nil (w : World) (base : Nat) : OwnL w base none 0 0 [] := ⟨rfl, .inl ⟨rfl, rfl⟩⟩
theorem RdL.lit (w : World) (l : List Lab) (fr : Nat × Nat) (h : l.length ≤ 9223372036854775807) : RdL (w.alloc (.cells (lbs l).toArray 67 fr)) (w.heap.size + 1) (some ⟨w.heap.size, 0, none⟩) l.length l.length l :=
  ⟨Nat.le_refl _, by unfold maxLen; omega, by rw [lbs_length], fun _ => ⟨_, 0, rfl, by omega, fun i u hu => by
    rw [Nat.zero_add]
    exact (World.cell?_alloc_mark w _ _ _ i).trans (by simpa using hu)⟩⟩
theorem OwnL.at_ {w : World} {base g n c k : Nat} {l : List Lab} (h : OwnL w base (some ⟨g, 0, none⟩) n c l) (hk : k < l.length) :
    w.cell? ⟨g, k * 2, none⟩ = some (.string l[k].n) ∧ w.cell? ⟨g, k * 2 + 1, none⟩ = some (.string l[k].v) ∧ w.frozen? ⟨g, k * 2, none⟩ = false ∧ w.frozen? ⟨g, k * 2 + 1, none⟩ = false := by
  have hn := h.len
  refine ⟨?_, ?_, World.ownsRow.frozenAt h _, World.ownsRow.frozenAt h _⟩
  · rw [World.ownsRow.cellAt h (k * 2) (by omega)]
    have := lbs_get l k 0 hk (by omega); simpa [lbc] using this
  · rw [World.ownsRow.cellAt h (k * 2 + 1) (by omega)]
    have := lbs_get l k 1 hk (by omega); simpa [lbc] using this
theorem lbs_set (l : List Lab) (k : Nat) (x : Lab) : lbs (l.set k x) = ((lbs l).set (k * 2) (.string x.n)).set (k * 2 + 1) (.string x.v) := by
  induction l generalizing k with
  | nil => simp [lbs]
  | cons y l ih =>
    cases k with
    | zero => simp [lbs_cons, lbc]
    | succ k =>
      rw [List.set_cons_succ, lbs_cons, lbs_cons, ih k, show (k + 1) * 2 = k * 2 + 1 + 1 by omega]
      simp [lbc]
theorem OwnL.set {w : World} {base g n c : Nat} {l : List Lab} (h : OwnL w base (some ⟨g, 0, none⟩) n c l) (k : Nat) (x : Lab) :
    OwnL ((w.setCell ⟨g, k * 2, none⟩ (.string x.n)).setCell ⟨g, k * 2 + 1, none⟩ (.string x.v)) base (some ⟨g, 0, none⟩) n c (l.set k x) := by
  have h1 := (World.ownsRow.stored h (k * 2) (.string x.n)).1
  have h2 := (World.ownsRow.stored h1 (k * 2 + 1) (.string x.v)).1
  unfold OwnL
  rw [lbs_set]
  exact h2
theorem OwnL.pos {w : World} {base n c : Nat} {A : Option Addr} {l : List Lab} (h : OwnL w base A n c l) (hn : 0 < n) : ∃ g, A = some ⟨g, 0, none⟩ ∧ base ≤ g ∧ g < w.heap.size := own_pos h hn
end Go.Proofs.Ythhcfocmaiacoaa
