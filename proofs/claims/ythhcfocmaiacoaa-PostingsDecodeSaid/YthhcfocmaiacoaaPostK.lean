/- Chapter 15: rows of rows of labels. -/
import Derived.Test.YthhcfocmaiacoaaPostA
namespace Go.Proofs.Ythhcfocmaiacoaa
open Go.RowKit

/-- a slice of slices of labels that reads as a list of lists -/
def RdLL (w : World) (B : Nat) (A : Option Addr) (n c : Nat) (LL : List (List Lab)) : Prop :=
  ∃ vs : List Value, Rd w B 1 A n c vs ∧ vs.length = LL.length ∧ ∀ (i : Nat) (l : List Lab), LL[i]? = some l → ∃ A' n' c', vs[i]? = some (.slice A' n' c') ∧ RdL w B A' n' c' l
section
variable {w w' : World} {B n c : Nat} {A : Option Addr} {LL : List (List Lab)}
theorem RdLL.below (h : RdLL w B A n c LL) (hb : Below B w w') : RdLL w' B A n c LL := by
  obtain ⟨vs, h1, h2, h3⟩ := h
  refine ⟨vs, h1.below hb, h2, fun i l hl => ?_⟩
  obtain ⟨A', n', c', e, hr⟩ := h3 i l hl
  exact ⟨A', n', c', e, hr.below hb⟩
theorem RdLL.more {B' : Nat} (h : RdLL w B A n c LL) (hB : B ≤ B') : RdLL w B' A n c LL := by
  obtain ⟨vs, h1, h2, h3⟩ := h
  refine ⟨vs, h1.more hB, h2, fun i l hl => ?_⟩
  obtain ⟨A', n', c', e, hr⟩ := h3 i l hl
  exact ⟨A', n', c', e, hr.more hB⟩
theorem RdLL.len (h : RdLL w B A n c LL) : n = LL.length := by
  obtain ⟨vs, h1, h2, _⟩ := h
  have := h1.2.2.1
  omega
theorem RdLL.cap (h : RdLL w B A n c LL) : n ≤ c ∧ c ≤ maxLen := by
  obtain ⟨vs, h1, _⟩ := h
  exact ⟨h1.1, h1.2.1⟩
theorem RdLL.at_ {k : Nat} (h : RdLL w B A n c LL) (hk : k < LL.length) :
    ∃ b off A' n' c', A = some ⟨b, off, none⟩ ∧ b < B ∧ w.cell? ⟨b, off + k, none⟩ = some (.slice A' n' c') ∧ RdL w B A' n' c' LL[k] := by
  have hn := h.len
  obtain ⟨vs, h1, h2, h3⟩ := h
  obtain ⟨b, off, u, e, hb, hu, hc⟩ := h1.at_ (k := k) (by omega)
  obtain ⟨A', n', c', e', hr⟩ := h3 k LL[k] (List.getElem?_eq_getElem hk)
  rw [hu] at e'
  injection e' with e'
  subst e'
  exact ⟨b, off, A', n', c', e, hb, hc, hr⟩
theorem RdLL.take (h : RdLL w B A n c LL) {k : Nat} (hk : k ≤ n) : RdLL w B A k c (LL.take k) := by
  have hn := h.len
  obtain ⟨vs, h1, h2, h3⟩ := h
  have := h1.take hk
  rw [Nat.mul_one] at this
  refine ⟨_, this, by simp [h2], fun i l hl => ?_⟩
  rw [List.getElem?_take] at hl
  split at hl
  · next hi =>
    obtain ⟨A', n', c', e', hr⟩ := h3 i l hl
    exact ⟨A', n', c', by rw [List.getElem?_take, if_pos hi]; exact e', hr⟩
  · cases hl
theorem RdLL.drop (h : RdLL w B A n c LL) {k : Nat} (hk : k ≤ n) : RdLL w B (if c = k then A else A.map (·.add k)) (n - k) (c - k) (LL.drop k) := by
  have hn := h.len
  obtain ⟨vs, h1, h2, h3⟩ := h
  have := h1.drop hk
  rw [Nat.mul_one] at this
  refine ⟨_, this, by simp [h2], fun i l hl => ?_⟩
  rw [List.getElem?_drop] at hl
  obtain ⟨A', n', c', e', hr⟩ := h3 _ l hl
  exact ⟨A', n', c', by rw [List.getElem?_drop]; exact e', hr⟩
end
/-- one list, just laid -/
theorem RdLL.one {w : World} {B n c : Nat} {A : Option Addr} {l : List Lab} (h : RdL w B A n c l) (hB : B ≤ w.heap.size) :
    RdLL (w.alloc (.cells #[.slice A n c] 69)) (w.heap.size + 1) (some ⟨w.heap.size, 0, none⟩) 1 1 [l] :=
  ⟨[.slice A n c], ⟨Nat.le_refl _, by unfold maxLen; omega, rfl, fun _ => ⟨_, 0, rfl, by omega, fun i u hu => by
    match i, hu with
    | 0, hu =>
      simp at hu
      subst hu
      exact World.cell?_alloc_mark w _ _ _ 0⟩⟩, rfl, fun i l' hl => by
    match i, hl with
    | 0, hl =>
      simp at hl
      subst hl
      exact ⟨A, n, c, rfl, (h.alloc hB _).more (by omega)⟩⟩

/-- a row of rows of labels of the call's own -/
def OwnLL (w : World) (base : Nat) (A : Option Addr) (n c : Nat) (LL : List (List Lab)) : Prop :=
  ∃ vs : List Value, w.ownsRow base 69 1 (.slice A n c) n vs ∧ vs.length = LL.length ∧ (∀ u ∈ vs, u.oneCell' = true) ∧ ∀ (i : Nat) (l : List Lab), LL[i]? = some l → ∃ A' n' c', vs[i]? = some (.slice A' n' c') ∧ OwnL w base A' n' c' l
theorem OwnLL.nil (w : World) (base : Nat) : OwnLL w base none 0 0 [] := ⟨[], World.ownsRow_nil _ _ _ _, rfl, by simp, fun i l h => by simp at h⟩
theorem OwnLL.rd {w : World} {base n c : Nat} {A : Option Addr} {LL : List (List Lab)} (h : OwnLL w base A n c LL) : RdLL w w.heap.size A n c LL := by
  obtain ⟨vs, h1, h2, _, h3⟩ := h
  exact ⟨vs, Rd.of_own h1, h2, fun i l hl => by obtain ⟨A', n', c', e, ho⟩ := h3 i l hl; exact ⟨A', n', c', e, ho.rd⟩⟩
theorem OwnLL.below {w w' : World} {base n c : Nat} {A : Option Addr} {LL : List (List Lab)} (h : OwnLL w base A n c LL) (hb : Below w.heap.size w w') : OwnLL w' base A n c LL := by
  obtain ⟨vs, h1, h2, h4, h3⟩ := h
  refine ⟨vs, own_below h1 hb (fun g hg => (own_lt h1 g hg).2), h2, h4, fun i l hl => ?_⟩
  obtain ⟨A', n', c', e, ho⟩ := h3 i l hl
  exact ⟨A', n', c', e, own_below ho hb (fun g hg => (own_lt ho g hg).2)⟩
theorem infoLL : (Try.prog.info? 69).map (fun i => (i.zero, i.size, i.bytes)) = some (some (.slice none 0 0), 1, 24) := by kernel_rfl
/-- a header, just laid -/
theorem Rd.hdL (w : World) (A : Option Addr) (n c : Nat) : Rd (w.alloc (.cells #[.slice A n c] 69)) (w.heap.size + 1) 1 (some ⟨w.heap.size, 0, none⟩) 1 1 [.slice A n c] :=
  ⟨Nat.le_refl _, by unfold maxLen; omega, rfl, fun _ => ⟨_, 0, rfl, by omega, fun i u hu => by
    match i, hu with
    | 0, hu => simp at hu; subst hu; exact World.cell?_alloc_mark w _ _ _ 0⟩⟩
theorem OwnLL.push {w w4 : World} {base n c n1 c1 c4 : Nat} {A A1 A4 : Option Addr} {LL : List (List Lab)} {l : List Lab} {vs : List Value} {tmp : Obj}
    (hown : w.ownsRow base 69 1 (.slice A n c) n vs) (hl : vs.length = LL.length) (h1 : ∀ u ∈ vs, u.oneCell' = true)
    (hel : ∀ (i : Nat) (l : List Lab), LL[i]? = some l → ∃ A' n' c', vs[i]? = some (.slice A' n' c') ∧ OwnL w base A' n' c' l) (ho : OwnL w base A1 n1 c1 l)
    (hown4 : w4.ownsRow base 69 1 (.slice A4 (n + 1) c4) (n + 1) (vs ++ [.slice A1 n1 c1])) (hg : (w.alloc tmp).grownBy w4 (ab A)) : OwnLL w4 base A4 (n + 1) c4 (LL ++ [l]) := by
  have hk : ∀ {A' : Option Addr} {n' c' : Nat} {l' : List Lab}, OwnL w base A' n' c' l' → OwnL w4 base A' n' c' l' := fun h =>
    own_grown (World.ownsRow.alloc h tmp) hg (own_apart h hown (by decide))
  refine ⟨_, hown4, by simp [hl], ?_, fun i l' hi => ?_⟩
  · intro u hu
    rcases List.mem_append.1 hu with h | h
    · exact h1 u h
    · simp at h; subst h; rfl
  · rcases Nat.lt_trichotomy i LL.length with h | h | h
    · rw [List.getElem?_append_left h] at hi
      obtain ⟨A', n', c', e, h2⟩ := hel i l' hi
      exact ⟨A', n', c', by rw [List.getElem?_append_left (by omega)]; exact e, hk h2⟩
    · subst h
      simp at hi
      subst hi
      exact ⟨A1, n1, c1, by rw [← hl]; simp, hk ho⟩
    · rw [List.getElem?_eq_none (by simp; omega)] at hi
      cases hi
end Go.Proofs.Ythhcfocmaiacoaa
