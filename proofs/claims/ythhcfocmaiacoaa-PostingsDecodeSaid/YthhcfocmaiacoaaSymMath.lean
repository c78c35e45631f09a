/- Chapter 10, plain: tables of strings, and looking up in them. -/
import Derived.Test.YthhcfocmaiacoaaStrMath
import Derived.Shelf.Spec.SearchS
namespace Go.Proofs.Ythhcfocmaiacoaa
namespace Sy
/-- strings ascend -/
def Srt (l : List ByteArray) : Prop := l.Pairwise fun x y => St.lt x y = true
/-- t is the table of l -/
def Tab (l t : List ByteArray) : Prop := Srt t ∧ ∀ s, s ∈ t ↔ s ∈ l
theorem Srt.nodup {l : List ByteArray} (h : Srt l) : l.Nodup := by
  unfold Srt at h
  exact h.imp fun {a b} hab e => by rw [e, St.irrefl] at hab; cases hab
theorem srt_uniq {a b : List ByteArray} (ha : Srt a) (hb : Srt b) (h : ∀ s, s ∈ a ↔ s ∈ b) : a = b := by
  have hp : a.Perm b := (List.perm_ext_iff_of_nodup ha.nodup hb.nodup).2 h
  unfold Srt at ha hb
  refine List.Perm.eq_of_pairwise (fun x y _ _ h1 h2 => ?_) ha hb hp
  rw [St.asymm h1] at h2; cases h2
theorem Tab.uniq {l a b : List ByteArray} (ha : Tab l a) (hb : Tab l b) : a = b := srt_uniq ha.1 hb.1 fun s => (ha.2 s).trans (hb.2 s).symm
theorem Srt.lt {t : List ByteArray} (h : Srt t) {i j : Nat} (hi : i < t.length) (hj : j < t.length) (hij : i < j) : St.lt t[i] t[j] = true :=
  (List.pairwise_iff_getElem.1 h) i j hi hj hij
theorem Srt.inj {t : List ByteArray} (h : Srt t) {i j : Nat} (hi : i < t.length) (hj : j < t.length) (he : t[i] = t[j]) : i = j := by
  rcases Nat.lt_trichotomy i j with h1 | h1 | h1
  · have := h.lt hi hj h1; rw [he, St.irrefl] at this; cases this
  · exact h1
  · have := h.lt hj hi h1; rw [he, St.irrefl] at this; cases this
/-- where a string stands -/
def idx (t : List ByteArray) (s : ByteArray) : Option Nat := t.findIdx? fun x => decide (x = s)
theorem idx_some {t : List ByteArray} {s : ByteArray} {k : Nat} (h : idx t s = some k) : ∃ hk : k < t.length, t[k] = s ∧ ∀ j (hj : j < t.length), j < k → t[j] ≠ s := by
  unfold idx at h
  rw [List.findIdx?_eq_some_iff_getElem] at h
  obtain ⟨hk, h1, h2⟩ := h
  refine ⟨hk, by simpa using h1, fun j hj hjk => ?_⟩
  have := h2 j hjk
  simpa using this
theorem idx_at {t : List ByteArray} {s : ByteArray} {k : Nat} (hk : k < t.length) (h1 : t[k] = s) (h2 : ∀ j (hj : j < t.length), j < k → t[j] ≠ s) : idx t s = some k := by
  unfold idx
  rw [List.findIdx?_eq_some_iff_getElem]
  exact ⟨hk, by simpa using h1, fun j hj => by simpa using h2 j (by omega) hj⟩
theorem idx_none {t : List ByteArray} {s : ByteArray} : idx t s = none ↔ ∀ j (hj : j < t.length), t[j] ≠ s := by
  unfold idx
  rw [List.findIdx?_eq_none_iff]
  constructor
  · intro h j hj; simpa using h _ (List.getElem_mem hj)
  · intro h x hx
    obtain ⟨j, hj, rfl⟩ := List.mem_iff_getElem.1 hx
    simpa using h j hj
theorem idx_srt {t : List ByteArray} (h : Srt t) {s : ByteArray} {k : Nat} (hk : k < t.length) (he : t[k] = s) : idx t s = some k :=
  idx_at hk he fun j hj hjk e => by have := h.inj hj hk (e.trans he.symm); omega
/-- how many come before a string -/
theorem search {t : List ByteArray} (h : Srt t) (s : ByteArray) :
    Lib.bsGo (fun i => Op.bytesLess (t.getD i ByteArray.empty).toList s.toList) t.length 0 t.length = (t.filter fun x => St.lt x s).length := by
  have key : ∀ (l : List ByteArray), Srt l → ∃ k, k ≤ l.length ∧ (l.filter fun x => St.lt x s).length = k ∧ (∀ i (hi : i < l.length), i < k → St.lt l[i] s = true) ∧ (∀ i (hi : i < l.length), k ≤ i → St.lt l[i] s = false) := by
    intro l
    induction l with
    | nil => intro _; exact ⟨0, Nat.le_refl _, rfl, fun i hi => by simp at hi, fun i hi => by simp at hi⟩
    | cons x l ih =>
      intro hs
      have hs' := List.pairwise_cons.1 hs
      obtain ⟨k, h1, h2, h3, h4⟩ := ih hs'.2
      cases hx : St.lt x s with
      | true =>
        refine ⟨k + 1, by simp; omega, by simp [hx, h2], fun i hi hik => ?_, fun i hi hik => ?_⟩
        · cases i with
          | zero => exact hx
          | succ i => exact h3 i (by simpa using hi) (by omega)
        · cases i with
          | zero => omega
          | succ i => exact h4 i (by simpa using hi) (by omega)
      | false =>
        have hall : ∀ y ∈ l, St.lt y s = false := fun y hy => by
          rw [Bool.eq_false_iff]; intro hy2
          have := St.trans (hs'.1 y hy) hy2
          rw [hx] at this; cases this
        refine ⟨0, by omega, ?_, fun i hi hik => by omega, fun i hi _ => ?_⟩
        · rw [List.length_eq_zero_iff, List.filter_eq_nil_iff]
          intro y hy
          rcases List.mem_cons.1 hy with rfl | hy
          · simp [hx]
          · simp [hall y hy]
        · cases i with
          | zero => exact hx
          | succ i => exact hall _ (List.getElem_mem _)
  obtain ⟨k, h1, h2, h3, h4⟩ := key t h
  rw [h2]
  -- beyond the end the search never looks
  have e := Lib.bsGo_spec (fun i => if i < t.length then Op.bytesLess (t.getD i ByteArray.empty).toList s.toList else false) k
    (fun i hi => by have hil : i < t.length := by omega
                    rw [if_pos hil]; have := h3 i hil hi; simpa [St.lt, List.getD, hil] using this)
    (fun i hi => by
      by_cases hil : i < t.length
      · rw [if_pos hil]; have := h4 i hil hi; simpa [St.lt, List.getD, hil] using this
      · rw [if_neg hil])
    t.length 0 t.length (by omega) (by omega) h1
  rw [← e]
  have go : ∀ f lo hi, hi ≤ t.length → Lib.bsGo (fun i => Op.bytesLess (t.getD i ByteArray.empty).toList s.toList) f lo hi = Lib.bsGo (fun i => if i < t.length then Op.bytesLess (t.getD i ByteArray.empty).toList s.toList else false) f lo hi := by
    intro f
    induction f with
    | zero => intro lo hi _; rfl
    | succ f ih =>
      intro lo hi hh
      unfold Lib.bsGo
      by_cases hlt : lo < hi
      · rw [if_pos hlt, if_pos hlt, if_pos (show (lo + hi) / 2 < t.length by omega)]
        split
        · exact ih _ _ hh
        · exact ih _ _ (by omega)
      · rw [if_neg hlt, if_neg hlt]
  exact go _ _ _ (Nat.le_refl _)
/-- the place and whether it is there: as the program's Index answers -/
theorem search_idx {t : List ByteArray} (h : Srt t) (s : ByteArray) :
    let I := (t.filter fun x => St.lt x s).length
    (idx t s = some I ∧ ∃ hI : I < t.length, t[I] = s) ∨ (idx t s = none ∧ ¬ ∃ hI : I < t.length, t[I] = s) := by
  intro I
  by_cases hI : ∃ hI : I < t.length, t[I] = s
  · obtain ⟨h1, h2⟩ := hI
    exact .inl ⟨idx_srt h h1 h2, h1, h2⟩
  · refine .inr ⟨idx_none.2 fun j hj he => hI ?_, hI⟩
    have hIj : I = j := by
      show (t.filter fun x => St.lt x s).length = j
      have e : t = t.take j ++ t.drop j := (List.take_append_drop j t).symm
      have f1 : (t.take j).filter (fun x => St.lt x s) = t.take j := by
        rw [List.filter_eq_self]
        intro x hx
        obtain ⟨i, hi, rfl⟩ := List.mem_iff_getElem.1 hx
        rw [List.length_take] at hi
        rw [List.getElem_take, ← he]
        exact h.lt (by omega) hj (by omega)
      have f2 : (t.drop j).filter (fun x => St.lt x s) = [] := by
        rw [List.filter_eq_nil_iff]
        intro x hx
        obtain ⟨i, hi, rfl⟩ := List.mem_iff_getElem.1 hx
        rw [List.length_drop] at hi
        rw [List.getElem_drop, ← he]
        by_cases h0 : i = 0
        · subst h0; simp [St.irrefl]
        · have := h.lt hj (show j + i < t.length by omega) (by omega)
          rw [St.asymm this]; simp
      conv => lhs; rw [e]
      rw [List.filter_append, f1, f2, List.append_nil, List.length_take]; omega
    exact ⟨by omega, by simpa [hIj] using he⟩
/-- one insertion -/
theorem srt_ins {out : List ByteArray} {x : ByteArray} (h : Srt out) (k : Nat) (hk : k ≤ out.length) (h1 : ∀ j (hj : j < out.length), j < k → St.lt out[j] x = true) (h2 : ∀ (hj : k < out.length), St.lt x out[k] = true) :
    Srt (out.take k ++ x :: out.drop k) := by
  unfold Srt at *
  rw [List.pairwise_append]
  refine ⟨h.sublist (List.take_sublist _ _), ?_, ?_⟩
  · rw [List.pairwise_cons]
    refine ⟨fun y hy => ?_, h.sublist (List.drop_sublist _ _)⟩
    obtain ⟨j, hj, rfl⟩ := List.mem_iff_getElem.1 hy
    rw [List.length_drop] at hj
    rw [List.getElem_drop]
    have hkl : k < out.length := by omega
    by_cases h0 : j = 0
    · subst h0; exact h2 hkl
    · exact St.trans (h2 hkl) ((List.pairwise_iff_getElem.1 h) k (k + j) hkl (by omega) (by omega))
  · intro a ha b hb
    obtain ⟨i, hi, rfl⟩ := List.mem_iff_getElem.1 ha
    rw [List.length_take] at hi
    rw [List.getElem_take]
    have hax := h1 i (by omega) (by omega)
    rcases List.mem_cons.1 hb with rfl | hb
    · exact hax
    · obtain ⟨j, hj, rfl⟩ := List.mem_iff_getElem.1 hb
      rw [List.length_drop] at hj
      rw [List.getElem_drop]
      exact (List.pairwise_iff_getElem.1 h) i (k + j) (by omega) (by omega) (by omega)
theorem tab_ins {out l : List ByteArray} {x : ByteArray} {i : Nat} (h : Tab (l.take i) out) (hi : i < l.length) (hx : x = l[i]) (k : Nat) (hk : k ≤ out.length) (h1 : ∀ j (hj : j < out.length), j < k → St.lt out[j] x = true) (h2 : ∀ (hj : k < out.length), St.lt x out[k] = true) :
    Tab (l.take (i + 1)) (out.take k ++ x :: out.drop k) := by
  refine ⟨srt_ins h.1 k hk h1 h2, fun s => ?_⟩
  have e : s ∈ out.take k ++ x :: out.drop k ↔ s = x ∨ s ∈ out := by
    rw [List.mem_append, List.mem_cons]
    conv => rhs; rw [← List.take_append_drop k out, List.mem_append]
    constructor
    · rintro (h | h | h)
      · exact .inr (.inl h)
      · exact .inl h
      · exact .inr (.inr h)
    · rintro (h | h | h)
      · exact .inr (.inl h)
      · exact .inl h
      · exact .inr (.inr h)
  rw [e, h.2 s, List.take_succ_eq_append_getElem hi, List.mem_append, ← hx]
  simp [or_comm]
theorem tab_same {out l : List ByteArray} {x : ByteArray} {i : Nat} (h : Tab (l.take i) out) (hi : i < l.length) (hx : x = l[i]) (k : Nat) (hk : k < out.length) (he : out[k] = x) : Tab (l.take (i + 1)) out := by
  refine ⟨h.1, fun s => ?_⟩
  have hm : x ∈ out := he ▸ List.getElem_mem hk
  rw [List.take_succ_eq_append_getElem hi, List.mem_append, ← hx, h.2 s]
  refine ⟨fun h => .inl h, fun h' => h'.elim id fun h' => ?_⟩
  rw [List.mem_singleton] at h'
  rw [h']; exact (h.2 x).1 hm
theorem Tab.size {l t : List ByteArray} (h : Tab l t) {m : Nat} (hm : ∀ s ∈ l, s.size ≤ m) : ∀ s ∈ t, s.size ≤ m := fun s hs => hm s ((h.2 s).1 hs)
theorem nodup_len {α : Type} [DecidableEq α] : ∀ (a b : List α), a.Nodup → (∀ x ∈ a, x ∈ b) → a.length ≤ b.length
  | [], b, _, _ => Nat.zero_le _
  | x :: a, b, h, hs => by
    have h' := List.nodup_cons.1 h
    have hx : x ∈ b := hs x (by simp)
    have := nodup_len a (b.erase x) h'.2 fun y hy => by
      have hne : y ≠ x := fun e => h'.1 (e ▸ hy)
      exact (List.mem_erase_of_ne hne).2 (hs y (by simp [hy]))
    rw [List.length_erase_of_mem hx] at this
    have := List.length_pos_of_mem hx
    simp; omega
theorem Tab.len {l t : List ByteArray} (h : Tab l t) : t.length ≤ l.length := nodup_len t l h.1.nodup fun s hs => (h.2 s).1 hs
end Sy
end Go.Proofs.Ythhcfocmaiacoaa
