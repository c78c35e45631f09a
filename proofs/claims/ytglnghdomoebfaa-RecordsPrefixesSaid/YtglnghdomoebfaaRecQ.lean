/- Chapter 13, plain: the readers of strings, labels, lengths, lists, records are good. -/
import Derived.Test.YtglnghdomoebfaaRecP
namespace Go.Proofs.Ytglnghdomoebfaa
open Go.RowKit Go.Shelf

namespace Rc
theorem sym_good {T : List ByteArray} (hS : Sy.Srt T) (hT : T.length ≤ mx) : Good (sym T) (symE T) (fun s => (Sy.idx T s).isSome = true) where
  canon := fun l a x a' ha h => by
    unfold sym at h
    simp only [] at h
    split at h
    · rename_i h1
      simp only [Prod.mk.injEq] at h
      exact absurd h.2.2 h1
    · rename_i h1
      split at h
      · simp at h
      · rename_i h2
        simp only [Prod.mk.injEq] at h
        obtain ⟨h3, h4, -⟩ := h
        have hk : (Wr.uint l a 0 mx).1 < T.length := by omega
        have hx : T[(Wr.uint l a 0 mx).1] = x := by rw [← h3]; simp [List.getD, hk]
        have hi := Sy.idx_srt hS hk hx
        obtain ⟨c1, c2, c3, c4⟩ := uint_good.canon l a _ a' ha (show Wr.uint l a 0 mx = ((Wr.uint l a 0 mx).1, a', 0) by rw [← h4]; exact Prod.ext rfl (Prod.ext rfl (by simpa using h1)))
        refine ⟨by rw [hi]; rfl, ?_, c3, c4⟩
        unfold symE
        rw [hi]
        exact c2
  fwd := fun p x r hx => by
    obtain ⟨k, hk⟩ := Option.isSome_iff_exists.1 hx
    obtain ⟨hk2, hx2, -⟩ := Sy.idx_some hk
    have hE : symE T x = Vi.enc k := by unfold symE; rw [hk]; rfl
    rw [hE]
    have h := uint_good.fwd p k r (by omega)
    unfold sym
    rw [h]
    simp only []
    rw [if_neg (by simp), if_neg (by omega)]
    simp [List.getD, hk2, hx2]
  app := fun l m a ha h => by
    have h' : (Wr.uint l a 0 mx).2.2 ≠ 3 := fun e => by
      apply h
      unfold sym
      simp only []
      rw [if_pos (by rw [e]; decide), e]
    have := uint_good.app l m a ha h'
    unfold sym
    rw [this]
  bad := ⟨ByteArray.empty, fun l a e he => by
    have h : Wr.uint l a e mx = (0, a, e) := by unfold Wr.uint; rw [if_pos he]
    unfold sym
    rw [h]
    exact if_pos he⟩
  pos := fun x _ => Vi.enc_pos _
theorem len_good : Good len Vi.enc (fun n => 1 ≤ n ∧ n ≤ 2147483647) where
  canon := fun l a x a' ha h => by
    unfold len at h
    simp only [] at h
    split at h
    · simp only [Prod.mk.injEq] at h
      have := h.2.2
      split at this
      · cases this
      · rename_i h1; exact absurd this h1
    · rename_i h1
      obtain ⟨c1, c2, c3, c4⟩ := uint_good.canon l a x a' ha h
      rw [h] at h1
      exact ⟨by simp only [] at h1; omega, c2, c3, c4⟩
  fwd := fun p x r hx => by
    have h := uint_good.fwd p x r (by unfold mx; omega)
    unfold len
    rw [h]
    simp only []
    rw [if_neg (by omega)]
  app := fun l m a ha h => by
    have h' : (Wr.uint l a 0 mx).2.2 ≠ 3 := fun e => by
      apply h
      unfold len
      simp only []
      split
      · simp only [e]; rfl
      · exact e
    have := uint_good.app l m a ha h'
    unfold len
    rw [this]
  bad := ⟨0, fun l a e he => by
    have h : Wr.uint l a e mx = (0, a, e) := by unfold Wr.uint; rw [if_pos he]
    unfold len
    rw [h]
    simp only []
    rw [if_pos (.inl (by omega)), if_neg he]⟩
  pos := fun x _ => Vi.enc_pos _
section
variable {X Y : Type} {rd : List UInt8 → Nat → Int → X × Nat × Int} {E : X → List UInt8} {OK : X → Prop}
def pr (rd : List UInt8 → Nat → Int → X × Nat × Int) (rd2 : List UInt8 → Nat → Int → Y × Nat × Int) (l : List UInt8) (a : Nat) (e : Int) : (X × Y) × Nat × Int :=
  let r := rd l a e
  let s := rd2 l r.2.1 r.2.2
  ((r.1, s.1), s.2)
theorem pr_good {rd2 : List UInt8 → Nat → Int → Y × Nat × Int} {E2 : Y → List UInt8} {OK2 : Y → Prop} (g : Good rd E OK) (g2 : Good rd2 E2 OK2) : Good (pr rd rd2) (fun x => E x.1 ++ E2 x.2) (fun x => OK x.1 ∧ OK2 x.2) where
  canon := fun l a x a' ha h => by
    unfold pr at h
    simp only [] at h
    have h0 : (rd l a 0).2.2 = 0 := by
      apply Classical.byContradiction
      intro hn
      have := g2.err l (rd l a 0).2.1 _ hn
      have h2 := congrArg (fun z => z.2.2) h
      simp only [] at h2
      rw [this] at h2
      exact hn h2
    obtain ⟨c1, c2, c3, c4⟩ := g.canon l a (rd l a 0).1 (rd l a 0).2.1 ha (Prod.ext rfl (Prod.ext rfl h0))
    rw [h0] at h
    simp only [Prod.mk.injEq] at h
    obtain ⟨h1, h2⟩ := h
    obtain ⟨d1, d2, d3, d4⟩ := g2.canon l _ (rd2 l (rd l a 0).2.1 0).1 a' c4 (Prod.ext rfl h2)
    subst h1
    exact ⟨⟨c1, d1⟩, by rw [c2, d2, List.append_assoc], by omega, d4⟩
  fwd := fun p x r hx => by
    obtain ⟨h1, h2, h3⟩ := g.at_ (l := p ++ (E x.1 ++ E2 x.2 ++ r)) (a := p.length) (r := E2 x.2 ++ r) hx.1 (by rw [List.drop_left, List.append_assoc]) (by simp)
    obtain ⟨i1, i2, i3⟩ := g2.at_ hx.2 h2 h3
    unfold pr
    rw [h1]
    simp only []
    rw [i1]
    simp only [List.length_append, Nat.add_assoc]
  app := fun l m a ha h => by
    have h1 : (rd l a 0).2.2 ≠ 3 := fun e => by
      apply h
      unfold pr
      simp only []
      rw [e]
      exact g2.err _ _ 3 (by decide)
    unfold pr at h ⊢
    rw [g.app l m a ha h1]
    simp only [] at h ⊢
    by_cases h0 : (rd l a 0).2.2 = 0
    · obtain ⟨c1, c2, c3, c4⟩ := g.canon l a (rd l a 0).1 (rd l a 0).2.1 ha (Prod.ext rfl (Prod.ext rfl h0))
      rw [h0] at h ⊢
      rw [g2.app l m _ c4 h]
    · obtain ⟨d, hd⟩ := g2.bad
      rw [hd _ _ _ h0, hd _ _ _ h0]
  bad := by
    obtain ⟨d, hd⟩ := g.bad
    obtain ⟨d2, hd2⟩ := g2.bad
    exact ⟨(d, d2), fun l a e he => by unfold pr; rw [hd l a e he]; simp only []; rw [hd2 l a e he]⟩
  pos := fun x hx => by have := g.pos x.1 hx.1; simp; omega
/-- a reader whose value is named otherwise -/
theorem map_good {rd2 : List UInt8 → Nat → Int → Y × Nat × Int} {E2 : Y → List UInt8} {OK2 : Y → Prop} (f : X → Y) (f' : Y → X) (hf : ∀ y, f (f' y) = y) (g : Good rd E OK) (hr : ∀ l a e, rd2 l a e = (f (rd l a e).1, (rd l a e).2)) (hE : ∀ x, E2 (f x) = E x) (hO : ∀ x, OK2 (f x) ↔ OK x) : Good rd2 E2 OK2 where
  canon := fun l a y a' ha h => by
    rw [hr] at h
    simp only [Prod.mk.injEq] at h
    obtain ⟨h1, h2⟩ := h
    obtain ⟨c1, c2, c3, c4⟩ := g.canon l a (rd l a 0).1 a' ha (Prod.ext rfl h2)
    subst h1
    exact ⟨(hO _).2 c1, by rw [hE]; exact c2, c3, c4⟩
  fwd := fun p y r hy => by
    rw [← hf y] at hy ⊢
    rw [hr, hE, g.fwd p (f' y) r ((hO _).1 hy)]
  app := fun l m a ha h => by
    rw [hr] at h
    rw [hr, hr, g.app l m a ha h]
  bad := by
    obtain ⟨d, hd⟩ := g.bad
    exact ⟨f d, fun l a e he => by rw [hr, hd l a e he]⟩
  pos := fun y hy => by
    rw [← hf y] at hy ⊢
    rw [hE]
    exact g.pos _ ((hO _).1 hy)
/-- lists of what a reader reads -/
def lsR (rd : List UInt8 → Nat → Int → X × Nat × Int) (l : List UInt8) (a : Nat) (e : Int) : List X × Nat × Int := lst (rd l) (cnt l a e).1 [] (cnt l a e).2.1 (cnt l a e).2.2
def lsE (E : X → List UInt8) (xs : List X) : List UInt8 := Vi.enc xs.length ++ xs.flatMap E
theorem lst_canon (g : Good rd E OK) : ∀ (n : Nat) (l : List UInt8) (acc : List X) (a : Nat) (xs : List X) (a' : Nat), a ≤ l.length → lst (rd l) n acc a 0 = (xs, a', 0) → ∃ ys, xs = acc ++ ys ∧ ys.length = n ∧ (∀ y ∈ ys, OK y) ∧ l.drop a = ys.flatMap E ++ l.drop a' ∧ a ≤ a' ∧ a' ≤ l.length
  | 0, l, acc, a, xs, a', ha, h => by
    rw [lst_zero] at h
    simp only [Prod.mk.injEq, and_true] at h
    obtain ⟨rfl, rfl⟩ := h
    exact ⟨[], by simp, rfl, by simp, by simp, Nat.le_refl _, ha⟩
  | n + 1, l, acc, a, xs, a', ha, h => by
    by_cases h0 : (rd l a 0).2.2 = 0
    · rw [lst_ok _ _ _ _ _ (by omega) h0] at h
      obtain ⟨c1, c2, c3, c4⟩ := g.canon l a (rd l a 0).1 (rd l a 0).2.1 ha (Prod.ext rfl (Prod.ext rfl h0))
      obtain ⟨ys, d1, d2, d3, d4, d5, d6⟩ := lst_canon g n l _ _ xs a' c4 h
      refine ⟨(rd l a 0).1 :: ys, by rw [d1]; simp, by simp [d2], fun y hy => ?_, by rw [c2, d4]; simp, by omega, d6⟩
      rcases List.mem_cons.1 hy with rfl | hy
      · exact c1
      · exact d3 y hy
    · rw [lst_bad _ _ _ _ _ (by omega) h0] at h
      simp only [Prod.mk.injEq] at h
      exact absurd h.2.2 h0
theorem lst_fwd (g : Good rd E OK) : ∀ (ys : List X) (l : List UInt8) (acc : List X) (a : Nat) (r : List UInt8), (∀ y ∈ ys, OK y) → l.drop a = ys.flatMap E ++ r → a ≤ l.length → lst (rd l) ys.length acc a 0 = (acc ++ ys, a + (ys.flatMap E).length, 0)
  | [], l, acc, a, r, h, hd, ha => by rw [List.length_nil, lst_zero]; simp
  | y :: ys, l, acc, a, r, h, hd, ha => by
    rw [List.flatMap_cons, List.append_assoc] at hd
    obtain ⟨h1, h2, h3⟩ := g.at_ (h y (by simp)) hd ha
    rw [lst_ok _ _ _ _ _ (by simp) (by rw [h1]), h1]
    simp only []
    rw [List.length_cons, Nat.add_sub_cancel, lst_fwd g ys l _ _ r (fun z hz => h z (by simp [hz])) h2 h3]
    simp [Nat.add_assoc]
theorem lst_app (g : Good rd E OK) (m : List UInt8) : ∀ (n : Nat) (l : List UInt8) (acc : List X) (a : Nat), a ≤ l.length → (lst (rd l) n acc a 0).2.2 ≠ 3 → lst (rd (l ++ m)) n acc a 0 = lst (rd l) n acc a 0
  | 0, l, acc, a, ha, h => rfl
  | n + 1, l, acc, a, ha, h => by
    by_cases h0 : (rd l a 0).2.2 = 0
    · rw [lst_ok _ _ _ _ _ (by omega) h0] at h ⊢
      obtain ⟨c1, c2, c3, c4⟩ := g.canon l a (rd l a 0).1 (rd l a 0).2.1 ha (Prod.ext rfl (Prod.ext rfl h0))
      have ha2 := g.app l m a ha (by rw [h0]; decide)
      rw [lst_ok _ _ _ _ _ (by omega) (by rw [ha2]; exact h0), ha2]
      exact lst_app g m n l _ _ c4 h
    · rw [lst_bad _ _ _ _ _ (by omega) h0] at h ⊢
      have ha2 := g.app l m a ha h
      rw [lst_bad _ _ _ _ _ (by omega) (by rw [ha2]; exact h0), ha2]
theorem flat_len (g : Good rd E OK) : ∀ (ys : List X), (∀ y ∈ ys, OK y) → ys.length ≤ (ys.flatMap E).length
  | [], _ => by simp
  | y :: ys, h => by
    have h1 := g.pos y (h y (by simp))
    have h2 := flat_len g ys fun z hz => h z (by simp [hz])
    rw [List.flatMap_cons, List.length_append, List.length_cons]; omega
theorem cnt_ok {l : List UInt8} {a n a' : Nat} (h : cnt l a 0 = (n, a', 0)) : Wr.uint l a 0 mx = (n, a', 0) ∧ n ≤ l.length - a' := by
  unfold cnt at h
  simp only [] at h
  split at h
  · rename_i h1
    simp only [Prod.mk.injEq] at h
    exact absurd h.2.2 h1
  · split at h
    · simp at h
    · rename_i h2
      rw [h] at h2
      exact ⟨h, by simp only [] at h2; omega⟩
theorem ls_good (g : Good rd E OK) : Good (lsR rd) (lsE E) (fun xs => xs.length ≤ mx ∧ ∀ x ∈ xs, OK x) where
  canon := fun l a xs a' ha h => by
    unfold lsR at h
    by_cases h0 : (cnt l a 0).2.2 = 0
    · obtain ⟨u1, u2⟩ := cnt_ok (show cnt l a 0 = ((cnt l a 0).1, (cnt l a 0).2.1, 0) from Prod.ext rfl (Prod.ext rfl h0))
      obtain ⟨c1, c2, c3, c4⟩ := uint_good.canon l a _ _ ha u1
      rw [h0] at h
      obtain ⟨ys, d1, d2, d3, d4, d5, d6⟩ := lst_canon g _ l _ _ xs a' c4 h
      rw [List.nil_append] at d1
      subst d1
      refine ⟨⟨by rw [d2]; exact c1, d3⟩, ?_, by omega, d6⟩
      unfold lsE
      rw [c2, d4, d2, List.append_assoc]
    · have hz : (cnt l a 0).1 = 0 := by
        unfold cnt at h0 ⊢
        simp only [] at h0 ⊢
        split
        · rfl
        · split
          · rfl
          · rename_i h1 h2
            rw [if_neg h1, if_neg h2] at h0
            exact absurd (by simpa using h1) h0
      rw [hz, lst_zero] at h
      simp only [Prod.mk.injEq] at h
      exact absurd h.2.2 h0
  fwd := fun p xs r hx => by
    have hu := uint_good.fwd p xs.length (xs.flatMap E ++ r) hx.1
    have hl := flat_len g xs hx.2
    have hc : cnt (p ++ (lsE E xs ++ r)) p.length 0 = (xs.length, p.length + (Vi.enc xs.length).length, 0) := by
      unfold cnt lsE
      rw [List.append_assoc]
      simp only []
      rw [hu]
      simp only []
      rw [if_neg (by simp), if_neg (by simp only [List.length_append]; omega)]
    unfold lsR
    rw [hc]
    simp only []
    rw [lst_fwd g xs _ _ _ r hx.2 (by
      unfold lsE
      rw [← List.drop_drop, List.drop_left, List.append_assoc, List.drop_left]) (by unfold lsE; simp)]
    unfold lsE
    simp [Nat.add_assoc]
  app := fun l m a ha h => by
    unfold lsR at h ⊢
    have h1 : (cnt l a 0).2.2 ≠ 3 := fun e => by
      have hz : (cnt l a 0).1 = 0 := by
        unfold cnt at e ⊢
        simp only [] at e ⊢
        split
        · rfl
        · split
          · rfl
          · rename_i h1 h2
            rw [if_neg h1, if_neg h2] at e
            rw [e] at h1
            exact absurd (by decide) h1
      rw [hz, lst_zero] at h
      exact h e
    have hu : (Wr.uint l a 0 mx).2.2 ≠ 3 := fun e => by
      apply h1
      unfold cnt
      simp only []
      rw [if_pos (by rw [e]; decide), e]
    have hua := uint_good.app l m a ha hu
    have hc : cnt (l ++ m) a 0 = cnt l a 0 := by
      unfold cnt
      rw [hua]
      simp only []
      by_cases h2 : (Wr.uint l a 0 mx).2.2 ≠ 0
      · rw [if_pos h2, if_pos h2]
      · rw [if_neg h2, if_neg h2]
        have h3 : ¬ l.length - (Wr.uint l a 0 mx).2.1 < (Wr.uint l a 0 mx).1 := fun h3 => by
          apply h1
          unfold cnt
          simp only []
          rw [if_neg h2, if_pos h3]
        rw [if_neg h3, if_neg (by rw [List.length_append]; omega)]
    rw [hc]
    by_cases h0 : (cnt l a 0).2.2 = 0
    · obtain ⟨u1, u2⟩ := cnt_ok (show cnt l a 0 = ((cnt l a 0).1, (cnt l a 0).2.1, 0) from Prod.ext rfl (Prod.ext rfl h0))
      obtain ⟨c1, c2, c3, c4⟩ := uint_good.canon l a _ _ ha u1
      rw [h0] at h ⊢
      exact lst_app g m _ l _ _ c4 h
    · have hz : (cnt l a 0).1 = 0 := by
        unfold cnt at h0 ⊢
        simp only [] at h0 ⊢
        split
        · rfl
        · split
          · rfl
          · rename_i h1 h2
            rw [if_neg h1, if_neg h2] at h0
            exact absurd (by simpa using h1) h0
      rw [hz, lst_zero, lst_zero]
  bad := ⟨[], fun l a e he => by
    have h : Wr.uint l a e mx = (0, a, e) := by unfold Wr.uint; rw [if_pos he]
    have hc : cnt l a e = (0, a, e) := by
      unfold cnt
      rw [h]
      exact if_pos he
    unfold lsR
    rw [hc, lst_zero]⟩
  pos := fun xs _ => by unfold lsE; have := Vi.enc_pos xs.length; simp; omega
end
theorem lab_good {T : List ByteArray} (hS : Sy.Srt T) (hT : T.length ≤ mx) : Good (lab T) (fun x => symE T x.n ++ symE T x.v) (fun x => (Sy.idx T x.n).isSome = true ∧ (Sy.idx T x.v).isSome = true) :=
  map_good (fun p => (⟨p.1, p.2⟩ : Lab)) (fun x => (x.n, x.v)) (fun _ => rfl) (pr_good (sym_good hS hT) (sym_good hS hT)) (fun _ _ _ => rfl) (fun _ => rfl) (fun _ => Iff.rfl)
theorem labs_eq (T : List ByteArray) : labs T = lsR (lab T) := rfl
theorem lens_eq : lens = lsR len := rfl
def recN (T : List ByteArray) (r : List Lab × List Nat) : List UInt8 := lsE (fun x : Lab => symE T x.n ++ symE T x.v) r.1 ++ lsE Vi.enc r.2
def okN (T : List ByteArray) (r : List Lab × List Nat) : Prop :=
  ((r.1.length ≤ mx ∧ ∀ x ∈ r.1, (Sy.idx T x.n).isSome = true ∧ (Sy.idx T x.v).isSome = true) ∧ r.2.length ≤ mx ∧ ∀ n ∈ r.2, 1 ≤ n ∧ n ≤ 2147483647) ∧ r.2 ≠ []
theorem rec_eq (T : List ByteArray) (l : List UInt8) (a : Nat) (e : Int) : rec T l a e = ((pr (labs T) lens l a e).1, (pr (labs T) lens l a e).2.1, if (pr (labs T) lens l a e).1.2 = [] ∧ (pr (labs T) lens l a e).2.2 = 0 then 23 else (pr (labs T) lens l a e).2.2) := rfl
theorem rec_good {T : List ByteArray} (hS : Sy.Srt T) (hT : T.length ≤ mx) : Good (rec T) (recN T) (okN T) :=
  have g : Good (pr (labs T) lens) (recN T) (fun r => (r.1.length ≤ mx ∧ ∀ x ∈ r.1, (Sy.idx T x.n).isSome = true ∧ (Sy.idx T x.v).isSome = true) ∧ r.2.length ≤ mx ∧ ∀ n ∈ r.2, 1 ≤ n ∧ n ≤ 2147483647) := by
    rw [labs_eq, lens_eq]
    exact pr_good (ls_good (lab_good hS hT)) (ls_good len_good)
  { canon := fun l a x a' ha h => by
      rw [rec_eq] at h
      simp only [Prod.mk.injEq] at h
      obtain ⟨h1, h2, h3⟩ := h
      by_cases hc : (pr (labs T) lens l a 0).1.2 = [] ∧ (pr (labs T) lens l a 0).2.2 = 0
      · rw [if_pos hc] at h3; cases h3
      · rw [if_neg hc] at h3
        obtain ⟨c1, c2, c3, c4⟩ := g.canon l a x a' ha (Prod.ext h1 (Prod.ext h2 h3))
        exact ⟨⟨c1, fun e => hc ⟨by rw [h1]; exact e, h3⟩⟩, c2, c3, c4⟩
    fwd := fun p x r hx => by
      rw [rec_eq, g.fwd p x r hx.1]
      simp only []
      rw [if_neg (fun h => hx.2 h.1)]
    app := fun l m a ha h => by
      rw [rec_eq] at h
      simp only [] at h
      have h' : (pr (labs T) lens l a 0).2.2 ≠ 3 := fun e => by
        apply h
        rw [if_neg (by rw [e]; intro h; cases h.2), e]
      rw [rec_eq, rec_eq, g.app l m a ha h']
    bad := by
      obtain ⟨d, hd⟩ := g.bad
      exact ⟨d, fun l a e he => by
        rw [rec_eq, hd l a e he]
        simp only []
        rw [if_neg (fun h => he h.2)]⟩
    pos := fun x hx => g.pos x hx.1 }
theorem recs_eq (T : List ByteArray) : recs T = lsR (rec T) := rfl
theorem recs_good {T : List ByteArray} (hS : Sy.Srt T) (hT : T.length ≤ mx) : Good (recs T) (lsE (recN T)) (fun rs => rs.length ≤ mx ∧ ∀ r ∈ rs, okN T r) := by
  rw [recs_eq]; exact ls_good (rec_good hS hT)
theorem strs_flat (T : List ByteArray) (L : List Lab) : (Lb.strs L).flatMap (symE T) = L.flatMap fun x => symE T x.n ++ symE T x.v := by
  unfold Lb.strs
  induction L with
  | nil => rfl
  | cons x L ih => rw [List.flatMap_cons, List.flatMap_append, ih, List.flatMap_cons]; simp
theorem recE_to (T : List ByteArray) (r : List Lab × List Nat) : recE T (toRec r) = recN T r := by
  unfold recE toRec recN lsE
  simp only []
  rw [strs_flat, List.length_map, List.flatMap_map]
  rfl
theorem encB_to (T : List ByteArray) (rs : List (List Lab × List Nat)) : encB T (rs.map toRec) = lsE (recN T) rs := by
  unfold encB lsE
  rw [List.length_map, List.flatMap_map]
  congr 1
  congr 1
  funext r
  exact recE_to T r
theorem chErr_to {C : List Nat} (h : ∀ n ∈ C, 1 ≤ n ∧ n ≤ 2147483647) : chErr (C.map Int.ofNat) = 0 := by
  induction C with
  | nil => rfl
  | cons n C ih =>
    rw [List.map_cons, chErr, if_neg (by have := h n (by simp); simp; omega)]
    exact ih fun m hm => h m (by simp [hm])
theorem symErr_to {T : List ByteArray} {C : List Int} (hC : C ≠ []) (h2 : chErr C = 0) {ss : List ByteArray} (h : ∀ s ∈ ss, (Sy.idx T s).isSome = true) : symErr T C ss = 0 := by
  induction ss with
  | nil => rw [symErr, if_neg hC, h2]
  | cons s ss ih =>
    rw [symErr, if_neg (by have := h s (by simp); intro e; rw [e] at this; cases this)]
    exact ih fun t ht => h t (by simp [ht])
theorem err_to {T : List ByteArray} {rs : List (List Lab × List Nat)} (h : ∀ r ∈ rs, okN T r) : err T (rs.map toRec) = 0 := by
  induction rs with
  | nil => rfl
  | cons r rs ih =>
    obtain ⟨⟨⟨h1, h2⟩, h3, h4⟩, h5⟩ := h r (by simp)
    have h0 : symErr T (toRec r).2 (Lb.strs (toRec r).1) = 0 := symErr_to (show r.2.map Int.ofNat ≠ [] by simpa using h5) (chErr_to h4) fun s hs => by
      unfold toRec Lb.strs at hs
      simp only [List.mem_flatMap] at hs
      obtain ⟨x, hx, hs⟩ := hs
      simp at hs
      rcases hs with rfl | rfl
      · exact (h2 x hx).1
      · exact (h2 x hx).2
    rw [List.map_cons, err, if_neg (by rw [h0]; simp)]
    exact ih fun q hq => h q (by simp [hq])
theorem dec_bad {T : List ByteArray} {l : List UInt8} (h : (dec T l).2 ≠ 0) : (dec T l).1 = [] := by
  unfold dec at h ⊢
  simp only [] at h ⊢
  split at h
  · rename_i h1; rw [if_pos h1]
  · exact absurd rfl h
/-- what Decode accepts is the encoding of what it read -/
theorem dec_canon {T : List ByteArray} (hS : Sy.Srt T) (hT : T.length ≤ mx) {l : List UInt8} {rs : List RecV} (h : dec T l = (rs, 0)) : enc T rs = (l, 0) ∧ encB T rs = l ∧ rs.length ≤ l.length ∧ ∀ r ∈ rs, r.1.length ≤ l.length ∧ r.2.length ≤ l.length := by
  unfold dec at h
  simp only [] at h
  split at h
  · rename_i h1
    simp only [Prod.mk.injEq] at h
    exact absurd h.2 h1
  · rename_i h1
    simp only [Prod.mk.injEq, and_true] at h
    have h2 : Wr.fin l (recs T l 0 0).2.1 (recs T l 0 0).2.2 = 0 := by simpa using h1
    unfold Wr.fin at h2
    split at h2
    · rename_i h3; exact absurd h2 h3
    · rename_i h3
      have h3' : (recs T l 0 0).2.2 = 0 := by simpa using h3
      split at h2
      · cases h2
      · rename_i h4
        obtain ⟨⟨c0, c1⟩, c2, c3, c4⟩ := (recs_good hS hT).canon l 0 _ _ (Nat.zero_le _) (Prod.ext rfl (Prod.ext rfl h3'))
        have c4' : (recs T l 0 0).2.1 ≤ l.length := c4
        have h4' : ¬ (recs T l 0 0).2.1 < l.length := h4
        rw [List.drop_zero, List.drop_eq_nil_of_le (Nat.le_of_not_lt h4'), List.append_nil] at c2
        subst h
        refine ⟨?_, ?_, ?_, ?_⟩
        · unfold enc
          rw [if_pos (err_to c1), encB_to, ← c2]
        · rw [encB_to, ← c2]
        · have e1 := flat_len (rec_good hS hT) _ c1
          have e4 := congrArg List.length c2
          unfold lsE at e4
          rw [List.length_append] at e4
          rw [List.length_map]
          generalize ((recs T l 0 0).1.flatMap (recN T)).length = F at e1 e4
          have e5 : (recs T l 0 0).1.length ≤ F := e1
          exact Nat.le_trans e5 (by omega)
        · intro r hr
          obtain ⟨q, hq, rfl⟩ := List.mem_map.1 hr
          have e1 := flat_len (lab_good hS hT) q.1 (c1 q hq).1.1.2
          have e2 := flat_len len_good q.2 (c1 q hq).1.2.2
          have e3 : (recN T q).length ≤ ((recs T l 0 0).1.flatMap (recN T)).length := by
            obtain ⟨s, t, e⟩ := List.append_of_mem hq
            rw [e]; simp; omega
          have e4 := congrArg List.length c2
          unfold lsE at e4
          rw [List.length_append] at e4
          generalize ((recs T l 0 0).1.flatMap (recN T)).length = F at e3 e4
          unfold recN lsE at e3
          unfold toRec
          simp only [List.length_append, List.length_map] at e3 e4 ⊢
          omega
end Rc
end Go.Proofs.Ytglnghdomoebfaa
