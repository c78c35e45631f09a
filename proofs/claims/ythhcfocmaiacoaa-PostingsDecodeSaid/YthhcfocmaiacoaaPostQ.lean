/- Chapter 15, plain: Decode and Encode. -/
import Derived.Test.YthhcfocmaiacoaaPostI
import Derived.Test.YthhcfocmaiacoaaPostD
namespace Go.Proofs.Ythhcfocmaiacoaa
namespace Pe
open Rc (Good)
/-- a row that rises, below a bound -/
def Asc (bnd : Nat) : Int → Bool → List Int → Prop
  | _, _, [] => True
  | a, f, y :: r => (if f = true then a ≤ y else a < y) ∧ y < (bnd : Int) ∧ Asc bnd y false r
theorem asc_up {bnd : Nat} (hb : bnd ≤ 9223372036854775808) : ∀ {s : List Int} {a : Int} {f : Bool}, Asc bnd a f s → Up a s
  | [], _, _, _ => trivial
  | y :: r, a, f, h => ⟨by have := h.1; cases f <;> simp at this <;> omega, by have := h.2.1; omega, asc_up hb h.2.2⟩
theorem enc_pos (x : Nat) : 0 < (Vi.enc x).length := Vi.enc_pos x
theorem gap_len : ∀ (s : List Int) (a : Int), s.length ≤ (gap a s).length
  | [], _ => by simp [gap]
  | y :: r, a => by
    have h1 := gap_len r y
    have h2 := enc_pos (y - a).toNat
    rw [gap, List.length_append, List.length_cons]
    omega
theorem entE_pos (T : List ByteArray) (e : EntV) : 0 < (entE T e).length := by
  have := enc_pos e.2.length
  simp only [entE, List.length_append]
  omega
theorem flat_len (T : List ByteArray) : ∀ (E : List EntV), E.length ≤ (E.flatMap (entE T)).length
  | [] => by simp
  | e :: E => by
    have h1 := flat_len T E
    have h2 := entE_pos T e
    rw [List.flatMap_cons, List.length_append, List.length_cons]
    omega
theorem cnt_fwd {l : List UInt8} {a n a' : Nat} (h : Wr.uint l a 0 Rc.mx = (n, a', 0)) (hn : n ≤ l.length - a') : Rc.cnt l a 0 = (n, a', 0) := by
  unfold Rc.cnt
  rw [h]
  simp only [ne_eq, not_true_eq_false, if_false]
  rw [if_neg (by omega)]
theorem sl_canon {l : List UInt8} {bnd : Nat} : ∀ (k last : Nat) (acc : List Int) (a : Nat) (s : List Int) (a' : Nat), a ≤ l.length → last ≤ bnd → sl l bnd k last acc a = (s, a', 0) →
    ∃ ys, s = acc ++ ys ∧ ys.length = k ∧ l.drop a = gap last ys ++ l.drop a' ∧ a ≤ a' ∧ a' ≤ l.length ∧ Asc bnd last acc.isEmpty ys
  | 0, last, acc, a, s, a', ha, hl, h => by
    rw [sl_zero] at h
    simp only [Prod.mk.injEq, and_true] at h
    obtain ⟨rfl, rfl⟩ := h
    exact ⟨[], by simp, rfl, by simp [gap], Nat.le_refl _, ha, trivial⟩
  | k + 1, last, acc, a, s, a', ha, hl, h => by
    obtain ⟨X, hX⟩ : ∃ X, Wr.uint l a 0 Rc.mx = X := ⟨_, rfl⟩
    obtain ⟨x, a1, e1⟩ := X
    by_cases he : e1 = 0
    · subst he
      cases ho : okD bnd last x acc.isEmpty with
      | false =>
        rw [sl_no k hX ho] at h
        simp at h
      | true =>
        rw [sl_ok k hX ho] at h
        obtain ⟨c1, c2, c3, c4⟩ := Rc.uint_good.canon l a x a1 ha hX
        unfold okD at ho
        rw [Bool.and_eq_true, decide_eq_true_iff, Bool.or_eq_true, decide_eq_true_iff] at ho
        obtain ⟨ys, d1, d2, d3, d4, d5, d6⟩ := sl_canon k (last + x) (acc ++ [((last + x : Nat) : Int)]) a1 s a' c4 (by omega) h
        refine ⟨((last + x : Nat) : Int) :: ys, by rw [d1]; simp, by simp [d2], ?_, by omega, d5, ?_, by omega, ?_⟩
        · rw [c2, d3, gap, List.append_assoc, show (((last + x : Nat) : Int) - (last : Int)).toNat = x by omega]
        · rcases ho.2 with h | h
          · rw [h, if_pos rfl]; omega
          · split <;> omega
        · have : (acc ++ [((last + x : Nat) : Int)]).isEmpty = false := by cases acc <;> rfl
          rw [this] at d6
          exact d6
    · rw [sl_bad k hX he] at h
      simp only [Prod.mk.injEq] at h
      exact absurd h.2.2 he
theorem sl_fwd {l : List UInt8} {bnd : Nat} (hb : bnd ≤ 9223372036854775808) : ∀ (ys : List Int) (last : Nat) (acc : List Int) (a : Nat) (r : List UInt8), Asc bnd last acc.isEmpty ys → l.drop a = gap last ys ++ r → a ≤ l.length →
    sl l bnd ys.length last acc a = (acc ++ ys, a + (gap last ys).length, 0) ∧ l.drop (a + (gap last ys).length) = r ∧ a + (gap last ys).length ≤ l.length
  | [], last, acc, a, r, h, hd, ha => by
    rw [List.length_nil, sl_zero]
    simp [gap] at hd ⊢
    exact ⟨hd, ha⟩
  | y :: ys, last, acc, a, r, h, hd, ha => by
    obtain ⟨h1, h2, h3⟩ := h
    rw [gap, List.append_assoc] at hd
    have hly : (last : Int) ≤ y := by split at h1 <;> omega
    obtain ⟨m, rfl⟩ := Int.eq_ofNat_of_zero_le (show 0 ≤ y by omega)
    have hx : ((m : Int) - (last : Int)).toNat = m - last := by omega
    rw [hx] at hd
    obtain ⟨g1, g2, g3⟩ := Rc.uint_good.at_ (x := m - last) (by unfold Rc.mx; omega) hd ha
    have ho : okD bnd last (m - last) acc.isEmpty = true := by
      unfold okD
      rw [Bool.and_eq_true, decide_eq_true_iff, Bool.or_eq_true, decide_eq_true_iff]
      refine ⟨by omega, ?_⟩
      split at h1
      · next e => exact .inl e
      · exact .inr (by omega)
    rw [List.length_cons, sl_ok _ g1 ho, show last + (m - last) = m by omega]
    obtain ⟨i1, i2, i3⟩ := sl_fwd hb ys m (acc ++ [(m : Int)]) _ r (by
      have : (acc ++ [(m : Int)]).isEmpty = false := by cases acc <;> rfl
      rw [this]; exact h3) g2 g3
    rw [i1, gap, hx, List.length_append]
    rw [Nat.add_assoc] at i2 i3
    exact ⟨by simp [Nat.add_assoc], i2, i3⟩
/-- what a row must be -/
def okS (bnd : Nat) (s : List Int) : Prop := s ≠ [] ∧ Asc bnd 0 true s
theorem ser_canon {l : List UInt8} {bnd a : Nat} {s : List Int} {a' : Nat} (ha : a ≤ l.length) (h : ser l bnd a = (s, a', 0)) :
    l.drop a = Vi.enc s.length ++ gap 0 s ++ l.drop a' ∧ a ≤ a' ∧ a' ≤ l.length ∧ okS bnd s := by
  unfold ser at h
  obtain ⟨X, hX⟩ : ∃ X, Rc.cnt l a 0 = X := ⟨_, rfl⟩
  rw [hX] at h
  obtain ⟨n, a1, e1⟩ := X
  simp only [] at h
  by_cases he : e1 = 0
  · subst he
    rw [if_neg (by simp)] at h
    by_cases hn : n = 0
    · rw [if_pos hn] at h
      simp at h
    · rw [if_neg hn] at h
      obtain ⟨c0, c00⟩ := Rc.cnt_ok hX
      obtain ⟨c1, c2, c3, c4⟩ := Rc.uint_good.canon l a n a1 ha c0
      obtain ⟨ys, d1, d2, d3, d4, d5, d6⟩ := sl_canon n 0 [] a1 s a' c4 (Nat.zero_le _) h
      have hys : s = ys := by simpa using d1
      subst hys
      refine ⟨?_, by omega, d5, ⟨fun e => ?_, d6⟩⟩
      · rw [c2, d3, d2, List.append_assoc]; rfl
      · rw [e] at d2; simp at d2; omega
  · rw [if_pos he] at h
    simp only [Prod.mk.injEq] at h
    exact absurd h.2.2 he
theorem ser_fwd {l : List UInt8} {bnd a : Nat} {s : List Int} {r : List UInt8} (hb : bnd ≤ 9223372036854775808) (hs : okS bnd s) (hsl : s.length ≤ Rc.mx) (ha : a ≤ l.length) (hd : l.drop a = Vi.enc s.length ++ gap 0 s ++ r) :
    ser l bnd a = (s, a + (Vi.enc s.length ++ gap 0 s).length, 0) ∧ l.drop (a + (Vi.enc s.length ++ gap 0 s).length) = r ∧ a + (Vi.enc s.length ++ gap 0 s).length ≤ l.length := by
  rw [List.append_assoc] at hd
  obtain ⟨g1, g2, g3⟩ := Rc.uint_good.at_ (x := s.length) hsl hd ha
  obtain ⟨i1, i2, i3⟩ := sl_fwd hb s 0 [] _ r hs.2 g2 g3
  have hgl := gap_len s 0
  have hcn := cnt_fwd g1 (by
    have := congrArg List.length g2
    rw [List.length_drop, List.length_append] at this
    omega)
  have hs0 : s.length ≠ 0 := fun e => hs.1 (List.eq_nil_of_length_eq_zero e)
  unfold ser
  rw [hcn]
  simp only [ne_eq, not_true_eq_false, if_false, if_neg hs0]
  rw [i1, List.length_append, ← Nat.add_assoc]
  exact ⟨by simp, i2, i3⟩
theorem ordErr_ok {acc : List EntV} {x : Lab} {a : Nat} : ordErr acc (x, a, 0) = if ordE acc x = true then 0 else 16 := by
  unfold ordErr; simp
theorem ordE_psrt {acc : List EntV} {x : Lab} {s : List Int} (h : Lb.PSrt (acc.map (·.1))) : ordE acc x = true ↔ Lb.PSrt ((acc ++ [(x, s)]).map (·.1)) := by
  rw [List.map_append]
  unfold Lb.PSrt at h ⊢
  rw [List.pairwise_append]
  constructor
  · intro ho
    refine ⟨h, List.pairwise_singleton _ _, fun a ha b hb => ?_⟩
    have hb' : b = x := by simpa using hb
    subst hb'
    rcases List.eq_nil_or_concat acc with h0 | ⟨L, e, rfl⟩
    · subst h0; simp at ha
    · have hl : Lb.plt e.1 b = true := by
        unfold ordE at ho
        rw [List.concat_eq_append, List.getLast?_concat] at ho
        exact ho
      rw [List.concat_eq_append, List.map_append, List.mem_append] at ha
      rw [List.concat_eq_append, List.map_append, List.pairwise_append] at h
      rcases ha with ha | ha
      · exact Lb.plt_trans (h.2.2 a ha e.1 (by simp)) hl
      · have : a = e.1 := by simpa using ha
        rw [this]; exact hl
  · rintro ⟨_, _, h3⟩
    rcases List.eq_nil_or_concat acc with h0 | ⟨L, e, rfl⟩
    · subst h0; rfl
    · unfold ordE
      rw [List.concat_eq_append, List.getLast?_concat]
      exact h3 e.1 (by simp) x (by simp)
/-- what an entry must be -/
def okEn (T : List ByteArray) (bnd : Nat) (e : EntV) : Prop := okE T e = true ∧ okS bnd e.2
theorem el_canon {T : List ByteArray} (hS : Sy.Srt T) (hT : T.length ≤ Rc.mx) {l : List UInt8} {bnd : Nat} : ∀ (k : Nat) (acc : List EntV) (a : Nat) (E : List EntV) (a' : Nat), a ≤ l.length → Lb.PSrt (acc.map (·.1)) → el T l bnd k acc a = (E, a', 0) →
    ∃ ys, E = acc ++ ys ∧ ys.length = k ∧ l.drop a = ys.flatMap (entE T) ++ l.drop a' ∧ a ≤ a' ∧ a' ≤ l.length ∧ (∀ e ∈ ys, okEn T bnd e) ∧ Lb.PSrt (E.map (·.1))
  | 0, acc, a, E, a', ha, hp, h => by
    rw [el_zero] at h
    simp only [Prod.mk.injEq, and_true] at h
    obtain ⟨rfl, rfl⟩ := h
    exact ⟨[], by simp, rfl, by simp, Nat.le_refl _, ha, by simp, hp⟩
  | k + 1, acc, a, E, a', ha, hp, h => by
    obtain ⟨X, hX⟩ : ∃ X, Rc.lab T l a 0 = X := ⟨_, rfl⟩
    by_cases he : ordErr acc X = 0
    · obtain ⟨Y, hY⟩ : ∃ Y, ser l bnd X.2.1 = Y := ⟨_, rfl⟩
      by_cases he2 : Y.2.2 = 0
      · rw [el_ok k hX he hY he2] at h
        obtain ⟨x, a1, e1⟩ := X
        obtain ⟨s, a2, e2⟩ := Y
        simp only [] at he2 h hY
        subst he2
        have he1 : e1 = 0 := by
          unfold ordErr at he
          simp only [] at he
          by_cases h0 : e1 = 0
          · exact h0
          · rw [if_pos h0] at he; exact absurd he h0
        subst he1
        rw [ordErr_ok] at he
        have ho : ordE acc x = true := by
          apply Classical.byContradiction
          intro hn
          rw [if_neg hn] at he
          exact absurd he (by decide)
        obtain ⟨c1, c2, c3, c4⟩ := (Rc.lab_good hS hT).canon l a x a1 ha hX
        obtain ⟨d1, d2, d3, d4⟩ := ser_canon c4 hY
        obtain ⟨ys, f1, f2, f3, f4, f5, f6, f7⟩ := el_canon hS hT k (acc ++ [(x, s)]) a2 E a' d3 ((ordE_psrt hp).1 ho) h
        refine ⟨(x, s) :: ys, by rw [f1]; simp, by simp [f2], ?_, by omega, f5, fun e he => ?_, f7⟩
        · rw [c2, d1, f3, List.flatMap_cons]
          simp [entE]
        · rcases List.mem_cons.1 he with rfl | he
          · exact ⟨by unfold okE; rw [Bool.and_eq_true]; exact c1, d4⟩
          · exact f6 e he
      · rw [el_ser k hX he hY he2] at h
        rw [Prod.mk.injEq] at h
        rw [h.2] at he2
        exact absurd rfl he2
    · rw [el_ord k hX he] at h
      simp only [Prod.mk.injEq] at h
      exact absurd h.2.2 he
theorem el_fwd {T : List ByteArray} (hS : Sy.Srt T) (hT : T.length ≤ Rc.mx) {l : List UInt8} {bnd : Nat} (hb : bnd ≤ 9223372036854775808) : ∀ (ys acc : List EntV) (a : Nat) (r : List UInt8), Lb.PSrt ((acc ++ ys).map (·.1)) → (∀ e ∈ ys, okEn T bnd e ∧ e.2.length ≤ Rc.mx) →
    l.drop a = ys.flatMap (entE T) ++ r → a ≤ l.length → el T l bnd ys.length acc a = (acc ++ ys, a + (ys.flatMap (entE T)).length, 0) ∧ l.drop (a + (ys.flatMap (entE T)).length) = r ∧ a + (ys.flatMap (entE T)).length ≤ l.length
  | [], acc, a, r, hp, h, hd, ha => by
    rw [List.length_nil, el_zero]
    simp at hd ⊢
    exact ⟨hd, ha⟩
  | e :: ys, acc, a, r, hp, h, hd, ha => by
    obtain ⟨⟨h1, h2⟩, h3⟩ := h e (by simp)
    obtain ⟨x, s⟩ := e
    simp only [] at h2 h3
    have hsp : acc ++ (x, s) :: ys = (acc ++ [(x, s)]) ++ ys := by simp
    rw [hsp] at hp ⊢
    have hpa : Lb.PSrt ((acc ++ [(x, s)]).map (·.1)) := by
      unfold Lb.PSrt at hp ⊢
      rw [List.map_append, List.pairwise_append] at hp
      exact hp.1
    have hp0 : Lb.PSrt (acc.map (·.1)) := by
      unfold Lb.PSrt at hpa ⊢
      rw [List.map_append, List.pairwise_append] at hpa
      exact hpa.1
    rw [List.flatMap_cons, List.append_assoc] at hd
    unfold entE at hd
    simp only [] at hd
    rw [List.append_assoc] at hd
    obtain ⟨g1, g2, g3⟩ := (Rc.lab_good hS hT).at_ (x := x) (by unfold okE at h1; rw [Bool.and_eq_true] at h1; exact h1) hd ha
    obtain ⟨i1, i2, i3⟩ := ser_fwd hb h2 h3 g3 g2
    have ho : ordErr acc (x, a + (Rc.symE T x.n ++ Rc.symE T x.v).length, 0) = 0 := by rw [ordErr_ok, if_pos ((ordE_psrt hp0).2 hpa)]
    rw [List.length_cons, el_ok _ g1 ho i1 rfl]
    obtain ⟨j1, j2, j3⟩ := el_fwd hS hT hb ys (acc ++ [(x, s)]) _ r hp (fun e he => h e (by simp [he])) (by
      have hfe : (fun x : EntV => Rc.symE T x.1.n ++ Rc.symE T x.1.v ++ (Vi.enc x.2.length ++ gap 0 x.2)) = entE T := rfl
      rw [i2, hfe]) i3
    have hlen : (List.flatMap (entE T) ((x, s) :: ys)).length = (Rc.symE T x.n ++ Rc.symE T x.v).length + (Vi.enc s.length ++ gap 0 s).length + (ys.flatMap (entE T)).length := by
      rw [List.flatMap_cons, List.length_append]
      unfold entE
      simp only [List.length_append]
    rw [j1, hlen]
    rw [← Nat.add_assoc, ← Nat.add_assoc]
    exact ⟨rfl, j2, j3⟩
theorem fin_ok {l : List UInt8} {a : Nat} {e : Int} (h : Wr.fin l a e = 0) : e = 0 ∧ l.length ≤ a := by
  unfold Wr.fin at h
  by_cases he : e = 0
  · subst he
    simp at h
    exact ⟨rfl, h⟩
  · rw [if_pos he] at h
    exact absurd h he
theorem dec_bad {T : List ByteArray} {n : Int} {l : List UInt8} (h : (dec T n l).2 ≠ 0) : (dec T n l).1 = [] := by
  unfold dec at h ⊢
  split at h
  · rw [if_pos (by assumption)]
  · rename_i h1
    rw [if_neg h1]
    split at h
    · rw [if_pos (by assumption)]
    · exact absurd rfl h
theorem dec_canon {T : List ByteArray} (hS : Sy.Srt T) (hT : T.length ≤ Rc.mx) {n : Int} {l : List UInt8} {E : List EntV} (h : dec T n l = (E, 0)) :
    0 ≤ n ∧ encB T E = l ∧ (∀ e ∈ E, okEn T n.toNat e) ∧ Lb.PSrt (E.map (·.1)) := by
  unfold dec at h
  split at h
  · simp at h
  · next hn =>
    split at h
    · next hf =>
      simp only [Prod.mk.injEq] at h
      exact absurd h.2 hf
    · next hf =>
      simp only [ne_eq, Decidable.not_not] at hf
      obtain ⟨h1, h2⟩ := fin_ok hf
      simp only [Prod.mk.injEq, and_true] at h
      unfold lst at h h1 h2
      obtain ⟨X, hX⟩ : ∃ X, Rc.cnt l 0 0 = X := ⟨_, rfl⟩
      rw [hX] at h h1 h2
      obtain ⟨m, a0, e0⟩ := X
      simp only [] at h h1 h2
      by_cases he : e0 = 0
      · subst he
        rw [if_neg (by simp)] at h h1 h2
        obtain ⟨c0, c00⟩ := Rc.cnt_ok hX
        obtain ⟨c1, c2, c3, c4⟩ := Rc.uint_good.canon l 0 m a0 (Nat.zero_le _) c0
        obtain ⟨ys, d1, d2, d3, d4, d5, d6, d7⟩ := el_canon hS hT m [] a0 (el T l n.toNat m [] a0).1 (el T l n.toNat m [] a0).2.1 c4 (by simp [Lb.PSrt]) (Prod.ext rfl (Prod.ext rfl h1))
        rw [h] at d1 d7
        have hys : E = ys := by simpa using d1
        subst hys
        refine ⟨by omega, ?_, d6, d7⟩
        rw [List.drop_eq_nil_of_le h2, List.append_nil] at d3
        unfold encB
        rw [d2, ← d3, ← c2, List.drop_zero]
      · rw [if_pos he] at h1
        exact absurd h1 he
theorem dec_enc {T : List ByteArray} (hS : Sy.Srt T) (hT : T.length ≤ Rc.mx) {bnd : Nat} (hb : bnd ≤ 9223372036854775808) {E : List EntV} (hE : E.length ≤ Rc.mx) (hp : Lb.PSrt (E.map (·.1))) (h : ∀ e ∈ E, okEn T bnd e ∧ e.2.length ≤ Rc.mx) : dec T (bnd : Int) (encB T E) = (E, 0) := by
  obtain ⟨g1, g2, g3⟩ := Rc.uint_good.at_ (l := encB T E) (a := 0) (x := E.length) (r := E.flatMap (entE T)) hE (by rw [List.drop_zero]; rfl) (Nat.zero_le _)
  obtain ⟨i1, i2, i3⟩ := el_fwd hS hT hb E [] _ [] hp h (by rw [g2, List.append_nil]) g3
  have hlen : (encB T E).length = 0 + (Vi.enc E.length).length + (E.flatMap (entE T)).length := by unfold encB; rw [List.length_append]; omega
  have hcn := cnt_fwd g1 (by have := flat_len T E; omega)
  have hl : lst T (encB T E) bnd = (E, 0 + (Vi.enc E.length).length + (E.flatMap (entE T)).length, 0) := by
    unfold lst
    rw [hcn]
    simp only [ne_eq, not_true_eq_false, if_false]
    rw [i1]; simp
  unfold dec
  rw [if_neg (by omega), Int.toNat_natCast, hl]
  have hf : Wr.fin (encB T E) (0 + (Vi.enc E.length).length + (E.flatMap (entE T)).length) 0 = 0 := by
    unfold Wr.fin
    rw [← hlen]
    simp
  simp only [hf]
  simp
end Pe
end Go.Proofs.Ythhcfocmaiacoaa
