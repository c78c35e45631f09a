/- Cut by cut_tpl.py out of LabG0, LabG, LabH, LabS: what this seat reaches. -/
import Derived.Test.YthhcfocmaiacoaaLabMath
import Derived.Sort.Statements
import Derived.Laws.StructEq
import Derived.Shelf.SlicesE.Kit
import Derived.Test.YthhcfocmaiacoaaSymL
namespace Go.Proofs.Ythhcfocmaiacoaa
namespace Lb
theorem firstE_iff (f : Nat → Int) (n : Nat) : (firstE f n = 0 ∧ ∀ j, j < n → f j = 0) ∨ ∃ k, k < n ∧ f k ≠ 0 ∧ firstE f n = f k ∧ ∀ j, j < k → f j = 0 := by
  have key : ∀ m, m ≤ n → (∀ j, j < m → f j = 0) ∨ ∃ k, k < m ∧ f k ≠ 0 ∧ ∀ j, j < k → f j = 0 := by
    intro m
    induction m with
    | zero => intro _; exact .inl fun j hj => by omega
    | succ m ih =>
      intro hm
      rcases ih (by omega) with h | ⟨k, h1, h2, h3⟩
      · by_cases hf : f m = 0
        · refine .inl fun j hj => ?_
          by_cases hjm : j = m
          · subst hjm; exact hf
          · exact h j (by omega)
        · exact .inr ⟨m, by omega, hf, h⟩
      · exact .inr ⟨k, by omega, h2, h3⟩
  rcases key n (Nat.le_refl _) with h | ⟨k, h1, h2, h3⟩
  · exact .inl ⟨firstE_none f n h, h⟩
  · exact .inr ⟨k, h1, h2, firstE_at f n k h1 h3 h2, h3⟩
theorem ones_zero (l : List Lab) : ones l = 0 ↔ ∀ x ∈ l, one x = 0 := by
  unfold ones
  rcases firstE_iff (fun j => one (l.getD j default)) l.length with ⟨h1, h2⟩ | ⟨k, h1, h2, h3, _⟩
  · refine ⟨fun _ x hx => ?_, fun _ => h1⟩
    obtain ⟨j, hj, rfl⟩ := List.mem_iff_getElem.1 hx
    have := h2 j hj
    rwa [getD_at hj] at this
  · refine ⟨fun h => absurd (h3.symm.trans h) h2, fun h => absurd ?_ h2⟩
    simp only [getD_at h1]
    exact h _ (List.getElem_mem h1)
/-- names ascend -/
def Srt (l : List Lab) : Prop := l.Pairwise fun x y => St.lt x.n y.n = true
theorem Srt.nodup {l : List Lab} (h : Srt l) : (l.map (·.n)).Nodup := by
  unfold Srt at h
  rw [List.Nodup, List.pairwise_map]
  exact h.imp fun {a b} hab e => by rw [e, St.irrefl] at hab; cases hab
theorem srt_uniq {a b : List Lab} (ha : Srt a) (hb : Srt b) (h : a.Perm b) : a = b := by
  unfold Srt at ha hb
  refine List.Perm.eq_of_pairwise (fun x y _ _ h1 h2 => ?_) ha hb h
  rw [St.asymm h1] at h2; cases h2
theorem srt_of_adj {l : List Lab} (h : ∀ j (hj : j + 1 < l.length), St.lt l[j].n l[j + 1].n = true) : Srt l := by
  unfold Srt
  rw [List.pairwise_iff_getElem]
  intro i j hi hj hij
  induction j with
  | zero => omega
  | succ j ih =>
    by_cases e : i = j
    · subst e; exact h i hj
    · exact St.trans (ih (by omega) (by omega)) (h j hj)
theorem chk_srt {l : List Lab} (h : Srt l) (ho : ones l = 0) : chk l = 0 := by
  rw [ones_zero] at ho
  refine firstE_none _ _ fun j hj => ?_
  unfold stepE
  have h1 : one (l.getD j default) = 0 := by rw [getD_at hj]; exact ho _ (List.getElem_mem hj)
  simp only [h1, ne_eq, not_true_eq_false, if_false]
  by_cases h0 : j = 0
  · simp [h0]
  · rw [if_neg h0, getD_at hj, getD_at (show j - 1 < l.length by omega)]
    have hl := (List.pairwise_iff_getElem.1 h) (j - 1) j (by omega) hj (by omega)
    rw [if_neg (fun e => by rw [e, St.irrefl] at hl; cases hl), if_neg (by rw [St.asymm hl]; simp)]
theorem chk_sorted {l : List Lab} (hs : ∀ i j (hi : i < l.length) (hj : j < l.length), i < j → St.lt l[j].n l[i].n = false) (ho : ones l = 0) : (chk l = 0 ∧ Srt l) ∨ (chk l = 18 ∧ ¬ (l.map (·.n)).Nodup) := by
  rw [ones_zero] at ho
  have ho' : ∀ j (hj : j < l.length), one l[j] = 0 := fun j hj => ho _ (List.getElem_mem hj)
  rcases firstE_iff (stepE l) l.length with ⟨h1, h2⟩ | ⟨k, h1, h2, h3, _⟩
  · refine .inl ⟨h1, srt_of_adj fun j hj => ?_⟩
    have := h2 (j + 1) hj
    unfold stepE at this
    simp only [getD_at hj, ho' _ hj, ne_eq, not_true_eq_false, if_false, show j + 1 ≠ 0 by omega, show j + 1 - 1 = j by omega, getD_at (show j < l.length by omega)] at this
    by_cases e : l[j].n = l[j + 1].n
    · rw [if_pos e] at this; omega
    · rw [if_neg e] at this
      cases hlt : St.lt l[j].n l[j + 1].n with
      | true => rfl
      | false => exact absurd (St.total hlt (hs j (j + 1) (by omega) hj (by omega))) e
  · refine .inr ?_
    unfold chk
    rw [h3]
    unfold stepE at h2 ⊢
    simp only [getD_at h1, ho' _ h1, ne_eq, not_true_eq_false, if_false] at h2 ⊢
    by_cases h0 : k = 0
    · simp [h0] at h2
    · rw [if_neg h0, getD_at (show k - 1 < l.length by omega)] at h2 ⊢
      by_cases e : l[k - 1].n = l[k].n
      · rw [if_pos e]
        refine ⟨rfl, fun hn => ?_⟩
        rw [List.Nodup, List.pairwise_map] at hn
        exact (List.pairwise_iff_getElem.1 hn) (k - 1) k (by omega) h1 (by omega) e
      · rw [if_neg e] at h2
        rw [if_neg (by rw [hs (k - 1) k (by omega) h1 (by omega)]; simp)] at h2
        exact absurd rfl h2
/-- what Normalize answers -/
def Norm (l : List Lab) (e : Int) (out : List Lab) : Prop :=
  (ones l ≠ 0 ∧ e = ones l ∧ out = []) ∨ (ones l = 0 ∧ ¬ (l.map (·.n)).Nodup ∧ e = 18 ∧ out = []) ∨ (ones l = 0 ∧ Srt out ∧ out.Perm l ∧ e = 0)
theorem Norm.uniq {l : List Lab} {e f : Int} {a b : List Lab} (h : Norm l e a) (h' : Norm l f b) : e = f ∧ a = b := by
  rcases h with ⟨h1, h2, h3⟩ | ⟨h1, h2, h3, h4⟩ | ⟨h1, h2, h3, h4⟩ <;> rcases h' with ⟨g1, g2, g3⟩ | ⟨g1, g2, g3, g4⟩ | ⟨g1, g2, g3, g4⟩
  · exact ⟨h2.trans g2.symm, h3.trans g3.symm⟩
  · exact absurd g1 h1
  · exact absurd g1 h1
  · exact absurd h1 g1
  · exact ⟨h3.trans g3.symm, h4.trans g4.symm⟩
  · exact absurd ((g3.map _).nodup_iff.1 g2.nodup) h2
  · exact absurd h1 g1
  · exact absurd ((h3.map _).nodup_iff.1 h2.nodup) g2
  · exact ⟨h4.trans g4.symm, srt_uniq h2 g2 (h3.trans g3.symm)⟩
theorem Norm.zero {l : List Lab} {e : Int} {a : List Lab} (h : Norm l e a) (he : e = 0) : ones l = 0 ∧ Srt a ∧ a.Perm l := by
  rcases h with ⟨h1, h2, h3⟩ | ⟨h1, h2, h3, h4⟩ | ⟨h1, h2, h3, h4⟩
  · exact absurd (h2.symm.trans he) h1
  · omega
  · exact ⟨h1, h2, h3⟩
theorem Norm.out_ones {l : List Lab} {e : Int} {a : List Lab} (h : Norm l e a) (he : e = 0) : ones a = 0 := by
  obtain ⟨h1, _, h3⟩ := h.zero he
  rw [ones_zero] at h1 ⊢
  exact fun x hx => h1 x (h3.mem_iff.1 hx)
theorem Norm.chk {l : List Lab} {e : Int} {a : List Lab} (h : Norm l e a) (he : e = 0) : chk a = 0 := chk_srt (h.zero he).2.1 (h.out_ones he)
theorem Norm.nil {l : List Lab} {e : Int} {a : List Lab} (h : Norm l e a) (he : e ≠ 0) : a = [] := by
  rcases h with ⟨h1, h2, h3⟩ | ⟨h1, h2, h3, h4⟩ | ⟨h1, h2, h3, h4⟩
  · exact h3
  · exact h4
  · exact absurd h4 he
theorem Norm.perm {l m : List Lab} {e f : Int} {a b : List Lab} (h : Norm l e a) (h' : Norm m f b) (hp : m.Perm l) : (e = 0 ↔ f = 0) ∧ a = b := by
  have ho : ones l = 0 ↔ ones m = 0 := by
    rw [ones_zero, ones_zero]
    exact ⟨fun h x hx => h x (hp.mem_iff.1 hx), fun h x hx => h x (hp.mem_iff.2 hx)⟩
  rcases h with ⟨h1, h2, h3⟩ | ⟨h1, h2, h3, h4⟩ | ⟨h1, h2, h3, h4⟩ <;> rcases h' with ⟨g1, g2, g3⟩ | ⟨g1, g2, g3, g4⟩ | ⟨g1, g2, g3, g4⟩
  · exact ⟨⟨fun h => absurd (h2.symm.trans h) h1, fun h => absurd (g2.symm.trans h) g1⟩, h3.trans g3.symm⟩
  · exact absurd (ho.2 g1) h1
  · exact absurd (ho.2 g1) h1
  · exact absurd (ho.1 h1) g1
  · exact ⟨⟨fun h => by omega, fun h => by omega⟩, h4.trans g4.symm⟩
  · exact absurd (((g3.trans hp).map _).nodup_iff.1 g2.nodup) h2
  · exact absurd (ho.1 h1) g1
  · exact absurd (((h3.trans hp.symm).map _).nodup_iff.1 h2.nodup) g2
  · exact ⟨⟨fun _ => g4, fun _ => h4⟩, srt_uniq h2 g2 ((h3.trans hp.symm).trans g3.symm)⟩
theorem Norm.self {a : List Lab} {e : Int} {b : List Lab} (hs : Srt a) (ho : ones a = 0) (h : Norm a e b) : e = 0 ∧ b = a := by
  have : Norm a 0 a := .inr (.inr ⟨ho, hs, List.Perm.refl _, rfl⟩)
  exact h.uniq this
/-- what the sort and Check give -/
theorem norm_of_sort {l : List Lab} {d : Array Lab} (ho : ones l = 0) (hp : Sort.PermIn 0 l.toArray.size l.toArray d) (hs : Sort.SortedIn (fun x y => St.lt x.n y.n) 0 l.toArray.size d) :
    (chk d.toList = 0 ∧ Norm l 0 d.toList) ∨ (chk d.toList = 18 ∧ Norm l 18 []) := by
  obtain ⟨h1, _, h3⟩ := hp
  have h1' : d.size = l.length := by simpa using h1
  have hp : d.toList.Perm l := by
    have e1 : (d.extract 0 l.toArray.size).toList = d.toList := by simp [← h1']
    have e2 : (l.toArray.extract 0 l.toArray.size).toList = l := by simp
    rwa [e1, e2] at h3
  have hod : ones d.toList = 0 := by
    rw [ones_zero] at ho ⊢
    exact fun x hx => ho x (hp.mem_iff.1 hx)
  have hsd : ∀ i j (hi : i < d.toList.length) (hj : j < d.toList.length), i < j → St.lt d.toList[j].n d.toList[i].n = false := by
    intro i j hi hj hij
    have hi' : i < d.size := by simpa using hi
    have hj' : j < d.size := by simpa using hj
    have := hs i j (by omega) hij (by simp; omega)
    simpa [hi', hj', getElem!_pos] using this
  rcases chk_sorted hsd hod with ⟨a, b⟩ | ⟨a, b⟩
  · exact .inl ⟨a, .inr (.inr ⟨ho, b, hp, rfl⟩)⟩
  · exact .inr ⟨a, .inr (.inl ⟨ho, fun hn => b ((hp.map _).nodup_iff.2 hn), rfl, rfl⟩)⟩
/-- one insertion -/
theorem srt_ins {out : List Lab} {x : Lab} (h : Srt out) (k : Nat) (hk : k ≤ out.length) (h1 : ∀ j (hj : j < out.length), j < k → St.lt out[j].n x.n = true) (h2 : ∀ (hj : k < out.length), St.lt x.n out[k].n = true) :
    Srt (out.take k ++ x :: out.drop k) := by
  unfold Srt at *
  rw [List.pairwise_append]
  refine ⟨h.sublist (List.take_sublist _ _), ?_, ?_⟩
  · rw [List.pairwise_cons]
    refine ⟨fun y hy => ?_, h.sublist (List.drop_sublist _ _)⟩
    obtain ⟨j, hj, rfl⟩ := List.mem_iff_getElem.1 hy
    rw [List.length_drop] at hj
    rw [List.getElem_drop]
    have hkl : k < out.length := by omega
    by_cases h0 : j = 0
    · subst h0; exact h2 hkl
    · exact St.trans (h2 hkl) ((List.pairwise_iff_getElem.1 h) k (k + j) hkl (by omega) (by omega))
  · intro a ha b hb
    obtain ⟨i, hi, rfl⟩ := List.mem_iff_getElem.1 ha
    rw [List.length_take] at hi
    rw [List.getElem_take]
    have hax := h1 i (by omega) (by omega)
    rcases List.mem_cons.1 hb with rfl | hb
    · exact hax
    · obtain ⟨j, hj, rfl⟩ := List.mem_iff_getElem.1 hb
      rw [List.length_drop] at hj
      rw [List.getElem_drop]
      exact (List.pairwise_iff_getElem.1 h) i (k + j) (by omega) (by omega) (by omega)
theorem perm_ins {out : List Lab} {x : Lab} {l : List Lab} {i : Nat} (h : out.Perm (l.take i)) (k : Nat) (hi : i < l.length) (hx : x = l[i]) : (out.take k ++ x :: out.drop k).Perm (l.take (i + 1)) := by
  subst hx
  rw [List.take_succ_eq_append_getElem hi]
  refine List.perm_middle.trans ?_
  rw [List.take_append_drop]
  exact ((List.Perm.cons _ h).trans (List.perm_append_comm (l₁ := [l[i]])))
theorem dup_of {out : List Lab} {x : Lab} {l : List Lab} {i : Nat} (h : out.Perm (l.take i)) (hi : i < l.length) (hx : x = l[i]) (k : Nat) (hk : k < out.length) (he : out[k].n = x.n) : ¬ (l.map (·.n)).Nodup := by
  intro hn
  rw [List.Nodup, List.pairwise_map] at hn
  have hm : out[k] ∈ l.take i := h.mem_iff.1 (List.getElem_mem hk)
  obtain ⟨j, hj, hje⟩ := List.mem_iff_getElem.1 hm
  rw [List.length_take] at hj
  rw [List.getElem_take] at hje
  exact (List.pairwise_iff_getElem.1 hn) j i (by omega) hi (by omega) (by rw [hje, he, hx])
end Lb
end Go.Proofs.Ythhcfocmaiacoaa
namespace Go.Proofs.Ythhcfocmaiacoaa
open Go.RowKit Go.Shelf
theorem lit1 (w : World) (x : Lab) : RdL (w.alloc (.cells #[.string x.n, .string x.v] 67)) (w.heap.size + 1) (some ⟨w.heap.size, 0, none⟩) 1 1 [x] := RdL.lit w [x] (0, 0) (by simp)
set_option maxHeartbeats 1000000 in
theorem neqL (x y : Lab) (w : World) : Sem.run Try.prog (binOp .neq 67 (.agg #[.string x.n, .string x.v]) (.agg #[.string y.n, .string y.v])) w = .ok (.bool (!decide (x = y))) w := by
  have u3 := Try.underlying9
  have a3 := Try.isAgg9
  have z3 := Try.sizeOf9
  have hS : Try.prog.underlying 67 = some (.struct (Try.prog.fieldsOf 67)) := by kernel_rfl
  have hp : Try.prog.stoodInHeld 67 = false := by kernel_rfl
  rw [run_neq_struct, show (10000 : Nat) = 9999 + 1 from rfl, run_equalIn_agg w 9999 67 _ _ hS hp]
  simp only [Program.fieldsOf, Try.underlying67]
  go_simp
  by_cases h1 : x.n = y.n
  · by_cases h2 : x.v = y.v
    · rw [if_pos (by rw [h1]), if_pos (by rw [h2]), decide_eq_true (Lb.ext h1 h2)]; rfl
    · rw [if_pos (by rw [h1]), if_neg (fun e => h2 (St.tl_inj e)), decide_eq_false (fun e => h2 (by rw [e]))]; rfl
  · rw [if_neg (fun e => h1 (St.tl_inj e)), decide_eq_false (fun e => h1 (by rw [e]))]; rfl
theorem guardL (op : BinOp) (a b : Operand) (x y : Lab) (w : World) : Sem.run Try.prog (eqGuard op 67 a b (.agg #[.string x.n, .string x.v]) (.agg #[.string y.n, .string y.v])) w = .ok () w := by
  exact GuardAt.agg (α := Lab) (fun x : Lab => #[.string x.n, .string x.v]) (by kernel_rfl) op a b x y w

theorem take_succ_eq {α : Type} {a b : List α} {k : Nat} (h : a.take k = b.take k) (ha : k < a.length) (hb : k < b.length) (he : a[k] = b[k]) : a.take (k + 1) = b.take (k + 1) := by
  rw [List.take_succ_eq_append_getElem ha, List.take_succ_eq_append_getElem hb, h, he]
theorem ne_at {α : Type} {a b : List α} {k : Nat} (ha : k < a.length) (hb : k < b.length) (he : ¬ a[k] = b[k]) : ¬ a = b := fun e => by subst e; exact he rfl
set_option maxRecDepth 100000 in
set_option maxHeartbeats 2000000 in
theorem equalS_any (A A2 : Option Addr) (n c n2 c2 B B2 : Nat) (l l2 : List ByteArray) (w : World) (hv : RdS w B A n c l) (hv2 : RdS w B2 A2 n2 c2 l2) (hB : B ≤ w.heap.size) (hB2 : B2 ≤ w.heap.size) :
    Calls Try.prog 25 #[.slice A n c, .slice A2 n2 c2] w fun e w' => e = .returned (.bool (decide (l = l2))) ∧ Gr w w' := by
  have hlc := hv.1
  have hcm := hv.2.1
  have hlc2 := hv2.1
  have hcm2 := hv2.2.1
  unfold maxLen at hcm hcm2
  have hn := Kept.mk hv.len
  have hn2 := Kept.mk hv2.len
  have V := Kept.mk hv
  have V2 := Kept.mk hv2
  clear hv hv2
  obtain ⟨r, hr⟩ : ∃ r, r = decide (l = l2) := ⟨_, rfl⟩
  rw [← hr]
  have HR := Kept.mk hr
  clear hr
  by_cases hnn : n = n2
  · subst hnn
    go_enter Try.func25, Try.ntmps25
    go_wp2
    go_loopw [13] (fun i wr => ∃ k : Nat, k ≤ n ∧ i = .int .i64 k ∧ Kept (l.take k = l2.take k) ∧ Gr w wr) (fun i _ => n - (intOf i).toNat)
    case atStart => exact ⟨0, by omega, rfl, ⟨by simp⟩, Gr.refl w⟩
    case round =>
      obtain ⟨k, hk, rfl, hd, gr⟩ := hrel
      by_cases hlt : k < n
      · have hkl : k < l.length := by rw [← hn.out]; exact hlt
        have hkl2 : k < l2.length := by rw [← hn2.out]; exact hlt
        obtain ⟨b, off, rfl, hc⟩ := V.out.cells hB hkl
        obtain ⟨b2, off2, rfl, hc2⟩ := V2.out.cells hB2 hkl2
        have c0 := hc wr gr.below
        have d0 := hc2 wr gr.below
        have P1 := Kept.mk (fun he => take_succ_eq hd.out hkl hkl2 he)
        have P2 := Kept.mk (fun he => ne_at (a := l) (b := l2) hkl hkl2 he)
        clear hc hc2
        generalize l[k] = x at *
        generalize l2[k] = y at *
        have hq := St.eq_iff x y
        have G := Kept.mk gr
        clear gr
        by_cases hxy : x = y
        · have hd2 := Kept.mk (P1.out hxy)
          rw [decide_eq_true hxy] at hq
          clear hxy
          go_wp2_with fail
          go_quiet (fail)
          go_wp2
          go_roundw
          case rel => exact ⟨k + 1, by omega, by go_num, hd2, G.out.drewN _⟩
          case measure => simp [intOf]; omega
        · have hd2 : Kept (r = false) := ⟨HR.out.trans (decide_eq_false (P2.out hxy))⟩
          rw [decide_eq_false hxy] at hq
          clear hxy
          go_wp2_with fail
          go_quiet (fail)
          go_wp2
          go_ret
          exact ⟨by rw [hd2.out]; rfl, G.out.drewN _⟩
      · have hd2 : Kept (r = true) := ⟨HR.out.trans (decide_eq_true (by have h := hd.out; rw [List.take_of_length_le (by have := hn.out; omega), List.take_of_length_le (by have := hn2.out; omega)] at h; exact h))⟩
        have G := Kept.mk gr
        clear gr
        go_wp2
        go_ret
        exact ⟨by rw [hd2.out]; rfl, G.out⟩
  · have hd2 : Kept (r = false) := ⟨HR.out.trans (decide_eq_false (fun e => hnn (by rw [hn.out, hn2.out, e])))⟩
    have hne : ¬ (n : Int) = (n2 : Int) := by omega
    go_enter Try.func25, Try.ntmps25
    go_wp2
    go_ret
    exact ⟨by rw [hd2.out]; rfl, Gr.refl w⟩

set_option maxHeartbeats 1000000 in
theorem refOne_any (x : Lab) (w : World) (h1 : x.n.size ≤ maxLen) (h2 : x.v.size ≤ maxLen) : Calls Try.prog 101 #[.agg #[.string x.n, .string x.v]] w fun e w' => e = .returned (.int .i64 (Lb.one x)) ∧ Gr w w' := by
  unfold maxLen at h1 h2
  have e1 : x.n.toList.isEmpty = decide (x.n.size = 0) := by
    rw [St.tl]
    obtain ⟨⟨l⟩⟩ := x.n
    cases l <;> simp [ByteArray.size]
  by_cases h0 : x.n.size = 0
  · rw [decide_eq_true h0] at e1
    have hr : Lb.one x = 17 := by simp [Lb.one, h0]
    rw [hr]
    go_enter Try.func101, Try.ntmps101
    go_wp2
    go_ret
    exact ⟨rfl, (Gr.refl w).alloc _⟩
  · rw [decide_eq_false h0] at e1
    by_cases hb : 65535 < x.n.size
    · have hr : Lb.one x = 7 := by simp [Lb.one, h0, hb]
      have hb' : (65535 : Int) < (x.n.size : Int) := by omega
      rw [hr]
      go_enter Try.func101, Try.ntmps101
      go_wp2
      go_ret
      exact ⟨rfl, (Gr.refl w).alloc _⟩
    · have hb' : ¬ (65535 : Int) < (x.n.size : Int) := by omega
      by_cases hb2 : 65535 < x.v.size
      · have hr : Lb.one x = 7 := by simp [Lb.one, h0, hb2]
        have hb2' : (65535 : Int) < (x.v.size : Int) := by omega
        rw [hr]
        go_enter Try.func101, Try.ntmps101
        go_wp2
        go_ret
        exact ⟨rfl, (Gr.refl w).alloc _⟩
      · have hr : Lb.one x = 0 := by simp [Lb.one, h0, hb, hb2]
        have hb2' : ¬ (65535 : Int) < (x.v.size : Int) := by omega
        rw [hr]
        go_enter Try.func101, Try.ntmps101
        go_wp2
        go_ret
        exact ⟨rfl, (Gr.refl w).alloc _⟩
namespace Lb
theorem Fit.at {l : List Lab} (h : Fit l) {k : Nat} (hk : k < l.length) : l[k].n.size ≤ maxLen ∧ l[k].v.size ≤ maxLen := h _ (List.getElem_mem hk)
theorem step_one {l : List Lab} {k : Nat} (hk : k < l.length) (h : one l[k] ≠ 0) : stepE l k = one l[k] := by
  unfold stepE; rw [getD_at hk]; simp only []; rw [if_pos h]
theorem step_zero {l : List Lab} (hk : 0 < l.length) (h : one l[0] = 0) : stepE l 0 = 0 := by
  unfold stepE; rw [getD_at hk]; simp [h]
theorem step_dup {l : List Lab} {k : Nat} (hk : k < l.length) (h0 : k ≠ 0) (h : one l[k] = 0) (he : l[k - 1].n = l[k].n) : stepE l k = 18 := by
  unfold stepE; rw [getD_at hk]; simp only []; rw [if_neg (by simp [h]), if_neg h0, getD_at (show k - 1 < l.length by omega), if_pos he]
theorem step_ord {l : List Lab} {k : Nat} (hk : k < l.length) (h0 : k ≠ 0) (h : one l[k] = 0) (he : St.lt l[k].n l[k - 1].n = true) : stepE l k = 16 := by
  unfold stepE; rw [getD_at hk]; simp only []; rw [if_neg (by simp [h]), if_neg h0, getD_at (show k - 1 < l.length by omega), if_neg (fun e => by rw [e, St.irrefl] at he; cases he), if_pos he]
theorem step_ok {l : List Lab} {k : Nat} (hk : k < l.length) (h0 : k ≠ 0) (h : one l[k] = 0) (he : ¬ l[k - 1].n = l[k].n) (hl : St.lt l[k].n l[k - 1].n = false) : stepE l k = 0 := by
  unfold stepE; rw [getD_at hk]; simp only []; rw [if_neg (by simp [h]), if_neg h0, getD_at (show k - 1 < l.length by omega), if_neg he, if_neg (by simp [hl])]
theorem step_all {l : List Lab} {k : Nat} (h : ∀ j, j < k → stepE l j = 0) (hk : stepE l k = 0) : ∀ j, j < k + 1 → stepE l j = 0 := fun j hj => by
  by_cases e : j = k
  · subst e; exact hk
  · exact h j (by omega)
end Lb

namespace Lb
theorem shift_len (O : List Lab) (m : Nat) (y : Lab) (h : m ≤ O.length) : (O.take m ++ y :: O.drop m).length = O.length + 1 := by
  rw [List.length_append, List.length_take, List.length_cons, List.length_drop]; omega
theorem shift_get (O : List Lab) (m : Nat) (y : Lab) (h1 : 0 < m) (h : m ≤ O.length) : (O.take m ++ y :: O.drop m)[m - 1]? = O[m - 1]? := by
  rw [List.getElem?_append_left (by rw [List.length_take]; omega), List.getElem?_take, if_pos (by omega)]
theorem shift_step (O : List Lab) (m : Nat) (y : Lab) (h1 : 0 < m) (h : m ≤ O.length) : (O.take m ++ y :: O.drop m).set m O[m - 1] = O.take (m - 1) ++ O[m - 1] :: O.drop (m - 1) := by
  have e1 : (O.take m ++ y :: O.drop m).set m O[m - 1] = O.take m ++ O[m - 1] :: O.drop m := by
    rw [List.set_append_right _ _ (by rw [List.length_take]; omega), List.length_take, show m - min m O.length = 0 by omega]; rfl
  rw [e1]
  have e2 : O.take m = O.take (m - 1) ++ [O[m - 1]] := by
    have := List.take_succ_eq_append_getElem (show m - 1 < O.length by omega)
    rwa [show m - 1 + 1 = m by omega] at this
  have e3 : O.drop (m - 1) = O[m - 1] :: O.drop m := by
    have := List.drop_eq_getElem_cons (show m - 1 < O.length by omega)
    rwa [show m - 1 + 1 = m by omega] at this
  rw [e2, e3, List.append_assoc]; rfl
theorem shift_end (O : List Lab) (p : Nat) (y x : Lab) (h : p ≤ O.length) : (O.take p ++ y :: O.drop p).set p x = O.take p ++ x :: O.drop p := by
  rw [List.set_append_right _ _ (by rw [List.length_take]; omega), List.length_take, show p - min p O.length = 0 by omega]; rfl
theorem shift_start (O : List Lab) (x : Lab) : O ++ [x] = O.take O.length ++ x :: O.drop O.length := by simp
end Lb
theorem OwnL.below_set {w : World} {base g n c : Nat} {l : List Lab} (_ : OwnL w base (some ⟨g, 0, none⟩) n c l) (k : Nat) (x : Lab) (w0 : World) (hb : Below base w0 w) (hg : base ≤ g) :
    Below base w0 ((w.setCell ⟨g, k * 2, none⟩ (.string x.n)).setCell ⟨g, k * 2 + 1, none⟩ (.string x.v)) := (hb.setCell (p := ⟨g, k * 2, none⟩) hg _).setCell (p := ⟨g, k * 2 + 1, none⟩) hg _
set_option maxRecDepth 100000 in
set_option maxHeartbeats 8000000 in
theorem refNormalize_any (A : Option Addr) (n c : Nat) (l : List Lab) (w : World) (hv : RdL w w.heap.size A n c l) (hf : Lb.Fit l) (hn4 : n ≤ 1000000) :
    Calls Try.prog 69 #[.slice A n c] w fun r w' => ∃ e A2 n2 c2 out, r = .returned (.tuple #[.slice A2 n2 c2, .int .i64 e]) ∧ Lb.Norm l e out ∧ OwnL w' w.heap.size A2 n2 c2 out ∧ Below w.heap.size w w' := by
  have hlc := hv.1
  have hcm := hv.2.1
  unfold maxLen at hcm
  have hn := Kept.mk hv.len
  have V := Kept.mk hv
  have F := Kept.mk hf
  clear hv hf
  go_enter Try.func69, Try.ntmps69
  go_wp2
  go_loopw [5] (fun i wr => ∃ k : Nat, k ≤ n ∧ i = .int .i64 k ∧ Kept (∀ j (hj : j < l.length), j < k → Lb.one l[j] = 0) ∧ Gr w wr) (fun i _ => n - (intOf i).toNat)
  case atStart => exact ⟨0, by omega, rfl, ⟨fun j _ hj => by omega⟩, Gr.refl w⟩
  case round =>
    obtain ⟨k, hk, rfl, hd, gr⟩ := hrel
    by_cases hlt : k < n
    · have hkl : k < l.length := by rw [← hn.out]; exact hlt
      obtain ⟨b, off, rfl, hc⟩ := V.out.cells (Nat.le_refl _) hkl
      obtain ⟨c0, c1⟩ := hc wr gr.below
      have G := Kept.mk gr
      obtain ⟨hf1, hf2⟩ := F.out.at hkl
      have ONE := Kept.mk (fun W => refOne_any l[k] W hf1 hf2)
      clear hc gr hf1 hf2
      by_cases h1 : Lb.one l[k] = 0
      · rw [h1] at ONE
        have hd2 : Kept (∀ j (hj : j < l.length), j < k + 1 → Lb.one l[j] = 0) := ⟨fun j hj hjk => by
          by_cases e : j = k
          · subst e; exact h1
          · exact hd.out j hj (by omega)⟩
        clear h1
        generalize l[k].n = xn at *
        generalize l[k].v = xv at *
        go_wp2_with (go_at_call 101; refine (ONE.out _).mono ?_; rintro e w2 ⟨rfl, g2⟩; have G2 := Kept.mk (G.out.trans g2); clear g2)
        go_roundw
        case rel => exact ⟨k + 1, by omega, by go_num, hd2, G2.out⟩
        case measure => simp [intOf]; omega
      · have hd2 : Kept (Lb.Norm l (Lb.one l[k]) []) := ⟨.inl (by
          have e : Lb.ones l = Lb.one l[k] := by
            have := Lb.firstE_at (fun j => Lb.one (l.getD j default)) l.length k hkl (fun j hj => by rw [Lb.getD_at (show j < l.length by omega)]; exact hd.out j (by omega) hj) (by rw [Lb.getD_at hkl]; exact h1)
            unfold Lb.ones
            rw [this, Lb.getD_at hkl]
          exact ⟨by rw [e]; exact h1, e.symm, rfl⟩)⟩
        generalize Lb.one l[k] = s at *
        generalize l[k].n = xn at *
        generalize l[k].v = xv at *
        go_wp2_with (go_at_call 101; refine (ONE.out _).mono ?_; rintro e w2 ⟨rfl, g2⟩; have G2 := Kept.mk (G.out.trans g2); clear g2)
        go_ret2
        exact ⟨s, none, 0, 0, [], rfl, hd2.out, OwnL.nil _ _, G2.out.below⟩
    · have hon : Kept (Lb.ones l = 0) := ⟨(Lb.ones_zero l).2 fun x hx => by
        obtain ⟨j, hj, rfl⟩ := List.mem_iff_getElem.1 hx
        exact hd.out j hj (by have := hn.out; omega)⟩
      have G := Kept.mk gr
      clear gr hd
      go_wp2
      rename World => ws
      go_loopw [4, 7] (fun o i wr => ∃ k : Nat, k ≤ n ∧ i = .int .i64 k ∧ ∃ A2 n2 c2 O, o = .slice A2 n2 c2 ∧ OwnL wr w.heap.size A2 n2 c2 O ∧ Kept (Lb.Srt O ∧ O.Perm (l.take k)) ∧ Below w.heap.size w wr) (fun _ i _ => n - (intOf i).toNat)
      case atStart => exact ⟨0, by omega, rfl, none, 0, 0, [], rfl, OwnL.nil _ _, ⟨List.Pairwise.nil, by simp⟩, G.out.below⟩
      case round =>
        clear G hk hlt
        obtain ⟨i, hi, rfl, A2, n2, c2, O, rfl, ho, hsp, hb⟩ := hrel
        by_cases hlt : i < n
        · have hil : i < l.length := by rw [← hn.out]; exact hlt
          have hlen2 := ho.len
          have hn2 : n2 ≤ 1000000 := by have h1 := hsp.out.2.length_eq; rw [List.length_take] at h1; omega
          have hrd2 := ho.rd
          have hlc2 := hrd2.1
          have hcm2 := hrd2.2.1
          unfold maxLen at hcm2
          have O2 := Kept.mk ho
          have R2 := Kept.mk hrd2
          have HL2 := Kept.mk hlen2
          have HB := Kept.mk hb
          obtain ⟨b, off, rfl, hc⟩ := V.out.cells (Nat.le_refl _) hil
          have CX := Kept.mk hc
          clear ho hrd2 hlen2 hb hc
          obtain ⟨x, hx⟩ : ∃ x, x = l[i] := ⟨_, rfl⟩
          have HX := Kept.mk hx
          rw [← hx] at CX
          clear hx
          obtain ⟨xn, xv⟩ := x
          go_wp2
          rename World => wo
          go_loopw [8] (fun p wr => ∃ q : Nat, q ≤ n2 ∧ p = .int .i64 q ∧ Kept (∀ t (ht : t < O.length), t < q → St.lt O[t].n xn = true) ∧ ∃ m, wr = wo.drewN m) (fun p _ => n2 - (intOf p).toNat)
          case atStart => exact ⟨0, by omega, rfl, ⟨fun t _ h => by omega⟩, 0, rfl⟩
          case round =>
            obtain ⟨q, hq, rfl, hlo, m, rfl⟩ := hrel
            obtain ⟨cw0, cw1⟩ := CX.out wo HB.out
            by_cases hqn : q < n2
            · have hql : q < O.length := by have := HL2.out; omega
              obtain ⟨g, rfl, hg1, hg2⟩ := O2.out.pos (by omega)
              obtain ⟨p0, p1, -, -⟩ := OwnL.at_ O2.out hql
              have hltb : Op.bytesLess O[q].n.toList xn.toList = St.lt O[q].n xn := rfl
              have heqb := St.eq_iff O[q].n xn
              by_cases hlt1 : St.lt O[q].n xn = true
              · have hlo2 : Kept (∀ t (ht : t < O.length), t < q + 1 → St.lt O[t].n xn = true) := ⟨fun t ht htq => by
                  by_cases e : t = q
                  · subst e; exact hlt1
                  · exact hlo.out t ht (by omega)⟩
                rw [hlt1] at hltb
                clear hlt1 heqb
                generalize O[q].n = pn at *
                generalize O[q].v = pv at *
                go_wp2_with fail
                go_quiet (fail)
                go_wp2
                go_roundw
                case rel => exact ⟨q + 1, by omega, by go_num, hlo2, _, rfl⟩
                case measure => simp [intOf]; omega
              · have hlt2 : St.lt O[q].n xn = false := by simpa using hlt1
                rw [hlt2] at hltb
                by_cases heq : O[q].n = xn
                · have hdup : Kept (Lb.Norm l 18 []) := ⟨.inr (.inl ⟨hon.out, Lb.dup_of hsp.out.2 hil HX.out q hql heq, rfl, rfl⟩)⟩
                  rw [decide_eq_true heq] at heqb
                  clear heq hlt1 hlt2
                  generalize O[q].n = pn at *
                  generalize O[q].v = pv at *
                  go_wp2_with fail
                  go_quiet (fail)
                  go_wp2
                  go_quiet (fail)
                  go_wp2
                  go_ret2
                  exact ⟨18, none, 0, 0, [], rfl, hdup.out, OwnL.nil _ _, below_drewN (below_drewN (below_drewN HB.out _) _) _⟩
                · have hup : Kept (∀ (hj : q < O.length), St.lt xn O[q].n = true) := ⟨fun hj => by
                    cases h : St.lt xn O[q].n with
                    | true => rfl
                    | false => exact absurd (St.total hlt2 h) heq⟩
                  rw [decide_eq_false heq] at heqb
                  clear heq hlt1 hlt2
                  generalize hpn : O[q].n = pn at p0 hltb heqb
                  have HPN := Kept.mk hpn
                  clear hpn
                  generalize O[q].v = pv at *
                  go_wp2_with fail
                  go_quiet (fail)
                  rename Nat => nq1
                  go_wp2
                  go_quiet (fail)
                  clear p0 p1 hltb heqb HPN cw0 cw1
                  have hz0 := HB.out.size
                  have WQ : Kept (Below w.heap.size w (((wo.drewN m).drewN nq1).drewN nq)) := ⟨below_drewN (below_drewN (below_drewN HB.out _) _) _⟩
                  have OQ : Kept (OwnL (((wo.drewN m).drewN nq1).drewN nq) w.heap.size (some ⟨g, 0, none⟩) n2 c2 O) := ⟨O2.out⟩
                  have CQ := Kept.mk (CX.out (((wo.drewN m).drewN nq1).drewN nq) WQ.out)
                  have hzq : w.heap.size ≤ (((wo.drewN m).drewN nq1).drewN nq).heap.size := WQ.out.size
                  generalize ((wo.drewN m).drewN nq1).drewN nq = wq at *
                  obtain ⟨cx0, cx1⟩ := CQ.out
                  go_upto_region 18 with (at_builtin; refine wpList_appL rfl (.tmp 66) (.tmp 71) rfl w.heap.size (some ⟨g, 0, none⟩) n2 c2 O rfl (World.ownsRow.alloc OQ.out _) (wq.heap.size + 1) _ _ _ [⟨xn, xv⟩] rfl (lit1 wq ⟨xn, xv⟩) (by omega) (by simp; omega) ?_; intro A4 c4 w4 hown4 hgrow4 hat4; have O4 := Kept.mk hown4; have B4 := Kept.mk ((WQ.out.alloc hzq (.cells #[.string xn, .string xv] 67)).grown hgrow4 (by simp; omega) (fun g e => (own_lt OQ.out g e).1)); clear hown4 hgrow4 hat4)
                  obtain ⟨g4, rfl, hg4, -⟩ := O4.out.pos (by omega)
                  have hc4 := O4.out.rd.1
                  have hc4m := O4.out.rd.2.1
                  unfold maxLen at hc4m
                  have hln2 := HL2.out
                  clear OQ WQ cx0 cx1 CQ
                  go_loopw [9] (fun j wr => ∃ t : Nat, q ≤ t ∧ t ≤ n2 ∧ j = .int .i64 t ∧ (∃ y, OwnL wr w.heap.size (some ⟨g4, 0, none⟩) (n2 + 1) c4 (O.take t ++ y :: O.drop t)) ∧ Below w.heap.size w wr) (fun j _ => (intOf j).toNat)
                  case atStart => exact ⟨n2, hq, Nat.le_refl _, by go_num, ⟨⟨xn, xv⟩, by rw [hln2, ← Lb.shift_start]; exact hln2 ▸ O4.out⟩, B4.out⟩
                  case round =>
                    clear O4 B4
                    obtain ⟨t, hqt, htn, rfl, ⟨y, ho⟩, hb⟩ := hrel
                    by_cases hgt : q < t
                    · have htl : t ≤ O.length := by omega
                      have h1 := OwnL.at_ (k := t) ho (by rw [Lb.shift_len _ _ _ htl]; omega)
                      have h2 := OwnL.at_ (k := t - 1) ho (by rw [Lb.shift_len _ _ _ htl]; omega)
                      have hge : (O.take t ++ y :: O.drop t)[t - 1]'(by rw [Lb.shift_len _ _ _ htl]; omega) = O[t - 1]'(by omega) := by
                        have := Lb.shift_get O t y (by omega) htl
                        rw [List.getElem?_eq_getElem (by rw [Lb.shift_len _ _ _ htl]; omega), List.getElem?_eq_getElem (by omega)] at this
                        exact Option.some.inj this
                      rw [hge] at h2
                      have OS := Kept.mk (OwnL.set ho t (O[t - 1]'(by omega)))
                      rw [Lb.shift_step O t y (by omega) htl] at OS
                      have BS := Kept.mk (OwnL.below_set ho t (O[t - 1]'(by omega)) w hb hg4)
                      generalize O[t - 1]'(by omega) = z at *
                      obtain ⟨zn, zv⟩ := z
                      obtain ⟨x0, x1, f0, f1⟩ := h1
                      obtain ⟨z0, z1, -, -⟩ := h2
                      generalize ((O.take t ++ y :: O.drop t)[t]'_).n = un at *
                      generalize ((O.take t ++ y :: O.drop t)[t]'_).v = uv at *
                      have y1 : ∀ v, (wr.setCell ⟨g4, t * 2, none⟩ v).cell? ⟨g4, t * 2 + 1, none⟩ = some (.string uv) := fun v => (World.cell?_setCell_other wr ⟨g4, t * 2, none⟩ ⟨g4, t * 2 + 1, none⟩ v (by simp)).trans x1
                      have ek : (t : Int) - 1 = ((t - 1 : Nat) : Int) := by omega
                      have ek2 : ((t - 1 : Nat) : Int) < ((n2 : Int) + 1) := by omega
                      have ek3 : (q : Int) < (t : Int) := by omega
                      have ek4 : (t : Int) < ((n2 : Int) + 1) := by omega
                      have ew : IntKind.i64.wrap ((t - 1 : Nat) : Int) = ((t - 1 : Nat) : Int) := by rw [IntKind.wrap_i64]; omega
                      clear ho hb
                      go_wp2
                      go_roundw
                      case rel => exact ⟨t - 1, by omega, by omega, by go_num, ⟨⟨zn, zv⟩, OS.out⟩, BS.out⟩
                      case measure => simp [intOf]; omega
                    · obtain rfl : q = t := by omega
                      have htl : q ≤ O.length := by omega
                      obtain ⟨x0, x1, f0, f1⟩ := OwnL.at_ (k := q) ho (by rw [Lb.shift_len _ _ _ htl]; omega)
                      have OS := Kept.mk (OwnL.set ho q ⟨xn, xv⟩)
                      rw [Lb.shift_end O q y ⟨xn, xv⟩ htl] at OS
                      have BS := Kept.mk (OwnL.below_set ho q ⟨xn, xv⟩ w hb hg4)
                      obtain ⟨d0, d1⟩ := CX.out wr hb
                      generalize ((O.take q ++ y :: O.drop q)[q]'_).n = un at *
                      generalize ((O.take q ++ y :: O.drop q)[q]'_).v = uv at *
                      have y1 : ∀ v, (wr.setCell ⟨g4, q * 2, none⟩ v).cell? ⟨g4, q * 2 + 1, none⟩ = some (.string uv) := fun v => (World.cell?_setCell_other wr ⟨g4, q * 2, none⟩ ⟨g4, q * 2 + 1, none⟩ v (by simp)).trans x1
                      have ek4 : (q : Int) < ((n2 : Int) + 1) := by omega
                      have hnew : Kept (Lb.Srt (O.take q ++ ⟨xn, xv⟩ :: O.drop q) ∧ (O.take q ++ ⟨xn, xv⟩ :: O.drop q).Perm (l.take (i + 1))) := ⟨Lb.srt_ins hsp.out.1 q htl hlo.out hup.out, Lb.perm_ins hsp.out.2 q hil HX.out⟩
                      clear ho hb
                      go_wp2
                      go_roundw
                      case rel => exact ⟨i + 1, by omega, by go_num, some ⟨g4, 0, none⟩, n2 + 1, c4, _, rfl, OS.out, hnew, BS.out⟩
                      case measure => simp [intOf]; omega
            · have hup : Kept (∀ (hj : q < O.length), St.lt xn O[q].n = true) := ⟨fun hj => by have := HL2.out; omega⟩
              have hqn' : ¬ (q : Int) < (n2 : Int) := by omega
              go_wp2_with fail
              go_quiet (fail)
              rename Nat => nq1
              go_wp2
              go_quiet (fail)
              clear cw0 cw1 hqn' hqn
              have hz0 := HB.out.size
              have WQ : Kept (Below w.heap.size w (((wo.drewN m).drewN nq1).drewN nq)) := ⟨below_drewN (below_drewN (below_drewN HB.out _) _) _⟩
              have OQ : Kept (OwnL (((wo.drewN m).drewN nq1).drewN nq) w.heap.size A2 n2 c2 O) := ⟨O2.out⟩
              have CQ := Kept.mk (CX.out (((wo.drewN m).drewN nq1).drewN nq) WQ.out)
              have hzq : w.heap.size ≤ (((wo.drewN m).drewN nq1).drewN nq).heap.size := WQ.out.size
              generalize ((wo.drewN m).drewN nq1).drewN nq = wq at *
              obtain ⟨cx0, cx1⟩ := CQ.out
              go_upto_region 18 with (at_builtin; refine wpList_appL rfl (.tmp 66) (.tmp 71) rfl w.heap.size A2 n2 c2 O rfl (World.ownsRow.alloc OQ.out _) (wq.heap.size + 1) _ _ _ [⟨xn, xv⟩] rfl (lit1 wq ⟨xn, xv⟩) (by omega) (by simp; omega) ?_; intro A4 c4 w4 hown4 hgrow4 hat4; have O4 := Kept.mk hown4; have B4 := Kept.mk ((WQ.out.alloc hzq (.cells #[.string xn, .string xv] 67)).grown hgrow4 (by simp; omega) (fun g e => (own_lt OQ.out g e).1)); clear hown4 hgrow4 hat4)
              obtain ⟨g4, rfl, hg4, -⟩ := O4.out.pos (by omega)
              have hc4 := O4.out.rd.1
              have hc4m := O4.out.rd.2.1
              unfold maxLen at hc4m
              have hln2 := HL2.out
              clear OQ WQ cx0 cx1 CQ
              go_loopw [9] (fun j wr => ∃ t : Nat, q ≤ t ∧ t ≤ n2 ∧ j = .int .i64 t ∧ (∃ y, OwnL wr w.heap.size (some ⟨g4, 0, none⟩) (n2 + 1) c4 (O.take t ++ y :: O.drop t)) ∧ Below w.heap.size w wr) (fun j _ => (intOf j).toNat)
              case atStart => exact ⟨n2, hq, Nat.le_refl _, by go_num, ⟨⟨xn, xv⟩, by rw [hln2, ← Lb.shift_start]; exact hln2 ▸ O4.out⟩, B4.out⟩
              case round =>
                clear O4 B4
                obtain ⟨t, hqt, htn, rfl, ⟨y, ho⟩, hb⟩ := hrel
                by_cases hgt : q < t
                · have htl : t ≤ O.length := by omega
                  have h1 := OwnL.at_ (k := t) ho (by rw [Lb.shift_len _ _ _ htl]; omega)
                  have h2 := OwnL.at_ (k := t - 1) ho (by rw [Lb.shift_len _ _ _ htl]; omega)
                  have hge : (O.take t ++ y :: O.drop t)[t - 1]'(by rw [Lb.shift_len _ _ _ htl]; omega) = O[t - 1]'(by omega) := by
                    have := Lb.shift_get O t y (by omega) htl
                    rw [List.getElem?_eq_getElem (by rw [Lb.shift_len _ _ _ htl]; omega), List.getElem?_eq_getElem (by omega)] at this
                    exact Option.some.inj this
                  rw [hge] at h2
                  have OS := Kept.mk (OwnL.set ho t (O[t - 1]'(by omega)))
                  rw [Lb.shift_step O t y (by omega) htl] at OS
                  have BS := Kept.mk (OwnL.below_set ho t (O[t - 1]'(by omega)) w hb hg4)
                  generalize O[t - 1]'(by omega) = z at *
                  obtain ⟨zn, zv⟩ := z
                  obtain ⟨x0, x1, f0, f1⟩ := h1
                  obtain ⟨z0, z1, -, -⟩ := h2
                  generalize ((O.take t ++ y :: O.drop t)[t]'_).n = un at *
                  generalize ((O.take t ++ y :: O.drop t)[t]'_).v = uv at *
                  have y1 : ∀ v, (wr.setCell ⟨g4, t * 2, none⟩ v).cell? ⟨g4, t * 2 + 1, none⟩ = some (.string uv) := fun v => (World.cell?_setCell_other wr ⟨g4, t * 2, none⟩ ⟨g4, t * 2 + 1, none⟩ v (by simp)).trans x1
                  have ek : (t : Int) - 1 = ((t - 1 : Nat) : Int) := by omega
                  have ek2 : ((t - 1 : Nat) : Int) < ((n2 : Int) + 1) := by omega
                  have ek3 : (q : Int) < (t : Int) := by omega
                  have ek4 : (t : Int) < ((n2 : Int) + 1) := by omega
                  have ew : IntKind.i64.wrap ((t - 1 : Nat) : Int) = ((t - 1 : Nat) : Int) := by rw [IntKind.wrap_i64]; omega
                  clear ho hb
                  go_wp2
                  go_roundw
                  case rel => exact ⟨t - 1, by omega, by omega, by go_num, ⟨⟨zn, zv⟩, OS.out⟩, BS.out⟩
                  case measure => simp [intOf]; omega
                · obtain rfl : q = t := by omega
                  have htl : q ≤ O.length := by omega
                  obtain ⟨x0, x1, f0, f1⟩ := OwnL.at_ (k := q) ho (by rw [Lb.shift_len _ _ _ htl]; omega)
                  have OS := Kept.mk (OwnL.set ho q ⟨xn, xv⟩)
                  rw [Lb.shift_end O q y ⟨xn, xv⟩ htl] at OS
                  have BS := Kept.mk (OwnL.below_set ho q ⟨xn, xv⟩ w hb hg4)
                  obtain ⟨d0, d1⟩ := CX.out wr hb
                  generalize ((O.take q ++ y :: O.drop q)[q]'_).n = un at *
                  generalize ((O.take q ++ y :: O.drop q)[q]'_).v = uv at *
                  have y1 : ∀ v, (wr.setCell ⟨g4, q * 2, none⟩ v).cell? ⟨g4, q * 2 + 1, none⟩ = some (.string uv) := fun v => (World.cell?_setCell_other wr ⟨g4, q * 2, none⟩ ⟨g4, q * 2 + 1, none⟩ v (by simp)).trans x1
                  have ek4 : (q : Int) < ((n2 : Int) + 1) := by omega
                  have hnew : Kept (Lb.Srt (O.take q ++ ⟨xn, xv⟩ :: O.drop q) ∧ (O.take q ++ ⟨xn, xv⟩ :: O.drop q).Perm (l.take (i + 1))) := ⟨Lb.srt_ins hsp.out.1 q htl hlo.out hup.out, Lb.perm_ins hsp.out.2 q hil HX.out⟩
                  clear ho hb
                  go_wp2
                  go_roundw
                  case rel => exact ⟨i + 1, by omega, by go_num, some ⟨g4, 0, none⟩, n2 + 1, c4, _, rfl, OS.out, hnew, BS.out⟩
                  case measure => simp [intOf]; omega
        · obtain rfl : i = n := by omega
          have ht : l.take i = l := List.take_of_length_le (by have := hn.out; omega)
          have O2 := Kept.mk ho
          have HB := Kept.mk hb
          have hno : Kept (Lb.Norm l 0 O) := ⟨.inr (.inr ⟨hon.out, hsp.out.1, by rw [← ht]; exact hsp.out.2, rfl⟩)⟩
          clear ho hb
          go_wp2
          go_ret2
          exact ⟨0, A2, n2, c2, O, rfl, hno.out, O2.out, HB.out⟩
end Go.Proofs.Ythhcfocmaiacoaa
