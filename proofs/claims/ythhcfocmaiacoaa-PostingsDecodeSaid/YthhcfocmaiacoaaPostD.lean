/- Chapter 15, plain: the index of label sets. -/
import Derived.Test.YthhcfocmaiacoaaPostT
import Derived.Test.YthhcfocmaiacoaaPostA
namespace Go.Proofs.Ythhcfocmaiacoaa
open Go.RowKit Go.Shelf

namespace Lb
/-- labels, strictly rising -/
def PSrt (l : List Lab) : Prop := l.Pairwise fun x y => plt x y = true
theorem permIn_perm {l : List Lab} {d : Array Lab} (hp : Sort.PermIn 0 l.toArray.size l.toArray d) : d.toList.Perm l := by
  have h := hp.2.2
  have h1 := hp.1
  rw [← h1, Array.extract_size] at h
  rw [h1, Array.extract_size] at h
  simpa using h
theorem psrt_of_sort {l : List Lab} {d : Array Lab} (hp : Sort.PermIn 0 l.toArray.size l.toArray d) (hs : Sort.SortedIn plt 0 l.toArray.size d) (hn : l.Nodup) : PSrt d.toList := by
  have hperm := permIn_perm hp
  have hnd : d.toList.Nodup := hperm.nodup_iff.2 hn
  have hsz := hp.1
  unfold PSrt
  rw [List.pairwise_iff_getElem]
  intro i j hi hj hij
  have hi' : i < d.size := by simpa using hi
  have hj' : j < d.size := by simpa using hj
  have h := hs i j (Nat.zero_le _) hij (by omega)
  rw [show d[j]! = d[j] by simp [hj'], show d[i]! = d[i] by simp [hi']] at h
  have hne : d.toList[i] ≠ d.toList[j] := (List.pairwise_iff_getElem.1 hnd) i j hi hj hij
  simp only [Array.getElem_toList] at hne ⊢
  rcases plt_total hne with h1 | h1
  · exact h1
  · rw [h] at h1; cases h1
end Lb
set_option maxRecDepth 100000 in
set_option maxHeartbeats 2000000 in
theorem sortedFunc_any (bx b : Nat) (es : List (Lab × Value)) (w : World) (hw : Boxed w bx 111 (.map (some b))) (hm : MapL w b es) (hn : es.length ≤ 1000000) :
    Calls Try.prog 70 #[.func (.func 104) #[] #[.pointer (some ⟨bx, 0, none⟩)], .func (.func 72) #[] #[]] w fun e w' =>
      ∃ A2 n2 c2 l, e = .returned (.slice A2 n2 c2) ∧ FullK es l ∧ Lb.PSrt l ∧ RdL w' w'.heap.size A2 n2 c2 l ∧ Below w.heap.size w w' := by
  have CO := Kept.mk (collectL_any bx b es w hw hm hn)
  have SO : Kept (∀ (w1 : World) A2 n2 c2 l, FullK es l → OwnL w1 w.heap.size A2 n2 c2 l → Below w.heap.size w w1 → Calls Try.prog 103 #[.slice A2 n2 c2, .func (.func 72) #[] #[]] w1 fun e w' => e = .returned (.tuple #[]) ∧ ∃ l, FullK es l ∧ Lb.PSrt l ∧ RdL w' w'.heap.size A2 n2 c2 l ∧ Below w.heap.size w w') := ⟨by
    intro w1 A2 n2 c2 l hf ho hb
    have hln := ho.len
    have hle : l.length ≤ (es.map (·.1)).length := nodup_len _ _ hf.1 (fun x hx => (hf.2 x).1 hx)
    rw [List.length_map] at hle
    rcases Nat.eq_zero_or_pos n2 with h0 | h0
    · subst h0
      obtain rfl : l = [] := List.eq_nil_of_length_eq_zero hln.symm
      exact (sortP_none A2 c2 _ w1).mono fun e w' ⟨h1, h2⟩ => ⟨h1, [], hf, List.Pairwise.nil, by rw [h2]; exact ho.rd, by rw [h2]; exact hb⟩
    · obtain ⟨g, rfl, hg1, hg2⟩ := own_pos ho h0
      refine (sortP_any g n2 c2 w.heap.size l w1 ho hb.size (by omega)).mono ?_
      rintro e w' ⟨h1, d, h2, h3, h4, h5⟩
      have hp := Lb.permIn_perm h2
      exact ⟨h1, d.toList, ⟨hp.nodup_iff.2 hf.1, fun x => (hp.mem_iff).trans (hf.2 x)⟩, Lb.psrt_of_sort h2 h3 hf.1, h4.more h5.size, hb.trans h5⟩⟩
  clear hw hm hn
  go_enter Try.func70, Try.ntmps70
  go_wp2_with (first
    | (go_at_call 102; refine CO.out.mono ?_; rintro e w1 ⟨A2, n2, c2, l, rfl, hf, ho, hb⟩; have O := Kept.mk ho; have B := Kept.mk hb; have F := Kept.mk hf; clear ho hb hf)
    | (go_at_call 103; refine (SO.out w1 A2 n2 c2 l F.out O.out B.out).mono ?_; rintro e w2 ⟨rfl, hr⟩; have R := Kept.mk hr; clear hr))
  go_ret
  obtain ⟨l2, h1, h2, h3, h4⟩ := R.out
  exact ⟨A2, n2, c2, l2, rfl, h1, h2, h3, h4⟩
end Go.Proofs.Ythhcfocmaiacoaa
namespace Go.Proofs.Ythhcfocmaiacoaa
namespace Ps
/-- the labels with the numbers of their sets -/
def prs : List (List Lab) → Nat → List (Lab × Int)
  | [], _ => []
  | m :: M, k => m.map (fun x => (x, (k : Int))) ++ prs M (k + 1)
def ser (x : Lab) (P : List (Lab × Int)) : List Int := (P.filter fun p => decide (p.1 = x)).map (·.2)
theorem ser_app (x : Lab) (P Q : List (Lab × Int)) : ser x (P ++ Q) = ser x P ++ ser x Q := by simp [ser]
theorem ser_hit (x : Lab) (v : Int) : ser x [(x, v)] = [v] := by simp [ser]
theorem ser_miss {x y : Lab} (h : y ≠ x) (v : Int) : ser x [(y, v)] = [] := by simp [ser, h]
theorem ser_none {x : Lab} {P : List (Lab × Int)} (h : x ∉ P.map (·.1)) : ser x P = [] := by
  unfold ser
  rw [List.map_eq_nil_iff, List.filter_eq_nil_iff]
  intro p hp e
  exact h (List.mem_map.2 ⟨p, hp, by simpa using e⟩)
/-- entries are the index of pairs -/
structure Idx (P : List (Lab × Int)) (E : List EntV) : Prop where
  srt : Lb.PSrt (E.map (·.1))
  mem : ∀ x, x ∈ E.map (·.1) ↔ x ∈ P.map (·.1)
  ser : ∀ e ∈ E, e.2 = ser e.1 P
theorem psrt_uniq : ∀ {a b : List Lab}, Lb.PSrt a → Lb.PSrt b → (∀ x, x ∈ a ↔ x ∈ b) → a = b
  | [], [], _, _, _ => rfl
  | [], y :: b, _, _, h => absurd ((h y).2 (by simp)) (by simp)
  | x :: a, [], _, _, h => absurd ((h x).1 (by simp)) (by simp)
  | x :: a, y :: b, ha, hb, h => by
    obtain ⟨ha1, ha2⟩ := List.pairwise_cons.1 ha
    obtain ⟨hb1, hb2⟩ := List.pairwise_cons.1 hb
    have e : x = y := by
      rcases List.mem_cons.1 ((h x).1 (by simp)) with e | h1
      · exact e
      · rcases List.mem_cons.1 ((h y).2 (by simp)) with e | h2
        · exact e.symm
        · have := Lb.plt_trans (ha1 y h2) (hb1 x h1)
          rw [Lb.plt_irrefl] at this; cases this
    subst e
    rw [psrt_uniq ha2 hb2 fun z => ?_]
    constructor
    · intro hz
      rcases List.mem_cons.1 ((h z).1 (by simp [hz])) with e | h1
      · subst e
        have := ha1 z hz
        rw [Lb.plt_irrefl] at this; cases this
      · exact h1
    · intro hz
      rcases List.mem_cons.1 ((h z).2 (by simp [hz])) with e | h1
      · subst e
        have := hb1 z hz
        rw [Lb.plt_irrefl] at this; cases this
      · exact h1
theorem ext_ent : ∀ {E E' : List EntV}, E.map (·.1) = E'.map (·.1) → (∀ e ∈ E, ∀ e' ∈ E', e.1 = e'.1 → e.2 = e'.2) → E = E'
  | [], [], _, _ => rfl
  | [], _ :: _, h, _ => by simp at h
  | _ :: _, [], h, _ => by simp at h
  | a :: E, b :: E', h, hs => by
    simp only [List.map_cons, List.cons.injEq] at h
    rw [ext_ent h.2 fun e he e' he' => hs e (by simp [he]) e' (by simp [he'])]
    have := hs a (by simp) b (by simp) h.1
    rw [show a = b from Prod.ext h.1 this]
theorem Idx.uniq {P : List (Lab × Int)} {E E' : List EntV} (h : Idx P E) (h' : Idx P E') : E = E' :=
  ext_ent (psrt_uniq h.srt h'.srt fun x => (h.mem x).trans (h'.mem x).symm) fun e he e' he' hx => by rw [h.ser e he, h'.ser e' he', hx]
/-- entries on the way, in whatever order -/
def MIn (P : List (Lab × Int)) (es : List EntV) : Prop := (∀ x, x ∈ es.map (·.1) ↔ x ∈ P.map (·.1)) ∧ ∀ e ∈ es, e.2 = ser e.1 P
theorem MIn.nil : MIn [] [] := ⟨by simp, by simp⟩
theorem MIn.hit {P : List (Lab × Int)} {es : List EntV} (h : MIn P es) (hd : (es.map (·.1)).Nodup) {i : Nat} (hi : i < es.length) (v : Int) :
    MIn (P ++ [(es[i].1, v)]) (es.set i (es[i].1, es[i].2 ++ [v])) := by
  have hk : (es.set i (es[i].1, es[i].2 ++ [v])).map (·.1) = es.map (·.1) := by
    rw [List.map_set]
    apply List.ext_getElem (by simp)
    intro j h1 h2
    rw [List.getElem_set]
    split
    · next e => subst e; simp
    · rfl
  refine ⟨fun x => ?_, fun e he => ?_⟩
  · rw [hk, h.1, List.map_append, List.mem_append]
    refine ⟨.inl, fun hx => ?_⟩
    rcases hx with hx | hx
    · exact hx
    · have hx2 : x = es[i].1 := by simpa using hx
      rw [hx2]
      exact (h.1 _).1 (List.mem_map.2 ⟨es[i], List.getElem_mem hi, rfl⟩)
  · obtain ⟨j, hj, rfl⟩ := List.mem_iff_getElem.1 he
    rw [List.getElem_set]
    have hj' : j < es.length := by simpa using hj
    split
    · next e =>
      show es[i].2 ++ [v] = ser es[i].1 _
      rw [ser_app, ser_hit, ← h.2 _ (List.getElem_mem hi)]
    · next e =>
      have hne : es[i].1 ≠ es[j].1 := fun e1 => e ((List.getElem_inj (h₀ := by simpa using hi) (h₁ := by simpa using hj') hd).1 (by simpa using e1))
      rw [ser_app, ser_miss hne, List.append_nil]
      exact h.2 _ (List.getElem_mem hj')
theorem MIn.fresh {P : List (Lab × Int)} {es : List EntV} (h : MIn P es) {x : Lab} (hx : x ∉ es.map (·.1)) (v : Int) : MIn (P ++ [(x, v)]) (es ++ [(x, [v])]) := by
  refine ⟨fun y => ?_, fun e he => ?_⟩
  · rw [List.map_append, List.map_append, List.mem_append, List.mem_append, h.1]
    simp
  · rcases List.mem_append.1 he with h1 | h1
    · have hne : x ≠ e.1 := fun e1 => hx (by rw [e1]; exact List.mem_map.2 ⟨e, h1, rfl⟩)
      rw [ser_app, ser_miss hne, List.append_nil]
      exact h.2 e h1
    · rw [List.mem_singleton.1 h1]
      show [v] = ser x _
      rw [ser_app, ser_hit, ser_none fun hp => hx ((h.1 x).2 hp)]
      rfl
end Ps
end Go.Proofs.Ythhcfocmaiacoaa
