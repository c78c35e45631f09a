/- Chapter 10: the program's Table: the strings collected, sorted, and compacted. -/
import Derived.Test.YthhcfocmaiacoaaSymA
import Derived.Test.YthhcfocmaiacoaaSymMath
import Derived.Test.YthhcfocmaiacoaaShelfS
import Derived.Lib.RowBridge
namespace Go.Proofs.Ythhcfocmaiacoaa
open Go.RowKit Go.Shelf Go.Sort

namespace Sy
def ofL (l : List UInt8) : ByteArray := ⟨l.toArray⟩
theorem ofL_toList (l : List UInt8) : (ofL l).toList = l := by rw [St.tl]; simp [ofL]
theorem ofL_data (s : ByteArray) : ofL s.data.toList = s := by unfold ofL; rfl
theorem ofL_inj {a b : List UInt8} (h : ofL a = ofL b) : a = b := by rw [← ofL_toList a, h, ofL_toList]
def bl (l : List ByteArray) : List (List UInt8) := l.map fun s => s.data.toList
theorem bl_of (l : List ByteArray) : (bl l).map ofL = l := by
  unfold bl
  rw [List.map_map]
  conv => rhs; rw [← List.map_id l]
  exact List.map_congr_left fun s _ => ofL_data s
theorem le_iff (x y : List UInt8) : decide (x ≤ y) = true ↔ St.lt (ofL y) (ofL x) = false := by
  rw [decide_eq_true_iff, Bool.eq_false_iff, Ne, St.lt_iff, ofL_toList, ofL_toList]
  exact List.not_lt.symm
theorem compact_srt {S : List (List UInt8)} (hS : S.Pairwise fun x y => St.lt (ofL y) (ofL x) = false) : ∀ m, m ≤ S.length →
    (Lib.compactUpTo S.toArray m).Pairwise (fun x y => St.lt (ofL x) (ofL y) = true) ∧ ∀ x, x ∈ Lib.compactUpTo S.toArray m ↔ ∃ i, ∃ h : i < S.length, i < m ∧ S[i] = x
  | 0, _ => ⟨by simp [Lib.compactUpTo], fun x => by simp [Lib.compactUpTo]⟩
  | m + 1, hm => by
    obtain ⟨h1, h2⟩ := compact_srt hS m (by omega)
    have hml : m < S.length := by omega
    have hg : S.toArray[m]! = S[m] := by simp [hml]
    rw [Lib.compactUpTo_succ]
    have hle : ∀ i j (hi : i < S.length) (hj : j < S.length), i < j → St.lt (ofL S[j]) (ofL S[i]) = false := fun i j hi hj hij => (List.pairwise_iff_getElem.1 hS) i j hi hj hij
    by_cases hk : Lib.keeps S.toArray m = true
    · rw [if_pos hk, hg]
      refine ⟨?_, fun x => ?_⟩
      · rw [List.pairwise_append]
        refine ⟨h1, List.pairwise_singleton _ _, fun x hx y hy => ?_⟩
        obtain ⟨i, hi, him, rfl⟩ := (h2 x).1 hx
        rw [List.mem_singleton.1 hy]
        have hd : m = 0 ∨ S.toArray[m]! ≠ S.toArray[m - 1]! := by simpa [Lib.keeps] using hk
        rcases hd with h0 | hd
        · omega
        · have hg1 : S.toArray[m - 1]! = S[m - 1] := by simp [show m - 1 < S.length by omega]
          rw [hg, hg1] at hd
          apply Classical.byContradiction
          intro hn
          have hn' : St.lt (ofL S[i]) (ofL S[m]) = false := by simpa using hn
          have he := St.total hn' (hle i m hi hml him)
          apply hd
          apply ofL_inj
          rcases Nat.lt_or_ge i (m - 1) with h3 | h3
          · have a1 := hle i (m - 1) hi (by omega) h3
            have a2 := hle (m - 1) m (by omega) hml (by omega)
            rw [← he] at a2 ⊢
            exact St.total a2 a1
          · obtain rfl : i = m - 1 := by omega
            exact he.symm
      · rw [List.mem_append, h2, List.mem_singleton]
        constructor
        · rintro (⟨i, hi, him, rfl⟩ | rfl)
          · exact ⟨i, hi, by omega, rfl⟩
          · exact ⟨m, hml, by omega, rfl⟩
        · rintro ⟨i, hi, him, rfl⟩
          by_cases e : i = m
          · subst e; exact .inr rfl
          · exact .inl ⟨i, hi, by omega, rfl⟩
    · rw [if_neg hk, List.append_nil]
      have hd : ¬ (m = 0 ∨ S.toArray[m]! ≠ S.toArray[m - 1]!) := by simpa [Lib.keeps] using hk
      have hm0 : m ≠ 0 := fun h => hd (.inl h)
      have he : S[m] = S[m - 1] := by
        have hg1 : S.toArray[m - 1]! = S[m - 1] := by simp [show m - 1 < S.length by omega]
        rw [← hg, ← hg1]
        exact Classical.byContradiction fun h => hd (.inr h)
      refine ⟨h1, fun x => ?_⟩
      rw [h2]
      constructor
      · rintro ⟨i, hi, him, rfl⟩
        exact ⟨i, hi, by omega, rfl⟩
      · rintro ⟨i, hi, him, rfl⟩
        by_cases e : i = m
        · subst e; exact ⟨i - 1, by omega, by omega, he.symm⟩
        · exact ⟨i, hi, by omega, rfl⟩
/-- the table, as the program makes it -/
def tabL (l : List ByteArray) : List (List UInt8) := Lib.compact ((bl l).mergeSort fun x y => decide (x ≤ y))
theorem tabL_tab (l : List ByteArray) : Tab l ((tabL l).map ofL) := by
  obtain ⟨S, hS⟩ : ∃ S, S = (bl l).mergeSort fun x y => decide (x ≤ y) := ⟨_, rfl⟩
  have hsort : S.Pairwise fun x y => St.lt (ofL y) (ofL x) = false := by
    have := List.pairwise_mergeSort (le := fun x y : List UInt8 => decide (x ≤ y)) (fun a b c h1 h2 => by
      rw [le_iff] at h1 h2 ⊢
      exact St.ntrans h2 h1) (fun a b => by
      simp only [Bool.or_eq_true, le_iff]
      cases h : St.lt (ofL b) (ofL a) with
      | false => exact .inl rfl
      | true => exact .inr (St.asymm h)) (bl l)
    rw [← hS] at this
    exact this.imp fun {a b} h => (le_iff a b).1 h
  have hmem : ∀ x, x ∈ S ↔ x ∈ bl l := fun x => by rw [hS]; exact List.mem_mergeSort
  obtain ⟨h1, h2⟩ := compact_srt hsort S.length (Nat.le_refl _)
  have e : tabL l = Lib.compactUpTo S.toArray S.length := by unfold tabL; rw [← hS]; rfl
  rw [e]
  refine ⟨?_, fun s => ?_⟩
  · unfold Srt
    rw [List.pairwise_map]
    exact h1
  · rw [List.mem_map]
    constructor
    · rintro ⟨x, hx, rfl⟩
      obtain ⟨i, hi, -, rfl⟩ := (h2 x).1 hx
      have := (hmem _).1 (List.getElem_mem hi)
      obtain ⟨t, ht, e⟩ := List.mem_map.1 this
      rw [← e, ofL_data]; exact ht
    · intro hs
      have : s.data.toList ∈ S := (hmem _).2 (List.mem_map.2 ⟨s, hs, rfl⟩)
      obtain ⟨i, hi, e⟩ := List.mem_iff_getElem.1 this
      exact ⟨_, (h2 _).2 ⟨i, hi, hi, e⟩, ofL_data s⟩
theorem bl_len (l : List ByteArray) : (bl l).length = l.length := by simp [bl]
end Sy
theorem holds_ownS {w : World} {base g n c : Nat} {l : List ByteArray} (h : OwnS w base (some ⟨g, 0, none⟩) n c l) : Holds encStr w g 0 (Sy.bl l).toArray := by
  intro j hj
  have hn := h.len
  have hj' : j < l.length := by simpa [Sy.bl] using hj
  rw [Nat.zero_add]
  refine ⟨?_, World.ownsRow.frozenAt h j⟩
  rw [World.ownsRow.cellAt h j (by omega)]
  simp [svs, sv, Sy.bl, hj', encStr]
theorem putRow_below {α : Type} [Inhabited α] {enc : α → Value} {w : World} {base g m : Nat} {d : Array α} (hg : base ≤ g) : Below base w (putRow enc (Sort.ahead w m) g 0 d) := by
  refine ⟨rfl, rfl, rfl, ?_, fun k hk => ?_⟩
  · unfold putRow mapBlock; simp [Sort.ahead]
  · unfold putRow mapBlock
    simp [Sort.ahead, Array.getElem?_modify, show g ≠ k by omega]
theorem grow_below {w : World} (os : Array Obj) : Below w.heap.size w (grow w os) := by
  refine ⟨rfl, rfl, rfl, ?_, fun k hk => Sort.heap_grow_old _ os hk⟩
  rw [Sort.size_grow]; omega
theorem putRow_size {α : Type} [Inhabited α] {enc : α → Value} {w : World} {g m : Nat} {d : Array α} : (putRow enc (Sort.ahead w m) g 0 d).heap.size = w.heap.size := by
  unfold putRow mapBlock; simp [Sort.ahead]
theorem holds_ahead' {w : World} {g m : Nat} {d : Array (List UInt8)} (h : Holds encStr w g 0 d) : Holds encStr (Sort.ahead w m) g 0 d := holds_ahead encStr w m g 0 d h
theorem holds_grow {w : World} {g : Nat} {d : Array (List UInt8)} (h : Holds encStr w g 0 d) (os : Array Obj) (hg : g < w.heap.size) : Holds encStr (grow w os) g 0 d := by
  intro j hj
  have hb := (grow_below (w := w) os)
  exact ⟨(hb.cell (p := ⟨g, 0 + j, none⟩) hg).trans (h j hj).1, (hb.frozen (p := ⟨g, 0 + j, none⟩) hg).trans (h j hj).2⟩
theorem rd_holdsS {w : World} {g B n c : Nat} {d : Array (List UInt8)} {k : Nat} (hB : g < B) (hc : k ≤ c) (hm : c ≤ maxLen) (hk : k ≤ d.size) (hn : n = k) (h : Holds encStr w g 0 d) : RdS w B (some ⟨g, 0, none⟩) n c ((d.toList.take k).map Sy.ofL) := by
  subst hn
  refine ⟨hc, hm, by simp [svs]; omega, fun _ => ⟨g, 0, rfl, hB, fun i u hu => ?_⟩⟩
  have hi : i < n := by
    have := (List.getElem?_eq_some_iff.1 hu).1
    simp [svs] at this; omega
  have h1 := (h i (by omega)).1
  rw [h1, ← hu]
  simp [svs, sv, Sy.ofL, encStr, hi, show i < d.size by omega]
set_option maxHeartbeats 1000000 in
theorem valuesS_any (A : Option Addr) (n c : Nat) (w : World) : Calls Try.prog 58 #[.slice A n c] w fun e w' =>
    e = .returned (.func (.func 96) #[] #[.pointer (some ⟨w.heap.size, 0, none⟩)]) ∧ w' = w.alloc (.cells #[.slice A n c] 22) := by
  go_enter Try.func58, Try.ntmps58
  go_wp2
  go_ret
  exact ⟨rfl, rfl⟩
set_option maxHeartbeats 1000000 in
theorem collectS_any (bx : Nat) (A : Option Addr) (m c : Nat) (l : List ByteArray) (w : World) (hw : Boxed w bx 22 (.slice A m c)) (hv : RdS w w.heap.size A m c l) (hm : m ≤ 1000000) :
    Calls Try.prog 94 #[.func (.func 96) #[] #[.pointer (some ⟨bx, 0, none⟩)]] w fun e w' => ∃ A2 n2 c2, e = .returned (.slice A2 n2 c2) ∧ OwnS w' w.heap.size A2 n2 c2 l ∧ Below w.heap.size w w' := by
  have AP := Kept.mk (appendSeq_any bx A m c l w hw hv hm)
  clear hw hv
  go_enter Try.func94, Try.ntmps94
  go_wp2_with (go_at_call 114; refine AP.out.mono ?_; rintro e w1 ⟨A2, n2, c2, rfl, ho, hb⟩; have O := Kept.mk ho; have B := Kept.mk hb; clear ho hb)
  go_ret
  exact ⟨A2, n2, c2, rfl, O.out, B.out⟩
/-- what Sorted hands over: nothing, or a row that holds the sorted strings -/
def SortedRow (w0 w : World) (A : Option Addr) (n c : Nat) (S : List (List UInt8)) : Prop :=
  n = S.length ∧ c ≤ maxLen ∧ (n = 0 ∨ ∃ g, A = some ⟨g, 0, none⟩ ∧ w0.heap.size ≤ g ∧ g < w.heap.size ∧ n ≤ c ∧ c ≤ maxLen ∧ Holds encStr w g 0 S.toArray)
set_option maxRecDepth 100000 in
set_option maxHeartbeats 2000000 in
theorem sortedS_any (bx : Nat) (A : Option Addr) (m c : Nat) (l : List ByteArray) (w : World) (hw : Boxed w bx 22 (.slice A m c)) (hv : RdS w w.heap.size A m c l) (hm : m ≤ 1000000) :
    Calls Try.prog 57 #[.func (.func 96) #[] #[.pointer (some ⟨bx, 0, none⟩)]] w fun e w' => ∃ A2 n2 c2, e = .returned (.slice A2 n2 c2) ∧ SortedRow w w' A2 n2 c2 ((Sy.bl l).mergeSort fun x y => decide (x ≤ y)) ∧ Below w.heap.size w w' := by
  have hml := hv.len
  have CO := Kept.mk (collectS_any bx A m c l w hw hv hm)
  have SO : Kept (∀ (w1 : World) A2 n2 c2, OwnS w1 w.heap.size A2 n2 c2 l → Below w.heap.size w w1 → Calls Try.prog 95 #[.slice A2 n2 c2] w1 fun e w' => e = .returned (.tuple #[]) ∧ SortedRow w w' A2 n2 c2 ((Sy.bl l).mergeSort fun x y => decide (x ≤ y)) ∧ Below w.heap.size w w') := ⟨by
    intro w1 A2 n2 c2 ho hb
    have hn := ho.len
    have hrd := ho.rd
    rcases Nat.eq_zero_or_pos n2 with h0 | h0
    · subst h0
      obtain rfl : l = [] := List.eq_nil_of_length_eq_zero hn.symm
      exact (Any.slices_Sort_string_none Try.sortS A2 c2 w1).mono fun e w' ⟨h1, h2⟩ => ⟨h1, ⟨by simp [Sy.bl], hrd.2.1, .inl rfl⟩, by rw [h2]; exact hb⟩
    · obtain ⟨g, rfl, hg1, hg2⟩ := own_pos ho h0
      have hH := holds_ownS ho
      have con := Any.slices_Sort_string Try.sortS g 0 c2 (Sy.bl l) w1 hH hg2 (by rw [Sy.bl_len]; omega)
      change Calls Try.prog 95 _ _ _ at con
      rw [Sy.bl_len, ← hn] at con
      refine con.mono ?_
      rintro e w' ⟨h1, q, os, h2⟩
      have hsz : ((Sy.bl l).mergeSort fun x y => decide (x ≤ y)).length = l.length := by rw [List.length_mergeSort, Sy.bl_len]
      have hz : (putRow encStr (Sort.ahead w1 q) g 0 ((Sy.bl l).mergeSort fun x y => decide (x ≤ y)).toArray).heap.size = w1.heap.size := putRow_size
      have hbb := (hb.trans (putRow_below (enc := encStr) (w := w1) (m := q) (d := ((Sy.bl l).mergeSort fun x y => decide (x ≤ y)).toArray) hg1))
      refine ⟨h1, ⟨by rw [hsz]; exact hn, hrd.2.1, .inr ⟨g, rfl, hg1, ?_, hrd.1, hrd.2.1, ?_⟩⟩, ?_⟩
      · rw [h2, Sort.size_grow, hz]; omega
      · rw [h2]
        exact holds_grow (holds_putRow encStr (Sort.ahead w1 q) g 0 (Sy.bl l).toArray _ (holds_ahead' hH) (by simp)) os (by rw [hz]; exact hg2)
      · rw [h2]
        exact hbb.trans ((grow_below os).mono hbb.size)⟩
  clear hw hv
  go_enter Try.func57, Try.ntmps57
  go_wp2_with (first
    | (go_at_call 94; refine CO.out.mono ?_; rintro e w1 ⟨A2, n2, c2, rfl, ho, hb⟩; have O := Kept.mk ho; have B := Kept.mk hb; clear ho hb)
    | (go_at_call 95; refine (SO.out w1 A2 n2 c2 O.out B.out).mono ?_; rintro e w2 ⟨rfl, hr, hb⟩; have R := Kept.mk hr; have B2 := Kept.mk hb; clear hr hb))
  go_ret
  exact ⟨A2, n2, c2, rfl, R.out, B2.out⟩
set_option maxRecDepth 100000 in
set_option maxHeartbeats 2000000 in
theorem stable_any (A : Option Addr) (n c : Nat) (l : List ByteArray) (w : World) (hv : RdS w w.heap.size A n c l) (hn : n ≤ 1000000) :
    Calls Try.prog 26 #[.slice A n c] w fun r w' => ∃ A2 n2 c2 out, r = .returned (.slice A2 n2 c2) ∧ Sy.Tab l out ∧ RdS w' w'.heap.size A2 n2 c2 out ∧ Below w.heap.size w w' := by
  have SR := Kept.mk (sortedS_any w.heap.size A n c l (w.alloc (.cells #[.slice A n c] 22)) (Boxed.new w _ _) ((hv.alloc (Nat.le_refl _) _).more (by simp)) hn)
  have hln := hv.len
  have CS : Kept (∀ (w1 : World) A2 n2 c2, SortedRow (w.alloc (.cells #[.slice A n c] 22)) w1 A2 n2 c2 ((Sy.bl l).mergeSort fun x y => decide (x ≤ y)) → Below w.heap.size w w1 → Calls Try.prog 56 #[.slice A2 n2 c2] w1 fun e w' => ∃ A3 n3 c3 out, e = .returned (.slice A3 n3 c3) ∧ Sy.Tab l out ∧ RdS w' w'.heap.size A3 n3 c3 out ∧ Below w.heap.size w w') := ⟨by
    rintro w1 A2 n2 c2 ⟨hs, hcm, hr⟩ hb
    have hsz : ((Sy.bl l).mergeSort fun x y => decide (x ≤ y)).length = l.length := by rw [List.length_mergeSort, Sy.bl_len]
    rcases Nat.eq_zero_or_pos n2 with h0 | h0
    · subst h0
      obtain rfl : l = [] := List.eq_nil_of_length_eq_zero (by omega)
      refine (Any.slices_Compact_string_empty Try.compS A2 c2 w1).mono ?_
      rintro e w' ⟨h1, h2⟩
      exact ⟨A2, 0, c2, [], h1, ⟨List.Pairwise.nil, fun s => Iff.rfl⟩, Rd.nil _ _ 1 c2 A2 hcm, by rw [h2]; exact hb⟩
    · rcases hr with hr | ⟨g, rfl, hg1, hg2, hc1, hc2, hH⟩
      · omega
      · have con := Any.slices_Compact_string Try.compS g 0 c2 ((Sy.bl l).mergeSort fun x y => decide (x ≤ y)) w1 hH (by rw [hsz]; omega) (by rw [← hs]; exact hc1)
        change Calls Try.prog 56 _ _ _ at con
        rw [← hs] at con
        refine con.mono ?_
        rintro e w' ⟨h1, q, h2⟩
        have htl : (Sy.tabL l).length ≤ n2 := by rw [hs]; exact Lib.compact_length_le _
        have hz : w'.heap.size = w1.heap.size := by rw [h2]; exact putRow_size
        refine ⟨_, _, _, (Sy.tabL l).map Sy.ofL, h1, Sy.tabL_tab l, ?_, ?_⟩
        · have hh := holds_putRow encStr (Sort.ahead w1 q) g 0 _ (Lib.compact ((Sy.bl l).mergeSort fun x y => decide (x ≤ y)) ++ List.replicate (n2 - (Lib.compact ((Sy.bl l).mergeSort fun x y => decide (x ≤ y))).length) []).toArray (holds_ahead' hH) (by
            have := htl
            unfold Sy.tabL at this
            simp only [List.size_toArray, List.length_append, List.length_replicate]
            omega)
          rw [← h2] at hh
          have := rd_holdsS (B := w'.heap.size) (c := c2) (k := (Sy.tabL l).length) (n := (Sy.tabL l).length) (by rw [hz]; exact hg2) (by omega) hc2 (by simp [Sy.tabL]) rfl hh
          have e2 : ((Lib.compact ((Sy.bl l).mergeSort fun x y => decide (x ≤ y)) ++ List.replicate (n2 - (Lib.compact ((Sy.bl l).mergeSort fun x y => decide (x ≤ y))).length) []).toArray.toList.take (Sy.tabL l).length) = Sy.tabL l := by
            unfold Sy.tabL
            simp
          rw [e2] at this
          exact this
        · rw [h2]
          exact hb.trans (putRow_below (by simp at hg1; omega))⟩
  clear hv hln
  go_enter Try.func26, Try.ntmps26
  go_wp2_with (first
    | (go_at_call 58; refine (valuesS_any A n c w).mono ?_; rintro e w1 ⟨rfl, rfl⟩)
    | (go_at_call 57; refine SR.out.mono ?_; rintro e w2 ⟨A2, n2, c2, rfl, hr, hb⟩; have R := Kept.mk hr; have B : Kept (Below w.heap.size w w2) := ⟨((Below.refl _ w).alloc (Nat.le_refl _) _).trans (hb.mono (by simp))⟩; clear hr hb)
    | (go_at_call 56; refine (CS.out w2 A2 n2 c2 R.out B.out).mono ?_; rintro e w3 ⟨A3, n3, c3, out, rfl, ht, hr, hb⟩; have T := Kept.mk ht; have R3 := Kept.mk hr; have B3 := Kept.mk hb; clear ht hr hb))
  go_ret
  exact ⟨A3, n3, c3, out, rfl, T.out, R3.out, B3.out⟩
end Go.Proofs.Ythhcfocmaiacoaa
