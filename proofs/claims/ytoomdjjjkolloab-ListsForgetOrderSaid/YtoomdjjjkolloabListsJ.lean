/- slices.Grow, slices.Concat and slices.Reverse at lists of lists. -/
import Derived.Test.YtoomdjjjkolloabListsMath2
import Derived.Test.YtoomdjjjkolloabListsL4
import Derived.Lib.AppendZerosOnto
import Derived.RegionTactic
import Derived.ChangeAlike
namespace Go.Proofs.Ytoomdjjjkolloab
open Go.RowKit Go.Shelf

set_option maxHeartbeats 1000000 in
theorem growII_any (n : Nat) (w : World) (hn : n ≤ 1000) :
    Calls Try.prog 32 #[.slice none 0 0, .int .i64 n] w fun e w' => ∃ A c, e = .returned (.slice A 0 c) ∧ w'.ownsRow w.heap.size 22 1 (.slice A 0 c) 0 [] ∧ Below w.heap.size w w' := by
  by_cases h0 : n = 0
  · subst h0
    go_enter Try.func32, Try.ntmps32
    go_wp2
    go_ret
    exact ⟨none, 0, rfl, World.ownsRow_nil _ _ _ _, Below.refl _ _⟩
  · obtain ⟨i0, hi0, hz0, hz1, hz2⟩ := info_parts infoII
    have hp : (0 : Int) < (n : Int) := by omega
    have hrz : ∀ ty, (Builtin.append_ #[25, 3] ty #[.slice none 0 0, .int .i64 (n : Int)]).run Try.prog w =
        .ok (.slice (some ⟨w.heap.size, 0, none⟩) (0 + n) (grownCap w (0 + n) 0 22)) (w.drew.alloc (.cells (([] : List Value).toArray ++ Builtin.zeroCells (Value.slice none 0 0).cells n ++ Builtin.zeroCells (Value.slice none 0 0).cells (grownCap w (0 + n) 0 22 - (0 + n))) 22)) := fun ty => by
      refine Lib.run_append_grow_zeros w 25 3 ty 22 i0 (.slice none 0 0) .i64 .i64 Try.underlying25 Try.underlying3 hi0 hz0 none 0 0 [] (run_firstCells_none w.drew i0.size 0 0 0) n (by omega) (by omega) (by omega) (by omega) (by rw [hz2]; omega) ?_
      rw [hz2]
      exact growslice_fits (by omega) (by omega)
    have hlo := grownCap_ge w (0 + n) 0 22
    have hhi := grownCap_le_maxLen w (0 + n) 0 22 (by unfold maxLen; omega)
    have hsz : (([] : List Value).toArray ++ Builtin.zeroCells (Value.slice none 0 0).cells n ++ Builtin.zeroCells (Value.slice none 0 0).cells (grownCap w (0 + n) 0 22 - (0 + n))).size = grownCap w (0 + n) 0 22 := by
      rw [Nat.zero_add] at hlo ⊢
      simp [Builtin.zeroCells, Value.cells]
      omega
    generalize (([] : List Value).toArray ++ Builtin.zeroCells (Value.slice none 0 0).cells n ++ Builtin.zeroCells (Value.slice none 0 0).cells (grownCap w (0 + n) 0 22 - (0 + n))) = C at *
    generalize grownCap w (0 + n) 0 22 = G at *
    have ho : (w.drew.alloc (.cells C 22)).ownsRow w.heap.size 22 1 (.slice (some ⟨w.heap.size, 0, none⟩) 0 G) 0 [] := World.ownsRow_made w.drew C G (Nat.le_refl _) hhi (by omega)
    have hb : Below w.heap.size w (w.drew.alloc (.cells C 22)) := ((Below.refl _ w).drew).alloc (Nat.le_refl _) _
    unfold maxLen at hhi
    rw [Nat.zero_add] at hrz hlo
    have Ho := Kept.mk ho
    have Hb := Kept.mk hb
    clear ho hb hsz hz0 hz1 hz2 hi0
    go_enter Try.func32, Try.ntmps32
    go_wp2_with (at_builtin; refine Lib.wpList_append_run _ rfl _ _ _ _ rfl _ _ rfl rfl _ _ (hrz _) ?_)
    all_goals
      go_ret
      exact ⟨_, G, rfl, Ho.out, Hb.out⟩

theorem rd_grown {w w' : World} {B sz n c : Nat} {A : Option Addr} {xs : List Value} (h : Rd w B sz A n c xs) (hb : Below B w w') : Rd w' B sz A n c xs := h.below hb
set_option maxHeartbeats 2000000 in
theorem concat2_any (P1 P2 : Option Addr) (m1 d1 m2 d2 g B : Nat) (vs1 vs2 : List Value) (w : World) (hg : g < B) (hc0 : w.cell? ⟨g, 0, none⟩ = some (.slice P1 m1 d1)) (hc1 : w.cell? ⟨g, 1, none⟩ = some (.slice P2 m2 d2))
    (h1 : Rd w B 1 P1 m1 d1 vs1) (h2 : Rd w B 1 P2 m2 d2 vs2) (o1 : ∀ u ∈ vs1, u.oneCell' = true) (o2 : ∀ u ∈ vs2, u.oneCell' = true) (hB : B ≤ w.heap.size) (hm : m1 + m2 ≤ 1000) :
    Calls Try.prog 22 #[.slice (some ⟨g, 0, none⟩) 2 2] w fun e w' => ∃ A3 n3 c3, e = .returned (.slice A3 n3 c3) ∧ n3 = m1 + m2 ∧ w'.ownsRow w.heap.size 22 1 (.slice A3 n3 c3) n3 (vs1 ++ vs2) ∧ Below w.heap.size w w' := by
  have H1 := Kept.mk h1
  have H2 := Kept.mk h2
  have O1 := Kept.mk o1
  have O2 := Kept.mk o2
  clear h1 h2 o1 o2
  obtain ⟨i0, hi0, hz0, hz1, hz2⟩ := info_parts infoII
  go_enter Try.func22, Try.ntmps22
  go_wp2
  go_loop [3, 11] (fun s i => ∃ k t : Nat, k ≤ 2 ∧ i = .int .i64 k ∧ s = .int .i64 t ∧ t ≤ m1 + m2 ∧ (k = 0 ∧ Kept (t = 0) ∨ k = 1 ∧ Kept (t = m1) ∨ k = 2 ∧ Kept (t = m1 + m2))) (fun _ i => 2 - (intOf i).toNat)
  case atStart => exact ⟨0, 0, by omega, rfl, rfl, by omega, .inl ⟨rfl, ⟨rfl⟩⟩⟩
  case round =>
    obtain ⟨k, t, hk, rfl, rfl, ht, (⟨rfl, e⟩ | ⟨rfl, e⟩ | ⟨rfl, e⟩)⟩ := hrel
    · go_wp2
      go_round
      case rel => exact ⟨1, t + m1, by omega, by go_num, by go_num, by have := e.out; omega, .inr (.inl ⟨rfl, ⟨by have := e.out; omega⟩⟩)⟩
      case measure => simp [intOf]
    · have := e.out
      go_wp2
      go_round
      case rel => exact ⟨2, t + m2, by omega, by go_num, by go_num, by have := e.out; omega, .inr (.inr ⟨rfl, ⟨by have := e.out; omega⟩⟩)⟩
      case measure => simp [intOf]
    · go_wp2_with (go_at_call 32; refine (growII_any t _ (by omega)).mono ?_; rintro e w1 ⟨A0, c0, rfl, ho, hb⟩)
      go_loopw [6, 27] (fun o i wr => ∃ k n3 A3 c3 vs, k ≤ 2 ∧ i = .int .i64 (k : Nat) ∧ o = .slice A3 n3 c3 ∧ wr.ownsRow w.heap.size 22 1 (.slice A3 n3 c3) n3 vs ∧ Below w.heap.size w wr ∧ n3 ≤ 1000 ∧
        (k = 0 ∧ Kept (n3 = 0 ∧ vs = []) ∨ k = 1 ∧ Kept (n3 = m1 ∧ vs = vs1) ∨ k = 2 ∧ Kept (n3 = m1 + m2 ∧ vs = vs1 ++ vs2))) (fun _ i _ => 2 - (intOf i).toNat)
      case atStart => exact ⟨0, 0, A0, c0, [], by omega, rfl, rfl, ho, hb, by omega, .inl ⟨rfl, ⟨rfl, rfl⟩⟩⟩
      case round =>
        clear ho hb e
        obtain ⟨k, n3, A3, c3, vs, hk, rfl, rfl, ho, hb, hn3, (⟨rfl, e⟩ | ⟨rfl, e⟩ | ⟨rfl, e⟩)⟩ := hrel
        · have hl0 := (hb.cell (p := ⟨g, 0, none⟩) (by show g < _; omega)).trans hc0
          have hz := hb.size
          have hA := Kept.mk (own_lt ho)
          have R1 := Kept.mk ((H1.out.more hB).below hb)
          go_wp2_with (at_builtin; refine wpList_app _ rfl (.tmp 31) (.tmp 32) _ rfl w.heap.size 22 i0 (.slice none 0 0) 1 24 Try.underlying25 hi0 hz0 hz1 hz2 rfl (by decide) A3 n3 c3 vs rfl ho w.heap.size _ _ _ vs1 rfl R1.out O1.out (by unfold maxLen; omega) (by omega) (by omega) ?_; intro A4 c4 w4 hown4 hgrow4 hat4)
          have hb4 : Below w.heap.size w w4 := hb.grown hgrow4 hz (fun g hg => (hA.out g hg).1)
          go_roundw
          case rel => exact ⟨1, n3 + m1, A4, c4, vs ++ vs1, by omega, by go_num, rfl, hown4, hb4, by have := e.out.1; omega, .inr (.inl ⟨rfl, ⟨by have := e.out.1; omega, by rw [e.out.2]; rfl⟩⟩)⟩
          case measure => simp [intOf]
        · have hl0 := (hb.cell (p := ⟨g, 1, none⟩) (by show g < _; omega)).trans hc1
          have hz := hb.size
          have hA := Kept.mk (own_lt ho)
          have R2 := Kept.mk ((H2.out.more hB).below hb)
          go_wp2_with (at_builtin; refine wpList_app _ rfl (.tmp 31) (.tmp 32) _ rfl w.heap.size 22 i0 (.slice none 0 0) 1 24 Try.underlying25 hi0 hz0 hz1 hz2 rfl (by decide) A3 n3 c3 vs rfl ho w.heap.size _ _ _ vs2 rfl R2.out O2.out (by unfold maxLen; omega) (by omega) (by omega) ?_; intro A4 c4 w4 hown4 hgrow4 hat4)
          have hb4 : Below w.heap.size w w4 := hb.grown hgrow4 hz (fun g hg => (hA.out g hg).1)
          go_roundw
          case rel => exact ⟨2, n3 + m2, A4, c4, vs ++ vs2, by omega, by go_num, rfl, hown4, hb4, by have := e.out.1; omega, .inr (.inr ⟨rfl, ⟨by have := e.out.1; omega, by rw [e.out.2]⟩⟩)⟩
          case measure => simp [intOf]
        · go_wp2
          go_ret
          refine ⟨A3, n3, c3, rfl, e.out.1, ?_, hb⟩
          rw [← e.out.2]
          exact ho

/-- the first k exchanges of a reversal -/
def rv (vs : List Value) (k : Nat) : List Value := vs.mapIdx fun t v => if t < k ∨ vs.length - k ≤ t then vs.getD (vs.length - 1 - t) v else v
theorem rv_len (vs : List Value) (k : Nat) : (rv vs k).length = vs.length := by simp [rv]
theorem rv_at (vs : List Value) (k t : Nat) (h : t < vs.length) : (rv vs k)[t]? = some (if t < k ∨ vs.length - k ≤ t then vs[vs.length - 1 - t] else vs[t]) := by
  have h2 : vs.length - 1 - t < vs.length := by omega
  simp only [rv, List.getElem?_mapIdx, List.getElem?_eq_getElem h, Option.map_some, List.getD, List.getElem?_eq_getElem h2, Option.getD_some]
theorem rv_zero (vs : List Value) : rv vs 0 = vs := by
  refine List.ext_getElem? fun t => ?_
  by_cases h : t < vs.length
  · rw [rv_at vs 0 t h, List.getElem?_eq_getElem h, if_neg (by omega)]
  · rw [List.getElem?_eq_none (by rw [rv_len]; omega), List.getElem?_eq_none (by omega)]
theorem rv_step (vs : List Value) (k : Nat) (h : 2 * k + 1 < vs.length) : ((rv vs k).set k (vs[vs.length - 1 - k])).set (vs.length - 1 - k) vs[k] = rv vs (k + 1) := by
  refine List.ext_getElem? fun t => ?_
  by_cases ht : t < vs.length
  · rw [rv_at vs (k + 1) t ht, List.getElem?_set, List.getElem?_set, rv_at vs k t ht]
    simp only [List.length_set, rv_len]
    by_cases h1 : vs.length - 1 - k = t
    · rw [if_pos h1, if_pos (by omega), if_pos (by omega)]
      have : vs.length - 1 - t = k := by omega
      simp only [this]
    · rw [if_neg h1]
      by_cases h2 : k = t
      · subst h2
        rw [if_pos rfl, if_pos (by omega), if_pos (by omega)]
      · rw [if_neg h2]
        by_cases h3 : t < k ∨ vs.length - k ≤ t
        · rw [if_pos h3, if_pos (by omega)]
        · rw [if_neg h3, if_neg (by omega)]
  · rw [List.getElem?_eq_none (by simp [rv_len]; omega), List.getElem?_eq_none (by rw [rv_len]; omega)]
theorem rv_end (vs : List Value) (k : Nat) (h : vs.length ≤ 2 * k + 1) (hk : 2 * k ≤ vs.length) : rv vs k = vs.reverse := by
  refine List.ext_getElem? fun t => ?_
  by_cases ht : t < vs.length
  · rw [rv_at vs k t ht, List.getElem?_reverse ht, List.getElem?_eq_getElem (by omega)]
    by_cases h3 : t < k ∨ vs.length - k ≤ t
    · rw [if_pos h3]
    · rw [if_neg h3]
      have : vs.length - 1 - t = t := by omega
      simp only [this]
  · rw [List.getElem?_eq_none (by rw [rv_len]; omega), List.getElem?_eq_none (by simp; omega)]

set_option maxHeartbeats 2000000 in
theorem reverse_any (A : Option Addr) (n c base : Nat) (vs : List Value) (w : World) (ho : w.ownsRow base 22 1 (.slice A n c) n vs) (hn : n ≤ 1000) (hvs : ∀ u ∈ vs, ∃ A n c, u = Value.slice A n c) :
    Calls Try.prog 23 #[.slice A n c] w fun e w' => e = .returned (.tuple #[]) ∧ w'.ownsRow base 22 1 (.slice A n c) n vs.reverse ∧ Below base w w' := by
  have hl := Kept.mk (show vs.length = n by have := ho.1; omega)
  have hnc : n ≤ c := (Rd.of_own ho).1
  have hcm : c ≤ maxLen := (Rd.of_own ho).2.1
  unfold maxLen at hcm
  have hz := Kept.mk (rv_zero vs)
  have Ho := Kept.mk ho
  have Hvs := Kept.mk hvs
  clear hvs
  by_cases h0 : n = 0
  · have hvs : Kept (vs.reverse = vs) := ⟨by have := hl.out; rw [h0] at this; rw [List.eq_nil_of_length_eq_zero this]; rfl⟩
    subst h0
    go_enter Try.func23, Try.ntmps23
    go_wp2
    go_loop [2, 3] (fun i j => i = .int .i64 0 ∧ j = .int .i64 (-1)) (fun _ _ => 0)
    case atStart => exact ⟨rfl, rfl⟩
    case round =>
      obtain ⟨rfl, rfl⟩ := hrel
      go_wp2
      go_end0
      refine ⟨rfl, ?_, Below.refl _ _⟩
      rw [hvs.out]
      exact Ho.out
  · obtain ⟨g, rfl, hg1, hg2⟩ := own_pos ho (by omega)
    clear ho
    go_enter Try.func23, Try.ntmps23
    go_wp2
    go_loopw [2, 3] (fun i j wr => ∃ k : Nat, 2 * k ≤ n ∧ i = .int .i64 k ∧ j = .int .i64 ((n : Int) - 1 - k) ∧ wr.ownsRow base 22 1 (.slice (some ⟨g, 0, none⟩) n c) n (rv vs k) ∧ Below base w wr) (fun i _ _ => n - (intOf i).toNat)
    case atStart => exact ⟨0, by omega, rfl, by go_num, by rw [hz.out]; exact Ho.out, Below.refl _ _⟩
    case round =>
      obtain ⟨k, hk, rfl, rfl, ho, hb⟩ := hrel
      by_cases hlt : (k : Int) < (n : Int) - 1 - k
      · have hk1 : k < vs.length := by have := hl.out; omega
        have hk2 : vs.length - 1 - k < vs.length := by omega
        have hs := Kept.mk (rv_step vs k (by have := hl.out; omega))
        have a1 : (rv vs k)[k]? = some vs[k] := by rw [rv_at vs k k hk1, if_neg (by have := hl.out; omega)]
        have a2 : (rv vs k)[n - 1 - k]? = some vs[vs.length - 1 - k] := by
          have := hl.out
          rw [show n - 1 - k = vs.length - 1 - k by omega, rv_at vs k _ hk2, if_neg (by omega)]
        have c1 := (World.ownsRow.cellAt ho k (by omega)).trans a1
        have c2 := (World.ownsRow.cellAt ho (n - 1 - k) (by omega)).trans a2
        have f1 := World.ownsRow.frozenAt ho k
        have f2 := World.ownsRow.frozenAt ho (n - 1 - k)
        have i1 : (0 : Int) ≤ (k : Int) := by omega
        have i2 : (k : Int) < (n : Int) := by omega
        have i3 : (0 : Int) ≤ (n : Int) - 1 - (k : Int) := by omega
        have i4 : (n : Int) - 1 - (k : Int) < (n : Int) := by omega
        have i5 : ((n : Int) - 1 - (k : Int)).toNat = n - 1 - k := by omega
        have Hown := Kept.mk ho
        have Hb := Kept.mk hb
        clear ho hb a1 a2
        have i6 : (k : Int) ≤ (n : Int) - 1 := by omega
        obtain ⟨P1, m1, d1, e1⟩ := Hvs.out vs[k] (List.getElem_mem hk1)
        obtain ⟨P2, m2, d2, e2⟩ := Hvs.out vs[vs.length - 1 - k] (List.getElem_mem hk2)
        rw [e1] at c1 hs
        rw [e2] at c2 hs
        clear e1 e2
        go_wp2
        go_region
        all_goals
          go_wp2
          go_roundw
          case rel =>
            refine ⟨k + 1, by omega, by go_num, by go_num, ?_, ?_⟩
            · have s1 := (World.ownsRow.stored Hown.out k (.slice P2 m2 d2)).1
              have s2 := (World.ownsRow.stored s1 (n - 1 - k) (.slice P1 m1 d1)).1
              have hs2 := hs.out
              rw [show vs.length - 1 - k = n - 1 - k by have := hl.out; omega] at hs2
              rw [hs2] at s2
              exact s2
            · exact ((Hb.out.setCell (p := ⟨g, k, none⟩) hg1 _).setCell (p := ⟨g, n - 1 - k, none⟩) hg1 _).drew
          case measure => simp [intOf]; omega
      · have hfin := Kept.mk (rv_end vs k (by have := hl.out; omega) (by have := hl.out; omega))
        rw [hfin.out] at ho
        go_wp2
        go_end0
        exact ⟨rfl, ho, hb⟩

/-- pairs of headers and lists, turned about -/
theorem pair_rot {E : Value → List Int → Prop} {vs : List Value} {LL : List (List Int)} (hl : vs.length = LL.length) (h : ∀ (i : Nat) (l : List Int), LL[i]? = some l → ∃ v, vs[i]? = some v ∧ E v l) (k : Nat) :
    ∀ (i : Nat) (l : List Int), ((LL.drop k ++ LL.take k).reverse)[i]? = some l → ∃ v, ((vs.drop k ++ vs.take k).reverse)[i]? = some v ∧ E v l := by
  obtain ⟨Z, hZ⟩ : ∃ Z, Z = vs.zip LL := ⟨_, rfl⟩
  have h1 : vs = Z.map (·.1) := by rw [hZ, List.map_fst_zip (by omega)]
  have h2 : LL = Z.map (·.2) := by rw [hZ, List.map_snd_zip (by omega)]
  have hE : ∀ z ∈ Z, E z.1 z.2 := by
    intro z hz
    obtain ⟨i, hi⟩ := List.mem_iff_getElem?.1 hz
    have a1 : vs[i]? = some z.1 := by rw [h1, List.getElem?_map, hi]; rfl
    have a2 : LL[i]? = some z.2 := by rw [h2, List.getElem?_map, hi]; rfl
    obtain ⟨v, hv, he⟩ := h i _ a2
    rw [a1] at hv
    cases hv
    exact he
  intro i l hi
  rw [h2] at hi
  rw [h1]
  simp only [← List.map_drop, ← List.map_take, ← List.map_append, ← List.map_reverse, List.getElem?_map] at hi ⊢
  cases hz : (Z.drop k ++ Z.take k).reverse[i]? with
  | none => rw [hz] at hi; cases hi
  | some z =>
    rw [hz] at hi
    cases hi
    refine ⟨z.1, rfl, hE z ?_⟩
    have hm := List.mem_of_getElem? hz
    rw [List.mem_reverse, List.mem_append] at hm
    rcases hm with hm | hm
    · exact List.mem_of_mem_drop hm
    · exact List.mem_of_mem_take hm
theorem Ls.rot_mem (LL : List (List Int)) (k : Nat) (l : List Int) : l ∈ LL ↔ l ∈ (LL.drop k ++ LL.take k).reverse := by
  rw [List.mem_reverse, List.mem_append]
  constructor
  · intro h
    rw [← List.take_append_drop k LL, List.mem_append] at h
    exact h.symm
  · rintro (h | h)
    · exact List.mem_of_mem_drop h
    · exact List.mem_of_mem_take h
theorem Ls.tot_rot (LL : List (List Int)) (k : Nat) : Ls.tot ((LL.drop k ++ LL.take k).reverse) = Ls.tot LL := by
  have h : Ls.tot LL = Ls.tot (LL.take k) + Ls.tot (LL.drop k) := by
    unfold Ls.tot
    conv => lhs; rw [← List.take_append_drop k LL, List.map_append, List.sum_append]
  rw [h]
  unfold Ls.tot
  rw [List.map_reverse, List.sum_reverse, List.map_append, List.sum_append]
  omega
end Go.Proofs.Ytoomdjjjkolloab
