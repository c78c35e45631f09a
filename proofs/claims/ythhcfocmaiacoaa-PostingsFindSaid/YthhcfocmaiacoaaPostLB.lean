/- Chapter 15: the law PostingsFind. -/
import Derived.Test.YthhcfocmaiacoaaPostLA
namespace Go.Proofs.Ythhcfocmaiacoaa
open Go.RowKit Go.Shelf

namespace Ps
/-- the numbers of the sets that hold a label of a kind -/
def wl (p : Lab → Bool) : List (List Lab) → Nat → List Int
  | [], _ => []
  | m :: M, k => (if m.any p = true then [(k : Int)] else []) ++ wl p M (k + 1)
theorem wl_app (p : Lab → Bool) : ∀ (M N : List (List Lab)) (k : Nat), wl p (M ++ N) k = wl p M k ++ wl p N (k + M.length)
  | [], N, k => by simp [wl]
  | m :: M, N, k => by
    rw [List.cons_append, wl, wl_app p M N (k + 1), wl, List.append_assoc, List.length_cons, show k + 1 + M.length = k + (M.length + 1) by omega]
theorem wl_take (p : Lab → Bool) (M : List (List Lab)) {k : Nat} (h : k < M.length) : wl p (M.take (k + 1)) 0 = wl p (M.take k) 0 ++ (if M[k].any p = true then [(k : Int)] else []) := by
  rw [List.take_succ_eq_append_getElem h, wl_app]
  have : (M.take k).length = k := by rw [List.length_take]; omega
  rw [this]
  simp [wl]
theorem wl_len (p : Lab → Bool) : ∀ (M : List (List Lab)) (k : Nat), (wl p M k).length ≤ M.length
  | [], _ => by simp [wl]
  | m :: M, k => by
    have := wl_len p M (k + 1)
    rw [wl, List.length_append, List.length_cons]
    split <;> simp <;> omega
theorem wl_mem (p : Lab → Bool) : ∀ (M : List (List Lab)) (k : Nat) (y : Int), y ∈ wl p M k ↔ ∃ x, p x = true ∧ (x, y) ∈ prs M k
  | [], _, y => by simp [wl, prs]
  | m :: M, k, y => by
    rw [wl, List.mem_append, wl_mem p M (k + 1) y]
    constructor
    · rintro (h | ⟨x, h1, h2⟩)
      · split at h
        · next hany =>
          obtain ⟨x, hx, hp⟩ := List.any_eq_true.1 hany
          refine ⟨x, hp, ?_⟩
          rw [prs, List.mem_append]
          exact .inl (List.mem_map.2 ⟨x, hx, by rw [List.mem_singleton.1 h]⟩)
        · cases h
      · exact ⟨x, h1, by rw [prs, List.mem_append]; exact .inr h2⟩
    · rintro ⟨x, h1, h2⟩
      rw [prs, List.mem_append] at h2
      rcases h2 with h2 | h2
      · obtain ⟨z, hz, e⟩ := List.mem_map.1 h2
        rw [Prod.mk.injEq] at e
        obtain ⟨rfl, rfl⟩ := e
        refine .inl ?_
        rw [if_pos (List.any_eq_true.2 ⟨z, hz, h1⟩)]
        simp
      · exact .inr ⟨x, h1, h2⟩
theorem wl_S (p : Lab → Bool) : ∀ (M : List (List Lab)) (k : Nat), Ls.S (wl p M k) ∧ ∀ y ∈ wl p M k, (k : Int) ≤ y
  | [], _ => ⟨List.Pairwise.nil, by simp [wl]⟩
  | m :: M, k => by
    obtain ⟨h1, h2⟩ := wl_S p M (k + 1)
    refine ⟨?_, fun y hy => ?_⟩
    · rw [wl]
      refine List.pairwise_append.2 ⟨by split <;> simp, h1, fun a ha b hb => ?_⟩
      have h3 := h2 b hb
      split at ha
      · rw [List.mem_singleton.1 ha]; omega
      · cases ha
    · rw [wl, List.mem_append] at hy
      rcases hy with hy | hy
      · split at hy
        · rw [List.mem_singleton.1 hy]; exact Int.le_refl _
        · cases hy
      · have := h2 y hy; omega
theorem ser_mem (x : Lab) (P : List (Lab × Int)) (y : Int) : y ∈ ser x P ↔ (x, y) ∈ P := by
  unfold ser
  rw [List.mem_map]
  constructor
  · rintro ⟨⟨a, b⟩, h1, rfl⟩
    rw [List.mem_filter] at h1
    have h2 : a = x := by simpa using h1.2
    rw [← h2]; exact h1.1
  · intro h
    exact ⟨(x, y), List.mem_filter.2 ⟨h, by simp⟩, rfl⟩
theorem prs_S : ∀ (M : List (List Lab)) (k : Nat), (∀ m ∈ M, Lb.Srt m) → ∀ x, Ls.S (ser x (prs M k))
  | [], _, _, _ => List.Pairwise.nil
  | m :: M, k, h, x => by
    rw [prs, ser_app]
    refine List.pairwise_append.2 ⟨?_, prs_S M (k + 1) (fun m hm => h m (by simp [hm])) x, fun a ha b hb => ?_⟩
    · have hs := h m (by simp)
      clear h
      induction m with
      | nil => exact List.Pairwise.nil
      | cons z m ih =>
        obtain ⟨q1, q2⟩ := List.pairwise_cons.1 (show (z :: m).Pairwise _ from hs)
        rw [List.map_cons, show ((z, (k : Int)) :: m.map fun x => (x, (k : Int))) = [(z, (k : Int))] ++ m.map (fun x => (x, (k : Int))) from rfl, ser_app]
        by_cases hz : z = x
        · subst hz
          rw [ser_hit, ser_none]
          · simp
          · intro hm
            rw [List.map_map] at hm
            obtain ⟨y, hy, e⟩ := List.mem_map.1 hm
            have e : y = z := e
            have := q1 y hy
            rw [e, St.irrefl] at this
            cases this
        · rw [ser_miss hz, List.nil_append]
          exact ih q2
    · rw [ser_mem] at ha hb
      obtain ⟨z, _, e⟩ := List.mem_map.1 ha
      have h1 := prs_val M (k + 1) _ hb
      rw [Prod.mk.injEq] at e
      rw [← e.2]
      simp only [] at h1
      omega
theorem uni_wl {M : List (List Lab)} {E : List EntV} (hs : Sets M) (h : Idx (prs M 0) E) (p : Lab → Bool) : Ls.puni [] ((E.filter fun e => p e.1).map (·.2)) = wl p M 0 := by
  have hS : ∀ s ∈ (E.filter fun e => p e.1).map (·.2), Ls.S s := fun s hs' => by
    obtain ⟨e, he, rfl⟩ := List.mem_map.1 hs'
    rw [h.ser e (List.mem_filter.1 he).1]
    exact prs_S M 0 (fun m hm => (hs.1 m hm).1) e.1
  obtain ⟨q1, q2⟩ := Ls.puni_mem (out := []) List.Pairwise.nil hS
  refine Ls.ext q1 (wl_S p M 0).1 fun y => ?_
  rw [q2, wl_mem]
  constructor
  · rintro (h1 | ⟨s, h1, h2⟩)
    · cases h1
    · obtain ⟨e, he, rfl⟩ := List.mem_map.1 h1
      obtain ⟨h3, h4⟩ := List.mem_filter.1 he
      rw [h.ser e h3, ser_mem] at h2
      exact ⟨e.1, h4, h2⟩
  · rintro ⟨x, h1, h2⟩
    have hx : x ∈ E.map (·.1) := (h.mem x).2 (List.mem_map.2 ⟨_, h2, rfl⟩)
    obtain ⟨e, he, rfl⟩ := List.mem_map.1 hx
    refine .inr ⟨e.2, List.mem_map.2 ⟨e, List.mem_filter.2 ⟨he, h1⟩, rfl⟩, ?_⟩
    rw [h.ser e he, ser_mem]
    exact h2
end Ps
set_option maxRecDepth 100000 in
set_option maxHeartbeats 4000000 in
theorem indexL_any (A : Option Addr) (n c : Nat) (l : List Lab) (x : Lab) (w : World) (hv : RdL w w.heap.size A n c l) :
    Calls Try.prog 84 #[.slice A n c, lbv x] w fun r w' => ∃ v : Int, r = .returned (.int .i64 v) ∧ ((0 ≤ v ∧ (l.any fun y => decide (y = x)) = true) ∨ (v = -1 ∧ (l.any fun y => decide (y = x)) = false)) ∧ Below w.heap.size w w' := by
  have hlc := hv.1
  have hcm := hv.2.1
  unfold maxLen at hcm
  have HN := Kept.mk hv.len
  have b0 : Below w.heap.size w (w.alloc (Obj.cells #[.string x.n, .string x.v] 67)) := (Below.refl _ _).alloc (Nat.le_refl _) _
  have V := Kept.mk ((hv.below b0).more b0.size)
  have HB0 := Kept.mk b0
  clear hv b0
  unfold lbv
  go_enter Try.func84, Try.ntmps84
  go_wp2
  have d0 : (w.alloc (Obj.cells #[.string x.n, .string x.v] 67)).cell? ⟨w.heap.size, 0, none⟩ = some (.string x.n) := World.cell?_alloc_mark w _ _ _ 0
  have d1 : (w.alloc (Obj.cells #[.string x.n, .string x.v] 67)).cell? ⟨w.heap.size, 1, none⟩ = some (.string x.v) := World.cell?_alloc_mark w _ _ _ 1
  have hz1 : w.heap.size < (w.alloc (Obj.cells #[.string x.n, .string x.v] 67)).heap.size := by simp
  generalize w.alloc (Obj.cells #[.string x.n, .string x.v] 67) = w1 at *
  have HD : Kept (∀ W, Gr w1 W → W.cell? ⟨w.heap.size, 0, none⟩ = some (.string x.n) ∧ W.cell? ⟨w.heap.size, 1, none⟩ = some (.string x.v)) := ⟨fun W h => ⟨(h.cell _ _ hz1).trans d0, (h.cell _ _ hz1).trans d1⟩⟩
  clear d0 d1
  go_loopw [8] (fun i wr => ∃ k : Nat, k ≤ n ∧ i = .int .i64 k ∧ Kept ((l.take k).any (fun y => decide (y = x)) = false) ∧ Gr w1 wr) (fun i _ => n - (intOf i).toNat)
  case atStart => exact ⟨0, by omega, rfl, ⟨by simp⟩, Gr.refl _⟩
  case round =>
    obtain ⟨k, hk, rfl, hd, gr⟩ := hrel
    have G := Kept.mk gr
    obtain ⟨d0, d1⟩ := HD.out wr gr
    by_cases hlt : k < n
    · have hkl : k < l.length := by rw [← HN.out]; exact hlt
      obtain ⟨b, off, rfl, hc⟩ := V.out.cells (Nat.le_refl _) hkl
      obtain ⟨c0, c1⟩ := hc wr gr.below
      have hany : Kept (l[k] = x → (l.any fun y => decide (y = x)) = true) := ⟨fun h => List.any_eq_true.2 ⟨l[k], List.getElem_mem hkl, decide_eq_true h⟩⟩
      have hnx : Kept (l[k] ≠ x → (l.take (k + 1)).any (fun y => decide (y = x)) = false) := ⟨fun h => by rw [List.take_succ_eq_append_getElem hkl, List.any_append, hd.out]; simp [h]⟩
      have EQ := fun W => eqL x l[k] W
      clear hc gr hd
      generalize l[k] = y at *
      by_cases hxy : x = y
      · have ha := Kept.mk (hany.out hxy.symm)
        rw [decide_eq_true hxy] at EQ
        clear hxy hany hnx
        go_wp2_with fail
        go_quiet (fail)
        go_wp2
        go_ret
        exact ⟨(k : Int), rfl, .inl ⟨by omega, ha.out⟩, HB0.out.trans ((G.out.drewN _).below.mono (by omega))⟩
      · have ha := Kept.mk (hnx.out fun h => hxy h.symm)
        rw [decide_eq_false hxy] at EQ
        clear hxy hany hnx
        go_wp2_with fail
        go_quiet (fail)
        go_wp2
        go_roundw
        case rel => exact ⟨k + 1, by omega, by go_num, ha, G.out.drewN _⟩
        case measure => simp [intOf]; omega
    · have hall : Kept (l.any (fun y => decide (y = x)) = false) := ⟨by
        have := hd.out
        rwa [List.take_of_length_le (by have := HN.out; omega)] at this⟩
      clear hd
      go_wp2
      go_ret
      exact ⟨-1, rfl, .inr ⟨rfl, hall.out⟩, HB0.out.trans (G.out.below.mono (by omega))⟩
set_option maxHeartbeats 1000000 in
theorem containsL_any (A : Option Addr) (n c : Nat) (l : List Lab) (x : Lab) (w : World) (hv : RdL w w.heap.size A n c l) :
    Calls Try.prog 43 #[.slice A n c, lbv x] w fun r w' => r = .returned (.bool (l.any fun y => decide (y = x))) ∧ Below w.heap.size w w' := by
  have b0 : Below w.heap.size w (w.alloc (Obj.cells #[.string x.n, .string x.v] 67)) := (Below.refl _ _).alloc (Nat.le_refl _) _
  have IX := Kept.mk (indexL_any A n c l x _ ((hv.below b0).more b0.size))
  have HB0 := Kept.mk b0
  have hz := b0.size
  clear hv b0
  unfold lbv at IX
  unfold lbv
  generalize (l.any fun y => decide (y = x)) = b at *
  go_enter Try.func43, Try.ntmps43
  go_wp2_with (go_at_call 84; refine IX.out.mono ?_; rintro r w2 ⟨v, rfl, hv, hb⟩; have B2 := Kept.mk (HB0.out.trans (hb.mono hz)); clear hb IX; rcases hv with ⟨hv, rfl⟩ | ⟨rfl, rfl⟩)
  all_goals go_ret
  all_goals exact ⟨rfl, B2.out⟩
/-- two rows of the call's own, apart -/
structure TwoI (W : World) (base : Nat) (A8 : Option Addr) (n8 c8 : Nat) (l8 : List Int) (A9 : Option Addr) (n9 c9 : Nat) (l9 : List Int) : Prop where
  o8 : OwnI W base A8 n8 c8 l8
  o9 : OwnI W base A9 n9 c9 l9
  ap : ab A8 = none ∨ ab A8 ≠ ab A9
section
variable {W W' : World} {base n8 c8 n9 c9 : Nat} {A8 A9 : Option Addr} {l8 l9 : List Int}
theorem TwoI.symm (h : TwoI W base A8 n8 c8 l8 A9 n9 c9 l9) : TwoI W base A9 n9 c9 l9 A8 n8 c8 l8 := ⟨h.o9, h.o8, by
  rcases h.ap with h1 | h1
  · rcases hq : ab A9 with _ | g
    · exact .inl rfl
    · exact .inr (by rw [h1]; simp)
  · exact .inr (Ne.symm h1)⟩
theorem TwoI.on (h : TwoI W base A8 n8 c8 l8 A9 n9 c9 l9) (hb : Below W.heap.size W W') : TwoI W' base A8 n8 c8 l8 A9 n9 c9 l9 := ⟨own_keepI h.o8 hb, own_keepI h.o9 hb, h.ap⟩
theorem TwoI.push {o : Obj} {A4 : Option Addr} {c4 : Nat} {l4 : List Int} (h : TwoI W base A8 n8 c8 l8 A9 n9 c9 l9) (hg : (W.alloc o).grownBy W' (ab A8)) (hat : ab A4 = ab A8 ∨ ab A4 = some (W.alloc o).heap.size) (ho : OwnI W' base A4 (n8 + 1) c4 l4) :
    TwoI W' base A4 (n8 + 1) c4 l4 A9 n9 c9 l9 := by
  refine ⟨ho, own_grown (World.ownsRow.alloc h.o9 o) hg h.symm.ap, ?_⟩
  rcases hat with h4 | h4
  · rw [h4]; exact h.ap
  · rw [h4]
    refine .inr fun e => ?_
    have := (own_lt h.o9 _ e.symm).2
    simp at this
    omega
end
theorem Lb.get_any (nm : ByteArray) : ∀ (m : List Lab), (Lb.get m nm).isSome = m.any fun y => decide (y.n = nm)
  | [] => rfl
  | y :: m => by
    have ih := Lb.get_any nm m
    unfold Lb.get at ih ⊢
    by_cases h : y.n = nm
    · simp [List.find?, h]
    · simp only [List.find?, h, decide_false, List.any_cons, Bool.false_or]
      exact ih
theorem Ls.tot_le : ∀ (LL : List (List Int)) (b : Nat), (∀ l ∈ LL, l.length ≤ b) → Ls.tot LL ≤ LL.length * b
  | [], _, _ => by simp [Ls.tot]
  | l :: LL, b, h => by
    have h1 := Ls.tot_le LL b fun l hl => h l (by simp [hl])
    have h2 := h l (by simp)
    have : Ls.tot (l :: LL) = l.length + Ls.tot LL := by simp [Ls.tot]
    rw [this, List.length_cons, Nat.succ_mul]
    omega
theorem Ps.tot_sets {M : List (List Lab)} {E : List EntV} (hs : Ps.Sets M) (h : Ps.Idx (Ps.prs M 0) E) (p : EntV → Bool) : Ls.tot ((E.filter p).map (·.2)) ≤ 1000000 := by
  obtain ⟨h1, h2⟩ := Ps.sets_len hs h
  have h3 := Ls.tot_le ((E.filter p).map (·.2)) 300 fun l hl => by
    obtain ⟨e, he, rfl⟩ := List.mem_map.1 hl
    exact h2 e (List.mem_filter.1 he).1
  have h4 := List.length_filter_le p E
  rw [List.length_map] at h3
  have : (E.filter p).length * 300 ≤ 300 * 300 := Nat.mul_le_mul_right _ (by omega)
  omega
set_option maxRecDepth 100000 in
set_option maxHeartbeats 8000000 in
theorem law_pfind (A : Option Addr) (n c : Nat) (LL : List (List Lab)) (x : Lab) (w : World) (hv : RdLL w w.heap.size A n c LL) (hf : ∀ l ∈ LL, Lb.Fit l) (hx : Lb.Fit [x]) :
    Calls Try.prog 14 #[.slice A n c, lbv x] w fun r w' => r = .returned (.bool true) ∧ Below w.heap.size w w' := by
  have hb0 : Below w.heap.size w (w.alloc (Obj.cells #[.string x.n, .string x.v] 67)) := (Below.refl _ _).alloc (Nat.le_refl _) _
  have NM := Kept.mk (normal15_any A n c w.heap.size LL (w.alloc (Obj.cells #[.string x.n, .string x.v] 67)) (hv.below hb0) hb0.size hf)
  have FX := Kept.mk hx
  have B0 := Kept.mk hb0
  have hz1 : w.heap.size < (w.alloc (Obj.cells #[.string x.n, .string x.v] 67)).heap.size := by simp
  have d0 : (w.alloc (Obj.cells #[.string x.n, .string x.v] 67)).cell? ⟨w.heap.size, 0, none⟩ = some (.string x.n) := World.cell?_alloc_mark w _ _ _ 0
  have d1 : (w.alloc (Obj.cells #[.string x.n, .string x.v] 67)).cell? ⟨w.heap.size, 1, none⟩ = some (.string x.v) := World.cell?_alloc_mark w _ _ _ 1
  clear hv hf hx hb0
  unfold lbv
  go_enter Try.func14, Try.ntmps14
  go_upto_region 1 with (fail)
  generalize w.alloc (Obj.cells #[.string x.n, .string x.v] 67) = w0 at *
  have HD : Kept (∀ W, Below w0.heap.size w0 W → W.cell? ⟨w.heap.size, 0, none⟩ = some (.string x.n) ∧ W.cell? ⟨w.heap.size, 1, none⟩ = some (.string x.v)) := ⟨fun W hW => ⟨(hW.cell (p := ⟨w.heap.size, 0, none⟩) hz1).trans d0, (hW.cell (p := ⟨w.heap.size, 1, none⟩) hz1).trans d1⟩⟩
  clear d0 d1
  go_upto_region 2 with (go_at_call 29; refine NM.out.mono ?_; rintro r w1 ⟨A1, n1, c1, v, rfl, hv1, M, hS, ho, hb⟩; have S := Kept.mk hS; have RM := Kept.mk ho.rd; have B1 := Kept.mk hb; obtain ⟨d0, d1⟩ := HD.out w1 hb; clear hS ho hb NM; rcases hv1 with rfl | rfl)
  · go_wp2_with (go_at_call 30; refine (alive15_any w1).mono ?_; rintro r w2 ⟨rfl, hb⟩; have B2 := Kept.mk (bl_next B1.out hb); clear hb)
    go_ret
    exact ⟨rfl, B0.out.trans (B2.out.mono (by omega))⟩
  · have LG := Kept.mk (large11_any (some ⟨w1.heap.size, 0, none⟩) 1 1 [x] (w1.alloc (.cells #[.string x.n, .string x.v] 67)) ((RdL.lit1 w1 x).more (by simp)) FX.out)
    have B1a := Kept.mk (B1.out.alloc B1.out.size (.cells #[.string x.n, .string x.v] 67))
    have RMa := Kept.mk (RM.out.on ((Below.refl _ _).alloc (Nat.le_refl _) (Obj.cells #[.string x.n, .string x.v] 67)))
    go_upto_region 4 with (first
      | (go_at_call 30; refine (alive15_any w2).mono ?_; rintro r w3 ⟨rfl, hb⟩; have B3 := Kept.mk (bl_next B2.out hb); clear hb)
      | (go_at_call 42; refine LG.out.mono ?_; rintro r w2 ⟨v, rfl, hv1, -, hb⟩; have B2 := Kept.mk (bl_next B1a.out hb); have RM2 := Kept.mk (RMa.out.on hb); clear hb LG; rcases hv1 with rfl | rfl))
    · clear d0 d1
      go_upto_region 7 with (first
        | (go_at_call 36; refine (program15_any A4 n4 c4 E w4 R4.out (by have := L3.out.1; have := R4.out.len; omega)).mono ?_; rintro r w5 ⟨A7, n7, c7, rfl, ho, hb⟩; have R7 := Kept.mk ho.rd; have RM5 := Kept.mk (RM4.out.on hb); have B5 := Kept.mk (bl_next B4.out hb); clear ho hb)
        | (go_at_call 34; refine (refBuild15_any A1 n1 c1 M w2 RM2.out S.out).mono ?_; rintro r w4 ⟨A4, n4, c4, E, rfl, hI, ho, hb⟩; have IX := Kept.mk hI; have L3 := Kept.mk (Ps.sets_len S.out hI); have R4 := Kept.mk ho.rd; have RM4 := Kept.mk (RM2.out.on hb); have B4 := Kept.mk (bl_next B2.out hb); clear hI ho hb))
      have HN := Kept.mk RM5.out.len
      have hML : Kept (M.length ≤ 300) := ⟨by have h1 := Ps.wt_len M; have h2 := S.out.2; omega⟩
      have hcc := RM5.out.cap
      have hlc := hcc.1
      have hcm := hcc.2
      unfold maxLen at hcm
      clear hcc R4 RM4 B4 B2 RM2 B1a RMa B1 RM
      go_loopw [8, 9, 33] (fun o8 o9 i wr => ∃ k : Nat, k ≤ n1 ∧ i = .int .i64 k ∧ ∃ (A8 : Option Addr) (n8 c8 : Nat) (A9 : Option Addr) (n9 c9 : Nat), o8 = .slice A8 n8 c8 ∧ o9 = .slice A9 n9 c9 ∧ Kept (TwoI wr w5.heap.size A8 n8 c8 (Ps.wl (fun y => decide (y = x)) (M.take k) 0) A9 n9 c9 (Ps.wl (fun y => decide (y.n = x.n)) (M.take k) 0)) ∧ Below w5.heap.size w5 wr) (fun _ _ i _ => n1 - (intOf i).toNat)
      case atStart => exact ⟨0, by omega, rfl, none, 0, 0, none, 0, 0, rfl, rfl, ⟨⟨by simpa [Ps.wl] using OwnI.nil w5 w5.heap.size, by simpa [Ps.wl] using OwnI.nil w5 w5.heap.size, .inl rfl⟩⟩, Below.refl _ _⟩
      case round =>
        obtain ⟨k, hk, rfl, A8, n8, c8, A9, n9, c9, rfl, rfl, hT, hb⟩ := hrel
        have HB := Kept.mk hb
        have hzr := hb.size
        by_cases hlt : k < n1
        · have hkl : k < M.length := by rw [← HN.out]; exact hlt
          obtain ⟨b, off, A', n', c', rfl, hbB, hc0, hrl⟩ := RM5.out.at_ hkl
          have z0 := (hb.cell (p := ⟨b, off + k, none⟩) (by show b < _; omega)).trans hc0
          have RL := Kept.mk (fun W (h : Below w5.heap.size w5 W) => ((hrl.below h).more h.size : RdL W W.heap.size A' n' c' M[k]))
          have t8 := Kept.mk (Ps.wl_take (fun y => decide (y = x)) M hkl)
          have t9 := Kept.mk (Ps.wl_take (fun y => decide (y.n = x.n)) M hkl)
          have hn8 : n8 ≤ 300 := by
            have h1 := hT.out.o8.len
            have h2 := Ps.wl_len (fun y => decide (y = x)) (M.take k) 0
            rw [List.length_take] at h2
            have := hML.out
            omega
          have hn9 : n9 ≤ 300 := by
            have h1 := hT.out.o9.len
            have h2 := Ps.wl_len (fun y => decide (y.n = x.n)) (M.take k) 0
            rw [List.length_take] at h2
            have := hML.out
            omega
          obtain ⟨d0, d1⟩ := HD.out wr (B5.out.trans (hb.mono B5.out.size))
          have HD5 := Kept.mk (fun W (h : Below w5.heap.size w5 W) => HD.out W (B5.out.trans (h.mono B5.out.size)))
          have CT := Kept.mk (containsL_any A' n' c' M[k] x wr (RL.out wr hb))
          have GT := Kept.mk (fun W (h : Below w5.heap.size w5 W) => refGet_any A' n' c' M[k] x.n W (RL.out W h))
          have hga := Lb.get_any x.n M[k]
          rw [hga] at GT
          unfold lbv at CT
          clear hb hc0 hrl hga
          generalize M[k].any (fun y => decide (y = x)) = b1 at *
          generalize M[k].any (fun y => decide (y.n = x.n)) = b2 at *
          generalize (Lb.get M[k] x.n).getD ByteArray.empty = gs at *
          generalize M[k] = m at *
          cases b1 with
          | true =>
            cases b2 with
            | true =>
              go_wp2_with (first
                | (at_builtin; refine wpList_appI rfl (.tmp 53) (.tmp 55) rfl w5.heap.size A9 n9 c9 _ rfl (World.ownsRow.alloc T8.out.o9 _) (w8.heap.size + 1) _ _ _ [(k : Int)] rfl (RdI.one w8 k) (by omega) (by simp; have := B8.out.size; omega) ?_; intro A11 c11 w9 hown hgrow hat; have T9 := Kept.mk (T8.out.symm.push hgrow hat hown).symm; have B9 := Kept.mk ((B8.out.alloc B8.out.size _).grown hgrow (by simp; have := B8.out.size; omega) (fun g hg => (own_lt T8.out.o9 g hg).1)); clear hown hgrow hat)
                | (go_at_call 44; refine (GT.out w7 B7.out).mono ?_; rintro r w8 ⟨rfl, hg⟩; have T8 := Kept.mk (T7.out.on hg.below); have B8 := Kept.mk (B7.out.trans (hg.below.mono B7.out.size)); clear hg)
                | (at_builtin; refine wpList_appI rfl (.tmp 41) (.tmp 43) rfl w5.heap.size A8 n8 c8 _ rfl (World.ownsRow.alloc T6.out.o8 _) (w6.heap.size + 1) _ _ _ [(k : Int)] rfl (RdI.one w6 k) (by omega) (by simp; have := B6.out.size; omega) ?_; intro A10 c10 w7 hown hgrow hat; have T7 := Kept.mk (T6.out.push hgrow hat hown); have B7 := Kept.mk ((B6.out.alloc B6.out.size _).grown hgrow (by simp; have := B6.out.size; omega) (fun g hg => (own_lt T6.out.o8 g hg).1)); obtain ⟨f0, f1⟩ := HD5.out w7 B7.out; clear hown hgrow hat)
                | (go_at_call 43; refine CT.out.mono ?_; rintro r w6 ⟨rfl, hb⟩; have T6 := Kept.mk (hT.out.on hb); have B6 := Kept.mk (HB.out.trans (hb.mono hzr)); obtain ⟨e0, e1⟩ := HD5.out w6 B6.out; clear hb CT))
              go_roundw
              case rel => exact ⟨k + 1, by omega, by go_num, A10, n8 + 1, c10, A11, n9 + 1, c11, rfl, rfl, ⟨by rw [t8.out, t9.out]; simpa using T9.out⟩, B9.out⟩
              case measure => simp [intOf]; omega
            | false =>
              go_wp2_with (first
                | (go_at_call 44; refine (GT.out w7 B7.out).mono ?_; rintro r w8 ⟨rfl, hg⟩; have T8 := Kept.mk (T7.out.on hg.below); have B8 := Kept.mk (B7.out.trans (hg.below.mono B7.out.size)); clear hg)
                | (at_builtin; refine wpList_appI rfl (.tmp 41) (.tmp 43) rfl w5.heap.size A8 n8 c8 _ rfl (World.ownsRow.alloc T6.out.o8 _) (w6.heap.size + 1) _ _ _ [(k : Int)] rfl (RdI.one w6 k) (by omega) (by simp; have := B6.out.size; omega) ?_; intro A10 c10 w7 hown hgrow hat; have T7 := Kept.mk (T6.out.push hgrow hat hown); have B7 := Kept.mk ((B6.out.alloc B6.out.size _).grown hgrow (by simp; have := B6.out.size; omega) (fun g hg => (own_lt T6.out.o8 g hg).1)); obtain ⟨f0, f1⟩ := HD5.out w7 B7.out; clear hown hgrow hat)
                | (go_at_call 43; refine CT.out.mono ?_; rintro r w6 ⟨rfl, hb⟩; have T6 := Kept.mk (hT.out.on hb); have B6 := Kept.mk (HB.out.trans (hb.mono hzr)); obtain ⟨e0, e1⟩ := HD5.out w6 B6.out; clear hb CT))
              go_roundw
              case rel => exact ⟨k + 1, by omega, by go_num, A10, n8 + 1, c10, A9, n9, c9, rfl, rfl, ⟨by rw [t8.out, t9.out]; simpa using T8.out⟩, B8.out⟩
              case measure => simp [intOf]; omega
          | false =>
            cases b2 with
            | true =>
              go_wp2_with (first
                | (at_builtin; refine wpList_appI rfl (.tmp 53) (.tmp 55) rfl w5.heap.size A9 n9 c9 _ rfl (World.ownsRow.alloc T8.out.o9 _) (w8.heap.size + 1) _ _ _ [(k : Int)] rfl (RdI.one w8 k) (by omega) (by simp; have := B8.out.size; omega) ?_; intro A11 c11 w9 hown hgrow hat; have T9 := Kept.mk (T8.out.symm.push hgrow hat hown).symm; have B9 := Kept.mk ((B8.out.alloc B8.out.size _).grown hgrow (by simp; have := B8.out.size; omega) (fun g hg => (own_lt T8.out.o9 g hg).1)); clear hown hgrow hat)
                | (go_at_call 44; refine (GT.out w6 B6.out).mono ?_; rintro r w8 ⟨rfl, hg⟩; have T8 := Kept.mk (T6.out.on hg.below); have B8 := Kept.mk (B6.out.trans (hg.below.mono B6.out.size)); clear hg)
                | (go_at_call 43; refine CT.out.mono ?_; rintro r w6 ⟨rfl, hb⟩; have T6 := Kept.mk (hT.out.on hb); have B6 := Kept.mk (HB.out.trans (hb.mono hzr)); obtain ⟨e0, e1⟩ := HD5.out w6 B6.out; clear hb CT))
              go_roundw
              case rel => exact ⟨k + 1, by omega, by go_num, A8, n8, c8, A11, n9 + 1, c11, rfl, rfl, ⟨by rw [t8.out, t9.out]; simpa using T9.out⟩, B9.out⟩
              case measure => simp [intOf]; omega
            | false =>
              go_wp2_with (first
                | (go_at_call 44; refine (GT.out w6 B6.out).mono ?_; rintro r w8 ⟨rfl, hg⟩; have T8 := Kept.mk (T6.out.on hg.below); have B8 := Kept.mk (B6.out.trans (hg.below.mono B6.out.size)); clear hg)
                | (go_at_call 43; refine CT.out.mono ?_; rintro r w6 ⟨rfl, hb⟩; have T6 := Kept.mk (hT.out.on hb); have B6 := Kept.mk (HB.out.trans (hb.mono hzr)); obtain ⟨e0, e1⟩ := HD5.out w6 B6.out; clear hb CT))
              go_roundw
              case rel => exact ⟨k + 1, by omega, by go_num, A8, n8, c8, A9, n9, c9, rfl, rfl, ⟨by rw [t8.out, t9.out]; simpa using T8.out⟩, B8.out⟩
              case measure => simp [intOf]; omega
        · obtain rfl : k = n1 := by omega
          have hall : M.take k = M := List.take_of_length_le (by rw [← HN.out]; exact Nat.le_refl _)
          rw [hall] at hT
          have hU8 := Ps.uni_wl S.out IX.out (fun y => decide (y = x))
          have hU9 := Ps.uni_wl S.out IX.out (fun y => decide (y.n = x.n))
          have R7r := Kept.mk (R7.out.on hb)
          have FD := Kept.mk (fun W (r : RdEn W W.heap.size A7 n7 c7 E) => find15_any A7 n7 c7 E x W r (by have := L3.out.1; have := r.len; omega) (Ps.tot_sets S.out IX.out (fun e => decide (e.1 = x))))
          have ND := Kept.mk (fun W (r : RdEn W W.heap.size A7 n7 c7 E) => named15_any A7 n7 c7 E x.n W r (by have := L3.out.1; have := r.len; omega) (Ps.tot_sets S.out IX.out (fun e => decide (e.1.n = x.n))))
          rw [hU8] at FD
          rw [hU9] at ND
          unfold lbv at FD
          have HD5 := Kept.mk (fun W (h : Below w5.heap.size w5 W) => HD.out W (B5.out.trans (h.mono B5.out.size)))
          generalize Ps.wl (fun y => decide (y = x)) M 0 = l8 at *
          generalize Ps.wl (fun y => decide (y.n = x.n)) M 0 = l9 at *
          clear hall hU8 hU9 hb
          go_wp2_with (first
            | (go_at_call 45; refine (equalI_is _ _ _ _ _ _ l9 w10 _ _ O10.out.rd T10.out.o9.rd).mono ?_; rintro r w11 ⟨rfl, hb⟩; have B11 := Kept.mk (B10.out.trans (hb.mono B10.out.size)); clear hb)
            | (go_at_call 47; refine (ND.out w8 R8.out).mono ?_; rintro r w10 ⟨A10, n10, c10, rfl, ho, hb⟩; have O10 := Kept.mk ho; have T10 := Kept.mk (T8.out.on hb); have B10 := Kept.mk (B8.out.trans (hb.mono B8.out.size)); clear ho hb)
            | (go_at_call 45; refine (equalI_is _ _ _ _ _ _ l8 w7 _ _ O7.out.rd T7.out.o8.rd).mono ?_; rintro r w8 ⟨rfl, hb⟩; have T8 := Kept.mk (T7.out.on hb); have R8 := Kept.mk (R7b.out.on hb); have B8 := Kept.mk (B7.out.trans (hb.mono B7.out.size)); obtain ⟨f0, f1⟩ := HD5.out w8 B8.out; clear hb)
            | (go_at_call 46; refine (FD.out w6 R6.out).mono ?_; rintro r w7 ⟨A10, n10, c10, rfl, ho, hb⟩; have O7 := Kept.mk ho; have T7 := Kept.mk (T6.out.on hb); have R7b := Kept.mk (R6.out.on hb); have B7 := Kept.mk (B6.out.trans (hb.mono B6.out.size)); clear ho hb)
            | (go_at_call 30; refine (alive15_any wr).mono ?_; rintro r w6 ⟨rfl, hb⟩; have T6 := Kept.mk (hT.out.on hb); have R6 := Kept.mk (R7r.out.on hb); have B6 := Kept.mk (HB.out.trans (hb.mono hzr)); obtain ⟨e0, e1⟩ := HD5.out w6 B6.out; clear hb))
          go_ret
          exact ⟨rfl, B0.out.trans ((B5.out.trans (B11.out.mono B5.out.size)).mono (by omega))⟩
    · go_ret
      exact ⟨rfl, B0.out.trans (B3.out.mono (by omega))⟩
end Go.Proofs.Ythhcfocmaiacoaa
