/- Chapter 15: the law PostingsEncode. -/
import Derived.Test.YthhcfocmaiacoaaPostLA
import Derived.Test.YthhcfocmaiacoaaPostF
namespace Go.Proofs.Ythhcfocmaiacoaa
open Go.RowKit Go.Shelf

namespace Pe
theorem asc_S {bnd : Nat} : ∀ {s : List Int} {a : Int} {f : Bool}, Ls.S s → (∀ y ∈ s, (if f = true then a ≤ y else a < y) ∧ y < (bnd : Int)) → Asc bnd a f s
  | [], _, _, _, _ => trivial
  | y :: r, a, f, hs, h => by
    obtain ⟨h1, h2⟩ := List.pairwise_cons.1 (show (y :: r).Pairwise _ from hs)
    exact ⟨(h y (by simp)).1, (h y (by simp)).2, asc_S h2 fun z hz => ⟨by rw [if_neg (by simp)]; exact h1 z hz, (h z (by simp [hz])).2⟩⟩
theorem gap_le : ∀ {s : List Int} {a : Int}, Up a s → 0 ≤ a → (gap a s).length ≤ s.length * 10
  | [], _, _, _ => by simp [gap]
  | y :: r, a, h, h0 => by
    have h1 := gap_le h.2.2 (show 0 ≤ y by have := h.1; omega)
    have h2 := Vi.enc_len (y - a).toNat (by have := h.1; have := h.2.1; omega)
    rw [gap, List.length_append, List.length_cons, Nat.succ_mul]
    omega
theorem symE_le {T : List ByteArray} (hT : T.length ≤ 1000000) (s : ByteArray) : (Rc.symE T s).length ≤ 10 := by
  unfold Rc.symE
  cases h : Sy.idx T s with
  | none => exact Vi.enc_len _ (by simp)
  | some k =>
    obtain ⟨hk, _⟩ := Sy.idx_some h
    exact Vi.enc_len _ (by simp; omega)
theorem encB_le {T : List ByteArray} (hT : T.length ≤ 1000000) {E : List EntV} (hE : E.length ≤ 5000) (h : ∀ e ∈ E, e.2.length ≤ 5000 ∧ Up 0 e.2) : (encB T E).length ≤ 1000000000 := by
  have hf : ∀ (L : List EntV), (∀ e ∈ L, e.2.length ≤ 5000 ∧ Up 0 e.2) → (L.flatMap (entE T)).length ≤ L.length * 50030 := by
    intro L
    induction L with
    | nil => intro _; simp
    | cons e L ih =>
      intro hL
      have h1 := ih fun z hz => hL z (by simp [hz])
      have h2 := hL e (by simp)
      have h3 := gap_le h2.2 (Int.le_refl 0)
      have h4 := symE_le hT e.1.n
      have h5 := symE_le hT e.1.v
      have h6 := Vi.enc_len e.2.length (by omega)
      rw [List.flatMap_cons, List.length_append, List.length_cons, Nat.succ_mul]
      have : (entE T e).length ≤ 50030 := by
        unfold entE
        simp only [List.length_append]
        omega
      omega
  have h1 := hf E h
  have h2 := Vi.enc_len E.length (by omega)
  unfold encB
  rw [List.length_append]
  have : E.length * 50030 ≤ 5000 * 50030 := Nat.mul_le_mul_right _ hE
  omega
theorem encB_sm {T : List ByteArray} (hT : T.length ≤ 1000000) {E : List EntV} (hE : E.length ≤ 300) (h : ∀ e ∈ E, e.2.length ≤ 300 ∧ Up 0 e.2) : (encB T E).length ≤ 20000000 := by
  have hf : ∀ (L : List EntV), (∀ e ∈ L, e.2.length ≤ 300 ∧ Up 0 e.2) → (L.flatMap (entE T)).length ≤ L.length * 50030 := by
    intro L
    induction L with
    | nil => intro _; simp
    | cons e L ih =>
      intro hL
      have h1 := ih fun z hz => hL z (by simp [hz])
      have h2 := hL e (by simp)
      have h3 := gap_le h2.2 (Int.le_refl 0)
      have h4 := symE_le hT e.1.n
      have h5 := symE_le hT e.1.v
      have h6 := Vi.enc_len e.2.length (by omega)
      rw [List.flatMap_cons, List.length_append, List.length_cons, Nat.succ_mul]
      have : (entE T e).length ≤ 50030 := by
        unfold entE
        simp only [List.length_append]
        omega
      omega
  have h1 := hf E h
  have h2 := Vi.enc_len E.length (by omega)
  unfold encB
  rw [List.length_append]
  have : E.length * 50030 ≤ 300 * 50030 := Nat.mul_le_mul_right _ hE
  omega
end Pe
theorem Ps.prs_Srt : ∀ (M : List (List Lab)) (k : Nat), (∀ m ∈ M, Lb.Srt m) → ∀ x, Ls.S (Ps.ser x (Ps.prs M k))
  | [], _, _, _ => List.Pairwise.nil
  | m :: M, k, h, x => by
    rw [Ps.prs, Ps.ser_app]
    have key : ∀ (m : List Lab), Lb.Srt m → Ps.ser x (m.map fun x => (x, (k : Int))) = [] ∨ Ps.ser x (m.map fun x => (x, (k : Int))) = [(k : Int)] := by
      intro m
      induction m with
      | nil => intro _; exact .inl rfl
      | cons z m ih =>
        intro hs
        obtain ⟨q1, q2⟩ := List.pairwise_cons.1 (show (z :: m).Pairwise _ from hs)
        rw [List.map_cons, show ((z, (k : Int)) :: m.map fun x => (x, (k : Int))) = [(z, (k : Int))] ++ m.map (fun x => (x, (k : Int))) from rfl, Ps.ser_app]
        by_cases hz : z = x
        · subst hz
          rw [Ps.ser_hit, Ps.ser_none]
          · exact .inr rfl
          · intro hm
            rw [List.map_map] at hm
            obtain ⟨y, hy, e⟩ := List.mem_map.1 hm
            have e : y = z := e
            have := q1 y hy
            rw [e, St.irrefl] at this
            cases this
        · rw [Ps.ser_miss hz, List.nil_append]
          exact ih q2
    refine List.pairwise_append.2 ⟨?_, Ps.prs_Srt M (k + 1) (fun m hm => h m (by simp [hm])) x, fun a ha b hb => ?_⟩
    · rcases key m (h m (by simp)) with h1 | h1 <;> rw [h1] <;> simp
    · have hb2 : (x, b) ∈ Ps.prs M (k + 1) := by
        unfold Ps.ser at hb
        obtain ⟨p, hp, e⟩ := List.mem_map.1 hb
        obtain ⟨h3, h4⟩ := List.mem_filter.1 hp
        have : p = (x, b) := Prod.ext (by simpa using h4) e
        rw [← this]; exact h3
      have h5 := (Ps.prs_val M (k + 1) _ hb2).1
      simp only [] at h5
      rcases key m (h m (by simp)) with h1 | h1
      · rw [h1] at ha; cases ha
      · rw [h1, List.mem_singleton] at ha
        omega
theorem Ps.ser_val {M : List (List Lab)} {x : Lab} {y : Int} (h : y ∈ Ps.ser x (Ps.prs M 0)) : 0 ≤ y ∧ y < (M.length : Int) := by
  unfold Ps.ser at h
  obtain ⟨p, hp, e⟩ := List.mem_map.1 h
  have := Ps.prs_val M 0 p (List.mem_filter.1 hp).1
  rw [e] at this
  omega
/-- an index's rows rise -/
theorem Ps.sets_asc {M : List (List Lab)} {E : List EntV} (hs : Ps.Sets M) (h : Ps.Idx (Ps.prs M 0) E) : ∀ e ∈ E, Pe.Asc M.length 0 true e.2 := fun e he => by
  rw [h.ser e he]
  exact Pe.asc_S (Ps.prs_Srt M 0 (fun m hm => (hs.1 m hm).1) e.1) fun y hy => by
    have := Ps.ser_val hy
    rw [if_pos rfl]
    omega
theorem Ps.sets_up {M : List (List Lab)} {E : List EntV} (hs : Ps.Sets M) (h : Ps.Idx (Ps.prs M 0) E) : ∀ e ∈ E, Pe.Up 0 e.2 := fun e he => Pe.asc_up (by have := Ps.wt_len M; have := hs.2; omega) (Ps.sets_asc hs h e he)
theorem enc_both {M : List (List Lab)} {E : List EntV} {T : List ByteArray} (hs : Ps.Sets M) (h : Ps.Idx (Ps.prs M 0) E) (hT : T.length ≤ 1000000) : E.length ≤ 1000000 ∧ (∀ e ∈ E, e.2.length ≤ 1000000 ∧ Pe.Up 0 e.2) ∧ (Pe.encB T E).length ≤ 1000000000 := by
  obtain ⟨h1, h2⟩ := Ps.sets_len hs h
  have h3 := Ps.sets_up hs h
  exact ⟨by omega, fun e he => ⟨by have := h2 e he; omega, h3 e he⟩, Pe.encB_le hT (by omega) fun e he => ⟨by have := h2 e he; omega, h3 e he⟩⟩
set_option maxRecDepth 100000 in
set_option maxHeartbeats 8000000 in
theorem law_pencode (A0 A : Option Addr) (n0 c0 n c : Nat) (L : List ByteArray) (LL : List (List Lab)) (w : World) (hv0 : RdS w w.heap.size A0 n0 c0 L) (hf0 : Sy.Fit L) (hv : RdLL w w.heap.size A n c LL) (hf : ∀ l ∈ LL, Lb.Fit l) :
    Calls Try.prog 10 #[.slice A0 n0 c0, .slice A n c] w fun r w' => r = .returned (.bool true) ∧ Below w.heap.size w w' := by
  have NM := Kept.mk (normal15_any A n c w.heap.size LL w hv (Nat.le_refl _) hf)
  have V0 := Kept.mk hv0
  have F0 := Kept.mk hf0
  clear hv hf hv0 hf0
  go_enter Try.func10, Try.ntmps10
  go_wp2_with (first
    | (go_at_call 23; refine (equalP_is _ _ _ _ _ _ Z.1 Z.1 true w9 _ _ P9.out O9.out (by simp)).mono ?_; rintro r w10 ⟨rfl, hw⟩; have BZ : Kept (Below w.heap.size w w10) := ⟨by rw [← hw]; exact B9.out⟩; clear hw)
    | (go_at_call 30; refine (alive15_any w8).mono ?_; rintro r w9 ⟨rfl, hb⟩; have O9 := Kept.mk ((O8.out.below hb).more hb.size); have P9 := Kept.mk ((P8.out.below hb).more hb.size); have B9 := Kept.mk (bl_next B8.out hb); clear hb)
    | (go_at_call 37; refine (refEncode15_any A4 A5 n4 c4 n5 c5 T E w7 T7.out R7.out (by omega) (by have := EB.out.1; have := R7.out.len; omega) EB.out.2.1 EB.out.2.2).mono ?_; rintro r w8 ⟨A8, n8, c8, rfl, ho, hb⟩; rw [← HZ.out] at ho ⊢; have O8 := Kept.mk ho.rd; have P8 := Kept.mk ((P7.out.below hb).more hb.size); have B8 := Kept.mk (bl_next B7.out hb); clear ho hb)
    | (go_at_call 35; refine (encodeP_any A4 A6 n4 c4 n6 c6 T E w6 T6.out TB.out.1 R6.out (by omega) (by have := EB.out.1; have := R6.out.len; omega) EB.out.2.1 EB.out.2.2).mono ?_; rintro r w7 ⟨A7, n7, c7, rfl, ho, hb⟩; obtain ⟨Z, hZ⟩ : ∃ Z, Z = Pe.enc T E := ⟨_, rfl⟩; have HZ := Kept.mk hZ; rw [← hZ] at ho ⊢; clear hZ; have P7 := Kept.mk ho.rd; have T7 := Kept.mk ((T6.out.below hb).more hb.size); have R7 := Kept.mk (R6r.out.on hb); have B7 := Kept.mk (bl_next B6.out hb); clear ho hb)
    | (go_at_call 36; refine (program15_any A5 n5 c5 E w5 R5.out (by have := EB.out.1; have := R5.out.len; omega)).mono ?_; rintro r w6 ⟨A6, n6, c6, rfl, ho, hb⟩; have R6 := Kept.mk ho.rd; have R6r := Kept.mk (R5.out.on hb); have T6 := Kept.mk ((T5.out.below hb).more hb.size); have B6 := Kept.mk (bl_next B5.out hb); clear ho hb)
    | (go_at_call 34; refine (refBuild15_any A1 n1 c1 M w4 RM4.out S.out).mono ?_; rintro r w5 ⟨A5, n5, c5, E, rfl, hI, ho, hb⟩; have EB := Kept.mk (enc_both (T := T) S.out hI (by have := T4.out.len; omega)); have R5 := Kept.mk ho.rd; have T5 := Kept.mk ((T4.out.below hb).more hb.size); have B5 := Kept.mk (bl_next B4.out hb); clear hI ho hb)
    | (go_at_call 18; refine (table_any A0 n0 c0 L w3 ((V0.out.below B3.out).more B3.out.size) (by have := (H2.out (by simp)).1; omega)).mono ?_; rintro r w4 ⟨A4, n4, c4, T, rfl, ht, ho, hb⟩; have TB := Kept.mk ht; have T4 := Kept.mk ho.rd; have h4 : n4 ≤ 500 := (by have h1 := ho.len; have h2 := ht.len; have h5 := V0.out.len; have h6 := (H2.out (by simp)).1; omega); have RM4 := Kept.mk (RM3.out.on hb); have B4 := Kept.mk (bl_next B3.out hb); clear ht ho hb)
    | (go_at_call 30; refine (alive15_any w3).mono ?_; rintro r w9 ⟨rfl, hb⟩; have BZ := Kept.mk (bl_next B3.out hb); clear hb)
    | (go_at_call 16; refine (long_any A0 n0 c0 w2.heap.size L w2 ((V0.out.below B2.out).more B2.out.size) (Nat.le_refl _) F0.out).mono ?_; rintro r w3 ⟨v3, rfl, hv1, hv2, hg⟩; have RM3 := Kept.mk (RM2.out.on hg.below); have B3 := Kept.mk (bl_next B2.out hg.below); clear hg hv2; rcases hv1 with rfl | rfl)
    | (go_at_call 30; refine (alive15_any w2).mono ?_; rintro r w9 ⟨rfl, hb⟩; have BZ := Kept.mk (bl_next B2.out hb); clear hb)
    | (go_at_call 15; refine (large10_any A0 n0 c0 w1.heap.size L w1 ((V0.out.below B1.out).more B1.out.size) (Nat.le_refl _) F0.out).mono ?_; rintro r w2 ⟨v2, rfl, hv1, hv2, hg⟩; have H2 := Kept.mk hv2; have RM2 := Kept.mk (RM1.out.on hg.below); have B2 := Kept.mk (bl_next B1.out hg.below); clear hg hv2; rcases hv1 with rfl | rfl)
    | (go_at_call 30; refine (alive15_any w1).mono ?_; rintro r w9 ⟨rfl, hb⟩; have BZ := Kept.mk (bl_next B1.out hb); clear hb)
    | (go_at_call 29; refine NM.out.mono ?_; rintro r w1 ⟨A1, n1, c1, v, rfl, hv1, M, hS, ho, hb⟩; have S := Kept.mk hS; have RM1 := Kept.mk ho.rd; have B1 := Kept.mk hb; clear hS ho hb NM; rcases hv1 with rfl | rfl))
  all_goals go_ret
  all_goals first | exact ⟨rfl, BZ.out⟩ | exact ⟨by simp, BZ.out⟩
end Go.Proofs.Ythhcfocmaiacoaa
