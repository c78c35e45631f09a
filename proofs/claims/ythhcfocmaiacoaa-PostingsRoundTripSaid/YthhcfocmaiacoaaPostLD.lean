/- Chapter 15: the law PostingsRoundTrip. -/
import Derived.Test.YthhcfocmaiacoaaPostLC
namespace Go.Proofs.Ythhcfocmaiacoaa
open Go.RowKit Go.Shelf

namespace Ps
/-- all names and values -/
def strs (M : List (List Lab)) : List ByteArray := M.flatMap Lb.strs
theorem strs_take (M : List (List Lab)) {k : Nat} (h : k < M.length) : strs (M.take (k + 1)) = strs (M.take k) ++ Lb.strs M[k] := by
  unfold strs
  rw [List.take_succ_eq_append_getElem h, List.flatMap_append]
  simp
theorem strs_len : ∀ (M : List (List Lab)), (strs M).length ≤ 2 * wt M
  | [] => by simp [strs]
  | m :: M => by
    have h1 := strs_len M
    have h2 := Lb.strs_length m
    unfold strs wt at *
    rw [List.flatMap_cons, List.length_append, List.map_cons, List.sum_cons]
    omega
theorem strs_mem {M : List (List Lab)} {m : List Lab} (hm : m ∈ M) {x : Lab} (hx : x ∈ m) : x.n ∈ strs M ∧ x.v ∈ strs M := by
  unfold strs Lb.strs
  exact ⟨List.mem_flatMap.2 ⟨m, hm, List.mem_flatMap.2 ⟨x, hx, by simp⟩⟩, List.mem_flatMap.2 ⟨m, hm, List.mem_flatMap.2 ⟨x, hx, by simp⟩⟩⟩
theorem strs_fit {M : List (List Lab)} (h : ∀ m ∈ M, Lb.Fit m) : Sy.Fit (strs M) := fun s hs => by
  unfold strs Lb.strs at hs
  obtain ⟨m, hm, h1⟩ := List.mem_flatMap.1 hs
  obtain ⟨x, hx, h2⟩ := List.mem_flatMap.1 h1
  have h3 := h m hm x hx
  simp only [List.mem_cons, List.not_mem_nil, or_false] at h2
  rcases h2 with rfl | rfl
  · exact h3.1
  · exact h3.2
theorem prs_mem : ∀ (M : List (List Lab)) (k : Nat) (x : Lab), x ∈ (prs M k).map (·.1) → ∃ m ∈ M, x ∈ m
  | [], _, x, h => by simp [prs] at h
  | m :: M, k, x, h => by
    rw [prs, List.map_append, List.mem_append] at h
    rcases h with h | h
    · refine ⟨m, by simp, ?_⟩
      rw [List.map_map] at h
      obtain ⟨y, hy, e⟩ := List.mem_map.1 h
      have e : y = x := e
      rw [← e]; exact hy
    · obtain ⟨m', hm, hx⟩ := prs_mem M (k + 1) x h
      exact ⟨m', by simp [hm], hx⟩
theorem strs_ok {M : List (List Lab)} {E : List EntV} {T : List ByteArray} (h : Idx (prs M 0) E) (ht : Sy.Tab (strs M) T) : ∀ e ∈ E, Pe.okE T e = true := fun e he => by
  obtain ⟨m, hm, hx⟩ := prs_mem M 0 e.1 ((h.mem e.1).1 (List.mem_map.2 ⟨e, he, rfl⟩))
  obtain ⟨h1, h2⟩ := strs_mem hm hx
  have key : ∀ s, s ∈ strs M → (Sy.idx T s).isSome = true := fun s hs => by
    obtain ⟨k, hk, e⟩ := List.mem_iff_getElem.1 ((ht.2 s).2 hs)
    rw [Sy.idx_srt ht.1 hk e]; rfl
  unfold Pe.okE
  rw [key _ h1, key _ h2]; rfl
theorem ser_ne {x : Lab} {P : List (Lab × Int)} (h : x ∈ P.map (·.1)) : ser x P ≠ [] := fun e => by
  obtain ⟨p, hp, h1⟩ := List.mem_map.1 h
  have : p.2 ∈ ser x P := by
    unfold ser
    exact List.mem_map.2 ⟨p, List.mem_filter.2 ⟨hp, by simpa using h1⟩, rfl⟩
  rw [e] at this
  cases this
/-- Decode inverts Encode at an index -/
theorem round {M : List (List Lab)} {E : List EntV} {T : List ByteArray} (hs : Sets M) (h : Idx (prs M 0) E) (ht : Sy.Tab (strs M) T) (hT : T.length ≤ 1000000) : Pe.enc T E = (Pe.encB T E, 0) ∧ Pe.dec T (M.length : Int) (Pe.encB T E) = (E, 0) := by
  have hok := strs_ok h ht
  obtain ⟨h1, h2⟩ := sets_len hs h
  have hwl := wt_len M
  have hw := hs.2
  refine ⟨by rw [Pe.enc, if_pos (List.all_eq_true.2 hok)], Pe.dec_enc ht.1 (by unfold Rc.mx; omega) (by omega) (by unfold Rc.mx; omega) h.srt fun e he => ⟨⟨hok e he, ?_, sets_asc hs h e he⟩, by have := h2 e he; unfold Rc.mx; omega⟩⟩
  rw [h.ser e he]
  exact ser_ne ((h.mem e.1).1 (List.mem_map.2 ⟨e, he, rfl⟩))
end Ps
set_option maxRecDepth 100000 in
set_option maxHeartbeats 4000000 in
theorem table15_any (A : Option Addr) (n c : Nat) (M : List (List Lab)) (w : World) (hv : RdLL w w.heap.size A n c M) (hs : Ps.Sets M) :
    Calls Try.prog 41 #[.slice A n c] w fun r w' => ∃ A2 n2 c2 T, r = .returned (.slice A2 n2 c2) ∧ Sy.Tab (Ps.strs M) T ∧ OwnS w' w.heap.size A2 n2 c2 T ∧ Below w.heap.size w w' := by
  have hcc := hv.cap
  have hlc := hcc.1
  have hcm := hcc.2
  unfold maxLen at hcm
  have V := Kept.mk hv
  have HN := Kept.mk hv.len
  have S := Kept.mk hs
  have hSL : Kept (∀ k, (Ps.strs (M.take k)).length ≤ 600) := ⟨fun k => by
    have h1 := Ps.strs_len (M.take k)
    have h2 := Ps.wt_take M k
    have h3 := S.out.2
    omega⟩
  clear hv hs hcc
  go_enter Try.func41, Try.ntmps41
  go_wp2
  go_loopw [3, 8] (fun o i wr => ∃ k : Nat, k ≤ n ∧ i = .int .i64 k ∧ ∃ (A2 : Option Addr) (n2 c2 : Nat), o = .slice A2 n2 c2 ∧ OwnS wr w.heap.size A2 n2 c2 (Ps.strs (M.take k)) ∧ Below w.heap.size w wr) (fun _ i _ => n - (intOf i).toNat)
  case atStart => exact ⟨0, by omega, rfl, none, 0, 0, rfl, (show OwnS w w.heap.size none 0 0 [] from World.ownsRow_nil _ _ _ _), Below.refl _ _⟩
  case round =>
    obtain ⟨k, hk, rfl, A2, n2, c2, rfl, ho, hb⟩ := hrel
    have O := Kept.mk ho
    have HB := Kept.mk hb
    have hzr := hb.size
    have hn2 := ho.len
    have hn2' : n2 ≤ 600 := by have := hSL.out k; omega
    have HN2 := Kept.mk hn2
    clear hn2
    by_cases hlt : k < n
    · have hkl : k < M.length := by rw [← HN.out]; exact hlt
      obtain ⟨b, off, A', n', c', rfl, hbB, hc0, hrl⟩ := V.out.at_ hkl
      have z0 := (hb.cell (p := ⟨b, off + k, none⟩) (by show b < _; omega)).trans hc0
      have ht := Kept.mk (Ps.strs_take M hkl)
      have hln : (Lb.strs M[k]).length ≤ 600 := by
        have := hSL.out (k + 1)
        rw [ht.out, List.length_append] at this
        omega
      have hml := Lb.strs_length M[k]
      have hnl := hrl.len
      have ST := Kept.mk (refStrings_any A' n' c' M[k] wr ((hrl.below hb).more hzr) (by omega))
      have HLN := Kept.mk hln
      clear ho hb hc0 hrl hln hml hnl
      generalize M[k] = m at *
      go_wp2_with (first
        | (at_builtin; refine wpList_appS rfl (.tmp 12) (.tmp 14) rfl w.heap.size A2 n2 c2 _ rfl O6.out _ _ _ _ _ rfl O7.out (by have := HLN.out; have := H7.out; omega) (by have := B6.out.size; omega) ?_; intro A8 c8 w8 hown hgrow hat; have O8 := Kept.mk hown; have B8 := Kept.mk (B6.out.grown hgrow B6.out.size (fun g hg => (own_lt O6.out g hg).1)); clear hown hgrow hat)
        | (go_at_call 83; refine ST.out.mono ?_; rintro r w6 ⟨A7, n7, c7, rfl, ho, hb⟩; have O7 := Kept.mk ho.rd; have H7 := Kept.mk ho.len; have O6 := Kept.mk (show OwnS w6 w.heap.size A2 n2 c2 (Ps.strs (M.take k)) from own_keep O.out hb); have B6 := Kept.mk (HB.out.trans (hb.mono hzr)); clear ho hb ST))
      go_roundw
      case rel => exact ⟨k + 1, by omega, by go_num, A8, _, c8, rfl, by rw [ht.out]; exact O8.out, B8.out⟩
      case measure => simp [intOf]; omega
    · obtain rfl : k = n := by omega
      have hall : M.take k = M := List.take_of_length_le (by rw [← HN.out]; exact Nat.le_refl _)
      have TB := Kept.mk (table_any A2 n2 c2 _ wr ho.rd (by omega))
      rw [hall] at TB
      clear hall ho hb
      go_wp2_with (go_at_call 18; refine TB.out.mono ?_; rintro r w6 ⟨A7, n7, c7, T, rfl, ht, ho, hb⟩; have HT := Kept.mk ht; have O7 := Kept.mk ho; have B7 := Kept.mk (HB.out.trans (hb.mono hzr)); clear ht ho hb TB)
      go_ret
      exact ⟨A7, n7, c7, T, rfl, HT.out, own_rebase O7.out hzr, B7.out⟩
theorem sm_enc {M : List (List Lab)} {E : List EntV} {T : List ByteArray} (hs : Ps.Sets M) (h : Ps.Idx (Ps.prs M 0) E) (hT : T.length ≤ 1000000) : (Pe.encB T E).length ≤ 20000000 := by
  obtain ⟨h1, h2⟩ := Ps.sets_len hs h
  exact Pe.encB_sm hT h1 fun e he => ⟨h2 e he, Ps.sets_up hs h e he⟩
set_option maxRecDepth 100000 in
set_option maxHeartbeats 8000000 in
theorem law_pround (A : Option Addr) (n c : Nat) (LL : List (List Lab)) (w : World) (hv : RdLL w w.heap.size A n c LL) (hf : ∀ l ∈ LL, Lb.Fit l) :
    Calls Try.prog 12 #[.slice A n c] w fun r w' => r = .returned (.bool true) ∧ Below w.heap.size w w' := by
  have NM := Kept.mk (normal15_any A n c w.heap.size LL w hv (Nat.le_refl _) hf)
  clear hv hf
  go_enter Try.func12, Try.ntmps12
  go_wp2_with (first
    | (go_at_call 31; refine (same15_any _ _ _ _ _ _ E wa Ra.out Qa.out (by have := EB.out.1; have := Ra.out.len; omega) (fun e he => (EB.out.2.1 e he).1)).mono ?_; rintro r wb ⟨rfl, hg⟩; have BZ := Kept.mk (bl_next Ba.out hg.below); clear hg)
    | (go_at_call 32; refine (reference15_any A8 n8 c8 E w9 R9.out (by have := EB.out.1; have := R9.out.len; omega)).mono ?_; rintro r wa ⟨Aa, na, ca, rfl, ho, hb⟩; have Ra := Kept.mk ho.rd; have Qa := Kept.mk (Q9.out.on hb); have Ba := Kept.mk (bl_next B9.out hb); clear ho hb)
    | (go_at_call 30; refine (alive15_any w8).mono ?_; rintro r w9 ⟨rfl, hb⟩; have R9 := Kept.mk (R8.out.on hb); have Q9 := Kept.mk (Q8.out.on hb); have B9 := Kept.mk (bl_next B8.out hb); clear hb)
    | (go_at_call 38; refine (decodeP_any A3 A7 n3 c3 n7 c7 (n1 : Int) T (Pe.encB T E) w7 T7.out O7.out (by have := O7.out.len; have := EB.out.2.2; have := SM.out; omega) (by have := NL.out; omega)).mono ?_; rintro r w8 ⟨A8, n8, c8, rfl, hr, hb⟩; rw [RTD.out] at hr ⊢; have R8 := Kept.mk hr; have Q8 := Kept.mk (Q7.out.on hb); have B8 := Kept.mk (bl_next B7.out hb); clear hr hb)
    | (go_at_call 35; refine (encodeP_any A3 A6 n3 c3 n6 c6 T E w6 T6.out TB.out.1 R6.out (by omega) (by have := EB.out.1; have := R6.out.len; omega) EB.out.2.1 EB.out.2.2).mono ?_; rintro r w7 ⟨A7, n7, c7, rfl, ho, hb⟩; rw [RTE.out] at ho ⊢; have O7 := Kept.mk ho.rd; have T7 := Kept.mk ((T6.out.below hb).more hb.size); have Q7 := Kept.mk (Q6.out.on hb); have B7 := Kept.mk (bl_next B6.out hb); clear ho hb)
    | (go_at_call 36; refine (program15_any A5 n5 c5 E w5 R5.out (by have := EB.out.1; have := R5.out.len; omega)).mono ?_; rintro r w6 ⟨A6, n6, c6, rfl, ho, hb⟩; have R6 := Kept.mk ho.rd; have Q6 := Kept.mk (R5.out.on hb); have T6 := Kept.mk ((T5.out.below hb).more hb.size); have B6 := Kept.mk (bl_next B5.out hb); clear ho hb)
    | (go_at_call 34; refine (refBuild15_any A1 n1 c1 M w4 RM4.out S.out).mono ?_; rintro r w5 ⟨A5, n5, c5, E, rfl, hI, ho, hb⟩; have hTl : T.length ≤ 1000000 := (by have := T4.out.len; omega); have EB := Kept.mk (enc_both (T := T) S.out hI hTl); have SM := Kept.mk (sm_enc (T := T) S.out hI hTl); have RTE := Kept.mk (Ps.round S.out hI TB.out hTl).1; have RTD : Kept (Pe.dec T (n1 : Int) (Pe.encB T E) = (E, 0)) := ⟨by rw [NL.out.1]; exact (Ps.round S.out hI TB.out hTl).2⟩; have R5 := Kept.mk ho.rd; have T5 := Kept.mk ((T4.out.below hb).more hb.size); have B5 := Kept.mk (bl_next B4.out hb); clear hI ho hb hTl)
    | (go_at_call 30; refine (alive15_any w4).mono ?_; rintro r w9 ⟨rfl, hb⟩; have BZ := Kept.mk (bl_next B4.out hb); clear hb)
    | (go_at_call 15; refine (large10_any A3 n3 c3 w3.heap.size T w3 T3.out (Nat.le_refl _) FT.out).mono ?_; rintro r w4 ⟨v2, rfl, hv1, hv2, hg⟩; have T4 := Kept.mk ((T3.out.below hg.below).more hg.below.size); have RM4 := Kept.mk (RM3.out.on hg.below); have B4 := Kept.mk (bl_next B3.out hg.below); clear hg hv2; rcases hv1 with rfl | rfl)
    | (go_at_call 41; refine (table15_any A1 n1 c1 M w1 RM1.out S.out).mono ?_; rintro r w3 ⟨A3, n3, c3, T, rfl, ht, ho, hb⟩; have TB := Kept.mk ht; have T3 := Kept.mk ho.rd; have FT : Kept (Sy.Fit T) := ⟨fun s hs => Ps.strs_fit (fun m hm => (S.out.1 m hm).2) s ((ht.2 s).1 hs)⟩; have h3 : n3 ≤ 600 := (by have h1 := ho.len; have h2 := ht.len; have h5 := Ps.strs_len M; have h6 := S.out.2; omega); have NL : Kept (n1 = M.length ∧ n1 ≤ 300) := ⟨⟨RM1.out.len, by have h1 := RM1.out.len; have h2 := Ps.wt_len M; have h3 := S.out.2; omega⟩⟩; have RM3 := Kept.mk (RM1.out.on hb); have B3 := Kept.mk (bl_next B1.out hb); clear ht ho hb)
    | (go_at_call 30; refine (alive15_any w1).mono ?_; rintro r w9 ⟨rfl, hb⟩; have BZ := Kept.mk (bl_next B1.out hb); clear hb)
    | (go_at_call 29; refine NM.out.mono ?_; rintro r w1 ⟨A1, n1, c1, v, rfl, hv1, M, hS, ho, hb⟩; have S := Kept.mk hS; have RM1 := Kept.mk ho.rd; have B1 := Kept.mk hb; clear hS ho hb NM; rcases hv1 with rfl | rfl))
  all_goals go_ret
  all_goals first | exact ⟨rfl, BZ.out⟩ | exact ⟨by simp, BZ.out⟩
end Go.Proofs.Ythhcfocmaiacoaa
