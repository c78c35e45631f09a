/- Chapter 15: the reference's Build. -/
import Derived.Test.YthhcfocmaiacoaaPostW
namespace Go.Proofs.Ythhcfocmaiacoaa
open Go.RowKit Go.Shelf

namespace Ps
theorem pc_swap (x y : Lab) : Lb.pc y x = - Lb.pc x y := Lb.cmpE_swap x y
theorem pc_zero {x y : Lab} : Lb.pc x y = 0 ↔ x = y := Lb.cmpE_zero
theorem pc_trans {x y z : Lab} (h1 : Lb.pc x y < 0) (h2 : Lb.pc y z < 0) : Lb.pc x z < 0 := Lb.cmpE_trans h1 h2
theorem plt_pc {x y : Lab} : Lb.plt x y = true ↔ Lb.pc x y < 0 := by unfold Lb.plt; simp
theorem insG_rest {x : Lab} {v : Int} : ∀ {r : List EntV}, (∀ e ∈ r, 0 < Lb.pc e.1 x) → insG x v r true = r
  | [], _ => rfl
  | e :: r, h => by rw [insG_gt' (h e (by simp)), insG_rest fun e he => h e (by simp [he])]
theorem tw_all {v : Int} : ∀ {s : List Int}, (∀ y ∈ s, y < v) → s.takeWhile (fun y => decide (y < v)) = s
  | [], _ => rfl
  | y :: s, h => by
    rw [List.takeWhile_cons, if_pos (by simpa using h y (by simp)), tw_all fun z hz => h z (by simp [hz])]
theorem ins_end {s : List Int} {v : Int} (h : ∀ y ∈ s, y < v) : Ls.ins s v = s ++ [v] := by
  have hh : Ls.has s v = false := by
    rw [Ls.has_false]
    intro hm
    have := h v hm
    omega
  have hl : Ls.low s v = s := by
    unfold Ls.low
    exact tw_all h
  unfold Ls.ins
  rw [hh, hl]
  simp
structure InsSpec (x : Lab) (v : Int) (E E' : List EntV) : Prop where
  srt : Lb.PSrt (E'.map (·.1))
  mem : ∀ y, y ∈ E'.map (·.1) ↔ y ∈ E.map (·.1) ∨ y = x
  ent : ∀ e ∈ E', (e.1 ≠ x ∧ e ∈ E) ∨ (e.1 = x ∧ ((∃ s, (x, s) ∈ E ∧ e.2 = Ls.ins s v) ∨ (x ∉ E.map (·.1) ∧ e.2 = [v])))
theorem insG_spec (x : Lab) (v : Int) : ∀ (E : List EntV), Lb.PSrt (E.map (·.1)) → InsSpec x v E (insG x v E false)
  | [], _ => ⟨by simp [insG, Lb.PSrt], fun y => by simp [insG], fun e he => by
      have : e = (x, [v]) := by simpa [insG] using he
      subst this
      exact .inr ⟨rfl, .inr ⟨by simp, rfl⟩⟩⟩
  | e :: r, h => by
    obtain ⟨h1, h2⟩ := List.pairwise_cons.1 (show ((e :: r).map (·.1)).Pairwise _ from h)
    have hr : ∀ e' ∈ r, Lb.pc e.1 e'.1 < 0 := fun e' he' => plt_pc.1 (h1 e'.1 (List.mem_map.2 ⟨e', he', rfl⟩))
    have hge : ∀ (_ : 0 ≤ Lb.pc e.1 x), ∀ e' ∈ r, 0 < Lb.pc e'.1 x := fun hp e' he' => by
      have h3 := hr e' he'
      have h4 := pc_swap e'.1 x
      have h5 := pc_swap e.1 x
      have : Lb.pc x e'.1 < 0 := by
        by_cases h0 : Lb.pc e.1 x = 0
        · rw [← pc_zero.1 h0]; exact h3
        · exact pc_trans (by omega) h3
      omega
    rcases Int.lt_trichotomy (Lb.pc e.1 x) 0 with hq | hq | hq
    · rw [insG_lt hq]
      have ih := insG_spec x v r h2
      have hne : e.1 ≠ x := fun e1 => by rw [pc_zero.2 e1] at hq; omega
      refine ⟨List.pairwise_cons.2 ⟨fun y hy => ?_, ih.srt⟩, fun y => ?_, fun e' he' => ?_⟩
      · rcases (ih.mem y).1 hy with h3 | h3
        · exact h1 y h3
        · rw [h3]; exact plt_pc.2 hq
      · simp only [List.map_cons, List.mem_cons]
        rw [ih.mem]
        constructor
        · rintro (h | h | h) <;> simp [h]
        · rintro ((h | h) | h) <;> simp [h]
      · rcases List.mem_cons.1 he' with h3 | h3
        · subst h3; exact .inl ⟨hne, by simp⟩
        · rcases ih.ent e' h3 with ⟨h4, h5⟩ | ⟨h4, ⟨s, h5, h6⟩ | ⟨h5, h6⟩⟩
          · exact .inl ⟨h4, by simp [h5]⟩
          · exact .inr ⟨h4, .inl ⟨s, by simp [h5], h6⟩⟩
          · refine .inr ⟨h4, .inr ⟨?_, h6⟩⟩
            rw [List.map_cons, List.mem_cons]
            rintro (h7 | h7)
            · exact hne h7.symm
            · exact h5 h7
    · have hex := pc_zero.1 hq
      rw [insG_eq hq, insG_rest (hge (by omega))]
      refine ⟨List.pairwise_cons.2 ⟨fun y hy => by rw [← hex]; exact h1 y hy, h2⟩, fun y => ?_, fun e' he' => ?_⟩
      · simp only [List.map_cons, List.mem_cons]
        rw [hex]
        constructor
        · rintro (h | h) <;> simp [h]
        · rintro ((h | h) | h) <;> simp [h]
      · rcases List.mem_cons.1 he' with h3 | h3
        · subst h3
          exact .inr ⟨rfl, .inl ⟨e.2, by rw [← hex]; simp, rfl⟩⟩
        · refine .inl ⟨fun e1 => ?_, by simp [h3]⟩
          have := hr e' h3
          rw [e1, hq] at this
          omega
    · rw [insG_gt hq, insG_rest (hge (by omega))]
      have hx : Lb.pc x e.1 < 0 := by have := pc_swap e.1 x; omega
      have hnin : x ∉ (e :: r).map (·.1) := by
        rw [List.map_cons, List.mem_cons]
        rintro (h7 | h7)
        · rw [← h7, pc_zero.2 rfl] at hq; omega
        · obtain ⟨e', he', h8⟩ := List.mem_map.1 h7
          have := hge (by omega) e' he'
          rw [h8, pc_zero.2 rfl] at this
          omega
      refine ⟨List.pairwise_cons.2 ⟨fun y hy => ?_, h⟩, fun y => ?_, fun e' he' => ?_⟩
      · rcases List.mem_cons.1 (show y ∈ e.1 :: r.map (·.1) from hy) with h3 | h3
        · rw [h3]; exact plt_pc.2 hx
        · obtain ⟨e', he', h8⟩ := List.mem_map.1 h3
          rw [← h8]
          exact plt_pc.2 (pc_trans hx (hr e' he'))
      · simp only [List.map_cons, List.mem_cons]
        constructor
        · rintro (h | h | h) <;> simp [h]
        · rintro ((h | h) | h) <;> simp [h]
      · rcases List.mem_cons.1 he' with h3 | h3
        · subst h3
          exact .inr ⟨rfl, .inr ⟨hnin, rfl⟩⟩
        · exact .inl ⟨fun e1 => hnin (by rw [← e1]; exact List.mem_map.2 ⟨e', h3, rfl⟩), h3⟩
theorem idx_ins {P : List (Lab × Int)} {E : List EntV} (h : Idx P E) {x : Lab} {v : Int} (hv : ∀ p ∈ P, p.1 = x → p.2 < v) : Idx (P ++ [(x, v)]) (insG x v E false) := by
  have sp := insG_spec x v E h.srt
  refine ⟨sp.srt, fun y => ?_, fun e he => ?_⟩
  · rw [sp.mem, h.mem]; simp
  · rcases sp.ent e he with ⟨h1, h2⟩ | ⟨h1, ⟨s, h2, h3⟩ | ⟨h2, h3⟩⟩
    · rw [ser_app, ser_miss (fun e1 => h1 e1.symm), List.append_nil]
      exact h.ser e h2
    · have hs : s = ser x P := h.ser _ h2
      rw [h3, ser_app, h1, ser_hit]
      rw [ins_end fun y hy => ?_]
      · rw [hs]
      · rw [hs] at hy
        unfold ser at hy
        obtain ⟨p, hp, h4⟩ := List.mem_map.1 hy
        rw [List.mem_filter] at hp
        rw [← h4]
        exact hv p hp.1 (by simpa using hp.2)
    · rw [h3, ser_app, h1, ser_hit, ser_none (fun hp => h2 ((h.mem x).2 hp))]
      rfl
theorem prs_val : ∀ (M : List (List Lab)) (k : Nat) (p : Lab × Int), p ∈ prs M k → (k : Int) ≤ p.2 ∧ p.2 < (k : Int) + M.length
  | [], _, p, h => by simp [prs] at h
  | m :: M, k, p, h => by
    rw [prs, List.mem_append] at h
    rcases h with h | h
    · obtain ⟨x, _, rfl⟩ := List.mem_map.1 h
      simp only [List.length_cons]
      omega
    · have := prs_val M (k + 1) p h
      simp only [List.length_cons]
      omega
theorem idx_len {P : List (Lab × Int)} {E : List EntV} (h : Idx P E) : E.length ≤ P.length ∧ ∀ e ∈ E, e.2.length ≤ P.length := by
  refine ⟨?_, fun e he => by rw [h.ser e he]; exact ser_len _ _⟩
  have hnd : (E.map (·.1)).Nodup := by
    have := h.srt
    unfold Lb.PSrt at this
    refine this.imp fun hxy e => ?_
    rw [e, Lb.plt_irrefl] at hxy
    cases hxy
  have := nodup_len _ _ hnd (fun x hx => (h.mem x).1 hx)
  simpa using this
end Ps
set_option maxRecDepth 100000 in
set_option maxHeartbeats 4000000 in
theorem refBuild15_any (A : Option Addr) (n c : Nat) (M : List (List Lab)) (w : World) (hv : RdLL w w.heap.size A n c M) (hs : Ps.Sets M) :
    Calls Try.prog 34 #[.slice A n c] w fun r w' => ∃ A2 n2 c2 E, r = .returned (.slice A2 n2 c2) ∧ Ps.Idx (Ps.prs M 0) E ∧ OwnEn 109 w' w.heap.size A2 n2 c2 E ∧ Below w.heap.size w w' := by
  have hcc := hv.cap
  have hlc := hcc.1
  have hcm := hcc.2
  unfold maxLen at hcm
  have V := Kept.mk hv
  have hn := Kept.mk hv.len
  have S := Kept.mk hs
  clear hv hs hcc
  go_enter Try.func34, Try.ntmps34
  go_wp2
  go_loopw [3, 4] (fun o i wr => ∃ k : Nat, k ≤ n ∧ i = .int .i64 k ∧ ∃ (A2 : Option Addr) (n2 c2 : Nat) (E : List EntV), o = .slice A2 n2 c2 ∧ Kept (Ps.Idx (Ps.prs (M.take k) 0) E) ∧ OwnEn 109 wr w.heap.size A2 n2 c2 E ∧ Below w.heap.size w wr) (fun _ i _ => n - (intOf i).toNat)
  case atStart => exact ⟨0, by omega, rfl, none, 0, 0, [], rfl, ⟨by simpa [Ps.prs] using (⟨by simp [Lb.PSrt], by simp, by simp⟩ : Ps.Idx [] [])⟩, OwnEn.nil _ _, Below.refl _ _⟩
  case round =>
    obtain ⟨k, hk, rfl, A2, n2, c2, E, rfl, hE, ho, hb⟩ := hrel
    have O := Kept.mk ho
    have HB := Kept.mk hb
    have hzr := hb.size
    clear ho
    by_cases hlt : k < n
    · have hkl : k < M.length := by rw [← hn.out]; exact hlt
      obtain ⟨b, off, A', n', c', rfl, hbB, hc0, hrl⟩ := V.out.at_ hkl
      have HC : Kept (∀ W, Below w.heap.size w W → W.cell? ⟨b, off + k, none⟩ = some (.slice A' n' c')) := ⟨fun W hW => (hW.cell (p := ⟨b, off + k, none⟩) (by show b < _; omega)).trans hc0⟩
      have hpt := Kept.mk (Ps.prs_take M hkl)
      have HP : Kept (∀ j, (Ps.prs (M.take k) 0 ++ (M[k].take j).map (fun x => (x, (k : Int)))).length ≤ 300) := ⟨fun j => by
        have h1 := Ps.prs_len (M.take (k + 1)) 0
        have h2 := Ps.wt_take M (k + 1)
        have h3 := S.out.2
        rw [hpt.out] at h1
        simp only [List.length_append, List.length_map, List.length_take] at h1 ⊢
        omega⟩
      have hsrt := Kept.mk (S.out.1 _ (List.getElem_mem hkl)).1
      have HRL := Kept.mk (fun W (h : Below w.heap.size w W) => (hrl.below h : RdL W w.heap.size A' n' c' M[k]))
      have HLN := Kept.mk hrl.len
      have hcl := hrl.1
      have hcl2 := hrl.2.1
      unfold maxLen at hcl2
      have hPV : Kept (∀ p ∈ Ps.prs (M.take k) 0, p.2 < (k : Int)) := ⟨fun p hp => by
        have := Ps.prs_val (M.take k) 0 p hp
        rw [List.length_take] at this
        omega⟩
      have hE0 : Kept (Ps.Idx (Ps.prs (M.take k) 0 ++ (M[k].take 0).map (fun x => (x, (k : Int)))) E) := ⟨by simpa using hE.out⟩
      have c0 := HC.out wr hb
      clear hc0 hrl hE hb
      go_wp2
      generalize M[k] = m at *
      clear c0
      go_loopw [3, 5] (fun o i wq => ∃ j : Nat, j ≤ n' ∧ i = .int .i64 j ∧ ∃ (A2 : Option Addr) (n2 c2 : Nat) (E : List EntV), o = .slice A2 n2 c2 ∧ Kept (Ps.Idx (Ps.prs (M.take k) 0 ++ (m.take j).map (fun x => (x, (k : Int)))) E) ∧ OwnEn 109 wq w.heap.size A2 n2 c2 E ∧ Below w.heap.size w wq) (fun _ i _ => n' - (intOf i).toNat)
      case atStart => exact ⟨0, by omega, rfl, A2, n2, c2, E, rfl, hE0, O.out, HB.out⟩
      case round =>
        clear O HB hE0 hzr
        obtain ⟨j, hj, rfl, A2, n2, c2, E, rfl, hE, ho, hb⟩ := hrel
        have O := Kept.mk ho
        have HB := Kept.mk hb
        have c0 := HC.out wr hb
        by_cases hlt2 : j < n'
        · have hjl : j < m.length := by rw [← HLN.out]; exact hlt2
          obtain ⟨b2, off2, rfl, hc2⟩ := (HRL.out wr hb).cells hb.size hjl
          obtain ⟨d0, d1⟩ := hc2 wr (Below.refl _ _)
          have ht : Kept (m.take (j + 1) = m.take j ++ [m[j]]) := ⟨List.take_succ_eq_append_getElem hjl⟩
          have hnx : Kept (∀ p ∈ Ps.prs (M.take k) 0 ++ (m.take j).map (fun x => (x, (k : Int))), p.1 = m[j] → p.2 < (k : Int)) := ⟨fun p hp e => by
            rcases List.mem_append.1 hp with h | h
            · exact hPV.out p h
            · exfalso
              obtain ⟨x, hx, rfl⟩ := List.mem_map.1 h
              obtain ⟨i, hi, h1⟩ := List.mem_take_iff_getElem.1 hx
              have h2 := (List.pairwise_iff_getElem.1 (show m.Pairwise _ from hsrt.out)) i j (by omega) hjl (by omega)
              have h3 : x = m[j] := e
              rw [h1, h3, St.irrefl] at h2
              cases h2⟩
          have IX := Kept.mk (Ps.idx_ins hE.out (x := m[j]) (v := (k : Int)) hnx.out)
          have hln := (Ps.idx_len hE.out)
          have hPl := HP.out j
          have hnE := ho.len
          have IN := Kept.mk (insert15_any A2 n2 c2 E m[j] (k : Int) wr ho.rd (by omega) (fun e he => by have := hln.2 e he; omega))
          unfold lbv at IN
          clear hc2 ho hb hE hln hPl hnE hnx
          generalize m[j] = x at *
          go_wp2_with (go_at_call 73; refine IN.out.mono ?_; rintro r w5 ⟨A5, n5, c5, rfl, ho, hb⟩; have O5 := Kept.mk ho; have B5 := Kept.mk hb; clear ho hb IN)
          go_roundw
          case rel => exact ⟨j + 1, by omega, by go_num, A5, n5, c5, _, rfl, ⟨by rw [ht.out, List.map_append, ← List.append_assoc]; exact IX.out⟩, O5.out.rebase HB.out.size, HB.out.trans (B5.out.mono HB.out.size)⟩
          case measure => simp [intOf]; omega
        · obtain rfl : j = n' := by omega
          have hE2 : Kept (Ps.Idx (Ps.prs (M.take (k + 1)) 0) E) := ⟨by
            have := hE.out
            rw [show m.take j = m from List.take_of_length_le (by rw [HLN.out]; exact Nat.le_refl _), ← hpt.out] at this
            exact this⟩
          clear hE ho hb
          go_wp2
          go_roundw
          case rel => exact ⟨k + 1, by omega, by go_num, A2, n2, c2, E, rfl, hE2, O.out, HB.out⟩
          case measure => simp [intOf]; omega
    · obtain rfl : k = n := by omega
      have hall : M.take k = M := List.take_of_length_le (by rw [← hn.out]; exact Nat.le_refl _)
      rw [hall] at hE
      clear hall hb
      go_wp2
      go_ret
      exact ⟨A2, n2, c2, E, rfl, hE.out, O.out, HB.out⟩
end Go.Proofs.Ythhcfocmaiacoaa
