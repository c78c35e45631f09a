/- Chapter 15: the law's normal. -/
import Derived.Test.YthhcfocmaiacoaaPostK
import Derived.Test.YthhcfocmaiacoaaPostN
namespace Go.Proofs.Ythhcfocmaiacoaa
open Go.RowKit Go.Shelf

namespace Ps
def wt (M : List (List Lab)) : Nat := (M.map fun m => 1 + m.length).sum
/-- label sets, few enough -/
def Sets (M : List (List Lab)) : Prop := (∀ m ∈ M, Lb.Srt m ∧ Lb.Fit m) ∧ wt M ≤ 300
theorem wt_app (M : List (List Lab)) (m : List Lab) : wt (M ++ [m]) = wt M + (1 + m.length) := by simp [wt]
theorem wt_len (M : List (List Lab)) : M.length ≤ wt M := by
  unfold wt
  induction M with
  | nil => simp
  | cons m M ih => simp only [List.map_cons, List.sum_cons, List.length_cons]; omega
end Ps
set_option maxRecDepth 100000 in
set_option maxHeartbeats 4000000 in
theorem normal15_any (A : Option Addr) (n c B : Nat) (LL : List (List Lab)) (w : World) (hv : RdLL w B A n c LL) (hB : B ≤ w.heap.size) (hf : ∀ l ∈ LL, Lb.Fit l) :
    Calls Try.prog 29 #[.slice A n c] w fun r w' => ∃ A2 n2 c2 v, r = .returned (.tuple #[.slice A2 n2 c2, .int .i64 v]) ∧ (v = 0 ∨ v = 1) ∧ ∃ M, Ps.Sets M ∧ OwnLL w' w.heap.size A2 n2 c2 M ∧ Below w.heap.size w w' := by
  have hcc := hv.cap
  have hlc := hcc.1
  have hcm := hcc.2
  unfold maxLen at hcm
  have V := Kept.mk hv
  have hn := Kept.mk hv.len
  have F := Kept.mk hf
  clear hv hf hcc
  go_enter Try.func29, Try.ntmps29
  go_wp2
  go_loopw [4, 5, 12] (fun t o i wr => ∃ k s : Nat, k ≤ n ∧ i = .int .i64 k ∧ s ≤ 300 ∧ t = .int .i64 s ∧ ∃ A2 n2 c2 M, o = .slice A2 n2 c2 ∧ OwnLL wr w.heap.size A2 n2 c2 M ∧ Kept ((∀ m ∈ M, Lb.Srt m ∧ Lb.Fit m) ∧ Ps.wt M ≤ s) ∧ Below w.heap.size w wr) (fun _ _ i _ => n - (intOf i).toNat)
  case atStart => exact ⟨0, 0, by omega, rfl, by omega, rfl, none, 0, 0, [], rfl, OwnLL.nil _ _, ⟨⟨by simp, by simp [Ps.wt]⟩⟩, Below.refl _ _⟩
  case round =>
    obtain ⟨k, s, hk, rfl, hs, rfl, A2, n2, c2, M, rfl, ho, hM, hb⟩ := hrel
    have O := Kept.mk ho
    have HB := Kept.mk hb
    by_cases hlt : k < n
    · have hkl : k < LL.length := by rw [← hn.out]; exact hlt
      obtain ⟨b, off, A', n', c', rfl, hbB, hc0, hrl⟩ := V.out.at_ hkl
      have hc := (hb.cell (p := ⟨b, off + k, none⟩) (by show b < _; omega)).trans hc0
      have hrl2 : RdL wr wr.heap.size A' n' c' LL[k] := (hrl.below (hb.mono hB)).more (by have := hb.size; omega)
      have hfl : Lb.Fit LL[k] := F.out _ (List.getElem_mem hkl)
      have hlk := hrl.len
      have hcl := hrl.1
      have hcl2 := hrl.2.1
      unfold maxLen at hcl2
      have LG := Kept.mk (large11_any A' n' c' LL[k] wr hrl2 hfl)
      have NM : Kept (∀ w1, Below wr.heap.size wr w1 → n' ≤ 200 → Calls Try.prog 69 #[.slice A' n' c'] w1 fun r w' => ∃ e A2 n2 c2 out, r = .returned (.tuple #[.slice A2 n2 c2, .int .i64 e]) ∧ Lb.Norm LL[k] e out ∧ OwnL w' w1.heap.size A2 n2 c2 out ∧ Below w1.heap.size w1 w') := ⟨fun w1 h1 h2 => refNormalize_any A' n' c' LL[k] w1 ((hrl2.below h1).more h1.size) hfl (by omega)⟩
      have HFL := Kept.mk (And.intro hfl hlk)
      have hb' := Kept.mk hb
      clear ho hb hc0 hrl hrl2 hfl hlk
      generalize LL[k] = l at *
      have hz := hb'.out.size
      have hMl : M.length ≤ 300 := by
        have h1 := Ps.wt_len M
        have h2 := hM.out.2
        omega
      have hn2 : n2 = M.length := O.out.rd.len
      have hn2' : n2 ≤ 300 := by omega
      clear hMl hn2
      obtain ⟨i0, hi0, hz0, hz1, hz2'⟩ := info_parts infoLL
      by_cases hbig : 300 < s + (1 + min n' 300)
      · by_cases hmin : n' ≤ 300
        · have hm1 : ¬ ((300 : Int) < (n' : Int)) := by omega
          have hmn : min n' 300 = n' := by omega
          rw [hmn] at hbig
          go_wp2
          go_ret2
          exact ⟨none, 0, 0, 0, rfl, .inl rfl, [], ⟨by simp, by simp [Ps.wt]⟩, OwnLL.nil _ _, hb'.out⟩
        · have hmin2 : (300 : Int) < (n' : Int) := by omega
          have hbig2 : (300 : Int) < (s : Int) + 301 := by omega
          clear hbig hmin
          go_wp2
          go_ret2
          exact ⟨none, 0, 0, 0, rfl, .inl rfl, [], ⟨by simp, by simp [Ps.wt]⟩, OwnLL.nil _ _, hb'.out⟩
      · have hn3 : n' < 300 := by omega
        have hmn : min n' 300 = n' := by omega
        rw [hmn] at hbig
        have hmI : min (n' : Int) 300 = (n' : Int) := by omega
        have hnb : ¬ (300 : Int) < (s : Int) + (1 + (n' : Int)) := by omega
        clear hmn
        go_wp2_with (first
          | (go_at_call 69; (refine (NM.out w1 B1.out H2.out).mono ?_; rintro r w2 ⟨e, A3, n3, c3, out, rfl, hN, hO, hB2⟩; have NR := Kept.mk hN; have OR := Kept.mk hO; have B2 := Kept.mk hB2; clear hN hO hB2; have hB12 : Below wr.heap.size wr w2 := B1.out.trans (B2.out.mono B1.out.size); have B12 := Kept.mk hB12; have hz2 : w.heap.size ≤ w2.heap.size := Nat.le_trans hz hB12.size; obtain ⟨vs, ho1, ho2, ho3, ho4⟩ := O.out.below hB12; have OV := Kept.mk ho1; have OL := Kept.mk ho2; have OO := Kept.mk ho3; have OE := Kept.mk ho4; clear ho1 ho2 ho3 ho4 hB12; have he := Bool.eq_false_or_eq_true (e == 0); rcases he with he | he))
          | (go_at_call 42; refine LG.out.mono ?_; rintro r w1 ⟨v, rfl, hv1, hv2, hbL⟩; have B1 := Kept.mk hbL; rcases hv1 with rfl | rfl; (have H2 : Kept (n' ≤ 200) := ⟨hv2 rfl⟩); clear hbL hv2)
          | (at_builtin; refine wpList_app _ rfl (.tmp 36) (.tmp 38) _ rfl w.heap.size 69 i0 (.slice none 0 0) 1 24 Try.underlying45 hi0 hz0 hz1 hz2' rfl (by decide) A2 n2 c2 _ rfl (World.ownsRow.alloc OV.out _) (w2.heap.size + 1) _ _ _ [.slice A3 n3 c3] rfl (Rd.hdL w2 A3 n3 c3) (by intro u hu; simp at hu; subst hu; rfl) (by unfold maxLen; omega) (by omega) (by simp; omega) ?_; intro A5 c5 w5 hown5 hgrow5 hat5))
        · have he0 : e = 0 := by simpa using he
          have hN : Lb.Srt out ∧ out.Perm l := by
            rcases NR.out with ⟨h1, h2, _⟩ | ⟨_, _, h2, _⟩ | ⟨_, h1, h2, _⟩
            · omega
            · omega
            · exact ⟨h1, h2⟩
          have hb5 : Below w.heap.size w w5 := ((hb'.out.trans (B12.out.mono hz)).alloc hz2 _).grown hgrow5 (by simp; omega) (fun g hg => (own_lt OV.out g hg).1)
          have hp := OwnLL.push OV.out OL.out OO.out OE.out (own_rebase OR.out (Nat.le_trans hz B1.out.size)) hown5 hgrow5
          go_roundw
          case rel =>
            refine ⟨k + 1, s + (1 + n'), by omega, by go_num, by omega, by go_num, A5, _, c5, _, rfl, hp, ⟨fun m hm => ?_, ?_⟩, hb5⟩
            · rcases List.mem_append.1 hm with h | h
              · exact hM.out.1 m h
              · rw [List.mem_singleton.1 h]
                exact ⟨hN.1, fun x hx => HFL.out.1 x (hN.2.mem_iff.1 hx)⟩
            · rw [Ps.wt_app, hN.2.length_eq, ← HFL.out.2]
              have := hM.out.2
              omega
          case measure => simp [intOf]; omega
        · go_roundw
          case rel =>
            exact ⟨k + 1, s + (1 + n'), by omega, by go_num, by omega, by go_num, A2, _, c2, M, rfl, ⟨vs, OV.out, OL.out, OO.out, OE.out⟩, ⟨hM.out.1, by have := hM.out.2; omega⟩, hb'.out.trans (B12.out.mono hz)⟩
          case measure => simp [intOf]; omega
        · go_ret2
          exact ⟨none, 0, 0, 0, rfl, .inl rfl, [], ⟨by simp, by simp [Ps.wt]⟩, OwnLL.nil _ _, hb'.out.trans (B1.out.mono hz)⟩
    · obtain rfl : k = n := by omega
      clear ho hb
      go_wp2
      go_ret2
      exact ⟨A2, n2, c2, 1, rfl, .inr rfl, M, ⟨hM.out.1, by have := hM.out.2; omega⟩, O.out, HB.out⟩
end Go.Proofs.Ythhcfocmaiacoaa
