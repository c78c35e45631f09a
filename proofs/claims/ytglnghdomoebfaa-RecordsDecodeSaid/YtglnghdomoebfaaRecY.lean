/- Chapter 13: the reference's reader of records: labels. -/
import Derived.Test.YtglnghdomoebfaaRecX
import Derived.Test.YtglnghdomoebfaaRecF
namespace Go.Proofs.Ytglnghdomoebfaa
open Go.RowKit Go.Shelf

theorem Rc.lab_eq (T : List ByteArray) (l : List UInt8) (a : Nat) (e : Int) : Rc.lab T l a e = (⟨(Rc.sym T l a e).1, (Rc.sym T l (Rc.sym T l a e).2.1 (Rc.sym T l a e).2.2).1⟩, (Rc.sym T l (Rc.sym T l a e).2.1 (Rc.sym T l a e).2.2).2) := rfl
theorem RdS.past {w w' : World} {p n c : Nat} {A : Option Addr} {T : List ByteArray} (h : RdS w p A n c T) (hp : p < w.heap.size) (hg : w.grownBy w' (some p)) : RdS w' p A n c T :=
  h.grown hg (by omega) (fun g e => by have := Option.some.inj e; omega)
set_option maxRecDepth 100000 in
set_option maxHeartbeats 4000000 in
theorem refLabels_any (p a tn tc : Nat) (TA : Option Addr) (T : List ByteArray) (l : List UInt8) (e : Int) (w : World) (hT : RdS w p TA tn tc T) (h : RdrE w p l a e) (hll : l.length ≤ 1000000) :
    Calls Try.prog 55 #[.pointer (some ⟨p, 0, none⟩), .slice TA tn tc] w fun r w' => ∃ A n c L, r = .returned (.slice A n c) ∧ OwnL w' w.heap.size A n c L ∧ ((Rc.labs T l a e).2.2 = 0 → L = (Rc.labs T l a e).1) ∧ RdrE w' p l (Rc.labs T l a e).2.1 (Rc.labs T l a e).2.2 ∧ w.grownBy w' (some p) := by
  have hpl := h.lt
  have HR := Kept.mk hT
  have CN := Kept.mk (refCount_any p a l e w h)
  have hcl : (Rc.cnt l a e).1 ≤ l.length := by
    by_cases he : e = 0
    · subst he; exact Rc.cnt_le l a 0 h.at_.len.2
    · rw [Rc.cnt_bad l a he]; exact Nat.zero_le _
  have hce : (Rc.cnt l a e).2.2 ≠ 0 → (Rc.cnt l a e).1 = 0 := fun hn => by
    unfold Rc.cnt at hn ⊢
    simp only [] at hn ⊢
    split
    · rfl
    · split
      · rfl
      · rename_i h1 h2
        rw [if_neg h1, if_neg h2] at hn
        exact absurd hn h1
  obtain ⟨M, hM⟩ : ∃ M, M = Rc.labs T l a e := ⟨_, rfl⟩
  rw [← hM]
  have HM : Kept (M = Rc.lst (Rc.lab T l) (Rc.cnt l a e).1 [] (Rc.cnt l a e).2.1 (Rc.cnt l a e).2.2) := ⟨hM⟩
  generalize Rc.cnt l a e = X at *
  obtain ⟨n, a1, e1⟩ := X
  simp only [] at CN hcl HM hce
  have HM1 : Kept ((e1 = 0 → M = Rc.lst (Rc.lab T l) (n - 0) [] a1 0) ∧ (e1 ≠ 0 → M.2.2 = e1)) := ⟨fun h0 => by rw [HM.out, h0]; rfl, fun h0 => by rw [HM.out, hce h0]; rfl⟩
  clear h hT hM hce HM
  have hn6 : n ≤ 1000000 := by omega
  go_enter Try.func55, Try.ntmps55
  go_upto_region 4 with (go_at_call 54; refine CN.out.mono ?_; rintro r w1 ⟨rfl, hr, hg⟩; have D1 := Kept.mk hr; have G1 := Kept.mk hg; clear hr hg CN)
  go_loopw [5, 7] (fun o i wr => ∃ k : Nat, k ≤ n ∧ i = .int .i64 k ∧ ∃ A m c acc a2 e2, o = .slice A m c ∧ OwnL wr w.heap.size A m c acc ∧ RdrE wr p l a2 e2 ∧ Kept (m = k ∧ (e2 = 0 → M = Rc.lst (Rc.lab T l) (n - k) acc a2 0) ∧ (e2 ≠ 0 → M.2.2 = e2)) ∧ w.grownBy wr (some p)) (fun _ i _ => n - (intOf i).toNat)
  case atStart => exact ⟨0, by omega, rfl, none, 0, 0, [], a1, e1, rfl, OwnL.nil _ _, D1.out, ⟨rfl, HM1.out⟩, G1.out⟩
  case round =>
    clear D1 G1
    obtain ⟨k, hk, rfl, A, m, c, acc, a2, e2, rfl, ho, hd, hm, hg⟩ := hrel
    have hz := hg.size
    have hm1 := hm.out.1
    have z2 := hd.err
    by_cases he2 : e2 = 0
    · subst he2
      have hok0 := hm.out.2.1 rfl
      by_cases hlt : k < n
      · have hm6 : m ≤ 1000000 := by omega
        have HM1 := Kept.mk hm1
        have O := Kept.mk ho
        have G := Kept.mk hg
        have RW := Kept.mk (HR.out.past hpl hg)
        have S1 := Kept.mk (refSymbol_any p a2 tn tc TA T l 0 wr RW.out hd)
        have hbad := Kept.mk (fun h => hok0.trans (Rc.lst_bad (Rc.lab T l) (n - k) acc a2 0 (by omega) h))
        have hok := Kept.mk (fun h => hok0.trans (Rc.lst_ok (Rc.lab T l) (n - k) acc a2 0 (by omega) h))
        rw [Rc.lab_eq] at hbad hok
        generalize Rc.sym T l a2 0 = Y at *
        obtain ⟨x, a3, e3⟩ := Y
        have S2 := Kept.mk (fun w2 (r : RdS w2 p TA tn tc T) (d : RdrE w2 p l a3 e3) => refSymbol_any p a3 tn tc TA T l e3 w2 r d)
        simp only [] at S1 S2 hbad hok
        generalize Rc.sym T l a3 e3 = Z at *
        obtain ⟨y, a4, e4⟩ := Z
        simp only [] at S1 S2 hbad hok
        have NX : Kept ((e4 = 0 → M = Rc.lst (Rc.lab T l) (n - (k + 1)) (acc ++ [⟨x, y⟩]) a4 0) ∧ (e4 ≠ 0 → M.2.2 = e4)) := ⟨fun h0 => by rw [hok.out h0, Nat.sub_sub], fun h0 => by rw [hbad.out h0]⟩
        have hpz : p < wr.heap.size := by omega
        clear ho hd hg hbad hok hok0 hm hm1
        go_wp2_with (first
          | (go_at_call 80; refine (S2.out w2 (RW.out.past (by omega) G2.out) D2.out).mono ?_; rintro r w3 ⟨rfl, hr, hg⟩; have g3 := G2.out.trans hg; have G3 := Kept.mk (G.out.trans g3); have O3 := Kept.mk (OwnL.past O.out g3 hpl); have D3 := Kept.mk hr; clear hr hg g3 D2 G2)
          | (go_at_call 80; refine S1.out.mono ?_; rintro r w2 ⟨rfl, hr, hg⟩; have D2 := Kept.mk hr; have G2 := Kept.mk hg; clear hr hg S1)
          | (at_builtin; refine wpList_appL rfl (.tmp 26) (.tmp 32) rfl w.heap.size A m c acc rfl (World.ownsRow.alloc O3.out _) (w3.heap.size + 1) _ _ _ [⟨x, y⟩] rfl (RdL.one w3 ⟨x, y⟩) (by omega) (by have := G3.out.size; simp; omega) ?_; intro A4 c4 w4 hown4 hgrow4 hat4; have O4 := Kept.mk hown4; have B4 : Kept (Below w.heap.size w3 w4) := ⟨((Below.refl w.heap.size w3).alloc G3.out.size _).grown hgrow4 (by have := G3.out.size; simp; omega) (fun g e => (own_lt O3.out g e).1)⟩; have D4 := Kept.mk (D3.out.below B4.out hpl); have G4 := Kept.mk (grown_then G3.out B4.out); clear hown4 hgrow4 hat4))
        go_roundw
        case rel => exact ⟨k + 1, by omega, by go_num, A4, _, c4, _, a4, e4, rfl, O4.out, D4.out, ⟨by rw [HM1.out], NX.out⟩, G4.out⟩
        case measure => simp [intOf]; omega
      · have hM2 : Kept (M = (acc, a2, 0)) := ⟨by rw [hok0, show n - k = 0 by omega, Rc.lst_zero]⟩
        have O := Kept.mk ho
        have D := Kept.mk hd
        have G := Kept.mk hg
        clear ho hd hg hm hok0 hm1
        go_wp2
        go_ret
        refine ⟨A, m, c, acc, rfl, O.out, ?_⟩
        rw [hM2.out]
        exact ⟨fun _ => rfl, D.out, G.out⟩
    · have heb : (e2 == 0) = false := by simpa using he2
      have hM2 : Kept (M.2.2 = e2) := ⟨hm.out.2.2 he2⟩
      have HE := Kept.mk he2
      have O := Kept.mk ho
      have D := Kept.mk hd
      have G := Kept.mk hg
      clear ho hd hg hm hm1 he2
      by_cases hlt : k < n
      all_goals
        go_wp2
        go_ret
        refine ⟨A, m, c, acc, rfl, O.out, ?_⟩
        rw [hM2.out]
        exact ⟨fun h0 => absurd h0 HE.out, D.out.any HE.out _, G.out⟩
end Go.Proofs.Ytglnghdomoebfaa
