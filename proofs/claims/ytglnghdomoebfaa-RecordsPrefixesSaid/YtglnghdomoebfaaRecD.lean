/- Chapter 13: the program's reader of records: lists of labels, of lengths. (Printed by gen_recd.py.) -/
import Derived.Test.YtglnghdomoebfaaRecC
namespace Go.Proofs.Ytglnghdomoebfaa
open Go.RowKit Go.Shelf

theorem OwnL.past {w w' : World} {base n c p : Nat} {A : Option Addr} {l : List Lab} (h : OwnL w base A n c l) (hg : w.grownBy w' (some p)) (hp : p < base) : OwnL w' base A n c l :=
  own_grown h hg (by
    rcases hA : ab A with _ | g
    · exact .inl rfl
    · refine .inr fun e => ?_
      have := (own_lt h g hA).1
      have := Option.some.inj e
      omega)
theorem OwnI.past {w w' : World} {base n c p : Nat} {A : Option Addr} {l : List Int} (h : OwnI w base A n c l) (hg : w.grownBy w' (some p)) (hp : p < base) : OwnI w' base A n c l :=
  own_grown h hg (by
    rcases hA : ab A with _ | g
    · exact .inl rfl
    · refine .inr fun e => ?_
      have := (own_lt h g hA).1
      have := Option.some.inj e
      omega)
theorem OwnI.nil (w : World) (base : Nat) : OwnI w base none 0 0 [] := ⟨rfl, .inl ⟨rfl, rfl⟩⟩
def OwnN (w : World) (base : Nat) (A : Option Addr) (n c : Nat) (l : List Nat) : Prop := OwnI w base A n c (l.map Int.ofNat)
theorem OwnN.app {w : World} {base n c x : Nat} {A : Option Addr} {l : List Nat} (h : OwnI w base A n c (l.map Int.ofNat ++ [(x : Int)])) : OwnN w base A n c (l ++ [x]) := by
  unfold OwnN
  rw [List.map_append]
  exact h
theorem RdL.one (w : World) (x : Lab) : RdL (w.alloc (.cells #[.string x.n, .string x.v] 57)) (w.heap.size + 1) (some ⟨w.heap.size, 0, none⟩) 1 1 [x] := RdL.lit w [x] (0, 0) (by simp)
theorem grown_then {w w1 w' : World} {row : Option Nat} (h : w.grownBy w1 row) (b : Below w.heap.size w1 w') : w.grownBy w' row :=
  ⟨b.os.trans h.os, b.tape.trans h.tape, b.output.trans h.output, Nat.le_trans h.size b.size, fun k hk hne => (b.block k hk).trans (h.block k hk hne)⟩
set_option maxRecDepth 100000 in
set_option maxHeartbeats 4000000 in
theorem listLab_any (q p a tn tc : Nat) (TA : Option Addr) (T : List ByteArray) (l : List UInt8) (e : Int) (w : World) (hR : RR w q p TA tn tc T l) (h : Rdr w p l a e) (hll : l.length ≤ 20000000) :
    Calls Try.prog 74 #[.pointer (some ⟨q, 0, none⟩), .func (.func 75) #[.pointer (some ⟨q, 0, none⟩)] #[]] w fun r w' => ∃ A n c, r = .returned (.slice A n c) ∧ OwnL w' w.heap.size A n c (Rc.labs T l a e).1 ∧ Rdr w' p l (Rc.labs T l a e).2.1 (Rc.labs T l a e).2.2 ∧ w.grownBy w' (some p) := by
  have hpl := h.lt
  have hqp := hR.2.1
  have HR := Kept.mk hR
  have CN := Kept.mk (count_any q p a tn tc TA T l e w hR h)
  have hcl := Rc.cnt_le l a e h.len.2
  obtain ⟨M, hM⟩ : ∃ M, M = Rc.labs T l a e := ⟨_, rfl⟩
  rw [← hM]
  have HM : Kept (M = Rc.lst (Rc.lab T l) (Rc.cnt l a e).1 [] (Rc.cnt l a e).2.1 (Rc.cnt l a e).2.2) := ⟨hM⟩
  generalize Rc.cnt l a e = X at *
  obtain ⟨n, a1, e1⟩ := X
  simp only [] at CN hcl HM
  clear h hR hM
  have hn6 : n ≤ 20000000 := by omega
  go_enter Try.func74, Try.ntmps74
  go_upto_region 3 with (go_at_call 72; refine CN.out.mono ?_; rintro r w1 ⟨rfl, hr, hg⟩; have D1 := Kept.mk hr; have G1 := Kept.mk hg; clear hr hg CN)
  go_loopw [5, 9] (fun o i wr => ∃ k : Nat, k ≤ n ∧ i = .int .i64 k ∧ ∃ A m c acc a2 e2, o = .slice A m c ∧ OwnL wr w.heap.size A m c acc ∧ Rdr wr p l a2 e2 ∧ Kept (m = k ∧ M = Rc.lst (Rc.lab T l) (n - k) acc a2 e2) ∧ w.grownBy wr (some p)) (fun _ i _ => n - (intOf i).toNat)
  case atStart => exact ⟨0, by omega, rfl, none, 0, 0, [], a1, e1, rfl, OwnL.nil _ _, D1.out, ⟨rfl, HM.out⟩, G1.out⟩
  case round =>
    clear D1 G1
    obtain ⟨k, hk, rfl, A, m, c, acc, a2, e2, rfl, ho, hd, hm, hg⟩ := hrel
    have hz := hg.size
    by_cases hlt : k < n
    · have hm6 : m ≤ 20000000 := by have := hm.out.1; omega
      have O := Kept.mk ho
      have G := Kept.mk hg
      have RW := Kept.mk (HR.out.grown hg)
      have EL := Kept.mk (label_any q p a2 tn tc TA T l e2 wr RW.out hd)
      have hbad := Kept.mk (fun h => hm.out.2.trans (Rc.lst_bad (Rc.lab T l) (n - k) acc a2 e2 (by omega) h))
      have hok := Kept.mk (fun h => hm.out.2.trans (Rc.lst_ok (Rc.lab T l) (n - k) acc a2 e2 (by omega) h))
      generalize Rc.lab T l a2 e2 = Y at *
      obtain ⟨x, a3, e3⟩ := Y
      simp only [] at EL hbad hok
      clear ho hd hg
      by_cases he : e3 = 0
      · subst he
        have hok2 := Kept.mk (hok.out rfl)
        clear hok hbad
        go_wp2_with (first
          | (go_at_call 75; refine EL.out.mono ?_; rintro r w2 ⟨rfl, hr, hg⟩; have O2 := Kept.mk (OwnL.past O.out hg hpl); have OB := Kept.mk (World.ownsRow.alloc O2.out (.cells #[.string x.n, .string x.v] 57)); have DB := Kept.mk (hr.box (.cells #[.string x.n, .string x.v] 57)); have GB : Kept (w.grownBy (w2.alloc (.cells #[.string x.n, .string x.v] 57)) (some p)) := ⟨(G.out.trans hg).trans (grown_of_below ((Below.refl _ w2).alloc (Nat.le_refl _) _))⟩; obtain ⟨q0, q1, q2⟩ := (HR.out.grown GB.out).cells; have b0 := World.cell?_alloc_mark w2 #[.string x.n, .string x.v] 57 (0, 0) 0; have b1 := World.cell?_alloc_mark w2 #[.string x.n, .string x.v] 57 (0, 0) 1; generalize hWB : w2.alloc (.cells #[.string x.n, .string x.v] 57) = WB at *; clear hr hg O2 EL)
          | (go_at_call 73; refine (err_any p a3 l 0 _ (by exact DB.out)).mono ?_; rintro r w9 ⟨rfl, rfl⟩)
          | (at_builtin; refine wpList_appL rfl (.tmp 19) (.tmp 21) rfl w.heap.size A m c acc rfl (World.ownsRow.alloc OB.out _) (WB.heap.size + 1) _ _ _ [x] rfl (RdL.one WB x) (by omega) (by have := GB.out.size; simp; omega) ?_; intro A4 c4 w4 hown4 hgrow4 hat4; have O4 := Kept.mk hown4; have B4 : Kept (Below w.heap.size WB w4) := ⟨((Below.refl w.heap.size WB).alloc GB.out.size _).grown hgrow4 (by have := GB.out.size; simp; omega) (fun g e => (own_lt OB.out g e).1)⟩; have D4 := Kept.mk (DB.out.below B4.out hpl); have G4 := Kept.mk (grown_then GB.out B4.out); clear hown4 hgrow4 hat4))
        go_roundw
        case rel => exact ⟨k + 1, by omega, by go_num, A4, _, c4, _, a3, 0, rfl, O4.out, D4.out, ⟨by rw [hm.out.1], by rw [hok2.out, Nat.sub_sub]⟩, G4.out⟩
        case measure => simp [intOf]; omega
      · have hbad2 := Kept.mk (hbad.out he)
        have heb : (e3 == 0) = false := by simpa using he
        clear hbad hok
        go_wp2_with (first
          | (go_at_call 75; refine EL.out.mono ?_; rintro r w2 ⟨rfl, hr, hg⟩; have O2 := Kept.mk (OwnL.past O.out hg hpl); have OB := Kept.mk (World.ownsRow.alloc O2.out (.cells #[.string x.n, .string x.v] 57)); have DB := Kept.mk (hr.box (.cells #[.string x.n, .string x.v] 57)); have GB : Kept (w.grownBy (w2.alloc (.cells #[.string x.n, .string x.v] 57)) (some p)) := ⟨(G.out.trans hg).trans (grown_of_below ((Below.refl _ w2).alloc (Nat.le_refl _) _))⟩; obtain ⟨q0, q1, q2⟩ := (HR.out.grown GB.out).cells; have b0 := World.cell?_alloc_mark w2 #[.string x.n, .string x.v] 57 (0, 0) 0; have b1 := World.cell?_alloc_mark w2 #[.string x.n, .string x.v] 57 (0, 0) 1; generalize hWB : w2.alloc (.cells #[.string x.n, .string x.v] 57) = WB at *; clear hr hg O2 EL)
          | (go_at_call 73; refine (err_any p a3 l e3 _ (by exact DB.out)).mono ?_; rintro r w9 ⟨rfl, rfl⟩))
        go_ret
        refine ⟨none, 0, 0, rfl, ?_⟩
        rw [hbad2.out]
        exact ⟨OwnL.nil _ _, DB.out, GB.out⟩
    · have hM2 : Kept (M = (acc, a2, e2)) := ⟨by rw [hm.out.2, show n - k = 0 by omega, Rc.lst_zero]⟩
      have O := Kept.mk ho
      have D := Kept.mk hd
      have G := Kept.mk hg
      clear ho hd hg
      go_wp2
      go_ret
      refine ⟨A, m, c, rfl, ?_⟩
      rw [hM2.out]
      exact ⟨O.out, D.out, G.out⟩
set_option maxRecDepth 100000 in
set_option maxHeartbeats 4000000 in
theorem listLen_any (q p a tn tc : Nat) (TA : Option Addr) (T : List ByteArray) (l : List UInt8) (e : Int) (w : World) (hR : RR w q p TA tn tc T l) (h : Rdr w p l a e) (hll : l.length ≤ 20000000) :
    Calls Try.prog 76 #[.pointer (some ⟨q, 0, none⟩), .func (.func 77) #[.pointer (some ⟨q, 0, none⟩)] #[]] w fun r w' => ∃ A n c, r = .returned (.slice A n c) ∧ OwnN w' w.heap.size A n c (Rc.lens l a e).1 ∧ Rdr w' p l (Rc.lens l a e).2.1 (Rc.lens l a e).2.2 ∧ w.grownBy w' (some p) := by
  have hpl := h.lt
  have hqp := hR.2.1
  have HR := Kept.mk hR
  have CN := Kept.mk (count_any q p a tn tc TA T l e w hR h)
  have hcl := Rc.cnt_le l a e h.len.2
  obtain ⟨M, hM⟩ : ∃ M, M = Rc.lens l a e := ⟨_, rfl⟩
  rw [← hM]
  have HM : Kept (M = Rc.lst (Rc.len l) (Rc.cnt l a e).1 [] (Rc.cnt l a e).2.1 (Rc.cnt l a e).2.2) := ⟨hM⟩
  generalize Rc.cnt l a e = X at *
  obtain ⟨n, a1, e1⟩ := X
  simp only [] at CN hcl HM
  clear h hR hM
  have hn6 : n ≤ 20000000 := by omega
  go_enter Try.func76, Try.ntmps76
  go_upto_region 3 with (go_at_call 72; refine CN.out.mono ?_; rintro r w1 ⟨rfl, hr, hg⟩; have D1 := Kept.mk hr; have G1 := Kept.mk hg; clear hr hg CN)
  go_loopw [5, 9] (fun o i wr => ∃ k : Nat, k ≤ n ∧ i = .int .i64 k ∧ ∃ A m c acc a2 e2, o = .slice A m c ∧ OwnN wr w.heap.size A m c acc ∧ Rdr wr p l a2 e2 ∧ Kept (m = k ∧ M = Rc.lst (Rc.len l) (n - k) acc a2 e2) ∧ w.grownBy wr (some p)) (fun _ i _ => n - (intOf i).toNat)
  case atStart => exact ⟨0, by omega, rfl, none, 0, 0, [], a1, e1, rfl, OwnI.nil _ _, D1.out, ⟨rfl, HM.out⟩, G1.out⟩
  case round =>
    clear D1 G1
    obtain ⟨k, hk, rfl, A, m, c, acc, a2, e2, rfl, ho, hd, hm, hg⟩ := hrel
    have hz := hg.size
    by_cases hlt : k < n
    · have hm6 : m ≤ 20000000 := by have := hm.out.1; omega
      have O := Kept.mk ho
      have G := Kept.mk hg
      have RW := Kept.mk (HR.out.grown hg)
      have EL := Kept.mk (length_any q p a2 tn tc TA T l e2 wr RW.out hd)
      have hbad := Kept.mk (fun h => hm.out.2.trans (Rc.lst_bad (Rc.len l) (n - k) acc a2 e2 (by omega) h))
      have hok := Kept.mk (fun h => hm.out.2.trans (Rc.lst_ok (Rc.len l) (n - k) acc a2 e2 (by omega) h))
      generalize Rc.len l a2 e2 = Y at *
      obtain ⟨x, a3, e3⟩ := Y
      simp only [] at EL hbad hok
      clear ho hd hg
      by_cases he : e3 = 0
      · subst he
        have hok2 := Kept.mk (hok.out rfl)
        clear hok hbad
        go_wp2_with (first
          | (go_at_call 77; refine EL.out.mono ?_; rintro r WB ⟨v, rfl, hv, hr, hg⟩; have OB := Kept.mk (OwnI.past O.out hg hpl); have DB := Kept.mk hr; have HV := Kept.mk hv; have GB := Kept.mk (G.out.trans hg); obtain ⟨q0, q1, q2⟩ := (HR.out.grown GB.out).cells; obtain rfl : v = (x : Int) := hv rfl; clear hr hg hv HV EL)
          | (go_at_call 73; refine (err_any p a3 l 0 _ (by exact DB.out)).mono ?_; rintro r w9 ⟨rfl, rfl⟩)
          | (at_builtin; refine wpList_appI rfl (.tmp 19) (.tmp 21) rfl w.heap.size A m c (acc.map Int.ofNat) rfl (World.ownsRow.alloc OB.out _) (WB.heap.size + 1) _ _ _ [(x : Int)] rfl (RdI.one WB x) (by omega) (by have := GB.out.size; simp; omega) ?_; intro A4 c4 w4 hown4 hgrow4 hat4; have O4 := Kept.mk hown4; have B4 : Kept (Below w.heap.size WB w4) := ⟨((Below.refl w.heap.size WB).alloc GB.out.size _).grown hgrow4 (by have := GB.out.size; simp; omega) (fun g e => (own_lt OB.out g e).1)⟩; have D4 := Kept.mk (DB.out.below B4.out hpl); have G4 := Kept.mk (grown_then GB.out B4.out); clear hown4 hgrow4 hat4))
        go_roundw
        case rel => exact ⟨k + 1, by omega, by go_num, A4, _, c4, _, a3, 0, rfl, OwnN.app O4.out, D4.out, ⟨by rw [hm.out.1], by rw [hok2.out, Nat.sub_sub]⟩, G4.out⟩
        case measure => simp [intOf]; omega
      · have hbad2 := Kept.mk (hbad.out he)
        have heb : (e3 == 0) = false := by simpa using he
        clear hbad hok
        go_wp2_with (first
          | (go_at_call 77; refine EL.out.mono ?_; rintro r WB ⟨v, rfl, hv, hr, hg⟩; have OB := Kept.mk (OwnI.past O.out hg hpl); have DB := Kept.mk hr; have HV := Kept.mk hv; have GB := Kept.mk (G.out.trans hg); obtain ⟨q0, q1, q2⟩ := (HR.out.grown GB.out).cells; clear hr hg hv HV EL)
          | (go_at_call 73; refine (err_any p a3 l e3 _ (by exact DB.out)).mono ?_; rintro r w9 ⟨rfl, rfl⟩))
        go_ret
        refine ⟨none, 0, 0, rfl, ?_⟩
        rw [hbad2.out]
        exact ⟨OwnI.nil _ _, DB.out, GB.out⟩
    · have hM2 : Kept (M = (acc, a2, e2)) := ⟨by rw [hm.out.2, show n - k = 0 by omega, Rc.lst_zero]⟩
      have O := Kept.mk ho
      have D := Kept.mk hd
      have G := Kept.mk hg
      clear ho hd hg
      go_wp2
      go_ret
      refine ⟨A, m, c, rfl, ?_⟩
      rw [hM2.out]
      exact ⟨O.out, D.out, G.out⟩
end Go.Proofs.Ytglnghdomoebfaa
