/- Chapter 13: rows of records; the program's reader of records: a list of records. -/
import Derived.Test.YtglnghdomoebfaaRecE
namespace Go.Proofs.Ytglnghdomoebfaa
open Go.RowKit Go.Shelf

/-- a record, plain -/
abbrev RecV := List Lab × List Int
def hflat (hs : List (Value × Value)) : List Value := hs.flatMap fun h => [h.1, h.2]
theorem hflat_len (hs : List (Value × Value)) : (hflat hs).length = hs.length * 2 := by
  unfold hflat
  induction hs with
  | nil => rfl
  | cons x hs ih => rw [List.flatMap_cons, List.length_append, ih, List.length_cons]; simp; omega
theorem hflat_app (a b : List (Value × Value)) : hflat (a ++ b) = hflat a ++ hflat b := by simp [hflat]
theorem hflat_get (hs : List (Value × Value)) (i : Nat) (h : i < hs.length) : (hflat hs)[i * 2]? = some hs[i].1 ∧ (hflat hs)[i * 2 + 1]? = some hs[i].2 := by
  unfold hflat
  induction hs generalizing i with
  | nil => simp at h
  | cons x hs ih =>
    rw [List.flatMap_cons]
    cases i with
    | zero => exact ⟨rfl, rfl⟩
    | succ i =>
      rw [List.getElem?_append_right (by simp; omega), List.getElem?_append_right (by simp; omega)]
      have := ih i (by simpa using h)
      simp only [List.length_cons, List.length_nil, List.getElem_cons_succ]
      rw [show (i + 1) * 2 - (0 + 1 + 1) = i * 2 by omega, show (i + 1) * 2 + 1 - (0 + 1 + 1) = i * 2 + 1 by omega]
      exact this
/-- an own row of own records -/
def OwnR (w : World) (base : Nat) (A : Option Addr) (n c : Nat) (rs : List RecV) : Prop :=
  ∃ hs : List (Value × Value), w.ownsRow base 72 2 (.slice A n c) n (hflat hs) ∧ hs.length = rs.length ∧
    ∀ (i : Nat) (h : i < hs.length) (h' : i < rs.length), ∃ A1 n1 c1 A2 n2 c2, hs[i] = (.slice A1 n1 c1, .slice A2 n2 c2) ∧ OwnL w base A1 n1 c1 rs[i].1 ∧ OwnI w base A2 n2 c2 rs[i].2
/-- records, read -/
def RdR (w : World) (B : Nat) (A : Option Addr) (n c : Nat) (rs : List RecV) : Prop :=
  ∃ hs : List (Value × Value), Rd w B 2 A n c (hflat hs) ∧ hs.length = rs.length ∧
    ∀ (i : Nat) (h : i < hs.length) (h' : i < rs.length), ∃ A1 n1 c1 A2 n2 c2, hs[i] = (.slice A1 n1 c1, .slice A2 n2 c2) ∧ RdL w B A1 n1 c1 rs[i].1 ∧ RdI w B A2 n2 c2 rs[i].2
theorem OwnR.nil (w : World) (base : Nat) : OwnR w base none 0 0 [] := ⟨[], ⟨rfl, .inl ⟨rfl, rfl⟩⟩, rfl, fun i h => by simp at h⟩
theorem OwnR.rd {w : World} {base n c : Nat} {A : Option Addr} {rs : List RecV} (h : OwnR w base A n c rs) : RdR w w.heap.size A n c rs := by
  obtain ⟨hs, h1, h2, h3⟩ := h
  exact ⟨hs, Rd.of_own h1, h2, fun i a b => by obtain ⟨A1, n1, c1, A2, n2, c2, e, p, q⟩ := h3 i a b; exact ⟨A1, n1, c1, A2, n2, c2, e, p.rd, q.rd⟩⟩
theorem OwnR.len {w : World} {base n c : Nat} {A : Option Addr} {rs : List RecV} (h : OwnR w base A n c rs) : n = rs.length := by
  obtain ⟨hs, h1, h2, -⟩ := h
  have := h1.1
  rw [hflat_len] at this
  omega
theorem RdR.len {w : World} {B n c : Nat} {A : Option Addr} {rs : List RecV} (h : RdR w B A n c rs) : n = rs.length := by
  obtain ⟨hs, h1, h2, -⟩ := h
  have := h1.2.2.1
  rw [hflat_len] at this
  omega
theorem RdR.below {w w' : World} {B n c : Nat} {A : Option Addr} {rs : List RecV} (h : RdR w B A n c rs) (hb : Below B w w') : RdR w' B A n c rs := by
  obtain ⟨hs, h1, h2, h3⟩ := h
  exact ⟨hs, Rd.below h1 hb, h2, fun i a b => by obtain ⟨A1, n1, c1, A2, n2, c2, e, p, q⟩ := h3 i a b; exact ⟨A1, n1, c1, A2, n2, c2, e, p.below hb, q.below hb⟩⟩
theorem RdR.more {w : World} {B B' n c : Nat} {A : Option Addr} {rs : List RecV} (h : RdR w B A n c rs) (hB : B ≤ B') : RdR w B' A n c rs := by
  obtain ⟨hs, h1, h2, h3⟩ := h
  exact ⟨hs, Rd.more h1 hB, h2, fun i a b => by obtain ⟨A1, n1, c1, A2, n2, c2, e, p, q⟩ := h3 i a b; exact ⟨A1, n1, c1, A2, n2, c2, e, p.more hB, q.more hB⟩⟩
theorem own_past {w w' : World} {base n c sz p : Nat} {A : Option Addr} {xs : List Value} {e : TypeId} (h : w.ownsRow base e sz (.slice A n c) n xs) (hg : w.grownBy w' (some p)) (hp : p < base) : w'.ownsRow base e sz (.slice A n c) n xs :=
  own_grown h hg (by
    rcases hA : ab A with _ | g
    · exact .inl rfl
    · refine .inr fun e => ?_
      have := (own_lt h g hA).1
      have := Option.some.inj e
      omega)
theorem OwnR.past {w w' : World} {base n c p : Nat} {A : Option Addr} {rs : List RecV} (h : OwnR w base A n c rs) (hg : w.grownBy w' (some p)) (hp : p < base) : OwnR w' base A n c rs := by
  obtain ⟨hs, h1, h2, h3⟩ := h
  exact ⟨hs, own_past h1 hg hp, h2, fun i a b => by obtain ⟨A1, n1, c1, A2, n2, c2, e, p, q⟩ := h3 i a b; exact ⟨A1, n1, c1, A2, n2, c2, e, own_past p hg hp, own_past q hg hp⟩⟩
theorem OwnR.alloc {w : World} {base n c : Nat} {A : Option Addr} {rs : List RecV} (h : OwnR w base A n c rs) (o : Obj) : OwnR (w.alloc o) base A n c rs := by
  obtain ⟨hs, h1, h2, h3⟩ := h
  exact ⟨hs, World.ownsRow.alloc h1 o, h2, fun i a b => by obtain ⟨A1, n1, c1, A2, n2, c2, e, p, q⟩ := h3 i a b; exact ⟨A1, n1, c1, A2, n2, c2, e, World.ownsRow.alloc p o, World.ownsRow.alloc q o⟩⟩
theorem own_apart {w : World} {b1 b2 sz1 sz2 n1 n2 c1 c2 : Nat} {A1 A2 : Option Addr} {xs1 xs2 : List Value} {e1 e2 : TypeId} (h1 : w.ownsRow b1 e1 sz1 (.slice A1 n1 c1) n1 xs1) (h2 : w.ownsRow b2 e2 sz2 (.slice A2 n2 c2) n2 xs2) (hne : e1 ≠ e2) :
    ab A1 = none ∨ ab A1 ≠ ab A2 := by
  rcases h1.2 with ⟨hv, _⟩ | ⟨g, cap, cur, hv, _, hg, _⟩
  · injection hv with hv; rw [hv]; exact .inl rfl
  · injection hv with hv
    rcases h2.2 with ⟨hv2, _⟩ | ⟨g2, cap2, cur2, hv2, _, hg2, _⟩
    · injection hv2 with hv2
      exact .inr (by rw [hv, hv2]; simp [ab])
    · injection hv2 with hv2
      refine .inr fun e => ?_
      rw [hv, hv2] at e
      obtain rfl : g = g2 := by simpa [ab] using e
      rw [hg] at hg2
      simp only [Option.some.injEq, Obj.cells.injEq] at hg2
      exact hne hg2.2.1
theorem OwnR.push {w w4 : World} {base n c n1 c1 n2 c2 c4 : Nat} {A A1 A2 A4 : Option Addr} {rs : List RecV} {hs : List (Value × Value)} {L : List Lab} {C : List Int} {tmp : Obj}
    (h1 : w.ownsRow base 72 2 (.slice A n c) n (hflat hs)) (h2 : hs.length = rs.length)
    (h3 : ∀ (i : Nat) (h : i < hs.length) (h' : i < rs.length), ∃ A1 n1 c1 A2 n2 c2, hs[i] = (.slice A1 n1 c1, .slice A2 n2 c2) ∧ OwnL w base A1 n1 c1 rs[i].1 ∧ OwnI w base A2 n2 c2 rs[i].2)
    (hL : OwnL w base A1 n1 c1 L) (hC : OwnI w base A2 n2 c2 C)
    (hown4 : w4.ownsRow base 72 2 (.slice A4 (n + 1) c4) (n + 1) (hflat hs ++ [.slice A1 n1 c1, .slice A2 n2 c2])) (hg : (w.alloc tmp).grownBy w4 (ab A)) : OwnR w4 base A4 (n + 1) c4 (rs ++ [(L, C)]) := by
  have kL : ∀ {A' : Option Addr} {n' c' : Nat} {l' : List Lab}, OwnL w base A' n' c' l' → OwnL w4 base A' n' c' l' := fun h => own_grown (World.ownsRow.alloc h tmp) hg (own_apart h h1 (by decide))
  have kI : ∀ {A' : Option Addr} {n' c' : Nat} {l' : List Int}, OwnI w base A' n' c' l' → OwnI w4 base A' n' c' l' := fun h => own_grown (World.ownsRow.alloc h tmp) hg (own_apart h h1 (by decide))
  refine ⟨hs ++ [(.slice A1 n1 c1, .slice A2 n2 c2)], by rw [hflat_app]; exact hown4, by simp [h2], fun i h h' => ?_⟩
  by_cases hi : i < hs.length
  · obtain ⟨B1, m1, d1, B2, m2, d2, e, p, q⟩ := h3 i hi (by omega)
    rw [List.getElem_append_left hi, List.getElem_append_left (show i < rs.length by omega)]
    exact ⟨B1, m1, d1, B2, m2, d2, e, kL p, kI q⟩
  · have hie : i = hs.length := by simp at h; omega
    subst hie
    refine ⟨A1, n1, c1, A2, n2, c2, by simp, ?_, ?_⟩
    · have : (rs ++ [(L, C)])[hs.length]'h' = (L, C) := by simp [h2]
      rw [this]; exact kL hL
    · have : (rs ++ [(L, C)])[hs.length]'h' = (L, C) := by simp [h2]
      rw [this]; exact kI hC
theorem infoR : (Try.prog.info? 72).map (fun i => (i.zero, i.size, i.bytes)) = some (some (.agg #[.slice none 0 0, .slice none 0 0]), 2, 48) := by kernel_rfl
theorem Rd.rec (w : World) (h1 h2 : Value) : Rd (w.alloc (.cells #[h1, h2] 72)) (w.heap.size + 1) 2 (some ⟨w.heap.size, 0, none⟩) 1 1 [h1, h2] :=
  ⟨Nat.le_refl _, by unfold maxLen; omega, rfl, fun _ => ⟨_, 0, rfl, by omega, fun i u hu => by
    rw [Nat.zero_add]
    exact (World.cell?_alloc_mark w _ _ _ i).trans (by simpa using hu)⟩⟩
namespace Rc
def toRec (r : List Lab × List Nat) : RecV := (r.1, r.2.map Int.ofNat)
def recs (T : List ByteArray) (l : List UInt8) (a : Nat) (e : Int) : List (List Lab × List Nat) × Nat × Int := lst (rec T l) (cnt l a e).1 [] (cnt l a e).2.1 (cnt l a e).2.2
end Rc
set_option maxRecDepth 100000 in
set_option maxHeartbeats 4000000 in
theorem listRec_any (q p a tn tc : Nat) (TA : Option Addr) (T : List ByteArray) (l : List UInt8) (e : Int) (w : World) (hR : RR w q p TA tn tc T l) (h : Rdr w p l a e) (hll : l.length ≤ 20000000) :
    Calls Try.prog 51 #[.pointer (some ⟨q, 0, none⟩), .func (.func 52) #[.pointer (some ⟨q, 0, none⟩)] #[]] w fun r w' => ∃ A n c, r = .returned (.slice A n c) ∧ OwnR w' w.heap.size A n c ((Rc.recs T l a e).1.map Rc.toRec) ∧ Rdr w' p l (Rc.recs T l a e).2.1 (Rc.recs T l a e).2.2 ∧ w.grownBy w' (some p) := by
  have hpl := h.lt
  have hqp := hR.2.1
  have HR := Kept.mk hR
  have CN := Kept.mk (count_any q p a tn tc TA T l e w hR h)
  have hcl := Rc.cnt_le l a e h.len.2
  obtain ⟨i0, hi0, hz0, hz1, hz2⟩ := info_parts infoR
  obtain ⟨M, hM⟩ : ∃ M, M = Rc.recs T l a e := ⟨_, rfl⟩
  rw [← hM]
  have HM : Kept (M = Rc.lst (Rc.rec T l) (Rc.cnt l a e).1 [] (Rc.cnt l a e).2.1 (Rc.cnt l a e).2.2) := ⟨hM⟩
  generalize Rc.cnt l a e = X at *
  obtain ⟨n, a1, e1⟩ := X
  simp only [] at CN hcl HM
  clear h hR hM
  have hn6 : n ≤ 20000000 := by omega
  go_enter Try.func51, Try.ntmps51
  go_upto_region 3 with (go_at_call 72; refine CN.out.mono ?_; rintro r w1 ⟨rfl, hr, hg⟩; have D1 := Kept.mk hr; have G1 := Kept.mk hg; clear hr hg CN)
  go_loopw [5, 9] (fun o i wr => ∃ k : Nat, k ≤ n ∧ i = .int .i64 k ∧ ∃ A m c acc a2 e2, o = .slice A m c ∧ OwnR wr w.heap.size A m c (acc.map Rc.toRec) ∧ Rdr wr p l a2 e2 ∧ Kept (m = k ∧ M = Rc.lst (Rc.rec T l) (n - k) acc a2 e2) ∧ w.grownBy wr (some p)) (fun _ i _ => n - (intOf i).toNat)
  case atStart => exact ⟨0, by omega, rfl, none, 0, 0, [], a1, e1, rfl, OwnR.nil _ _, D1.out, ⟨rfl, HM.out⟩, G1.out⟩
  case round =>
    clear D1 G1
    obtain ⟨k, hk, rfl, A, m, c, acc, a2, e2, rfl, ho, hd, hm, hg⟩ := hrel
    have hz := hg.size
    by_cases hlt : k < n
    · have hm6 : m ≤ 20000000 := by have := hm.out.1; omega
      have G := Kept.mk hg
      have RW := Kept.mk (HR.out.grown hg)
      have EL := Kept.mk (record_any q p a2 tn tc TA T l e2 wr RW.out hd hll)
      have hbad := Kept.mk (fun h => hm.out.2.trans (Rc.lst_bad (Rc.rec T l) (n - k) acc a2 e2 (by omega) h))
      have hok := Kept.mk (fun h => hm.out.2.trans (Rc.lst_ok (Rc.rec T l) (n - k) acc a2 e2 (by omega) h))
      have O := Kept.mk ho
      generalize Rc.rec T l a2 e2 = Y at *
      obtain ⟨⟨L, C⟩, a3, e3⟩ := Y
      simp only [] at EL hbad hok
      clear ho hd hg
      by_cases he : e3 = 0
      · subst he
        have hok2 := Kept.mk (hok.out rfl)
        clear hok hbad
        go_upto_region 7 with (first
          | (go_at_call 52; refine EL.out.mono ?_; rintro r w2 ⟨A1, n1, c1, A2, n2, c2, rfl, hL, hN, hr, hg⟩; have O2 := Kept.mk (OwnR.past O.out hg hpl); have L2 := Kept.mk (own_rebase hL hz); have N2 := Kept.mk (own_rebase hN hz); have D2 := Kept.mk hr; have G2 := Kept.mk (G.out.trans hg); have GB : Kept (w.grownBy (w2.alloc (.cells #[.slice A1 n1 c1, .slice A2 n2 c2] 72)) (some p)) := ⟨(G.out.trans hg).trans (grown_of_below ((Below.refl _ w2).alloc (Nat.le_refl _) _))⟩; obtain ⟨q0, q1, q2⟩ := (HR.out.grown GB.out).cells; clear hr hg hL hN EL)
          | (go_at_call 73; refine (err_any p a3 l 0 _ (by exact Rdr.box D2.out _)).mono ?_; rintro r w9 ⟨rfl, rfl⟩))
        have OB := Kept.mk (O2.out.alloc (.cells #[.slice A1 n1 c1, .slice A2 n2 c2] 72))
        have LB := Kept.mk (World.ownsRow.alloc L2.out (.cells #[.slice A1 n1 c1, .slice A2 n2 c2] 72))
        have NB := Kept.mk (World.ownsRow.alloc N2.out (.cells #[.slice A1 n1 c1, .slice A2 n2 c2] 72))
        have DB := Kept.mk (Rdr.box D2.out (.cells #[.slice A1 n1 c1, .slice A2 n2 c2] 72))
        have b0 := World.cell?_alloc_mark w2 #[.slice A1 n1 c1, .slice A2 n2 c2] 72 (0, 0) 0
        have b1 := World.cell?_alloc_mark w2 #[.slice A1 n1 c1, .slice A2 n2 c2] 72 (0, 0) 1
        generalize hWB : w2.alloc (.cells #[.slice A1 n1 c1, .slice A2 n2 c2] 72) = WB at *
        obtain ⟨hs, o1, o2, o3⟩ := OB.out
        have OO := Kept.mk o1
        have OL := Kept.mk o2
        have OE := Kept.mk o3
        have zB := GB.out.size
        clear O2 L2 N2 D2 G2 hWB OB o1 o2 o3
        go_wp2_with (at_builtin; refine wpList_app _ rfl (.tmp 19) (.tmp 21) _ rfl w.heap.size 72 i0 (.agg #[.slice none 0 0, .slice none 0 0]) 2 48 Try.underlying28 hi0 hz0 hz1 hz2 rfl (by decide) A m c (hflat hs) rfl (World.ownsRow.alloc OO.out _) (WB.heap.size + 1) _ _ _ [.slice A1 n1 c1, .slice A2 n2 c2] rfl (Rd.rec WB _ _) (by intro u hu; simp at hu; rcases hu with rfl | rfl <;> rfl) (by unfold maxLen; omega) (by omega) (by simp; omega) ?_; intro A4 c4 w4 hown4 hgrow4 hat4; have P4 := Kept.mk (OwnR.push OO.out OL.out OE.out LB.out NB.out hown4 hgrow4); have B4 : Kept (Below w.heap.size WB w4) := ⟨((Below.refl w.heap.size WB).alloc zB _).grown hgrow4 (by simp; omega) (fun g e => (own_lt OO.out g e).1)⟩; have D4 := Kept.mk (DB.out.below B4.out hpl); have G4 := Kept.mk (grown_then GB.out B4.out); clear hown4 hgrow4 hat4)
        go_roundw
        case rel => exact ⟨k + 1, by omega, by go_num, A4, _, c4, acc ++ [(L, C)], a3, 0, rfl, by rw [List.map_append]; exact P4.out, D4.out, ⟨by rw [hm.out.1], by rw [hok2.out, Nat.sub_sub]⟩, G4.out⟩
        case measure => simp [intOf]; omega
      · have hbad2 := Kept.mk (hbad.out he)
        have heb : (e3 == 0) = false := by simpa using he
        clear hbad hok
        go_wp2_with (first
          | (go_at_call 52; refine EL.out.mono ?_; rintro r w2 ⟨A1, n1, c1, A2, n2, c2, rfl, hL, hN, hr, hg⟩; have O2 := Kept.mk (OwnR.past O.out hg hpl); have L2 := Kept.mk (own_rebase hL hz); have N2 := Kept.mk (own_rebase hN hz); have D2 := Kept.mk hr; have G2 := Kept.mk (G.out.trans hg); have GB : Kept (w.grownBy (w2.alloc (.cells #[.slice A1 n1 c1, .slice A2 n2 c2] 72)) (some p)) := ⟨(G.out.trans hg).trans (grown_of_below ((Below.refl _ w2).alloc (Nat.le_refl _) _))⟩; obtain ⟨q0, q1, q2⟩ := (HR.out.grown GB.out).cells; clear hr hg hL hN EL)
          | (go_at_call 73; refine (err_any p a3 l e3 _ (by exact Rdr.box D2.out _)).mono ?_; rintro r w9 ⟨rfl, rfl⟩))
        go_ret
        refine ⟨none, 0, 0, rfl, ?_⟩
        rw [hbad2.out]
        exact ⟨OwnR.nil _ _, Rdr.box D2.out _, GB.out⟩
    · have hM2 : Kept (M = (acc, a2, e2)) := ⟨by rw [hm.out.2, show n - k = 0 by omega, Rc.lst_zero]⟩
      have O := Kept.mk ho
      have D := Kept.mk hd
      have G := Kept.mk hg
      clear ho hd hg
      go_wp2
      go_ret
      refine ⟨A, m, c, rfl, ?_⟩
      rw [hM2.out]
      exact ⟨O.out, D.out, G.out⟩
end Go.Proofs.Ytglnghdomoebfaa
