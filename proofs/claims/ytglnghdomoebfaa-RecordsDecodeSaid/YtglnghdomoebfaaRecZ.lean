/- Chapter 13: the reference's Decode. (Printed by gen_recz.py.) -/
import Derived.Test.YtglnghdomoebfaaRecY
import Derived.Test.YtglnghdomoebfaaRecI
namespace Go.Proofs.Ytglnghdomoebfaa
open Go.RowKit Go.Shelf

/-- an own row of own records -/
def OwnQ (w : World) (base : Nat) (A : Option Addr) (n c : Nat) (rs : List RecV) : Prop :=
  ∃ hs : List (Value × Value), w.ownsRow base 80 2 (.slice A n c) n (hflat hs) ∧ hs.length = rs.length ∧
    ∀ (i : Nat) (h : i < hs.length) (h' : i < rs.length), ∃ A1 n1 c1 A2 n2 c2, hs[i] = (.slice A1 n1 c1, .slice A2 n2 c2) ∧ OwnL w base A1 n1 c1 rs[i].1 ∧ OwnI w base A2 n2 c2 rs[i].2
theorem OwnQ.nil (w : World) (base : Nat) : OwnQ w base none 0 0 [] := ⟨[], ⟨rfl, .inl ⟨rfl, rfl⟩⟩, rfl, fun i h => by simp at h⟩
theorem OwnQ.rd {w : World} {base n c : Nat} {A : Option Addr} {rs : List RecV} (h : OwnQ w base A n c rs) : RdR w w.heap.size A n c rs := by
  obtain ⟨hs, h1, h2, h3⟩ := h
  exact ⟨hs, Rd.of_own h1, h2, fun i a b => by obtain ⟨A1, n1, c1, A2, n2, c2, e, p, q⟩ := h3 i a b; exact ⟨A1, n1, c1, A2, n2, c2, e, p.rd, q.rd⟩⟩
theorem OwnQ.len {w : World} {base n c : Nat} {A : Option Addr} {rs : List RecV} (h : OwnQ w base A n c rs) : n = rs.length := by
  obtain ⟨hs, h1, h2, -⟩ := h
  have := h1.1
  rw [hflat_len] at this
  omega
theorem OwnQ.past {w w' : World} {base n c p : Nat} {A : Option Addr} {rs : List RecV} (h : OwnQ w base A n c rs) (hg : w.grownBy w' (some p)) (hp : p < base) : OwnQ w' base A n c rs := by
  obtain ⟨hs, h1, h2, h3⟩ := h
  exact ⟨hs, own_past h1 hg hp, h2, fun i a b => by obtain ⟨A1, n1, c1, A2, n2, c2, e, p, q⟩ := h3 i a b; exact ⟨A1, n1, c1, A2, n2, c2, e, own_past p hg hp, own_past q hg hp⟩⟩
theorem OwnQ.alloc {w : World} {base n c : Nat} {A : Option Addr} {rs : List RecV} (h : OwnQ w base A n c rs) (o : Obj) : OwnQ (w.alloc o) base A n c rs := by
  obtain ⟨hs, h1, h2, h3⟩ := h
  exact ⟨hs, World.ownsRow.alloc h1 o, h2, fun i a b => by obtain ⟨A1, n1, c1, A2, n2, c2, e, p, q⟩ := h3 i a b; exact ⟨A1, n1, c1, A2, n2, c2, e, World.ownsRow.alloc p o, World.ownsRow.alloc q o⟩⟩
theorem OwnQ.push {w w4 : World} {base n c n1 c1 n2 c2 c4 : Nat} {A A1 A2 A4 : Option Addr} {rs : List RecV} {hs : List (Value × Value)} {L : List Lab} {C : List Int} {tmp : Obj}
    (h1 : w.ownsRow base 80 2 (.slice A n c) n (hflat hs)) (h2 : hs.length = rs.length)
    (h3 : ∀ (i : Nat) (h : i < hs.length) (h' : i < rs.length), ∃ A1 n1 c1 A2 n2 c2, hs[i] = (.slice A1 n1 c1, .slice A2 n2 c2) ∧ OwnL w base A1 n1 c1 rs[i].1 ∧ OwnI w base A2 n2 c2 rs[i].2)
    (hL : OwnL w base A1 n1 c1 L) (hC : OwnI w base A2 n2 c2 C)
    (hown4 : w4.ownsRow base 80 2 (.slice A4 (n + 1) c4) (n + 1) (hflat hs ++ [.slice A1 n1 c1, .slice A2 n2 c2])) (hg : (w.alloc tmp).grownBy w4 (ab A)) : OwnQ w4 base A4 (n + 1) c4 (rs ++ [(L, C)]) := by
  have kL : ∀ {A' : Option Addr} {n' c' : Nat} {l' : List Lab}, OwnL w base A' n' c' l' → OwnL w4 base A' n' c' l' := fun h => own_grown (World.ownsRow.alloc h tmp) hg (own_apart h h1 (by decide))
  have kI : ∀ {A' : Option Addr} {n' c' : Nat} {l' : List Int}, OwnI w base A' n' c' l' → OwnI w4 base A' n' c' l' := fun h => own_grown (World.ownsRow.alloc h tmp) hg (own_apart h h1 (by decide))
  refine ⟨hs ++ [(.slice A1 n1 c1, .slice A2 n2 c2)], by rw [hflat_app]; exact hown4, by simp [h2], fun i h h' => ?_⟩
  by_cases hi : i < hs.length
  · obtain ⟨B1, m1, d1, B2, m2, d2, e, p, q⟩ := h3 i hi (by omega)
    rw [List.getElem_append_left hi, List.getElem_append_left (show i < rs.length by omega)]
    exact ⟨B1, m1, d1, B2, m2, d2, e, kL p, kI q⟩
  · have hie : i = hs.length := by simp at h; omega
    subst hie
    refine ⟨A1, n1, c1, A2, n2, c2, by simp, ?_, ?_⟩
    · have : (rs ++ [(L, C)])[hs.length]'h' = (L, C) := by simp [h2]
      rw [this]; exact kL hL
    · have : (rs ++ [(L, C)])[hs.length]'h' = (L, C) := by simp [h2]
      rw [this]; exact kI hC
theorem infoQ : (Try.prog.info? 80).map (fun i => (i.zero, i.size, i.bytes)) = some (some (.agg #[.slice none 0 0, .slice none 0 0]), 2, 48) := by kernel_rfl
theorem Rd.recQ (w : World) (h1 h2 : Value) : Rd (w.alloc (.cells #[h1, h2] 80)) (w.heap.size + 1) 2 (some ⟨w.heap.size, 0, none⟩) 1 1 [h1, h2] :=
  ⟨Nat.le_refl _, by unfold maxLen; omega, rfl, fun _ => ⟨_, 0, rfl, by omega, fun i u hu => by
    rw [Nat.zero_add]
    exact (World.cell?_alloc_mark w _ _ _ i).trans (by simpa using hu)⟩⟩
theorem Rc.rec_is (T : List ByteArray) (l : List UInt8) (a : Nat) (e : Int) : Rc.rec T l a e = (((Rc.labs T l a e).1, (Rc.lens l (Rc.labs T l a e).2.1 (Rc.labs T l a e).2.2).1), (Rc.lens l (Rc.labs T l a e).2.1 (Rc.labs T l a e).2.2).2.1, if (Rc.lens l (Rc.labs T l a e).2.1 (Rc.labs T l a e).2.2).1 = [] ∧ (Rc.lens l (Rc.labs T l a e).2.1 (Rc.labs T l a e).2.2).2.2 = 0 then 23 else (Rc.lens l (Rc.labs T l a e).2.1 (Rc.labs T l a e).2.2).2.2) := rfl
theorem Rc.cnt_zero (l : List UInt8) (a : Nat) (e : Int) : (Rc.cnt l a e).2.2 ≠ 0 → (Rc.cnt l a e).1 = 0 := fun hn => by
  unfold Rc.cnt at hn ⊢
  simp only [] at hn ⊢
  split
  · rfl
  · split
    · rfl
    · rename_i h1 h2
      rw [if_neg h1, if_neg h2] at hn
      exact absurd hn h1
theorem Rc.cnt_le2 (l : List UInt8) (a : Nat) (e : Int) : (Rc.cnt l a e).1 ≤ l.length := by
  unfold Rc.cnt
  simp only []
  split
  · exact Nat.zero_le _
  · split
    · exact Nat.zero_le _
    · omega
/-- a record of the reference while its lengths are read -/
structure Rz (wo W : World) (p : Nat) (l : List UInt8) (a : Nat) (e : Int) (G : Nat) (A1 : Option Addr) (n1 c1 : Nat) (L : List Lab) (A2 : Option Addr) (n2 c2 : Nat) (C : List Int) : Prop where
  rdr : RdrE W p l a e
  box : W.heap[G]? = some (.cells #[.slice A1 n1 c1, .slice A2 n2 c2] 80 (0, 0))
  labs : OwnL W wo.heap.size A1 n1 c1 L
  chs : OwnI W wo.heap.size A2 n2 c2 C
  grow : wo.grownBy W (some p)
section
variable {wo W W' : World} {p a G n1 c1 n2 c2 : Nat} {l : List UInt8} {e : Int} {A1 A2 : Option Addr} {L : List Lab} {C : List Int}
theorem Rz.call (h : Rz wo W p l a e G A1 n1 c1 L A2 n2 c2 C) (hp : p < wo.heap.size) (hG : wo.heap.size ≤ G) (hg : W.grownBy W' (some p)) {a' : Nat} {e' : Int} (hr : RdrE W' p l a' e') : Rz wo W' p l a' e' G A1 n1 c1 L A2 n2 c2 C :=
  ⟨hr, (hg.block G (Array.getElem?_eq_some_iff.1 h.box).1 (fun e => by have := Option.some.inj e; omega)).trans h.box, OwnL.past h.labs hg hp, OwnI.past h.chs hg hp, h.grow.trans hg⟩
theorem Rz.cells (h : Rz wo W p l a e G A1 n1 c1 L A2 n2 c2 C) : W.cell? ⟨G, 0, none⟩ = some (.slice A1 n1 c1) ∧ W.cell? ⟨G, 1, none⟩ = some (.slice A2 n2 c2) ∧ ∀ k, W.frozen? ⟨G, k, none⟩ = false :=
  ⟨cell_row W G 0 _ _ _ h.box, cell_row W G 1 _ _ _ h.box, fun k => frozen_of_row _ _ k _ _ h.box⟩
theorem own_apartT {w : World} {base n c sz g : Nat} {A : Option Addr} {xs : List Value} {t t' : TypeId} {cs : Array Value} {fr : Nat × Nat} (h : w.ownsRow base t sz (.slice A n c) n xs) (hg : w.heap[g]? = some (.cells cs t' fr)) (ht : t ≠ t') : ab A ≠ some g := by
  intro e
  rcases h.2 with ⟨hv, _⟩ | ⟨g', cap, cur, hv, _, hg', _⟩
  · injection hv with h1; rw [h1] at e; cases e
  · injection hv with h1
    rw [h1] at e
    have : g' = g := Option.some.inj e
    subst this
    rw [hg] at hg'
    injection hg' with h2
    injection h2 with _ h3
    exact ht h3.symm
theorem Rz.app {o : Obj} {A4 : Option Addr} {n4 c4 : Nat} {C4 : List Int} (h : Rz wo W p l a e G A1 n1 c1 L A2 n2 c2 C) (hp : p < wo.heap.size) (hG : wo.heap.size ≤ G) (hg : (W.alloc o).grownBy W' (ab A2)) (hown : OwnI W' wo.heap.size A4 n4 c4 C4) :
    W'.cell? ⟨G, 1, none⟩ = some (.slice A2 n2 c2) ∧ W'.frozen? ⟨G, 1, none⟩ = false ∧ (ab A4 ≠ some G → Rz wo (W'.setCell ⟨G, 1, none⟩ (.slice A4 n4 c4)) p l a e G A1 n1 c1 L A4 n4 c4 C4) := by
  have hz := h.grow.size
  have hGl : G < W.heap.size := (Array.getElem?_eq_some_iff.1 h.box).1
  have hne : ab A2 ≠ some G := own_apartT h.chs h.box (by decide)
  have hb : Below wo.heap.size W W' := ((Below.refl _ W).alloc hz o).grown hg (by simp; omega) (fun g e => (own_lt h.chs g e).1)
  have hbox : W'.heap[G]? = some (.cells #[.slice A1 n1 c1, .slice A2 n2 c2] 80 (0, 0)) := (hg.block G (by simp; omega) (Ne.symm hne)).trans ((Below.heap_alloc _ _ _ hGl).trans h.box)
  refine ⟨cell_row W' G 1 _ _ _ hbox, frozen_of_row _ _ 1 _ _ hbox, fun hA4 => ⟨(h.rdr.below hb hp).set_new (by omega), ?_, ?_, ?_, ?_⟩⟩
  · rw [heap_setCell_same W' G 1 _ _ _ hbox]; rfl
  · have h2 : OwnL W' wo.heap.size A1 n1 c1 L := own_grown (World.ownsRow.alloc h.labs o) hg (own_apart h.labs h.chs (by decide))
    exact own_set_ne h2 fun g' hg' e2 => own_apartT h2 hbox (by decide) (by rw [hg', e2])
  · exact own_set_ne hown fun g' hg' e2 => hA4 (by rw [hg', e2])
  · exact grown_new_set (grown_then h.grow hb) hG
theorem Rz.ne {o : Obj} {A4 : Option Addr} (h : Rz wo W p l a e G A1 n1 c1 L A2 n2 c2 C) (hat : ab A4 = ab A2 ∨ ab A4 = some (W.alloc o).heap.size) : ab A4 ≠ some G := by
  have hGl : G < W.heap.size := (Array.getElem?_eq_some_iff.1 h.box).1
  rcases hat with e1 | e1
  · rw [e1]; exact own_apartT h.chs h.box (by decide)
  · rw [e1]; intro e2; have := Option.some.inj e2; simp at this; omega
end
set_option maxRecDepth 100000 in
set_option maxHeartbeats 16000000 in
theorem refDecode13_any (TA A : Option Addr) (tn tc n c : Nat) (T : List ByteArray) (l : List UInt8) (w : World) (hT : RdS w w.heap.size TA tn tc T) (hv : RdB w w.heap.size A n c l) (hl : n ≤ 1000000) :
    Calls Try.prog 25 #[.slice TA tn tc, .slice A n c] w fun r w' => ∃ A2 n2 c2, r = .returned (.tuple #[.slice A2 n2 c2, .int .i64 (Rc.dec T l).2]) ∧ RdR w' w'.heap.size A2 n2 c2 (Rc.dec T l).1 ∧ Below w.heap.size w w' := by
  have hlc := hv.1
  have hcm := hv.2.1
  unfold maxLen at hcm
  have hln := hv.len
  have hll : l.length ≤ 1000000 := by omega
  obtain ⟨W1, hW1⟩ : ∃ W1, W1 = w.alloc (.cells #[.slice A n c, .int .i64 0, .int .i64 0] 92) := ⟨_, rfl⟩
  have D1 : Kept (RdrE W1 w.heap.size l 0 0) := ⟨by rw [hW1]; exact .of ⟨A, n, c, heap_alloc_new w _, Rd.alloc hv (Nat.le_refl _) _, by omega, Nat.zero_le _⟩⟩
  have T1 : Kept (RdS W1 w.heap.size TA tn tc T) := ⟨by rw [hW1]; exact Rd.alloc hT (Nat.le_refl _) _⟩
  have BW : Kept (Below w.heap.size w W1) := ⟨by rw [hW1]; exact (Below.refl _ _).alloc (Nat.le_refl _) _⟩
  have zW : w.heap.size < W1.heap.size := by rw [hW1]; simp
  have HW := Kept.mk hW1.symm
  have CN := Kept.mk (refCount_any w.heap.size 0 l 0 W1 D1.out)
  have hcl := Rc.cnt_le l 0 0 (Nat.zero_le _)
  have hce := Rc.cnt_zero l 0 0
  obtain ⟨i0, hi0, hz0, hz1, hz2'⟩ := info_parts infoQ
  obtain ⟨M, hM⟩ : ∃ M, M = Rc.dec T l := ⟨_, rfl⟩
  rw [← hM]
  obtain ⟨X, hX⟩ : ∃ X, X = Rc.recs T l 0 0 := ⟨_, rfl⟩
  have HM : Kept (M = if Wr.fin l X.2.1 X.2.2 ≠ 0 then ([], Wr.fin l X.2.1 X.2.2) else (X.1.map Rc.toRec, 0)) := ⟨by rw [hM, hX]; rfl⟩
  have HX : X = Rc.lst (Rc.rec T l) (Rc.cnt l 0 0).1 [] (Rc.cnt l 0 0).2.1 (Rc.cnt l 0 0).2.2 := hX
  generalize Rc.cnt l 0 0 = Y at *
  obtain ⟨n0, a1, e1⟩ := Y
  simp only [] at CN hcl HX hce
  have HX1 : Kept ((e1 = 0 → ∃ accN : List (List Lab × List Nat), ([] : List RecV) = accN.map Rc.toRec ∧ X = Rc.lst (Rc.rec T l) (n0 - 0) accN a1 0) ∧ (e1 ≠ 0 → X.2.2 = e1)) := ⟨fun h0 => ⟨[], rfl, by rw [HX, h0]; rfl⟩, fun h0 => by rw [HX, hce h0]; rfl⟩
  clear hv hT hM hX HX hce hW1 hln
  have hn6 : n0 ≤ 1000000 := by omega
  go_enter Try.func25, Try.ntmps25
  go_upto_region 2 with fail
  rw [HW.out]
  go_upto_region 5 with (go_at_call 54; refine CN.out.mono ?_; rintro r w1 ⟨rfl, hr, hg⟩; have D2 := Kept.mk hr; have G1 := Kept.mk hg; clear hr hg CN)
  go_loopw [8, 9] (fun o i wr => ∃ k : Nat, k ≤ n0 ∧ i = .int .i64 k ∧ ∃ A2 m c2 acc a2 e2, o = .slice A2 m c2 ∧ OwnQ wr W1.heap.size A2 m c2 acc ∧ RdrE wr w.heap.size l a2 e2 ∧ Kept (m = k ∧ (e2 = 0 → ∃ accN : List (List Lab × List Nat), acc = accN.map Rc.toRec ∧ X = Rc.lst (Rc.rec T l) (n0 - k) accN a2 0) ∧ (e2 ≠ 0 → X.2.2 = e2)) ∧ W1.grownBy wr (some w.heap.size)) (fun _ i _ => n0 - (intOf i).toNat)
  case atStart => exact ⟨0, by omega, rfl, none, 0, 0, [], a1, e1, rfl, OwnQ.nil _ _, D2.out, ⟨rfl, HX1.out⟩, G1.out⟩
  case round =>
    clear D2 G1
    obtain ⟨wo, rfl⟩ : ∃ wo : World, wo = wr := ⟨_, rfl⟩
    obtain ⟨k, hk, rfl, A2, m, c2, acc, a2, e2, rfl, ho, hd, hm, hg⟩ := hrel
    have hz := hg.size
    have hm1 := hm.out.1
    have z2 := hd.err
    by_cases he2 : e2 = 0
    · subst he2
      obtain ⟨accN, hacc, hok0⟩ := hm.out.2.1 rfl
      by_cases hlt : k < n0
      · have hm6 : m ≤ 1000000 := by omega
        have HM1 := Kept.mk hm1
        have O := Kept.mk ho
        have Gr0 := Kept.mk hg
        have hpo : w.heap.size < wo.heap.size := by omega
        have S1 := Kept.mk (refLabels_any w.heap.size a2 tn tc TA T l 0 wo (T1.out.past (by omega) hg) hd hll)
        have hbad := Kept.mk (fun h => hok0.trans (Rc.lst_bad (Rc.rec T l) (n0 - k) accN a2 0 (by omega) h))
        have hok := Kept.mk (fun h => hok0.trans (Rc.lst_ok (Rc.rec T l) (n0 - k) accN a2 0 (by omega) h))
        rw [Rc.rec_is] at hbad hok
        generalize Rc.labs T l a2 0 = Y at *
        obtain ⟨L', a3, e3⟩ := Y
        have S2 := Kept.mk (fun W (d : RdrE W w.heap.size l a3 e3) => refCount_any w.heap.size a3 l e3 W d)
        have hNl : Rc.lens l a3 e3 = Rc.lst (Rc.len l) (Rc.cnt l a3 e3).1 [] (Rc.cnt l a3 e3).2.1 (Rc.cnt l a3 e3).2.2 := rfl
        have hcz := Rc.cnt_zero l a3 e3
        have hcz2 : e3 ≠ 0 → (Rc.cnt l a3 e3).2.2 = e3 := fun h => by rw [Rc.cnt_bad l a3 h]
        have hcl2 : (Rc.cnt l a3 e3).1 ≤ 1000000 := by
          by_cases h3 : e3 = 0
          · by_cases h4 : (Rc.cnt l a3 e3).2.2 = 0
            · have := Rc.cnt_le2 l a3 e3; omega
            · rw [hcz h4]; exact Nat.zero_le _
          · rw [Rc.cnt_bad l a3 h3]; exact Nat.zero_le _
        simp only [] at S1 S2 hbad hok
        generalize Rc.lens l a3 e3 = N at *
        generalize Rc.cnt l a3 e3 = Z at *
        obtain ⟨k2, a4, e4⟩ := Z
        simp only [] at S2 hNl hcz hcz2 hcl2
        have NX : Kept (((if N.1 = [] ∧ N.2.2 = 0 then (23 : Int) else N.2.2) = 0 → X = Rc.lst (Rc.rec T l) (n0 - (k + 1)) (accN ++ [(L', N.1)]) N.2.1 0) ∧ ((if N.1 = [] ∧ N.2.2 = 0 then (23 : Int) else N.2.2) ≠ 0 → X.2.2 = if N.1 = [] ∧ N.2.2 = 0 then (23 : Int) else N.2.2)) := ⟨fun h0 => by rw [hok.out h0, Nat.sub_sub], fun h0 => by rw [hbad.out h0]⟩
        have HA := Kept.mk hacc
        clear ho hd hg hbad hok hok0 hm hm1 hacc
        go_upto_region 8 with (go_at_call 55; refine S1.out.mono ?_; rintro r w2 ⟨A1, n1, c1, L, rfl, ho, hL, hr, hg⟩; have O2 := Kept.mk ho; have HL := Kept.mk hL; have D2 := Kept.mk hr; have G2 := Kept.mk hg; clear ho hL hr hg S1)
        have hz2 := G2.out.size
        have Z0 : Kept (Rz wo (w2.alloc (.cells #[.slice A1 n1 c1, .slice none 0 0] 80)) w.heap.size l a3 e3 w2.heap.size A1 n1 c1 L none 0 0 []) :=
          ⟨⟨D2.out.box _, heap_alloc_new w2 _, World.ownsRow.alloc O2.out _, OwnI.nil _ _, G2.out.trans (grown_of_below ((Below.refl _ w2).alloc (Nat.le_refl _) _))⟩⟩
        clear O2 D2 G2
        generalize w2.alloc (.cells #[.slice A1 n1 c1, .slice none 0 0] 80) = W3 at *
        generalize w2.heap.size = G at *
        by_cases hk0 : k2 = 0
        · subst hk0
          obtain ⟨e5, he5⟩ : ∃ e5 : Int, e5 = if e4 = 0 then 23 else e4 := ⟨_, rfl⟩
          have hne5 : Kept (e5 ≠ 0) := ⟨by rw [he5]; split <;> omega⟩
          have FIN : Kept ((e5 = 0 → ∃ accM : List (List Lab × List Nat), acc ++ [(L, ([] : List Int))] = accM.map Rc.toRec ∧ X = Rc.lst (Rc.rec T l) (n0 - (k + 1)) accM a4 0) ∧ (e5 ≠ 0 → X.2.2 = e5)) := ⟨fun h0 => absurd h0 hne5.out, fun h0 => by
            have hN : N = ([], a4, e4) := by rw [hNl]; rfl
            have hF : (if N.1 = [] ∧ N.2.2 = 0 then (23 : Int) else N.2.2) = e5 := by rw [hN, he5]; simp
            have := NX.out.2 (by rw [hF]; exact h0)
            rw [this, hF]⟩
          have FE := Kept.mk (fun W (d : RdrE W w.heap.size l a4 e4) => failE_any w.heap.size a4 l e4 23 W d)
          rw [← he5] at FE
          have heb5 : (e5 == 0) = false := by simpa using hne5.out
          clear he5 hNl NX hcz hcz2
          go_upto_region 12 with (first
            | (go_at_call 56; refine (FE.out w4 Z4.out.rdr).mono ?_; rintro r w5 ⟨rfl, hr, hg⟩; have Z5 := Kept.mk (Z4.out.call hpo hz2 hg hr); clear hr hg Z4)
            | (go_at_call 54; refine (S2.out W3 Z0.out.rdr).mono ?_; rintro r w4 ⟨rfl, hr, hg⟩; have Z4 := Kept.mk (Z0.out.call hpo hz2 hg hr); clear hr hg Z0))
          go_loopw [12] (fun j wi => j = .int .i64 0 ∧ Rz wo wi w.heap.size l a4 e5 G A1 n1 c1 L none 0 0 []) (fun _ _ => 0)
          case atStart => exact ⟨rfl, Z5.out⟩
          case round =>
            obtain ⟨rfl, hzz⟩ := hrel
            obtain ⟨hs, o1, o2, o3⟩ := OwnQ.past O.out hzz.grow zW
            have ZZ := Kept.mk hzz
            obtain ⟨j0, j1, jf⟩ := hzz.cells
            clear Z5 hzz
            have LB := Kept.mk (own_rebase ZZ.out.labs hz)
            have NB2 := Kept.mk (own_rebase ZZ.out.chs hz)
            have OO := Kept.mk o1
            have OL := Kept.mk o2
            have OE := Kept.mk o3
            have zB : Kept (W1.heap.size ≤ wr.heap.size) := ⟨Nat.le_trans hz ZZ.out.grow.size⟩
            clear o1 o2 o3
            go_wp2_with (at_builtin; refine wpList_app _ rfl (.tmp 70) (.tmp 72) _ rfl W1.heap.size 80 i0 (.agg #[.slice none 0 0, .slice none 0 0]) 2 48 Try.underlying36 hi0 hz0 hz1 hz2' rfl (by decide) A2 m c2 (hflat hs) rfl (World.ownsRow.alloc OO.out _) (wr.heap.size + 1) _ _ _ [.slice A1 n1 c1, .slice none 0 0] rfl (Rd.recQ wr _ _) (by intro u hu; simp at hu; rcases hu with rfl | rfl <;> rfl) (by unfold maxLen; omega) (by omega) (by have := zB.out; simp; omega) ?_; intro A8 c8 w8 hown8 hgrow8 hat8; have P8 := Kept.mk (OwnQ.push OO.out OL.out OE.out LB.out NB2.out hown8 hgrow8); have B8 : Kept (Below W1.heap.size wr w8) := ⟨((Below.refl W1.heap.size wr).alloc zB.out _).grown hgrow8 (by have := zB.out; simp; omega) (fun g e => (own_lt OO.out g e).1)⟩; have D8 := Kept.mk (ZZ.out.rdr.below B8.out zW); have G8 := Kept.mk (grown_then (Gr0.out.trans ZZ.out.grow) B8.out); clear hown8 hgrow8 hat8)
            go_roundw
            case rel => exact ⟨k + 1, by omega, by go_num, A8, _, c8, acc ++ [(L, ([] : List Int))], a4, e5, rfl, P8.out, D8.out, ⟨by rw [HM1.out], FIN.out⟩, G8.out⟩
            case measure => simp [intOf]; omega
        · have he4 : e4 = 0 := by
            apply Classical.byContradiction; intro h; exact hk0 (hcz h)
          have he3 : e3 = 0 := by
            apply Classical.byContradiction; intro h; exact h ((hcz2 h).symm.trans he4)
          subst he4
          subst he3
          have HLL := Kept.mk (HL.out rfl)
          have NN := Kept.mk hNl
          have hk0' : (0 : Int) < (k2 : Int) := by omega
          have hkb : ((k2 : Int) == 0) = false := by simpa using hk0
          clear hcz hcz2 hNl HL
          go_upto_region 12 with (go_at_call 54; (refine (S2.out W3 Z0.out.rdr).mono ?_; rintro r w4 ⟨rfl, hr, hg⟩; have Z4 := Kept.mk (Z0.out.call hpo hz2 hg hr); clear hr hg Z0))
          go_loopw [12] (fun j wi => ∃ i : Nat, i ≤ k2 ∧ j = .int .i64 i ∧ ∃ A3 n3 c3 C a5 e5, Rz wo wi w.heap.size l a5 e5 G A1 n1 c1 L A3 n3 c3 C ∧ Kept (n3 = i ∧ (e5 = 0 → ∃ CN : List Nat, C = CN.map Int.ofNat ∧ CN.length = i ∧ N = Rc.lst (Rc.len l) (k2 - i) CN a5 0) ∧ (e5 ≠ 0 → N.2.2 = e5))) (fun j _ => k2 - (intOf j).toNat)
          case atStart => exact ⟨0, by omega, rfl, none, 0, 0, [], a4, 0, Z4.out, ⟨rfl, fun _ => ⟨[], rfl, rfl, NN.out⟩, fun h => absurd rfl h⟩⟩
          case round =>
            obtain ⟨i, hi, rfl, A3, n3, c3, C, a5, e5, hzz, hm⟩ := hrel
            have y2 := hzz.rdr.err
            have hn3 := hm.out.1
            clear Z4
            by_cases he5 : e5 = 0
            · subst he5
              obtain ⟨CN, hC, hCl, hN⟩ := hm.out.2.1 rfl
              by_cases hlt2 : i < k2
              · have U := Kept.mk (uintE_any w.heap.size a5 18446744073709551615 l 0 wr hzz.rdr)
                have hle := Wr.uint_le l a5 Rc.mx 0
                have huz := Wr.uint_zero l a5 Rc.mx 0
                have hLn : Rc.len l a5 0 = (let r := Wr.uint l a5 0 Rc.mx; if r.1 < 1 ∨ 2147483647 < r.1 then (r.1, r.2.1, if r.2.2 = 0 then 23 else r.2.2) else r) := rfl
                have hbad := Kept.mk (fun h => hN.trans (Rc.lst_bad (Rc.len l) (k2 - i) CN a5 0 (by omega) h))
                have hok := Kept.mk (fun h => hN.trans (Rc.lst_ok (Rc.len l) (k2 - i) CN a5 0 (by omega) h))
                unfold Rc.mx at hLn hle huz
                generalize Wr.uint l a5 0 18446744073709551615 = V at *
                obtain ⟨x, a6, e6⟩ := V
                simp only [] at U hle huz hLn
                have ZZ := Kept.mk hzz
                have HN3 := Kept.mk hn3
                have hn36 : n3 ≤ 1000000 := by omega
                have HCl := Kept.mk hCl
                have HC := Kept.mk hC
                clear hzz hN hm hn3 hCl hC
                by_cases hx : x < 1 ∨ 2147483647 < x
                · rw [if_pos hx] at hLn
                  obtain ⟨e7, he7⟩ : ∃ e7 : Int, e7 = if e6 = 0 then 23 else e6 := ⟨_, rfl⟩
                  have hne7 : Kept (e7 ≠ 0) := ⟨by rw [he7]; split <;> omega⟩
                  rw [hLn, ← he7] at hbad
                  have NB : Kept (N.2.2 = e7) := ⟨by rw [hbad.out hne7.out]⟩
                  have FE := Kept.mk (fun W (d : RdrE W w.heap.size l a6 e6) => failE_any w.heap.size a6 l e6 23 W d)
                  rw [← he7] at FE
                  clear hLn hbad hok he7 huz
                  rcases Nat.lt_or_ge x 1 with hx1 | hx1
                  · have hx1' : (x : Int) < 1 := by omega
                    obtain rfl : x = 0 := by omega
                    clear hx
                    go_upto_region 17 with (first
                      | (go_at_call 56; refine (FE.out w6 Z6.out.rdr).mono ?_; rintro r w7 ⟨rfl, hr, hg⟩; have Z7 := Kept.mk (Z6.out.call hpo hz2 hg hr); clear hr hg Z6)
                      | (go_at_call 57; refine U.out.mono ?_; rintro r w6 ⟨rfl, hr, hg⟩; have Z6 := Kept.mk (ZZ.out.call hpo hz2 hg hr); clear hr hg U))
                    have z7 : Kept (wo.heap.size ≤ w7.heap.size) := ⟨Z7.out.grow.size⟩
                    obtain ⟨j0, j1, jf⟩ := Z7.out.cells
                    go_wp2_with (at_builtin; refine wpList_appI rfl (.tmp 64) (.tmp 67) rfl wo.heap.size A3 n3 c3 C rfl (World.ownsRow.alloc Z7.out.chs _) (w7.heap.size + 1) _ _ _ [0] rfl (RdI.one w7 0) (by omega) (by have := z7.out; simp; omega) ?_; intro A8 c8 w8 hown8 hgrow8 hat8; obtain ⟨t1, tf, tz⟩ := Z7.out.app hpo hz2 hgrow8 hown8; have Z8 := Kept.mk (tz (Rz.ne Z7.out hat8)); clear hown8 hgrow8 hat8 tz)
                    go_roundw
                    case rel => exact ⟨i + 1, by omega, by go_num, A8, _, c8, _, a6, e7, Z8.out, ⟨by rw [HN3.out], fun h => absurd h hne7.out, fun _ => NB.out⟩⟩
                    case measure => simp [intOf]; omega
                  · have hx1' : ¬ (x : Int) < 1 := by omega
                    have hx2' : (2147483647 : Int) < (x : Int) := by omega
                    obtain ⟨v, hv⟩ : ∃ v, IntKind.i64.wrap (x : Int) = v := ⟨_, rfl⟩
                    clear hx
                    go_upto_region 17 with (first
                      | (go_at_call 56; refine (FE.out w6 Z6.out.rdr).mono ?_; rintro r w7 ⟨rfl, hr, hg⟩; have Z7 := Kept.mk (Z6.out.call hpo hz2 hg hr); clear hr hg Z6)
                      | (go_at_call 57; refine U.out.mono ?_; rintro r w6 ⟨rfl, hr, hg⟩; have Z6 := Kept.mk (ZZ.out.call hpo hz2 hg hr); clear hr hg U))
                    have z7 : Kept (wo.heap.size ≤ w7.heap.size) := ⟨Z7.out.grow.size⟩
                    obtain ⟨j0, j1, jf⟩ := Z7.out.cells
                    go_wp2_with (at_builtin; refine wpList_appI rfl (.tmp 64) (.tmp 67) rfl wo.heap.size A3 n3 c3 C rfl (World.ownsRow.alloc Z7.out.chs _) (w7.heap.size + 1) _ _ _ [v] rfl (RdI.one w7 v) (by omega) (by have := z7.out; simp; omega) ?_; intro A8 c8 w8 hown8 hgrow8 hat8; obtain ⟨t1, tf, tz⟩ := Z7.out.app hpo hz2 hgrow8 hown8; have Z8 := Kept.mk (tz (Rz.ne Z7.out hat8)); clear hown8 hgrow8 hat8 tz)
                    go_roundw
                    case rel => exact ⟨i + 1, by omega, by go_num, A8, _, c8, _, a6, e7, Z8.out, ⟨by rw [HN3.out], fun h => absurd h hne7.out, fun _ => NB.out⟩⟩
                    case measure => simp [intOf]; omega
                · rw [if_neg hx] at hLn
                  have hx1' : ¬ (x : Int) < 1 := by omega
                  have hx2' : ¬ (2147483647 : Int) < (x : Int) := by omega
                  have he6 : e6 = 0 := by
                    apply Classical.byContradiction; intro h; have := huz h; omega
                  subst he6
                  rw [hLn] at hok
                  have NB := Kept.mk (hok.out rfl)
                  clear hLn hbad hok huz hx
                  go_upto_region 17 with (go_at_call 57; refine U.out.mono ?_; rintro r w6 ⟨rfl, hr, hg⟩; have Z7 := Kept.mk (ZZ.out.call hpo hz2 hg hr); clear hr hg U)
                  have z7 : Kept (wo.heap.size ≤ w6.heap.size) := ⟨Z7.out.grow.size⟩
                  obtain ⟨j0, j1, jf⟩ := Z7.out.cells
                  go_wp2_with (at_builtin; refine wpList_appI rfl (.tmp 64) (.tmp 67) rfl wo.heap.size A3 n3 c3 C rfl (World.ownsRow.alloc Z7.out.chs _) (w6.heap.size + 1) _ _ _ [(x : Int)] rfl (RdI.one w6 (x : Int)) (by omega) (by have := z7.out; simp; omega) ?_; intro A8 c8 w8 hown8 hgrow8 hat8; obtain ⟨t1, tf, tz⟩ := Z7.out.app hpo hz2 hgrow8 hown8; have Z8 := Kept.mk (tz (Rz.ne Z7.out hat8)); clear hown8 hgrow8 hat8 tz)
                  go_roundw
                  case rel => exact ⟨i + 1, by omega, by go_num, A8, _, c8, _, a6, 0, Z8.out, ⟨by rw [HN3.out], fun _ => ⟨CN ++ [x], by rw [List.map_append, HC.out]; rfl, by simp [HCl.out], by rw [NB.out, Nat.sub_sub]⟩, fun h => absurd rfl h⟩⟩
                  case measure => simp [intOf]; omega
              · have hN2 : N = (CN, a5, 0) := by rw [hN, show k2 - i = 0 by omega, Rc.lst_zero]
                have hCN : CN ≠ [] := fun h => by rw [h] at hCl; simp at hCl; omega
                have FIN : Kept (((0 : Int) = 0 → ∃ accM : List (List Lab × List Nat), acc ++ [(L, C)] = accM.map Rc.toRec ∧ X = Rc.lst (Rc.rec T l) (n0 - (k + 1)) accM a5 0) ∧ ((0 : Int) ≠ 0 → X.2.2 = 0)) := ⟨fun _ => ⟨accN ++ [(L', CN)], by rw [List.map_append, HA.out, hC, HLL.out]; rfl, by
                    have h1 := NX.out.1 (by rw [hN2]; simp [hCN])
                    rw [hN2] at h1
                    exact h1⟩, fun h => absurd rfl h⟩
                have hn36 : n3 ≤ 1000000 := by omega
                obtain ⟨hs, o1, o2, o3⟩ := OwnQ.past O.out hzz.grow zW
                have ZZ := Kept.mk hzz
                obtain ⟨j0, j1, jf⟩ := hzz.cells
                clear hzz hN hN2 hCN hm hC hCl NX NN hn3
                have LB := Kept.mk (own_rebase ZZ.out.labs hz)
                have NB2 := Kept.mk (own_rebase ZZ.out.chs hz)
                have OO := Kept.mk o1
                have OL := Kept.mk o2
                have OE := Kept.mk o3
                have zB : Kept (W1.heap.size ≤ wr.heap.size) := ⟨Nat.le_trans hz ZZ.out.grow.size⟩
                clear o1 o2 o3
                go_wp2_with (at_builtin; refine wpList_app _ rfl (.tmp 70) (.tmp 72) _ rfl W1.heap.size 80 i0 (.agg #[.slice none 0 0, .slice none 0 0]) 2 48 Try.underlying36 hi0 hz0 hz1 hz2' rfl (by decide) A2 m c2 (hflat hs) rfl (World.ownsRow.alloc OO.out _) (wr.heap.size + 1) _ _ _ [.slice A1 n1 c1, .slice A3 n3 c3] rfl (Rd.recQ wr _ _) (by intro u hu; simp at hu; rcases hu with rfl | rfl <;> rfl) (by unfold maxLen; omega) (by omega) (by have := zB.out; simp; omega) ?_; intro A8 c8 w8 hown8 hgrow8 hat8; have P8 := Kept.mk (OwnQ.push OO.out OL.out OE.out LB.out NB2.out hown8 hgrow8); have B8 : Kept (Below W1.heap.size wr w8) := ⟨((Below.refl W1.heap.size wr).alloc zB.out _).grown hgrow8 (by have := zB.out; simp; omega) (fun g e => (own_lt OO.out g e).1)⟩; have D8 := Kept.mk (ZZ.out.rdr.below B8.out zW); have G8 := Kept.mk (grown_then (Gr0.out.trans ZZ.out.grow) B8.out); clear hown8 hgrow8 hat8)
                go_roundw
                case rel => exact ⟨k + 1, by omega, by go_num, A8, _, c8, acc ++ [(L, C)], a5, 0, rfl, P8.out, D8.out, ⟨by rw [HM1.out], FIN.out⟩, G8.out⟩
                case measure => simp [intOf]; omega
            · have heb5 : (e5 == 0) = false := by simpa using he5
              have hN2 := hm.out.2.2 he5
              have hne5 := Kept.mk he5
              have FIN : Kept ((e5 = 0 → ∃ accM : List (List Lab × List Nat), acc ++ [(L, C)] = accM.map Rc.toRec ∧ X = Rc.lst (Rc.rec T l) (n0 - (k + 1)) accM a5 0) ∧ (e5 ≠ 0 → X.2.2 = e5)) := ⟨fun h0 => absurd h0 he5, fun _ => by
                have hF : (if N.1 = [] ∧ N.2.2 = 0 then (23 : Int) else N.2.2) = e5 := by rw [if_neg (fun h => he5 (hN2.symm.trans h.2)), hN2]
                have := NX.out.2 (by rw [hF]; exact he5)
                rw [this, hF]⟩
              have hn36 : n3 ≤ 1000000 := by omega
              obtain ⟨hs, o1, o2, o3⟩ := OwnQ.past O.out hzz.grow zW
              have ZZ := Kept.mk hzz
              obtain ⟨j0, j1, jf⟩ := hzz.cells
              clear hzz hN2 hm NX NN hn3 he5
              by_cases hlt2 : i < k2
              all_goals
                have LB := Kept.mk (own_rebase ZZ.out.labs hz)
                have NB2 := Kept.mk (own_rebase ZZ.out.chs hz)
                have OO := Kept.mk o1
                have OL := Kept.mk o2
                have OE := Kept.mk o3
                have zB : Kept (W1.heap.size ≤ wr.heap.size) := ⟨Nat.le_trans hz ZZ.out.grow.size⟩
                clear o1 o2 o3
                go_wp2_with (at_builtin; refine wpList_app _ rfl (.tmp 70) (.tmp 72) _ rfl W1.heap.size 80 i0 (.agg #[.slice none 0 0, .slice none 0 0]) 2 48 Try.underlying36 hi0 hz0 hz1 hz2' rfl (by decide) A2 m c2 (hflat hs) rfl (World.ownsRow.alloc OO.out _) (wr.heap.size + 1) _ _ _ [.slice A1 n1 c1, .slice A3 n3 c3] rfl (Rd.recQ wr _ _) (by intro u hu; simp at hu; rcases hu with rfl | rfl <;> rfl) (by unfold maxLen; omega) (by omega) (by have := zB.out; simp; omega) ?_; intro A8 c8 w8 hown8 hgrow8 hat8; have P8 := Kept.mk (OwnQ.push OO.out OL.out OE.out LB.out NB2.out hown8 hgrow8); have B8 : Kept (Below W1.heap.size wr w8) := ⟨((Below.refl W1.heap.size wr).alloc zB.out _).grown hgrow8 (by have := zB.out; simp; omega) (fun g e => (own_lt OO.out g e).1)⟩; have D8 := Kept.mk (ZZ.out.rdr.below B8.out zW); have G8 := Kept.mk (grown_then (Gr0.out.trans ZZ.out.grow) B8.out); clear hown8 hgrow8 hat8)
                go_roundw
                case rel => exact ⟨k + 1, by omega, by go_num, A8, _, c8, acc ++ [(L, C)], a5, e5, rfl, P8.out, D8.out, ⟨by rw [HM1.out], FIN.out⟩, G8.out⟩
                case measure => simp [intOf]; omega
      · have hX2 : X = (accN, a2, 0) := by rw [hok0, show n0 - k = 0 by omega, Rc.lst_zero]
        have hE := Kept.mk (fun W (d : RdrE W w.heap.size l a2 0) => endE_any w.heap.size a2 l 0 W d)
        have HM2 : Kept (M = if Wr.fin l a2 0 ≠ 0 then ([], Wr.fin l a2 0) else (acc, 0)) := ⟨by rw [HM.out, hX2, hacc]⟩
        have D := Kept.mk hd
        have O := Kept.mk ho
        have BB := Kept.mk (grown_below0 BW.out hg (Nat.le_refl _) zW)
        clear hX2 hok0 hd ho hm hm1 hg hacc HX1
        by_cases hf : Wr.fin l a2 0 = 0
        · have HM3 : Kept (M = (acc, 0)) := ⟨by rw [HM2.out, if_neg (by simpa using hf)]⟩
          rw [hf] at hE
          clear hf HM2
          go_wp2_with (go_at_call 58; refine (hE.out wo D.out).mono ?_; rintro r w5 ⟨rfl, q5, rfl⟩)
          go_ret2
          refine ⟨A2, m, c2, ?_, ?_, below_drewN BB.out q5⟩
          · rw [HM3.out]; rfl
          · rw [HM3.out]; exact O.out.rd
        · have HM3 : Kept (M = ([], Wr.fin l a2 0)) := ⟨by rw [HM2.out, if_pos hf]⟩
          generalize Wr.fin l a2 0 = f at *
          have hfb : (f == 0) = false := by simpa using hf
          go_wp2_with (first
            | (go_at_call 58; refine (hE.out w5 D5.out).mono ?_; rintro r w6 ⟨rfl, q6, rfl⟩)
            | (go_at_call 58; refine (hE.out wo D.out).mono ?_; rintro r w5 ⟨rfl, q5, hq5⟩; have D5 : Kept (RdrE w5 w.heap.size l a2 0) := ⟨by rw [hq5]; exact D.out⟩; have B5 : Kept (Below w.heap.size w w5) := ⟨by rw [hq5]; exact below_drewN BB.out q5⟩; clear hq5))
          go_ret2
          refine ⟨none, 0, 0, ?_, ?_, below_drewN B5.out q6⟩
          · rw [HM3.out]; rfl
          · rw [HM3.out]; exact RdR.nil _ _
    · have heb : (e2 == 0) = false := by simpa using he2
      have hX2 := hm.out.2.2 he2
      have hF : Wr.fin l X.2.1 X.2.2 = e2 := by rw [hX2]; unfold Wr.fin; rw [if_pos he2]
      have hF2 : Wr.fin l a2 e2 = e2 := by unfold Wr.fin; rw [if_pos he2]
      have hE := Kept.mk (fun W (d : RdrE W w.heap.size l a2 e2) => endE_any w.heap.size a2 l e2 W d)
      rw [hF2] at hE
      have HM2 : Kept (M = ([], e2)) := ⟨by rw [HM.out, hF, if_pos he2]⟩
      have D := Kept.mk hd
      have BB := Kept.mk (grown_below0 BW.out hg (Nat.le_refl _) zW)
      have hne := Kept.mk he2
      clear hX2 hF hF2 hd ho hm hm1 hg he2 HX1
      by_cases hlt : k < n0
      all_goals
        go_wp2_with (first
          | (go_at_call 58; refine (hE.out w5 D5.out).mono ?_; rintro r w6 ⟨rfl, q6, rfl⟩)
          | (go_at_call 58; refine (hE.out wo D.out).mono ?_; rintro r w5 ⟨rfl, q5, hq5⟩; have D5 : Kept (RdrE w5 w.heap.size l a2 e2) := ⟨by rw [hq5]; exact D.out⟩; have B5 : Kept (Below w.heap.size w w5) := ⟨by rw [hq5]; exact below_drewN BB.out q5⟩; clear hq5))
        go_ret2
        refine ⟨none, 0, 0, ?_, ?_, below_drewN B5.out q6⟩
        · rw [HM2.out]; rfl
        · rw [HM2.out]; exact RdR.nil _ _
end Go.Proofs.Ytglnghdomoebfaa
