/- Chapter 11: the reference's Normalize. -/
import Derived.Test.YtglnghdomoebfaaLabN
import Derived.Test.YtglnghdomoebfaaLabMath2
namespace Go.Proofs.Ytglnghdomoebfaa
open Go.RowKit Go.Shelf

namespace Lb
theorem shift_len (O : List Lab) (m : Nat) (y : Lab) (h : m ≤ O.length) : (O.take m ++ y :: O.drop m).length = O.length + 1 := by
  rw [List.length_append, List.length_take, List.length_cons, List.length_drop]; omega
theorem shift_get (O : List Lab) (m : Nat) (y : Lab) (h1 : 0 < m) (h : m ≤ O.length) : (O.take m ++ y :: O.drop m)[m - 1]? = O[m - 1]? := by
  rw [List.getElem?_append_left (by rw [List.length_take]; omega), List.getElem?_take, if_pos (by omega)]
theorem shift_step (O : List Lab) (m : Nat) (y : Lab) (h1 : 0 < m) (h : m ≤ O.length) : (O.take m ++ y :: O.drop m).set m O[m - 1] = O.take (m - 1) ++ O[m - 1] :: O.drop (m - 1) := by
  have e1 : (O.take m ++ y :: O.drop m).set m O[m - 1] = O.take m ++ O[m - 1] :: O.drop m := by
    rw [List.set_append_right _ _ (by rw [List.length_take]; omega), List.length_take, show m - min m O.length = 0 by omega]; rfl
  rw [e1]
  have e2 : O.take m = O.take (m - 1) ++ [O[m - 1]] := by
    have := List.take_succ_eq_append_getElem (show m - 1 < O.length by omega)
    rwa [show m - 1 + 1 = m by omega] at this
  have e3 : O.drop (m - 1) = O[m - 1] :: O.drop m := by
    have := List.drop_eq_getElem_cons (show m - 1 < O.length by omega)
    rwa [show m - 1 + 1 = m by omega] at this
  rw [e2, e3, List.append_assoc]; rfl
theorem shift_end (O : List Lab) (p : Nat) (y x : Lab) (h : p ≤ O.length) : (O.take p ++ y :: O.drop p).set p x = O.take p ++ x :: O.drop p := by
  rw [List.set_append_right _ _ (by rw [List.length_take]; omega), List.length_take, show p - min p O.length = 0 by omega]; rfl
theorem shift_start (O : List Lab) (x : Lab) : O ++ [x] = O.take O.length ++ x :: O.drop O.length := by simp
end Lb
theorem OwnL.below_set {w : World} {base g n c : Nat} {l : List Lab} (_ : OwnL w base (some ⟨g, 0, none⟩) n c l) (k : Nat) (x : Lab) (w0 : World) (hb : Below base w0 w) (hg : base ≤ g) :
    Below base w0 ((w.setCell ⟨g, k * 2, none⟩ (.string x.n)).setCell ⟨g, k * 2 + 1, none⟩ (.string x.v)) := (hb.setCell (p := ⟨g, k * 2, none⟩) hg _).setCell (p := ⟨g, k * 2 + 1, none⟩) hg _
set_option maxRecDepth 100000 in
set_option maxHeartbeats 8000000 in
theorem refNormalize_any (A : Option Addr) (n c : Nat) (l : List Lab) (w : World) (hv : RdL w w.heap.size A n c l) (hf : Lb.Fit l) (hn4 : n ≤ 1000000) :
    Calls Try.prog 34 #[.slice A n c] w fun r w' => ∃ e A2 n2 c2 out, r = .returned (.tuple #[.slice A2 n2 c2, .int .i64 e]) ∧ Lb.Norm l e out ∧ RdL w' w'.heap.size A2 n2 c2 out ∧ Below w.heap.size w w' := by
  have hlc := hv.1
  have hcm := hv.2.1
  unfold maxLen at hcm
  have hn := Kept.mk hv.len
  have V := Kept.mk hv
  have F := Kept.mk hf
  clear hv hf
  go_enter Try.func34, Try.ntmps34
  go_wp2
  go_loopw [5] (fun i wr => ∃ k : Nat, k ≤ n ∧ i = .int .i64 k ∧ Kept (∀ j (hj : j < l.length), j < k → Lb.one l[j] = 0) ∧ Gr w wr) (fun i _ => n - (intOf i).toNat)
  case atStart => exact ⟨0, by omega, rfl, ⟨fun j _ hj => by omega⟩, Gr.refl w⟩
  case round =>
    obtain ⟨k, hk, rfl, hd, gr⟩ := hrel
    by_cases hlt : k < n
    · have hkl : k < l.length := by rw [← hn.out]; exact hlt
      obtain ⟨b, off, rfl, hc⟩ := V.out.cells (Nat.le_refl _) hkl
      obtain ⟨c0, c1⟩ := hc wr gr.below
      have G := Kept.mk gr
      obtain ⟨hf1, hf2⟩ := F.out.at hkl
      have ONE := Kept.mk (fun W => refOne_any l[k] W hf1 hf2)
      clear hc gr hf1 hf2
      by_cases h1 : Lb.one l[k] = 0
      · rw [h1] at ONE
        have hd2 : Kept (∀ j (hj : j < l.length), j < k + 1 → Lb.one l[j] = 0) := ⟨fun j hj hjk => by
          by_cases e : j = k
          · subst e; exact h1
          · exact hd.out j hj (by omega)⟩
        clear h1
        generalize l[k].n = xn at *
        generalize l[k].v = xv at *
        go_wp2_with (go_at_call 62; refine (ONE.out _).mono ?_; rintro e w2 ⟨rfl, g2⟩; have G2 := Kept.mk (G.out.trans g2); clear g2)
        go_roundw
        case rel => exact ⟨k + 1, by omega, by go_num, hd2, G2.out⟩
        case measure => simp [intOf]; omega
      · have hd2 : Kept (Lb.Norm l (Lb.one l[k]) []) := ⟨.inl (by
          have e : Lb.ones l = Lb.one l[k] := by
            have := Lb.firstE_at (fun j => Lb.one (l.getD j default)) l.length k hkl (fun j hj => by rw [Lb.getD_at (show j < l.length by omega)]; exact hd.out j (by omega) hj) (by rw [Lb.getD_at hkl]; exact h1)
            unfold Lb.ones
            rw [this, Lb.getD_at hkl]
          exact ⟨by rw [e]; exact h1, e.symm, rfl⟩)⟩
        generalize Lb.one l[k] = s at *
        generalize l[k].n = xn at *
        generalize l[k].v = xv at *
        go_wp2_with (go_at_call 62; refine (ONE.out _).mono ?_; rintro e w2 ⟨rfl, g2⟩; have G2 := Kept.mk (G.out.trans g2); clear g2)
        go_ret2
        exact ⟨s, none, 0, 0, [], rfl, hd2.out, Rd.nil _ _ 2 0 none (by unfold maxLen; omega), G2.out.below⟩
    · have hon : Kept (Lb.ones l = 0) := ⟨(Lb.ones_zero l).2 fun x hx => by
        obtain ⟨j, hj, rfl⟩ := List.mem_iff_getElem.1 hx
        exact hd.out j hj (by have := hn.out; omega)⟩
      have G := Kept.mk gr
      clear gr hd
      go_wp2
      rename World => ws
      go_loopw [4, 7] (fun o i wr => ∃ k : Nat, k ≤ n ∧ i = .int .i64 k ∧ ∃ A2 n2 c2 O, o = .slice A2 n2 c2 ∧ OwnL wr w.heap.size A2 n2 c2 O ∧ Kept (Lb.Srt O ∧ O.Perm (l.take k)) ∧ Below w.heap.size w wr) (fun _ i _ => n - (intOf i).toNat)
      case atStart => exact ⟨0, by omega, rfl, none, 0, 0, [], rfl, OwnL.nil _ _, ⟨List.Pairwise.nil, by simp⟩, G.out.below⟩
      case round =>
        clear G hk hlt
        obtain ⟨i, hi, rfl, A2, n2, c2, O, rfl, ho, hsp, hb⟩ := hrel
        by_cases hlt : i < n
        · have hil : i < l.length := by rw [← hn.out]; exact hlt
          have hlen2 := ho.len
          have hn2 : n2 ≤ 1000000 := by have h1 := hsp.out.2.length_eq; rw [List.length_take] at h1; omega
          have hrd2 := ho.rd
          have hlc2 := hrd2.1
          have hcm2 := hrd2.2.1
          unfold maxLen at hcm2
          have O2 := Kept.mk ho
          have R2 := Kept.mk hrd2
          have HL2 := Kept.mk hlen2
          have HB := Kept.mk hb
          obtain ⟨b, off, rfl, hc⟩ := V.out.cells (Nat.le_refl _) hil
          have CX := Kept.mk hc
          clear ho hrd2 hlen2 hb hc
          obtain ⟨x, hx⟩ : ∃ x, x = l[i] := ⟨_, rfl⟩
          have HX := Kept.mk hx
          rw [← hx] at CX
          clear hx
          obtain ⟨xn, xv⟩ := x
          go_wp2
          rename World => wo
          go_loopw [8] (fun p wr => ∃ q : Nat, q ≤ n2 ∧ p = .int .i64 q ∧ Kept (∀ t (ht : t < O.length), t < q → St.lt O[t].n xn = true) ∧ ∃ m, wr = wo.drewN m) (fun p _ => n2 - (intOf p).toNat)
          case atStart => exact ⟨0, by omega, rfl, ⟨fun t _ h => by omega⟩, 0, rfl⟩
          case round =>
            obtain ⟨q, hq, rfl, hlo, m, rfl⟩ := hrel
            obtain ⟨cw0, cw1⟩ := CX.out wo HB.out
            by_cases hqn : q < n2
            · have hql : q < O.length := by have := HL2.out; omega
              obtain ⟨g, rfl, hg1, hg2⟩ := O2.out.pos (by omega)
              obtain ⟨p0, p1, -, -⟩ := OwnL.at_ O2.out hql
              have hltb : Op.bytesLess O[q].n.toList xn.toList = St.lt O[q].n xn := rfl
              have heqb := St.eq_iff O[q].n xn
              by_cases hlt1 : St.lt O[q].n xn = true
              · have hlo2 : Kept (∀ t (ht : t < O.length), t < q + 1 → St.lt O[t].n xn = true) := ⟨fun t ht htq => by
                  by_cases e : t = q
                  · subst e; exact hlt1
                  · exact hlo.out t ht (by omega)⟩
                rw [hlt1] at hltb
                clear hlt1 heqb
                generalize O[q].n = pn at *
                generalize O[q].v = pv at *
                go_wp2_with fail
                go_quiet (fail)
                go_wp2
                go_roundw
                case rel => exact ⟨q + 1, by omega, by go_num, hlo2, _, rfl⟩
                case measure => simp [intOf]; omega
              · have hlt2 : St.lt O[q].n xn = false := by simpa using hlt1
                rw [hlt2] at hltb
                by_cases heq : O[q].n = xn
                · have hdup : Kept (Lb.Norm l 18 []) := ⟨.inr (.inl ⟨hon.out, Lb.dup_of hsp.out.2 hil HX.out q hql heq, rfl, rfl⟩)⟩
                  rw [decide_eq_true heq] at heqb
                  clear heq hlt1 hlt2
                  generalize O[q].n = pn at *
                  generalize O[q].v = pv at *
                  go_wp2_with fail
                  go_quiet (fail)
                  go_wp2
                  go_quiet (fail)
                  go_wp2
                  go_ret2
                  exact ⟨18, none, 0, 0, [], rfl, hdup.out, Rd.nil _ _ 2 0 none (by unfold maxLen; omega), below_drewN (below_drewN (below_drewN HB.out _) _) _⟩
                · have hup : Kept (∀ (hj : q < O.length), St.lt xn O[q].n = true) := ⟨fun hj => by
                    cases h : St.lt xn O[q].n with
                    | true => rfl
                    | false => exact absurd (St.total hlt2 h) heq⟩
                  rw [decide_eq_false heq] at heqb
                  clear heq hlt1 hlt2
                  generalize hpn : O[q].n = pn at p0 hltb heqb
                  have HPN := Kept.mk hpn
                  clear hpn
                  generalize O[q].v = pv at *
                  go_wp2_with fail
                  go_quiet (fail)
                  rename Nat => nq1
                  go_wp2
                  go_quiet (fail)
                  clear p0 p1 hltb heqb HPN cw0 cw1
                  have hz0 := HB.out.size
                  have WQ : Kept (Below w.heap.size w (((wo.drewN m).drewN nq1).drewN nq)) := ⟨below_drewN (below_drewN (below_drewN HB.out _) _) _⟩
                  have OQ : Kept (OwnL (((wo.drewN m).drewN nq1).drewN nq) w.heap.size (some ⟨g, 0, none⟩) n2 c2 O) := ⟨O2.out⟩
                  have CQ := Kept.mk (CX.out (((wo.drewN m).drewN nq1).drewN nq) WQ.out)
                  have hzq : w.heap.size ≤ (((wo.drewN m).drewN nq1).drewN nq).heap.size := WQ.out.size
                  generalize ((wo.drewN m).drewN nq1).drewN nq = wq at *
                  obtain ⟨cx0, cx1⟩ := CQ.out
                  go_upto_region 18 with (at_builtin; refine wpList_appL rfl (.tmp 66) (.tmp 71) rfl w.heap.size (some ⟨g, 0, none⟩) n2 c2 O rfl (World.ownsRow.alloc OQ.out _) (wq.heap.size + 1) _ _ _ [⟨xn, xv⟩] rfl (lit1 wq ⟨xn, xv⟩) (by omega) (by simp; omega) ?_; intro A4 c4 w4 hown4 hgrow4 hat4; have O4 := Kept.mk hown4; have B4 := Kept.mk ((WQ.out.alloc hzq (.cells #[.string xn, .string xv] 57)).grown hgrow4 (by simp; omega) (fun g e => (own_lt OQ.out g e).1)); clear hown4 hgrow4 hat4)
                  obtain ⟨g4, rfl, hg4, -⟩ := O4.out.pos (by omega)
                  have hc4 := O4.out.rd.1
                  have hc4m := O4.out.rd.2.1
                  unfold maxLen at hc4m
                  have hln2 := HL2.out
                  clear OQ WQ cx0 cx1 CQ
                  go_loopw [9] (fun j wr => ∃ t : Nat, q ≤ t ∧ t ≤ n2 ∧ j = .int .i64 t ∧ (∃ y, OwnL wr w.heap.size (some ⟨g4, 0, none⟩) (n2 + 1) c4 (O.take t ++ y :: O.drop t)) ∧ Below w.heap.size w wr) (fun j _ => (intOf j).toNat)
                  case atStart => exact ⟨n2, hq, Nat.le_refl _, by go_num, ⟨⟨xn, xv⟩, by rw [hln2, ← Lb.shift_start]; exact hln2 ▸ O4.out⟩, B4.out⟩
                  case round =>
                    clear O4 B4
                    obtain ⟨t, hqt, htn, rfl, ⟨y, ho⟩, hb⟩ := hrel
                    by_cases hgt : q < t
                    · have htl : t ≤ O.length := by omega
                      have h1 := OwnL.at_ (k := t) ho (by rw [Lb.shift_len _ _ _ htl]; omega)
                      have h2 := OwnL.at_ (k := t - 1) ho (by rw [Lb.shift_len _ _ _ htl]; omega)
                      have hge : (O.take t ++ y :: O.drop t)[t - 1]'(by rw [Lb.shift_len _ _ _ htl]; omega) = O[t - 1]'(by omega) := by
                        have := Lb.shift_get O t y (by omega) htl
                        rw [List.getElem?_eq_getElem (by rw [Lb.shift_len _ _ _ htl]; omega), List.getElem?_eq_getElem (by omega)] at this
                        exact Option.some.inj this
                      rw [hge] at h2
                      have OS := Kept.mk (OwnL.set ho t (O[t - 1]'(by omega)))
                      rw [Lb.shift_step O t y (by omega) htl] at OS
                      have BS := Kept.mk (OwnL.below_set ho t (O[t - 1]'(by omega)) w hb hg4)
                      generalize O[t - 1]'(by omega) = z at *
                      obtain ⟨zn, zv⟩ := z
                      obtain ⟨x0, x1, f0, f1⟩ := h1
                      obtain ⟨z0, z1, -, -⟩ := h2
                      generalize ((O.take t ++ y :: O.drop t)[t]'_).n = un at *
                      generalize ((O.take t ++ y :: O.drop t)[t]'_).v = uv at *
                      have y1 : ∀ v, (wr.setCell ⟨g4, t * 2, none⟩ v).cell? ⟨g4, t * 2 + 1, none⟩ = some (.string uv) := fun v => (World.cell?_setCell_other wr ⟨g4, t * 2, none⟩ ⟨g4, t * 2 + 1, none⟩ v (by simp)).trans x1
                      have ek : (t : Int) - 1 = ((t - 1 : Nat) : Int) := by omega
                      have ek2 : ((t - 1 : Nat) : Int) < ((n2 : Int) + 1) := by omega
                      have ek3 : (q : Int) < (t : Int) := by omega
                      have ek4 : (t : Int) < ((n2 : Int) + 1) := by omega
                      have ew : IntKind.i64.wrap ((t - 1 : Nat) : Int) = ((t - 1 : Nat) : Int) := by rw [IntKind.wrap_i64]; omega
                      clear ho hb
                      go_wp2
                      go_roundw
                      case rel => exact ⟨t - 1, by omega, by omega, by go_num, ⟨⟨zn, zv⟩, OS.out⟩, BS.out⟩
                      case measure => simp [intOf]; omega
                    · obtain rfl : q = t := by omega
                      have htl : q ≤ O.length := by omega
                      obtain ⟨x0, x1, f0, f1⟩ := OwnL.at_ (k := q) ho (by rw [Lb.shift_len _ _ _ htl]; omega)
                      have OS := Kept.mk (OwnL.set ho q ⟨xn, xv⟩)
                      rw [Lb.shift_end O q y ⟨xn, xv⟩ htl] at OS
                      have BS := Kept.mk (OwnL.below_set ho q ⟨xn, xv⟩ w hb hg4)
                      obtain ⟨d0, d1⟩ := CX.out wr hb
                      generalize ((O.take q ++ y :: O.drop q)[q]'_).n = un at *
                      generalize ((O.take q ++ y :: O.drop q)[q]'_).v = uv at *
                      have y1 : ∀ v, (wr.setCell ⟨g4, q * 2, none⟩ v).cell? ⟨g4, q * 2 + 1, none⟩ = some (.string uv) := fun v => (World.cell?_setCell_other wr ⟨g4, q * 2, none⟩ ⟨g4, q * 2 + 1, none⟩ v (by simp)).trans x1
                      have ek4 : (q : Int) < ((n2 : Int) + 1) := by omega
                      have hnew : Kept (Lb.Srt (O.take q ++ ⟨xn, xv⟩ :: O.drop q) ∧ (O.take q ++ ⟨xn, xv⟩ :: O.drop q).Perm (l.take (i + 1))) := ⟨Lb.srt_ins hsp.out.1 q htl hlo.out hup.out, Lb.perm_ins hsp.out.2 q hil HX.out⟩
                      clear ho hb
                      go_wp2
                      go_roundw
                      case rel => exact ⟨i + 1, by omega, by go_num, some ⟨g4, 0, none⟩, n2 + 1, c4, _, rfl, OS.out, hnew, BS.out⟩
                      case measure => simp [intOf]; omega
            · have hup : Kept (∀ (hj : q < O.length), St.lt xn O[q].n = true) := ⟨fun hj => by have := HL2.out; omega⟩
              have hqn' : ¬ (q : Int) < (n2 : Int) := by omega
              go_wp2_with fail
              go_quiet (fail)
              rename Nat => nq1
              go_wp2
              go_quiet (fail)
              clear cw0 cw1 hqn' hqn
              have hz0 := HB.out.size
              have WQ : Kept (Below w.heap.size w (((wo.drewN m).drewN nq1).drewN nq)) := ⟨below_drewN (below_drewN (below_drewN HB.out _) _) _⟩
              have OQ : Kept (OwnL (((wo.drewN m).drewN nq1).drewN nq) w.heap.size A2 n2 c2 O) := ⟨O2.out⟩
              have CQ := Kept.mk (CX.out (((wo.drewN m).drewN nq1).drewN nq) WQ.out)
              have hzq : w.heap.size ≤ (((wo.drewN m).drewN nq1).drewN nq).heap.size := WQ.out.size
              generalize ((wo.drewN m).drewN nq1).drewN nq = wq at *
              obtain ⟨cx0, cx1⟩ := CQ.out
              go_upto_region 18 with (at_builtin; refine wpList_appL rfl (.tmp 66) (.tmp 71) rfl w.heap.size A2 n2 c2 O rfl (World.ownsRow.alloc OQ.out _) (wq.heap.size + 1) _ _ _ [⟨xn, xv⟩] rfl (lit1 wq ⟨xn, xv⟩) (by omega) (by simp; omega) ?_; intro A4 c4 w4 hown4 hgrow4 hat4; have O4 := Kept.mk hown4; have B4 := Kept.mk ((WQ.out.alloc hzq (.cells #[.string xn, .string xv] 57)).grown hgrow4 (by simp; omega) (fun g e => (own_lt OQ.out g e).1)); clear hown4 hgrow4 hat4)
              obtain ⟨g4, rfl, hg4, -⟩ := O4.out.pos (by omega)
              have hc4 := O4.out.rd.1
              have hc4m := O4.out.rd.2.1
              unfold maxLen at hc4m
              have hln2 := HL2.out
              clear OQ WQ cx0 cx1 CQ
              go_loopw [9] (fun j wr => ∃ t : Nat, q ≤ t ∧ t ≤ n2 ∧ j = .int .i64 t ∧ (∃ y, OwnL wr w.heap.size (some ⟨g4, 0, none⟩) (n2 + 1) c4 (O.take t ++ y :: O.drop t)) ∧ Below w.heap.size w wr) (fun j _ => (intOf j).toNat)
              case atStart => exact ⟨n2, hq, Nat.le_refl _, by go_num, ⟨⟨xn, xv⟩, by rw [hln2, ← Lb.shift_start]; exact hln2 ▸ O4.out⟩, B4.out⟩
              case round =>
                clear O4 B4
                obtain ⟨t, hqt, htn, rfl, ⟨y, ho⟩, hb⟩ := hrel
                by_cases hgt : q < t
                · have htl : t ≤ O.length := by omega
                  have h1 := OwnL.at_ (k := t) ho (by rw [Lb.shift_len _ _ _ htl]; omega)
                  have h2 := OwnL.at_ (k := t - 1) ho (by rw [Lb.shift_len _ _ _ htl]; omega)
                  have hge : (O.take t ++ y :: O.drop t)[t - 1]'(by rw [Lb.shift_len _ _ _ htl]; omega) = O[t - 1]'(by omega) := by
                    have := Lb.shift_get O t y (by omega) htl
                    rw [List.getElem?_eq_getElem (by rw [Lb.shift_len _ _ _ htl]; omega), List.getElem?_eq_getElem (by omega)] at this
                    exact Option.some.inj this
                  rw [hge] at h2
                  have OS := Kept.mk (OwnL.set ho t (O[t - 1]'(by omega)))
                  rw [Lb.shift_step O t y (by omega) htl] at OS
                  have BS := Kept.mk (OwnL.below_set ho t (O[t - 1]'(by omega)) w hb hg4)
                  generalize O[t - 1]'(by omega) = z at *
                  obtain ⟨zn, zv⟩ := z
                  obtain ⟨x0, x1, f0, f1⟩ := h1
                  obtain ⟨z0, z1, -, -⟩ := h2
                  generalize ((O.take t ++ y :: O.drop t)[t]'_).n = un at *
                  generalize ((O.take t ++ y :: O.drop t)[t]'_).v = uv at *
                  have y1 : ∀ v, (wr.setCell ⟨g4, t * 2, none⟩ v).cell? ⟨g4, t * 2 + 1, none⟩ = some (.string uv) := fun v => (World.cell?_setCell_other wr ⟨g4, t * 2, none⟩ ⟨g4, t * 2 + 1, none⟩ v (by simp)).trans x1
                  have ek : (t : Int) - 1 = ((t - 1 : Nat) : Int) := by omega
                  have ek2 : ((t - 1 : Nat) : Int) < ((n2 : Int) + 1) := by omega
                  have ek3 : (q : Int) < (t : Int) := by omega
                  have ek4 : (t : Int) < ((n2 : Int) + 1) := by omega
                  have ew : IntKind.i64.wrap ((t - 1 : Nat) : Int) = ((t - 1 : Nat) : Int) := by rw [IntKind.wrap_i64]; omega
                  clear ho hb
                  go_wp2
                  go_roundw
                  case rel => exact ⟨t - 1, by omega, by omega, by go_num, ⟨⟨zn, zv⟩, OS.out⟩, BS.out⟩
                  case measure => simp [intOf]; omega
                · obtain rfl : q = t := by omega
                  have htl : q ≤ O.length := by omega
                  obtain ⟨x0, x1, f0, f1⟩ := OwnL.at_ (k := q) ho (by rw [Lb.shift_len _ _ _ htl]; omega)
                  have OS := Kept.mk (OwnL.set ho q ⟨xn, xv⟩)
                  rw [Lb.shift_end O q y ⟨xn, xv⟩ htl] at OS
                  have BS := Kept.mk (OwnL.below_set ho q ⟨xn, xv⟩ w hb hg4)
                  obtain ⟨d0, d1⟩ := CX.out wr hb
                  generalize ((O.take q ++ y :: O.drop q)[q]'_).n = un at *
                  generalize ((O.take q ++ y :: O.drop q)[q]'_).v = uv at *
                  have y1 : ∀ v, (wr.setCell ⟨g4, q * 2, none⟩ v).cell? ⟨g4, q * 2 + 1, none⟩ = some (.string uv) := fun v => (World.cell?_setCell_other wr ⟨g4, q * 2, none⟩ ⟨g4, q * 2 + 1, none⟩ v (by simp)).trans x1
                  have ek4 : (q : Int) < ((n2 : Int) + 1) := by omega
                  have hnew : Kept (Lb.Srt (O.take q ++ ⟨xn, xv⟩ :: O.drop q) ∧ (O.take q ++ ⟨xn, xv⟩ :: O.drop q).Perm (l.take (i + 1))) := ⟨Lb.srt_ins hsp.out.1 q htl hlo.out hup.out, Lb.perm_ins hsp.out.2 q hil HX.out⟩
                  clear ho hb
                  go_wp2
                  go_roundw
                  case rel => exact ⟨i + 1, by omega, by go_num, some ⟨g4, 0, none⟩, n2 + 1, c4, _, rfl, OS.out, hnew, BS.out⟩
                  case measure => simp [intOf]; omega
        · obtain rfl : i = n := by omega
          have ht : l.take i = l := List.take_of_length_le (by have := hn.out; omega)
          have O2 := Kept.mk ho.rd
          have HB := Kept.mk hb
          have hno : Kept (Lb.Norm l 0 O) := ⟨.inr (.inr ⟨hon.out, hsp.out.1, by rw [← ht]; exact hsp.out.2, rfl⟩)⟩
          clear ho hb
          go_wp2
          go_ret2
          exact ⟨0, A2, n2, c2, O, rfl, hno.out, O2.out, HB.out⟩
end Go.Proofs.Ytglnghdomoebfaa
