/- Cut by cut_tpl.py out of RecN, RecS: what this seat reaches. -/
import Derived.Test.YthhcfocmaiacoaaSymL
import Derived.BigQuiet
namespace Go.Proofs.Ythhcfocmaiacoaa
open Go.RowKit Go.Shelf

namespace Sy
theorem shift_len (O : List ByteArray) (m : Nat) (y : ByteArray) (h : m ≤ O.length) : (O.take m ++ y :: O.drop m).length = O.length + 1 := by
  rw [List.length_append, List.length_take, List.length_cons, List.length_drop]; omega
theorem shift_get (O : List ByteArray) (m : Nat) (y : ByteArray) (h1 : 0 < m) (h : m ≤ O.length) : (O.take m ++ y :: O.drop m)[m - 1]? = O[m - 1]? := by
  rw [List.getElem?_append_left (by rw [List.length_take]; omega), List.getElem?_take, if_pos (by omega)]
theorem shift_step (O : List ByteArray) (m : Nat) (y : ByteArray) (h1 : 0 < m) (h : m ≤ O.length) : (O.take m ++ y :: O.drop m).set m O[m - 1] = O.take (m - 1) ++ O[m - 1] :: O.drop (m - 1) := by
  have e1 : (O.take m ++ y :: O.drop m).set m O[m - 1] = O.take m ++ O[m - 1] :: O.drop m := by
    rw [List.set_append_right _ _ (by rw [List.length_take]; omega), List.length_take, show m - min m O.length = 0 by omega]; rfl
  rw [e1]
  have e2 : O.take m = O.take (m - 1) ++ [O[m - 1]] := by
    have := List.take_succ_eq_append_getElem (show m - 1 < O.length by omega)
    rwa [show m - 1 + 1 = m by omega] at this
  have e3 : O.drop (m - 1) = O[m - 1] :: O.drop m := by
    have := List.drop_eq_getElem_cons (show m - 1 < O.length by omega)
    rwa [show m - 1 + 1 = m by omega] at this
  rw [e2, e3, List.append_assoc]; rfl
theorem shift_end (O : List ByteArray) (p : Nat) (y x : ByteArray) (h : p ≤ O.length) : (O.take p ++ y :: O.drop p).set p x = O.take p ++ x :: O.drop p := by
  rw [List.set_append_right _ _ (by rw [List.length_take]; omega), List.length_take, show p - min p O.length = 0 by omega]; rfl
theorem shift_start (O : List ByteArray) (x : ByteArray) : O ++ [x] = O.take O.length ++ x :: O.drop O.length := by simp
end Sy
set_option maxRecDepth 100000 in
set_option maxHeartbeats 8000000 in
theorem table_any (A : Option Addr) (n c : Nat) (l : List ByteArray) (w : World) (hv : RdS w w.heap.size A n c l) (hn4 : n ≤ 1000000) :
    Calls Try.prog 18 #[.slice A n c] w fun r w' => ∃ A2 n2 c2 out, r = .returned (.slice A2 n2 c2) ∧ Sy.Tab l out ∧ OwnS w' w.heap.size A2 n2 c2 out ∧ Below w.heap.size w w' := by
  have hlc := hv.1
  have hcm := hv.2.1
  unfold maxLen at hcm
  have hn := Kept.mk hv.len
  have V := Kept.mk hv
  clear hv
  go_enter Try.func18, Try.ntmps18
  go_wp2
  go_loopw [3, 4] (fun o i wr => ∃ k : Nat, k ≤ n ∧ i = .int .i64 k ∧ ∃ A2 n2 c2 O, o = .slice A2 n2 c2 ∧ OwnS wr w.heap.size A2 n2 c2 O ∧ Kept (Sy.Tab (l.take k) O) ∧ Below w.heap.size w wr) (fun _ i _ => n - (intOf i).toNat)
  case atStart => exact ⟨0, by omega, rfl, none, 0, 0, [], rfl, OwnS.nil _ _, ⟨List.Pairwise.nil, by simp⟩, Below.refl _ _⟩
  case round =>
    obtain ⟨i, hi, rfl, A2, n2, c2, O, rfl, ho, hsp, hb⟩ := hrel
    by_cases hlt : i < n
    · have hil : i < l.length := by rw [← hn.out]; exact hlt
      have hlen2 := ho.len
      have hn2 : n2 ≤ 1000000 := by have h1 := hsp.out.len; rw [List.length_take] at h1; omega
      have hrd2 := ho.rd
      have hlc2 := hrd2.1
      have hcm2 := hrd2.2.1
      unfold maxLen at hcm2
      have O2 := Kept.mk ho
      have R2 := Kept.mk hrd2
      have HL2 := Kept.mk hlen2
      have HB := Kept.mk hb
      obtain ⟨b, off, rfl, hc⟩ := V.out.cells (Nat.le_refl _) hil
      have CX := Kept.mk hc
      clear ho hrd2 hlen2 hb hc
      obtain ⟨x, hx⟩ : ∃ x, x = l[i] := ⟨_, rfl⟩
      have HX := Kept.mk hx
      rw [← hx] at CX
      clear hx
      go_wp2
      rename World => wo
      go_loopw [5] (fun p wr => ∃ q : Nat, q ≤ n2 ∧ p = .int .i64 q ∧ Kept (∀ t (ht : t < O.length), t < q → St.lt O[t] x = true) ∧ ∃ m, wr = wo.drewN m) (fun p _ => n2 - (intOf p).toNat)
      case atStart => exact ⟨0, by omega, rfl, ⟨fun t _ h => by omega⟩, 0, rfl⟩
      case round =>
        obtain ⟨q, hq, rfl, hlo, m, rfl⟩ := hrel
        have cw0 := CX.out wo HB.out
        by_cases hqn : q < n2
        · have hql : q < O.length := by have := HL2.out; omega
          obtain ⟨g, rfl, hg1, hg2⟩ := O2.out.pos (by omega)
          obtain ⟨p0, -⟩ := OwnS.at_ O2.out hql
          have hltb : Op.bytesLess O[q].toList x.toList = St.lt O[q] x := rfl
          have heqb := St.eq_iff O[q] x
          by_cases hlt1 : St.lt O[q] x = true
          · have hlo2 : Kept (∀ t (ht : t < O.length), t < q + 1 → St.lt O[t] x = true) := ⟨fun t ht htq => by
              by_cases e : t = q
              · subst e; exact hlt1
              · exact hlo.out t ht (by omega)⟩
            rw [hlt1] at hltb
            clear hlt1 heqb
            generalize O[q] = pn at *
            go_wp2_with fail
            go_quiet (fail)
            go_wp2
            go_roundw
            case rel => exact ⟨q + 1, by omega, by go_num, hlo2, _, rfl⟩
            case measure => simp [intOf]; omega
          · have hlt2 : St.lt O[q] x = false := by simpa using hlt1
            rw [hlt2] at hltb
            by_cases heq : O[q] = x
            · have hsame : Kept (Sy.Tab (l.take (i + 1)) O) := ⟨Sy.tab_same hsp.out hil HX.out q hql heq⟩
              rw [decide_eq_true heq] at heqb
              clear heq hlt1 hlt2
              generalize O[q] = pn at *
              go_wp2_with fail
              go_quiet (fail)
              go_wp2
              go_quiet (fail)
              go_wp2
              go_roundw
              case rel => exact ⟨i + 1, by omega, by go_num, some ⟨g, 0, none⟩, n2, c2, O, rfl, O2.out, hsame, below_drewN HB.out _⟩
              case measure => simp [intOf]; omega
            · have hup : Kept (∀ (hj : q < O.length), St.lt x O[q] = true) := ⟨fun hj => by
                cases h : St.lt x O[q] with
                | true => rfl
                | false => exact absurd (St.total hlt2 h) heq⟩
              rw [decide_eq_false heq] at heqb
              clear heq hlt1 hlt2
              generalize hpn : O[q] = pn at p0 hltb heqb
              have HPN := Kept.mk hpn
              clear hpn
              go_wp2_with fail
              go_quiet (fail)
              rename Nat => nq1
              go_wp2
              go_quiet (fail)
              clear p0 hltb heqb HPN cw0
              have hz0 := HB.out.size
              have WQ : Kept (Below w.heap.size w (((wo.drewN m).drewN nq1).drewN nq)) := ⟨below_drewN (below_drewN (below_drewN HB.out _) _) _⟩
              have OQ : Kept (OwnS (((wo.drewN m).drewN nq1).drewN nq) w.heap.size (some ⟨g, 0, none⟩) n2 c2 O) := ⟨O2.out⟩
              have CQ := Kept.mk (CX.out (((wo.drewN m).drewN nq1).drewN nq) WQ.out)
              have hzq : w.heap.size ≤ (((wo.drewN m).drewN nq1).drewN nq).heap.size := WQ.out.size
              generalize ((wo.drewN m).drewN nq1).drewN nq = wq at *
              have cx0 := CQ.out
              go_upto_region 11 with (at_builtin; refine wpList_appS rfl (.tmp 45) (.tmp 46) rfl w.heap.size (some ⟨g, 0, none⟩) n2 c2 O rfl (World.ownsRow.alloc OQ.out _) (wq.heap.size + 1) _ _ _ [⟨#[]⟩] rfl (RdS.one wq ⟨#[]⟩) (by omega) (by simp; omega) ?_; intro A4 c4 w4 hown4 hgrow4 hat4; have O4 := Kept.mk hown4; have B4 := Kept.mk ((WQ.out.alloc hzq (.cells #[.string ⟨#[]⟩] 9)).grown hgrow4 (by simp; omega) (fun g e => (own_lt OQ.out g e).1)); clear hown4 hgrow4 hat4)
              obtain ⟨g4, rfl, hg4, -⟩ := O4.out.pos (by omega)
              have hc4 := O4.out.rd.1
              have hc4m := O4.out.rd.2.1
              unfold maxLen at hc4m
              have hln2 := HL2.out
              clear OQ WQ cx0 CQ
              go_loopw [6] (fun j wr => ∃ t : Nat, q ≤ t ∧ t ≤ n2 ∧ j = .int .i64 t ∧ (∃ y, OwnS wr w.heap.size (some ⟨g4, 0, none⟩) (n2 + 1) c4 (O.take t ++ y :: O.drop t)) ∧ Below w.heap.size w wr) (fun j _ => (intOf j).toNat)
              case atStart => exact ⟨n2, hq, Nat.le_refl _, by go_num, ⟨⟨#[]⟩, by rw [hln2, ← Sy.shift_start]; exact hln2 ▸ O4.out⟩, B4.out⟩
              case round =>
                clear O4 B4
                obtain ⟨t, hqt, htn, rfl, ⟨y, ho⟩, hb⟩ := hrel
                by_cases hgt : q < t
                · have htl : t ≤ O.length := by omega
                  obtain ⟨x0, f0⟩ := OwnS.at_ (k := t) ho (by rw [Sy.shift_len _ _ _ htl]; omega)
                  obtain ⟨z0, -⟩ := OwnS.at_ (k := t - 1) ho (by rw [Sy.shift_len _ _ _ htl]; omega)
                  have hge : (O.take t ++ y :: O.drop t)[t - 1]'(by rw [Sy.shift_len _ _ _ htl]; omega) = O[t - 1]'(by omega) := by
                    have := Sy.shift_get O t y (by omega) htl
                    rw [List.getElem?_eq_getElem (by rw [Sy.shift_len _ _ _ htl]; omega), List.getElem?_eq_getElem (by omega)] at this
                    exact Option.some.inj this
                  rw [hge] at z0
                  have OS := Kept.mk (OwnS.set ho t (O[t - 1]'(by omega)))
                  rw [Sy.shift_step O t y (by omega) htl] at OS
                  have BS := Kept.mk (hb.setCell (p := ⟨g4, t, none⟩) hg4 (.string (O[t - 1]'(by omega))))
                  generalize O[t - 1]'(by omega) = z at *
                  generalize ((O.take t ++ y :: O.drop t)[t]'_) = un at *
                  have ek : (t : Int) - 1 = ((t - 1 : Nat) : Int) := by omega
                  have ek2 : ((t - 1 : Nat) : Int) < ((n2 : Int) + 1) := by omega
                  have ek3 : (q : Int) < (t : Int) := by omega
                  have ek4 : (t : Int) < ((n2 : Int) + 1) := by omega
                  have ew : IntKind.i64.wrap ((t - 1 : Nat) : Int) = ((t - 1 : Nat) : Int) := by rw [IntKind.wrap_i64]; omega
                  clear ho hb
                  go_wp2
                  go_roundw
                  case rel => exact ⟨t - 1, by omega, by omega, by go_num, ⟨z, OS.out⟩, BS.out⟩
                  case measure => simp [intOf]; omega
                · obtain rfl : q = t := by omega
                  have htl : q ≤ O.length := by omega
                  obtain ⟨x0, f0⟩ := OwnS.at_ (k := q) ho (by rw [Sy.shift_len _ _ _ htl]; omega)
                  have OS := Kept.mk (OwnS.set ho q x)
                  rw [Sy.shift_end O q y x htl] at OS
                  have BS := Kept.mk (hb.setCell (p := ⟨g4, q, none⟩) hg4 (.string x))
                  have d0 := CX.out wr hb
                  generalize ((O.take q ++ y :: O.drop q)[q]'_) = un at *
                  have ek4 : (q : Int) < ((n2 : Int) + 1) := by omega
                  have hnew : Kept (Sy.Tab (l.take (i + 1)) (O.take q ++ x :: O.drop q)) := ⟨Sy.tab_ins hsp.out hil HX.out q htl hlo.out hup.out⟩
                  clear ho hb
                  go_wp2
                  go_roundw
                  case rel => exact ⟨i + 1, by omega, by go_num, some ⟨g4, 0, none⟩, n2 + 1, c4, _, rfl, OS.out, hnew, BS.out⟩
                  case measure => simp [intOf]; omega
        · have hup : Kept (∀ (hj : q < O.length), St.lt x O[q] = true) := ⟨fun hj => by have := HL2.out; omega⟩
          have hqn' : ¬ (q : Int) < (n2 : Int) := by omega
          go_wp2_with fail
          go_quiet (fail)
          rename Nat => nq1
          go_wp2
          go_quiet (fail)
          clear cw0 hqn' hqn
          have hz0 := HB.out.size
          have WQ : Kept (Below w.heap.size w (((wo.drewN m).drewN nq1).drewN nq)) := ⟨below_drewN (below_drewN (below_drewN HB.out _) _) _⟩
          have OQ : Kept (OwnS (((wo.drewN m).drewN nq1).drewN nq) w.heap.size A2 n2 c2 O) := ⟨O2.out⟩
          have CQ := Kept.mk (CX.out (((wo.drewN m).drewN nq1).drewN nq) WQ.out)
          have hzq : w.heap.size ≤ (((wo.drewN m).drewN nq1).drewN nq).heap.size := WQ.out.size
          generalize ((wo.drewN m).drewN nq1).drewN nq = wq at *
          have cx0 := CQ.out
          go_upto_region 11 with (at_builtin; refine wpList_appS rfl (.tmp 45) (.tmp 46) rfl w.heap.size A2 n2 c2 O rfl (World.ownsRow.alloc OQ.out _) (wq.heap.size + 1) _ _ _ [⟨#[]⟩] rfl (RdS.one wq ⟨#[]⟩) (by omega) (by simp; omega) ?_; intro A4 c4 w4 hown4 hgrow4 hat4; have O4 := Kept.mk hown4; have B4 := Kept.mk ((WQ.out.alloc hzq (.cells #[.string ⟨#[]⟩] 9)).grown hgrow4 (by simp; omega) (fun g e => (own_lt OQ.out g e).1)); clear hown4 hgrow4 hat4)
          obtain ⟨g4, rfl, hg4, -⟩ := O4.out.pos (by omega)
          have hc4 := O4.out.rd.1
          have hc4m := O4.out.rd.2.1
          unfold maxLen at hc4m
          have hln2 := HL2.out
          clear OQ WQ cx0 CQ
          go_loopw [6] (fun j wr => ∃ t : Nat, q ≤ t ∧ t ≤ n2 ∧ j = .int .i64 t ∧ (∃ y, OwnS wr w.heap.size (some ⟨g4, 0, none⟩) (n2 + 1) c4 (O.take t ++ y :: O.drop t)) ∧ Below w.heap.size w wr) (fun j _ => (intOf j).toNat)
          case atStart => exact ⟨n2, hq, Nat.le_refl _, by go_num, ⟨⟨#[]⟩, by rw [hln2, ← Sy.shift_start]; exact hln2 ▸ O4.out⟩, B4.out⟩
          case round =>
            clear O4 B4
            obtain ⟨t, hqt, htn, rfl, ⟨y, ho⟩, hb⟩ := hrel
            by_cases hgt : q < t
            · have htl : t ≤ O.length := by omega
              obtain ⟨x0, f0⟩ := OwnS.at_ (k := t) ho (by rw [Sy.shift_len _ _ _ htl]; omega)
              obtain ⟨z0, -⟩ := OwnS.at_ (k := t - 1) ho (by rw [Sy.shift_len _ _ _ htl]; omega)
              have hge : (O.take t ++ y :: O.drop t)[t - 1]'(by rw [Sy.shift_len _ _ _ htl]; omega) = O[t - 1]'(by omega) := by
                have := Sy.shift_get O t y (by omega) htl
                rw [List.getElem?_eq_getElem (by rw [Sy.shift_len _ _ _ htl]; omega), List.getElem?_eq_getElem (by omega)] at this
                exact Option.some.inj this
              rw [hge] at z0
              have OS := Kept.mk (OwnS.set ho t (O[t - 1]'(by omega)))
              rw [Sy.shift_step O t y (by omega) htl] at OS
              have BS := Kept.mk (hb.setCell (p := ⟨g4, t, none⟩) hg4 (.string (O[t - 1]'(by omega))))
              generalize O[t - 1]'(by omega) = z at *
              generalize ((O.take t ++ y :: O.drop t)[t]'_) = un at *
              have ek : (t : Int) - 1 = ((t - 1 : Nat) : Int) := by omega
              have ek2 : ((t - 1 : Nat) : Int) < ((n2 : Int) + 1) := by omega
              have ek3 : (q : Int) < (t : Int) := by omega
              have ek4 : (t : Int) < ((n2 : Int) + 1) := by omega
              have ew : IntKind.i64.wrap ((t - 1 : Nat) : Int) = ((t - 1 : Nat) : Int) := by rw [IntKind.wrap_i64]; omega
              clear ho hb
              go_wp2
              go_roundw
              case rel => exact ⟨t - 1, by omega, by omega, by go_num, ⟨z, OS.out⟩, BS.out⟩
              case measure => simp [intOf]; omega
            · obtain rfl : q = t := by omega
              have htl : q ≤ O.length := by omega
              obtain ⟨x0, f0⟩ := OwnS.at_ (k := q) ho (by rw [Sy.shift_len _ _ _ htl]; omega)
              have OS := Kept.mk (OwnS.set ho q x)
              rw [Sy.shift_end O q y x htl] at OS
              have BS := Kept.mk (hb.setCell (p := ⟨g4, q, none⟩) hg4 (.string x))
              have d0 := CX.out wr hb
              generalize ((O.take q ++ y :: O.drop q)[q]'_) = un at *
              have ek4 : (q : Int) < ((n2 : Int) + 1) := by omega
              have hnew : Kept (Sy.Tab (l.take (i + 1)) (O.take q ++ x :: O.drop q)) := ⟨Sy.tab_ins hsp.out hil HX.out q htl hlo.out hup.out⟩
              clear ho hb
              go_wp2
              go_roundw
              case rel => exact ⟨i + 1, by omega, by go_num, some ⟨g4, 0, none⟩, n2 + 1, c4, _, rfl, OS.out, hnew, BS.out⟩
              case measure => simp [intOf]; omega
    · have hfin : Kept (Sy.Tab l O) := ⟨by have := hsp.out; rwa [List.take_of_length_le (by have := hn.out; omega)] at this⟩
      have O2 := Kept.mk ho
      have HB := Kept.mk hb
      clear ho hb hsp
      go_wp2
      go_ret
      exact ⟨A2, n2, c2, O, rfl, hfin.out, O2.out, HB.out⟩

def Sy.idxI (T : List ByteArray) (s : ByteArray) : Int := match Sy.idx T s with | some k => (k : Int) | none => -1
set_option maxHeartbeats 4000000 in
theorem refIndex_any (A : Option Addr) (n c : Nat) (T : List ByteArray) (s : ByteArray) (w : World) (hv : RdS w w.heap.size A n c T) :
    Calls Try.prog 20 #[.slice A n c, .string s] w fun e w' => e = .returned (.int .i64 (Sy.idxI T s)) ∧ w' = w := by
  have hlc := hv.1
  have hcm := hv.2.1
  unfold maxLen at hcm
  have hn := Kept.mk hv.len
  have V := Kept.mk hv
  clear hv
  obtain ⟨M, hM⟩ : ∃ M, M = Sy.idxI T s := ⟨_, rfl⟩
  rw [← hM]
  have HM := Kept.mk hM
  clear hM
  go_enter Try.func20, Try.ntmps20
  go_wp2
  go_loopw [5] (fun i wr => ∃ k : Nat, k ≤ n ∧ i = .int .i64 k ∧ Kept (∀ j (hj : j < T.length), j < k → T[j] ≠ s) ∧ wr = w) (fun i _ => n - (intOf i).toNat)
  case atStart => exact ⟨0, by omega, rfl, ⟨fun j _ hj => by omega⟩, rfl⟩
  case round =>
    obtain ⟨k, hk, rfl, hd, hw⟩ := hrel
    subst hw
    by_cases hlt : k < n
    · have hkl : k < T.length := by rw [← hn.out]; exact hlt
      obtain ⟨b, off, rfl, -, c0⟩ := V.out.at_ hkl
      have heqb := St.eq_iff T[k] s
      by_cases he : T[k] = s
      · have HM2 : Kept (M = (k : Int)) := ⟨by rw [HM.out, Sy.idxI, Sy.idx_at hkl he hd.out]⟩
        rw [decide_eq_true he] at heqb
        clear he
        generalize T[k] = x at *
        go_wp2
        go_ret
        exact ⟨by rw [HM2.out]; rfl, rfl⟩
      · have hd2 : Kept (∀ j (hj : j < T.length), j < k + 1 → T[j] ≠ s) := ⟨fun j hj hjk => by
          by_cases e : j = k
          · subst e; exact he
          · exact hd.out j hj (by omega)⟩
        rw [decide_eq_false he] at heqb
        clear he
        generalize T[k] = x at *
        go_wp2
        go_roundw
        case rel => exact ⟨k + 1, by omega, by go_num, hd2, by simp⟩
        case measure => simp [intOf]; omega
    · have HM2 : Kept (M = -1) := ⟨by rw [HM.out, Sy.idxI, Sy.idx_none.2 fun j hj => hd.out j hj (by have := hn.out; omega)]⟩
      clear hd
      go_wp2
      go_ret
      exact ⟨by rw [HM2.out]; rfl, rfl⟩
end Go.Proofs.Ythhcfocmaiacoaa
