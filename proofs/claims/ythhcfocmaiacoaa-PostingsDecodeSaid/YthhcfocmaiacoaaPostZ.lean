/- Chapter 15: Find and Named. -/
import Derived.Test.YthhcfocmaiacoaaPostX
import Derived.Test.YthhcfocmaiacoaaPostN
import Derived.Test.YthhcfocmaiacoaaPostL2
namespace Go.Proofs.Ythhcfocmaiacoaa
open Go.RowKit Go.Shelf

set_option maxRecDepth 100000 in
set_option maxHeartbeats 4000000 in
theorem reference15_any (A : Option Addr) (n c : Nat) (l : List EntV) (w : World) (hv : RdEn w w.heap.size A n c l) (hn1 : n ≤ 1000000) :
    Calls Try.prog 32 #[.slice A n c] w fun r w' => ∃ A2 n2 c2, r = .returned (.slice A2 n2 c2) ∧ OwnEn 109 w' w.heap.size A2 n2 c2 l ∧ Below w.heap.size w w' := by
  have hcc := hv.cap
  have hlc := hcc.1
  have hcm := hcc.2
  unfold maxLen at hcm
  have V := Kept.mk hv
  have HN := Kept.mk hv.len
  clear hv hcc
  go_enter Try.func32, Try.ntmps32
  go_wp2
  go_loopw [3, 8] (fun o i wr => ∃ k : Nat, k ≤ n ∧ i = .int .i64 k ∧ ∃ (A2 : Option Addr) (n2 c2 : Nat), o = .slice A2 n2 c2 ∧ OwnEn 109 wr w.heap.size A2 n2 c2 (l.take k) ∧ Below w.heap.size w wr) (fun _ i _ => n - (intOf i).toNat)
  case atStart => exact ⟨0, by omega, rfl, none, 0, 0, rfl, by simpa using OwnEn.nil w w.heap.size, Below.refl _ _⟩
  case round =>
    obtain ⟨k, hk, rfl, A2, n2, c2, rfl, ho, hb⟩ := hrel
    have HB := Kept.mk hb
    have hzr := hb.size
    have hn2 := ho.len
    rw [List.length_take, ← HN.out] at hn2
    obtain rfl : k = n2 := by omega
    have O := Kept.mk ho
    clear ho hb hn2
    by_cases hlt : k < n
    · have hkl : k < l.length := by rw [← HN.out]; exact hlt
      obtain ⟨b, off, A1, n1, c1, rfl, hbB, hS, hc⟩ := V.out.cells (Nat.le_refl _) hkl
      have ht := Kept.mk (List.take_succ_eq_append_getElem hkl)
      have HC := Kept.mk hc
      have SS := Kept.mk (own_keep hS HB.out)
      clear hc hS
      generalize l[k] = e at *
      obtain ⟨y, s⟩ := e
      simp only [] at HC SS
      obtain ⟨c0, c1', c2'⟩ := HC.out wr HB.out
      have hba : Below wr.heap.size wr (wr.alloc (Obj.cells #[.string y.n, .string y.v, .slice A1 n1 c1] 110)) := (Below.refl _ _).alloc (Nat.le_refl _) _
      have O1 := Kept.mk (O.out.keep hba)
      have S1 := Kept.mk (own_keep SS.out hba)
      clear hba
      go_wp2_with (at_builtin; refine wpList_appER (y := y) (s := s) rfl (.tmp 12) (.tmp 14) rfl w.heap.size A2 k c2 _ rfl O1.out _ rfl (by simp) S1.out (by omega) (by simp; omega) ?_; intro A4 c4 w4 ho4 hb4; have O4 := Kept.mk ho4; have B4 := Kept.mk hb4; clear ho4 hb4)
      go_roundw
      case rel => exact ⟨k + 1, by omega, by go_num, A4, _, c4, rfl, by rw [ht.out]; exact O4.out, (HB.out.alloc hzr _).trans B4.out⟩
      case measure => simp [intOf]; omega
    · obtain rfl : k = n := by omega
      have ht : l.take k = l := List.take_of_length_le (by have := HN.out; omega)
      go_wp2
      go_ret
      exact ⟨A2, _, c2, rfl, by rw [← ht]; exact O.out, HB.out⟩
set_option maxRecDepth 100000 in
set_option maxHeartbeats 4000000 in
theorem program15_any (A : Option Addr) (n c : Nat) (l : List EntV) (w : World) (hv : RdEn w w.heap.size A n c l) (hn1 : n ≤ 1000000) :
    Calls Try.prog 36 #[.slice A n c] w fun r w' => ∃ A2 n2 c2, r = .returned (.slice A2 n2 c2) ∧ OwnEn 110 w' w.heap.size A2 n2 c2 l ∧ Below w.heap.size w w' := by
  have hcc := hv.cap
  have hlc := hcc.1
  have hcm := hcc.2
  unfold maxLen at hcm
  have V := Kept.mk hv
  have HN := Kept.mk hv.len
  clear hv hcc
  go_enter Try.func36, Try.ntmps36
  go_wp2
  go_loopw [3, 8] (fun o i wr => ∃ k : Nat, k ≤ n ∧ i = .int .i64 k ∧ ∃ (A2 : Option Addr) (n2 c2 : Nat), o = .slice A2 n2 c2 ∧ OwnEn 110 wr w.heap.size A2 n2 c2 (l.take k) ∧ Below w.heap.size w wr) (fun _ i _ => n - (intOf i).toNat)
  case atStart => exact ⟨0, by omega, rfl, none, 0, 0, rfl, by simpa using OwnEn.nil w w.heap.size, Below.refl _ _⟩
  case round =>
    obtain ⟨k, hk, rfl, A2, n2, c2, rfl, ho, hb⟩ := hrel
    have HB := Kept.mk hb
    have hzr := hb.size
    have hn2 := ho.len
    rw [List.length_take, ← HN.out] at hn2
    obtain rfl : k = n2 := by omega
    have O := Kept.mk ho
    clear ho hb hn2
    by_cases hlt : k < n
    · have hkl : k < l.length := by rw [← HN.out]; exact hlt
      obtain ⟨b, off, A1, n1, c1, rfl, hbB, hS, hc⟩ := V.out.cells (Nat.le_refl _) hkl
      have ht := Kept.mk (List.take_succ_eq_append_getElem hkl)
      have HC := Kept.mk hc
      have SS := Kept.mk (own_keep hS HB.out)
      clear hc hS
      generalize l[k] = e at *
      obtain ⟨y, s⟩ := e
      simp only [] at HC SS
      obtain ⟨c0, c1', c2'⟩ := HC.out wr HB.out
      have hba : Below wr.heap.size wr (wr.alloc (Obj.cells #[.string y.n, .string y.v, .slice A1 n1 c1] 109)) := (Below.refl _ _).alloc (Nat.le_refl _) _
      have O1 := Kept.mk (O.out.keep hba)
      have S1 := Kept.mk (own_keep SS.out hba)
      clear hba
      go_wp2_with (at_builtin; refine wpList_appEP (y := y) (s := s) rfl (.tmp 12) (.tmp 14) rfl w.heap.size A2 k c2 _ rfl O1.out _ rfl (by simp) S1.out (by omega) (by simp; omega) ?_; intro A4 c4 w4 ho4 hb4; have O4 := Kept.mk ho4; have B4 := Kept.mk hb4; clear ho4 hb4)
      go_roundw
      case rel => exact ⟨k + 1, by omega, by go_num, A4, _, c4, rfl, by rw [ht.out]; exact O4.out, (HB.out.alloc hzr _).trans B4.out⟩
      case measure => simp [intOf]; omega
    · obtain rfl : k = n := by omega
      have ht : l.take k = l := List.take_of_length_le (by have := HN.out; omega)
      go_wp2
      go_ret
      exact ⟨A2, _, c2, rfl, by rw [← ht]; exact O.out, HB.out⟩
set_option maxRecDepth 100000 in
set_option maxHeartbeats 8000000 in
theorem same15_any (A A' : Option Addr) (n c n' c' : Nat) (l : List EntV) (w : World) (hv : RdEn w w.heap.size A n c l) (hv2 : RdEn w w.heap.size A' n' c' l) (hn1 : n ≤ 1000000) (hs : ∀ e ∈ l, e.2.length ≤ 1000000) :
    Calls Try.prog 31 #[.slice A n c, .slice A' n' c'] w fun r w' => r = .returned (.bool true) ∧ Gr w w' := by
  have hcc := hv.cap
  have hlc := hcc.1
  have hcm := hcc.2
  have hcc2 := hv2.cap
  have hlc2 := hcc2.1
  have hcm2 := hcc2.2
  unfold maxLen at hcm hcm2
  have V := Kept.mk hv
  have V2 := Kept.mk hv2
  have HN := Kept.mk hv.len
  have HS := Kept.mk hs
  obtain rfl : n' = n := by have := hv.len; have := hv2.len; omega
  clear hv hv2 hs hcc hcc2
  go_enter Try.func31, Try.ntmps31
  go_wp2
  go_loopw [5] (fun i wr => ∃ k : Nat, k ≤ n' ∧ i = .int .i64 k ∧ Gr w wr) (fun i _ => n' - (intOf i).toNat)
  case atStart => exact ⟨0, by omega, rfl, Gr.refl w⟩
  case round =>
    obtain ⟨k, hk, rfl, gr⟩ := hrel
    have G := Kept.mk gr
    clear gr
    by_cases hlt : k < n'
    · have hkl : k < l.length := by rw [← HN.out]; exact hlt
      obtain ⟨b, off, A1, n1, c1, rfl, hbB, hS, hc⟩ := V.out.cells (Nat.le_refl _) hkl
      obtain ⟨b2, off2, A2, n2, c2, rfl, hbB2, hS2, hc2⟩ := V2.out.cells (Nat.le_refl _) hkl
      have hsl := HS.out _ (List.getElem_mem hkl)
      have HC := Kept.mk hc
      have HC2 := Kept.mk hc2
      have HI := Kept.mk (fun W (h : Gr w W) => OwnI.rd (own_keepI hS h.below))
      have HI2 := Kept.mk (fun W (h : Gr w W) => OwnI.rd (own_keepI hS2 h.below))
      have hn1' := OwnI.len hS
      have hn2' := OwnI.len hS2
      obtain rfl : n2 = n1 := by omega
      rw [← hn1'] at hsl
      have HL := Kept.mk hn1'
      clear hc hc2 hS hS2 hn1' hn2'
      generalize l[k] = e at *
      obtain ⟨y, s⟩ := e
      simp only [] at HC HC2 HI HI2 HL
      obtain ⟨x0, x1, x2⟩ := HC.out wr G.out.below
      obtain ⟨y0, y1, y2⟩ := HC2.out wr G.out.below
      have hcp := (HI.out wr G.out).1
      have hcp2 := (HI2.out wr G.out).1
      have hcq := (HI.out wr G.out).2.1
      have hcq2 := (HI2.out wr G.out).2.1
      unfold maxLen at hcq hcq2
      have NQ := fun W => neqL y y W
      go_wp2_with fail
      go_quiet (fail)
      have G2 : Kept (Gr w (wr.drewN nq)) := ⟨G.out.drewN _⟩
      clear x0 x1 x2 y0 y1 y2
      generalize wr.drewN nq = wi at *
      obtain ⟨x0, x1, x2⟩ := HC.out wi G2.out.below
      obtain ⟨y0, y1, y2⟩ := HC2.out wi G2.out.below
      go_wp2
      clear x0 x1 x2 y0 y1 y2
      go_loopw [6] (fun j wr => ∃ i : Nat, i ≤ n2 ∧ j = .int .i64 i ∧ Gr w wr) (fun j _ => n2 - (intOf j).toNat)
      case atStart => exact ⟨0, by omega, rfl, G2.out⟩
      case round =>
        obtain ⟨i, hi, rfl, gr⟩ := hrel
        have G3 := Kept.mk gr
        obtain ⟨x0, x1, x2⟩ := HC.out wr gr.below
        obtain ⟨y0, y1, y2⟩ := HC2.out wr gr.below
        by_cases hlt2 : i < n2
        · have hil : i < s.length := by rw [← HL.out]; exact hlt2
          obtain ⟨b4, off4, rfl, -, z0⟩ := (HI.out wr gr).at_ hil
          obtain ⟨b6, off6, rfl, -, z1⟩ := (HI2.out wr gr).at_ hil
          clear gr
          generalize s[i] = x at *
          go_wp2_with fail
          go_quiet (fail)
          go_wp2
          go_roundw
          case rel => exact ⟨i + 1, by omega, by go_num, G3.out.drewN _⟩
          case measure => simp [intOf]; omega
        · clear gr
          go_wp2
          go_roundw
          case rel => exact ⟨k + 1, by omega, by go_num, G3.out⟩
          case measure => simp [intOf]; omega
    · go_wp2
      go_ret
      exact ⟨rfl, G.out⟩
end Go.Proofs.Ythhcfocmaiacoaa
namespace Go.Proofs.Ythhcfocmaiacoaa
open Go.RowKit Go.Shelf

theorem eqL (x y : Lab) (w : World) : Sem.run Try.prog (binOp .eql 67 (.agg #[.string x.n, .string x.v]) (.agg #[.string y.n, .string y.v])) w = .ok (.bool (decide (x = y))) w := by
  have u3 := Try.underlying9
  have a3 := Try.isAgg9
  have z3 := Try.sizeOf9
  have hS : Try.prog.underlying 67 = some (.struct (Try.prog.fieldsOf 67)) := by kernel_rfl
  have hp : Try.prog.stoodInHeld 67 = false := by kernel_rfl
  rw [run_eql_struct, show (10000 : Nat) = 9999 + 1 from rfl, run_equalIn_agg w 9999 67 _ _ hS hp]
  simp only [Program.fieldsOf, Try.underlying67]
  go_simp
  by_cases h1 : x.n = y.n
  · by_cases h2 : x.v = y.v
    · rw [if_pos (by rw [h1]), if_pos (by rw [h2]), decide_eq_true (Lb.ext h1 h2)]
    · rw [if_pos (by rw [h1]), if_neg (fun e => h2 (St.tl_inj e)), decide_eq_false (fun e => h2 (by rw [e]))]
  · rw [if_neg (fun e => h1 (St.tl_inj e)), decide_eq_false (fun e => h1 (by rw [e]))]
set_option maxHeartbeats 1000000 in
theorem find1_any (x y : Lab) (A1 : Option Addr) (n1 c1 bx : Nat) (w : World) (h0 : w.cell? ⟨bx, 0, none⟩ = some (.string x.n)) (h1 : w.cell? ⟨bx, 1, none⟩ = some (.string x.v)) (hb : bx < w.heap.size) :
    Calls Try.prog 87 #[.agg #[.string y.n, .string y.v, .slice A1 n1 c1], .pointer (some ⟨bx, 0, none⟩)] w fun r w' => r = .returned (.bool (decide (y = x))) ∧ Gr w w' := by
  have EQ := fun W => eqL y x W
  have k0 : (w.alloc (Obj.cells #[.string y.n, .string y.v, .slice A1 n1 c1] 110)).cell? ⟨bx, 0, none⟩ = some (.string x.n) := (World.cell?_alloc_lt w _ ⟨bx, 0, none⟩ hb).trans h0
  have k1 : (w.alloc (Obj.cells #[.string y.n, .string y.v, .slice A1 n1 c1] 110)).cell? ⟨bx, 1, none⟩ = some (.string x.v) := (World.cell?_alloc_lt w _ ⟨bx, 1, none⟩ hb).trans h1
  clear h0 h1
  go_enter Try.func87, Try.ntmps87
  go_wp2
  go_ret
  exact ⟨rfl, (Gr.refl w).alloc _⟩
set_option maxHeartbeats 1000000 in
theorem named1_any (x : ByteArray) (y : Lab) (A1 : Option Addr) (n1 c1 bx : Nat) (w : World) (h0 : w.cell? ⟨bx, 0, none⟩ = some (.string x)) (hb : bx < w.heap.size) :
    Calls Try.prog 88 #[.agg #[.string y.n, .string y.v, .slice A1 n1 c1], .pointer (some ⟨bx, 0, none⟩)] w fun r w' => r = .returned (.bool (decide (y.n = x))) ∧ Gr w w' := by
  have hq : (y.n.toList == x.toList) = decide (y.n = x) := by
    rw [St.eq_iff]
  have k0 : (w.alloc (Obj.cells #[.string y.n, .string y.v, .slice A1 n1 c1] 110)).cell? ⟨bx, 0, none⟩ = some (.string x) := (World.cell?_alloc_lt w _ ⟨bx, 0, none⟩ hb).trans h0
  clear h0
  go_enter Try.func88, Try.ntmps88
  go_wp2
  go_ret
  exact ⟨by rw [← hq]; rfl, (Gr.refl w).alloc _⟩
set_option maxRecDepth 100000 in
set_option maxHeartbeats 4000000 in
theorem filterF_any (A : Option Addr) (n c bx : Nat) (l : List EntV) (x : Lab) (w : World) (hv : RdEn w w.heap.size A n c l) (hn1 : n ≤ 1000000) (h0 : w.cell? ⟨bx, 0, none⟩ = some (.string x.n)) (h1 : w.cell? ⟨bx, 1, none⟩ = some (.string x.v)) (hbx : bx < w.heap.size) :
    Calls Try.prog 86 #[.slice A n c, .func (.func 87) #[] #[.pointer (some ⟨bx, 0, none⟩)]] w fun r w' => ∃ A2 n2 c2, r = .returned (.slice A2 n2 c2) ∧ OwnEn 110 w' w.heap.size A2 n2 c2 (l.filter fun e => e.1 = x) ∧ Below w.heap.size w w' := by
  have hcc := hv.cap
  have hlc := hcc.1
  have hcm := hcc.2
  unfold maxLen at hcm
  have V := Kept.mk hv
  have HN := Kept.mk hv.len
  have HX : Kept (∀ W, Below w.heap.size w W → W.cell? ⟨bx, 0, none⟩ = some (.string x.n) ∧ W.cell? ⟨bx, 1, none⟩ = some (.string x.v)) := ⟨fun W hW => ⟨(hW.cell (p := ⟨bx, 0, none⟩) hbx).trans h0, (hW.cell (p := ⟨bx, 1, none⟩) hbx).trans h1⟩⟩
  clear h0 h1
  clear hv hcc
  go_enter Try.func86, Try.ntmps86
  go_wp2
  go_loopw [5, 10] (fun o i wr => ∃ k : Nat, k ≤ n ∧ i = .int .i64 k ∧ ∃ (A2 : Option Addr) (n2 c2 : Nat), o = .slice A2 n2 c2 ∧ OwnEn 110 wr w.heap.size A2 n2 c2 ((l.take k).filter fun e => e.1 = x) ∧ n2 ≤ k ∧ Below w.heap.size w wr) (fun _ i _ => n - (intOf i).toNat)
  case atStart => exact ⟨0, by omega, rfl, none, 0, 0, rfl, by simpa using OwnEn.nil w w.heap.size, by omega, Below.refl _ _⟩
  case round =>
    obtain ⟨k, hk, rfl, A2, n2, c2, rfl, ho, hn2, hb⟩ := hrel
    have HB := Kept.mk hb
    have hzr := hb.size
    have O := Kept.mk ho
    clear ho hb
    by_cases hlt : k < n
    · have hkl : k < l.length := by rw [← HN.out]; exact hlt
      obtain ⟨b, off, A1, n1, c1, rfl, hbB, hS, hc⟩ := V.out.cells (Nat.le_refl _) hkl
      have ht := Kept.mk (List.take_succ_eq_append_getElem hkl)
      have HC := Kept.mk hc
      have SS := Kept.mk hS
      clear hc hS
      generalize l[k] = e at *
      obtain ⟨y, s⟩ := e
      simp only [] at HC SS
      obtain ⟨c0, c1', c2'⟩ := HC.out wr HB.out
      have hba : Below w.heap.size w (wr.alloc (Obj.cells #[.string y.n, .string y.v, .slice A1 n1 c1] 110)) := HB.out.alloc hzr _
      have O1 := Kept.mk (O.out.keep ((Below.refl _ _).alloc (Nat.le_refl _) (Obj.cells #[.string y.n, .string y.v, .slice A1 n1 c1] 110)))
      have X1 := Kept.mk (heap_alloc_new wr (Obj.cells #[.string y.n, .string y.v, .slice A1 n1 c1] 110))
      have CL := Kept.mk (find1_any x y A1 n1 c1 bx _ (HX.out _ hba).1 (HX.out _ hba).2 (by simp; omega))
      have BA := Kept.mk hba
      have hlw : wr.heap.size < (wr.alloc (Obj.cells #[.string y.n, .string y.v, .slice A1 n1 c1] 110)).heap.size := by simp
      clear hba
      by_cases hq : y = x
      · rw [decide_eq_true hq] at CL
        have ht2 : Kept ((l.take (k + 1)).filter (fun e => e.1 = x) = (l.take k).filter (fun e => e.1 = x) ++ [(y, s)]) := ⟨by rw [ht.out, List.filter_append]; simp [hq]⟩
        clear hq
        go_wp2_with (first
          | (at_builtin; refine wpList_appEP (y := y) (s := s) rfl (.tmp 17) (.tmp 19) rfl w.heap.size A2 n2 c2 _ rfl O2.out _ rfl rfl S2.out (by omega) (by omega) ?_; intro A4 c4 w4 ho4 hb4; have O4 := Kept.mk ho4; have B4 := Kept.mk hb4; clear ho4 hb4)
          | (go_at_call 87; refine CL.out.mono ?_; rintro r w2 ⟨rfl, hg⟩; have hbl := hg.below; have hbz := hbl.size; have B2 := Kept.mk (BA.out.trans (hbl.mono BA.out.size)); have O2 := Kept.mk (O1.out.keep hbl); have S2 := Kept.mk (own_keepI SS.out B2.out); have X2 := (hbl.block wr.heap.size hlw).trans X1.out; have z0 := cell_of_row _ _ 0 _ _ _ X2; have z1 := cell_of_row _ _ 1 _ _ _ X2; have z2 := cell_of_row _ _ 2 _ _ _ X2; clear hg hbl CL X2))
        go_roundw
        case rel => exact ⟨k + 1, by omega, by go_num, A4, n2 + 1, c4, rfl, by rw [ht2.out]; exact O4.out, by omega, B2.out.trans B4.out⟩
        case measure => simp [intOf]; omega
      · rw [decide_eq_false hq] at CL
        have ht2 : Kept ((l.take (k + 1)).filter (fun e => e.1 = x) = (l.take k).filter (fun e => e.1 = x)) := ⟨by rw [ht.out, List.filter_append]; simp [hq]⟩
        clear hq
        go_wp2_with (go_at_call 87; refine CL.out.mono ?_; rintro r w2 ⟨rfl, hg⟩; have hbl := hg.below; have B2 := Kept.mk (BA.out.trans (hbl.mono BA.out.size)); have O2 := Kept.mk (O1.out.keep hbl); clear hg hbl CL)
        go_roundw
        case rel => exact ⟨k + 1, by omega, by go_num, A2, n2, c2, rfl, by rw [ht2.out]; exact O2.out, by omega, B2.out⟩
        case measure => simp [intOf]; omega
    · obtain rfl : k = n := by omega
      have ht : l.take k = l := List.take_of_length_le (by have := HN.out; omega)
      go_wp2
      go_ret
      exact ⟨A2, n2, c2, rfl, by rw [← ht]; exact O.out, HB.out⟩
set_option maxRecDepth 100000 in
set_option maxHeartbeats 4000000 in
theorem filterN_any (A : Option Addr) (n c bx : Nat) (l : List EntV) (x : ByteArray) (w : World) (hv : RdEn w w.heap.size A n c l) (hn1 : n ≤ 1000000) (h0 : w.cell? ⟨bx, 0, none⟩ = some (.string x)) (hbx : bx < w.heap.size) :
    Calls Try.prog 86 #[.slice A n c, .func (.func 88) #[] #[.pointer (some ⟨bx, 0, none⟩)]] w fun r w' => ∃ A2 n2 c2, r = .returned (.slice A2 n2 c2) ∧ OwnEn 110 w' w.heap.size A2 n2 c2 (l.filter fun e => e.1.n = x) ∧ Below w.heap.size w w' := by
  have hcc := hv.cap
  have hlc := hcc.1
  have hcm := hcc.2
  unfold maxLen at hcm
  have V := Kept.mk hv
  have HN := Kept.mk hv.len
  have HX : Kept (∀ W, Below w.heap.size w W → W.cell? ⟨bx, 0, none⟩ = some (.string x)) := ⟨fun W hW => (hW.cell (p := ⟨bx, 0, none⟩) hbx).trans h0⟩
  clear h0
  clear hv hcc
  go_enter Try.func86, Try.ntmps86
  go_wp2
  go_loopw [5, 10] (fun o i wr => ∃ k : Nat, k ≤ n ∧ i = .int .i64 k ∧ ∃ (A2 : Option Addr) (n2 c2 : Nat), o = .slice A2 n2 c2 ∧ OwnEn 110 wr w.heap.size A2 n2 c2 ((l.take k).filter fun e => e.1.n = x) ∧ n2 ≤ k ∧ Below w.heap.size w wr) (fun _ i _ => n - (intOf i).toNat)
  case atStart => exact ⟨0, by omega, rfl, none, 0, 0, rfl, by simpa using OwnEn.nil w w.heap.size, by omega, Below.refl _ _⟩
  case round =>
    obtain ⟨k, hk, rfl, A2, n2, c2, rfl, ho, hn2, hb⟩ := hrel
    have HB := Kept.mk hb
    have hzr := hb.size
    have O := Kept.mk ho
    clear ho hb
    by_cases hlt : k < n
    · have hkl : k < l.length := by rw [← HN.out]; exact hlt
      obtain ⟨b, off, A1, n1, c1, rfl, hbB, hS, hc⟩ := V.out.cells (Nat.le_refl _) hkl
      have ht := Kept.mk (List.take_succ_eq_append_getElem hkl)
      have HC := Kept.mk hc
      have SS := Kept.mk hS
      clear hc hS
      generalize l[k] = e at *
      obtain ⟨y, s⟩ := e
      simp only [] at HC SS
      obtain ⟨c0, c1', c2'⟩ := HC.out wr HB.out
      have hba : Below w.heap.size w (wr.alloc (Obj.cells #[.string y.n, .string y.v, .slice A1 n1 c1] 110)) := HB.out.alloc hzr _
      have O1 := Kept.mk (O.out.keep ((Below.refl _ _).alloc (Nat.le_refl _) (Obj.cells #[.string y.n, .string y.v, .slice A1 n1 c1] 110)))
      have X1 := Kept.mk (heap_alloc_new wr (Obj.cells #[.string y.n, .string y.v, .slice A1 n1 c1] 110))
      have CL := Kept.mk (named1_any x y A1 n1 c1 bx _ (HX.out _ hba) (by simp; omega))
      have BA := Kept.mk hba
      have hlw : wr.heap.size < (wr.alloc (Obj.cells #[.string y.n, .string y.v, .slice A1 n1 c1] 110)).heap.size := by simp
      clear hba
      by_cases hq : y.n = x
      · rw [decide_eq_true hq] at CL
        have ht2 : Kept ((l.take (k + 1)).filter (fun e => e.1.n = x) = (l.take k).filter (fun e => e.1.n = x) ++ [(y, s)]) := ⟨by rw [ht.out, List.filter_append]; simp [hq]⟩
        clear hq
        go_wp2_with (first
          | (at_builtin; refine wpList_appEP (y := y) (s := s) rfl (.tmp 17) (.tmp 19) rfl w.heap.size A2 n2 c2 _ rfl O2.out _ rfl rfl S2.out (by omega) (by omega) ?_; intro A4 c4 w4 ho4 hb4; have O4 := Kept.mk ho4; have B4 := Kept.mk hb4; clear ho4 hb4)
          | (go_at_call 88; refine CL.out.mono ?_; rintro r w2 ⟨rfl, hg⟩; have hbl := hg.below; have hbz := hbl.size; have B2 := Kept.mk (BA.out.trans (hbl.mono BA.out.size)); have O2 := Kept.mk (O1.out.keep hbl); have S2 := Kept.mk (own_keepI SS.out B2.out); have X2 := (hbl.block wr.heap.size hlw).trans X1.out; have z0 := cell_of_row _ _ 0 _ _ _ X2; have z1 := cell_of_row _ _ 1 _ _ _ X2; have z2 := cell_of_row _ _ 2 _ _ _ X2; clear hg hbl CL X2))
        go_roundw
        case rel => exact ⟨k + 1, by omega, by go_num, A4, n2 + 1, c4, rfl, by rw [ht2.out]; exact O4.out, by omega, B2.out.trans B4.out⟩
        case measure => simp [intOf]; omega
      · rw [decide_eq_false hq] at CL
        have ht2 : Kept ((l.take (k + 1)).filter (fun e => e.1.n = x) = (l.take k).filter (fun e => e.1.n = x)) := ⟨by rw [ht.out, List.filter_append]; simp [hq]⟩
        clear hq
        go_wp2_with (go_at_call 88; refine CL.out.mono ?_; rintro r w2 ⟨rfl, hg⟩; have hbl := hg.below; have B2 := Kept.mk (BA.out.trans (hbl.mono BA.out.size)); have O2 := Kept.mk (O1.out.keep hbl); clear hg hbl CL)
        go_roundw
        case rel => exact ⟨k + 1, by omega, by go_num, A2, n2, c2, rfl, by rw [ht2.out]; exact O2.out, by omega, B2.out⟩
        case measure => simp [intOf]; omega
    · obtain rfl : k = n := by omega
      have ht : l.take k = l := List.take_of_length_le (by have := HN.out; omega)
      go_wp2
      go_ret
      exact ⟨A2, n2, c2, rfl, by rw [← ht]; exact O.out, HB.out⟩
theorem infoII : (Try.prog.info? 70).map (fun i => (i.zero, i.size, i.bytes)) = some (some (.slice none 0 0), 1, 24) := by kernel_rfl
theorem Rd.hdI (w : World) (A : Option Addr) (n c : Nat) : Rd (w.alloc (.cells #[.slice A n c] 70)) (w.heap.size + 1) 1 (some ⟨w.heap.size, 0, none⟩) 1 1 [.slice A n c] :=
  ⟨Nat.le_refl _, by unfold maxLen; omega, rfl, fun _ => ⟨_, 0, rfl, by omega, fun i u hu => by
    rw [Nat.zero_add]
    exact (World.cell?_alloc_mark w _ _ _ i).trans (by simpa using hu)⟩⟩
theorem cells_hs {w : World} {B n c k : Nat} {A : Option Addr} {es : List EntV} {hs : List Value} (_ : hs.length = es.length) (h2 : Rd w B 3 A n c (eflat es hs)) (hB : B ≤ w.heap.size) (hk : k < es.length) (hkh : k < hs.length) (hkn : k < n) :
    ∃ b off, A = some ⟨b, off, none⟩ ∧ ∀ W, Below w.heap.size w W → W.cell? ⟨b, off + k * 3, none⟩ = some (.string es[k].1.n) ∧ W.cell? ⟨b, off + k * 3 + 1, none⟩ = some (.string es[k].1.v) ∧ W.cell? ⟨b, off + k * 3 + 2, none⟩ = some hs[k] := by
  obtain ⟨b, off, rfl, hb, hc⟩ := h2.2.2.2 (by omega)
  have g0 := eflat_get es hs k 0 hk hkh (by omega)
  have g1 := eflat_get es hs k 1 hk hkh (by omega)
  have g2 := eflat_get es hs k 2 hk hkh (by omega)
  refine ⟨b, off, rfl, fun W hW => ⟨?_, ?_, ?_⟩⟩
  · exact (hW.cell (p := ⟨b, _, none⟩) (by show b < _; omega)).trans (hc (k * 3) _ (by simpa [ecell] using g0))
  · exact (hW.cell (p := ⟨b, _, none⟩) (by show b < _; omega)).trans (by rw [Nat.add_assoc]; exact hc (k * 3 + 1) _ (by simpa [ecell] using g1))
  · exact (hW.cell (p := ⟨b, _, none⟩) (by show b < _; omega)).trans (by rw [Nat.add_assoc]; exact hc (k * 3 + 2) _ (by simpa [ecell] using g2))
set_option maxRecDepth 100000 in
set_option maxHeartbeats 4000000 in
theorem union15_any (A : Option Addr) (n c : Nat) (l : List EntV) (w : World) (hv : RdEn w w.heap.size A n c l) (hn1 : n ≤ 1000000) (htot : Ls.tot (l.map (·.2)) ≤ 1000000) :
    Calls Try.prog 85 #[.slice A n c] w fun r w' => ∃ A2 n2 c2, r = .returned (.slice A2 n2 c2) ∧ OwnI w' w.heap.size A2 n2 c2 (Ls.puni [] (l.map (·.2))) ∧ Below w.heap.size w w' := by
  have hcc := hv.cap
  have hlc := hcc.1
  have hcm := hcc.2
  unfold maxLen at hcm
  have V := Kept.mk hv
  have HN := Kept.mk hv.len
  have HT := Kept.mk htot
  obtain ⟨hs, hh1, hh2, hh3⟩ := hv
  have H1 := Kept.mk hh1
  have H2 := Kept.mk hh2
  have H3 := Kept.mk (show Ser w hs l from hh3)
  obtain ⟨i0, hi0, hz0, hz1, hz2⟩ := info_parts infoII
  have HI := Kept.mk (And.intro hi0 (And.intro hz0 (And.intro hz1 hz2)))
  clear hcc hh1 hh2 hh3 htot hi0 hz0 hz1 hz2
  go_enter Try.func85, Try.ntmps85
  go_wp2
  go_loopw [3, 8] (fun o i wr => ∃ k : Nat, k ≤ n ∧ i = .int .i64 k ∧ ∃ (A2 : Option Addr) (c2 : Nat), o = .slice A2 k c2 ∧ wr.ownsRow w.heap.size 70 1 (.slice A2 k c2) k (hs.take k) ∧ Below w.heap.size w wr) (fun _ i _ => n - (intOf i).toNat)
  case atStart => exact ⟨0, by omega, rfl, none, 0, rfl, by simpa using World.ownsRow_nil _ _ _ _, Below.refl _ _⟩
  case round =>
    obtain ⟨k, hk, rfl, A2, c2, rfl, ho, hb⟩ := hrel
    have HB := Kept.mk hb
    have hzr := hb.size
    have O := Kept.mk ho
    clear ho hb
    by_cases hlt : k < n
    · have hkl : k < l.length := by rw [← HN.out]; exact hlt
      have hkh : k < hs.length := by rw [H1.out]; exact hkl
      obtain ⟨b, off, rfl, hc⟩ := cells_hs H1.out H2.out (Nat.le_refl _) hkl hkh hlt
      obtain ⟨A1, n1, c1, e, _⟩ := H3.out k hkh hkl
      have ht := Kept.mk (List.take_succ_eq_append_getElem hkh)
      obtain ⟨c0, c1', c2'⟩ := hc wr HB.out
      rw [e] at c2' ht
      clear hc e
      generalize l[k] = x at *
      have OA := Kept.mk (World.ownsRow.alloc O.out (Obj.cells #[.string x.1.n, .string x.1.v, .slice A1 n1 c1] 110))
      have OB := Kept.mk (World.ownsRow.alloc OA.out (Obj.cells #[.slice A1 n1 c1] 70))
      have RH := Kept.mk (Rd.hdI (wr.alloc (Obj.cells #[.string x.1.n, .string x.1.v, .slice A1 n1 c1] 110)) A1 n1 c1)
      obtain ⟨hi0, hz0, hz1, hz2⟩ := HI.out
      rw [World.size_alloc] at RH
      go_wp2_with (at_builtin; refine wpList_app _ rfl (.tmp 12) (.tmp 15) _ rfl w.heap.size 70 i0 (.slice none 0 0) 1 24 Try.underlying154 hi0 hz0 hz1 hz2 rfl (by decide) A2 k c2 _ rfl OB.out _ _ _ _ [.slice A1 n1 c1] rfl RH.out (by intro u hu; simp at hu; subst hu; rfl) (by unfold maxLen; omega) (by omega) (by simp; omega) ?_; intro A5 c5 w5 hown5 hgrow5 hat5; have O5 := Kept.mk hown5; have G5 := Kept.mk hgrow5; clear hown5 hgrow5 hat5 hi0 hz0 hz1 hz2)
      go_roundw
      case rel => exact ⟨k + 1, by omega, by go_num, A5, c5, rfl, by rw [ht.out]; exact O5.out, ((HB.out.alloc hzr _).alloc (by simp; omega) _).grown G5.out (by simp; omega) (fun g hg => (own_lt O.out g hg).1)⟩
      case measure => simp [intOf]; omega
    · obtain rfl : k = n := by omega
      have ht : hs.take k = hs := List.take_of_length_le (by have := HN.out; have := H1.out; omega)
      rw [ht] at O
      have UN := Kept.mk (union_any A2 k c2 wr.heap.size (l.map (·.2)) wr ⟨hs, Rd.of_own O.out, by rw [List.length_map]; exact H1.out, fun i m hm => by
        have him : i < l.length := by
          rcases Nat.lt_or_ge i (l.map (·.2)).length with h | h
          · simpa using h
          · rw [List.getElem?_eq_none h] at hm; cases hm
        have hih : i < hs.length := by rw [H1.out]; exact him
        obtain ⟨A3, n3, c3, e, o⟩ := H3.out i hih him
        refine ⟨A3, n3, c3, by rw [List.getElem?_eq_getElem hih, e], ?_⟩
        have : l[i].2 = m := by
          rw [List.getElem?_map, List.getElem?_eq_getElem him] at hm
          exact Option.some.inj hm
        rw [← this]
        exact OwnI.rd (own_keepI o HB.out)⟩ (Nat.le_refl _) HT.out)
      clear ht
      go_wp2_with (go_at_call 111; refine UN.out.mono ?_; rintro r w3 ⟨A3, n3, c3, rfl, -, ho3, hb3⟩; have O3 := Kept.mk ho3; have B3 := Kept.mk hb3; clear ho3 hb3)
      go_ret
      exact ⟨A3, n3, c3, rfl, own_rebase O3.out hzr, HB.out.trans (B3.out.mono hzr)⟩
set_option maxRecDepth 100000 in
set_option maxHeartbeats 4000000 in
theorem find15_any (A : Option Addr) (n c : Nat) (l : List EntV) (x : Lab) (w : World) (hv : RdEn w w.heap.size A n c l) (hn1 : n ≤ 1000000) (htot : Ls.tot ((l.filter fun e => e.1 = x).map (·.2)) ≤ 1000000) :
    Calls Try.prog 46 #[.slice A n c, lbv x] w fun r w' => ∃ A2 n2 c2, r = .returned (.slice A2 n2 c2) ∧ OwnI w' w.heap.size A2 n2 c2 (Ls.puni [] ((l.filter fun e => e.1 = x).map (·.2))) ∧ Below w.heap.size w w' := by
  have hb0 : Below w.heap.size w (w.alloc (Obj.cells #[.string x.n, .string x.v] 67)) := (Below.refl _ _).alloc (Nat.le_refl _) _
  have FL := Kept.mk (filterF_any A n c w.heap.size l x (w.alloc (Obj.cells #[.string x.n, .string x.v] 67)) (hv.on hb0) hn1 (World.cell?_alloc_mark w _ _ _ 0) (World.cell?_alloc_mark w _ _ _ 1) (by simp))
  have HB0 := Kept.mk hb0
  have hz0 : w.heap.size ≤ (w.alloc (Obj.cells #[.string x.n, .string x.v] 67)).heap.size := hb0.size
  have HN := Kept.mk hv.len
  have UN : Kept (∀ W A2 n2 c2, OwnEn 110 W (w.alloc (Obj.cells #[.string x.n, .string x.v] 67)).heap.size A2 n2 c2 (l.filter fun e => e.1 = x) → Calls Try.prog 85 #[.slice A2 n2 c2] W fun r w' => ∃ A2 n2 c2, r = .returned (.slice A2 n2 c2) ∧ OwnI w' W.heap.size A2 n2 c2 (Ls.puni [] ((l.filter fun e => e.1 = x).map (·.2))) ∧ Below W.heap.size W w') := ⟨fun W A2 n2 c2 ho => union15_any A2 n2 c2 _ W ho.rd (by
    have h1 := ho.len
    have h2 := List.length_filter_le (fun e : EntV => decide (e.1 = x)) l
    have := HN.out
    omega) htot⟩
  clear hb0 hv htot
  unfold lbv
  go_enter Try.func46, Try.ntmps46
  go_wp2_with (first
    | (go_at_call 85; refine (UN.out _ _ _ _ O2.out).mono ?_; rintro r w3 ⟨A3, n3, c3, rfl, ho3, hb3⟩; have O3 := Kept.mk ho3; have B3 := Kept.mk hb3; clear ho3 hb3)
    | (go_at_call 86; refine FL.out.mono ?_; rintro r w2 ⟨A2, n2, c2, rfl, ho2, hb2⟩; have O2 := Kept.mk ho2; have B2 := Kept.mk (HB0.out.trans (hb2.mono hz0)); clear ho2 hb2 FL))
  go_ret
  exact ⟨A3, n3, c3, rfl, own_rebase O3.out B2.out.size, B2.out.trans (B3.out.mono B2.out.size)⟩
set_option maxRecDepth 100000 in
set_option maxHeartbeats 4000000 in
theorem named15_any (A : Option Addr) (n c : Nat) (l : List EntV) (x : ByteArray) (w : World) (hv : RdEn w w.heap.size A n c l) (hn1 : n ≤ 1000000) (htot : Ls.tot ((l.filter fun e => e.1.n = x).map (·.2)) ≤ 1000000) :
    Calls Try.prog 47 #[.slice A n c, .string x] w fun r w' => ∃ A2 n2 c2, r = .returned (.slice A2 n2 c2) ∧ OwnI w' w.heap.size A2 n2 c2 (Ls.puni [] ((l.filter fun e => e.1.n = x).map (·.2))) ∧ Below w.heap.size w w' := by
  have hb0 : Below w.heap.size w (w.alloc (Obj.cells #[.string x] 9)) := (Below.refl _ _).alloc (Nat.le_refl _) _
  have FL := Kept.mk (filterN_any A n c w.heap.size l x (w.alloc (Obj.cells #[.string x] 9)) (hv.on hb0) hn1 (World.cell?_alloc_mark w _ _ _ 0) (by simp))
  have HB0 := Kept.mk hb0
  have hz0 : w.heap.size ≤ (w.alloc (Obj.cells #[.string x] 9)).heap.size := hb0.size
  have HN := Kept.mk hv.len
  have UN : Kept (∀ W A2 n2 c2, OwnEn 110 W (w.alloc (Obj.cells #[.string x] 9)).heap.size A2 n2 c2 (l.filter fun e => e.1.n = x) → Calls Try.prog 85 #[.slice A2 n2 c2] W fun r w' => ∃ A2 n2 c2, r = .returned (.slice A2 n2 c2) ∧ OwnI w' W.heap.size A2 n2 c2 (Ls.puni [] ((l.filter fun e => e.1.n = x).map (·.2))) ∧ Below W.heap.size W w') := ⟨fun W A2 n2 c2 ho => union15_any A2 n2 c2 _ W ho.rd (by
    have h1 := ho.len
    have h2 := List.length_filter_le (fun e : EntV => decide (e.1.n = x)) l
    have := HN.out
    omega) htot⟩
  clear hb0 hv htot
  skip
  go_enter Try.func47, Try.ntmps47
  go_wp2_with (first
    | (go_at_call 85; refine (UN.out _ _ _ _ O2.out).mono ?_; rintro r w3 ⟨A3, n3, c3, rfl, ho3, hb3⟩; have O3 := Kept.mk ho3; have B3 := Kept.mk hb3; clear ho3 hb3)
    | (go_at_call 86; refine FL.out.mono ?_; rintro r w2 ⟨A2, n2, c2, rfl, ho2, hb2⟩; have O2 := Kept.mk ho2; have B2 := Kept.mk (HB0.out.trans (hb2.mono hz0)); clear ho2 hb2 FL))
  go_ret
  exact ⟨A3, n3, c3, rfl, own_rebase O3.out B2.out.size, B2.out.trans (B3.out.mono B2.out.size)⟩
end Go.Proofs.Ythhcfocmaiacoaa
