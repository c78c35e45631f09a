/- The law ListsMorgan. -/
import Derived.Test.YtoomdjjjkolloabListsMath2
import Derived.Test.YtoomdjjjkolloabListsL4
namespace Go.Proofs.Ytoomdjjjkolloab
open Go.RowKit Go.Shelf

theorem RdII.two_b {w : World} {B n1 c1 n2 c2 : Nat} {A1 A2 : Option Addr} {l1 l2 : List Int} (h1 : RdI w B A1 n1 c1 l1) (h2 : RdI w B A2 n2 c2 l2) (hB : B ≤ w.heap.size) (o : Obj) :
    RdII ((w.alloc (.cells #[.slice A1 n1 c1, .slice A2 n2 c2] 22)).alloc o) (w.heap.size + 1) (some ⟨w.heap.size, 0, none⟩) 2 2 [l1, l2] :=
  (RdII.two h1 h2 hB).below ((Below.refl _ _).alloc (by simp) _)
theorem below_push {w w' : World} (h : Below w.heap.size w w') (o : Obj) : Below w.heap.size w (w'.alloc o) := h.alloc h.size o
theorem below_next {w W W' : World} (h : Below w.heap.size w W) (h2 : Below W.heap.size W W') : Below w.heap.size w W' := h.trans (h2.mono h.size)
theorem RdII.two_c {w : World} {B n1 c1 n2 c2 : Nat} {A1 A2 : Option Addr} {l1 l2 : List Int} (h1 : RdI w B A1 n1 c1 l1) (h2 : RdI w B A2 n2 c2 l2) (hB : B ≤ w.heap.size) (o : Obj) :
    RdII ((w.alloc o).alloc (.cells #[.slice A1 n1 c1, .slice A2 n2 c2] 22)) (w.heap.size + 1 + 1) (some ⟨w.heap.size + 1, 0, none⟩) 2 2 [l1, l2] := by
  have h := RdII.two (h1.alloc hB o) (h2.alloc hB o) (by simp; omega)
  rwa [World.size_alloc] at h
set_option maxRecDepth 100000 in
set_option maxHeartbeats 8000000 in
theorem law_morgan (A1 A2 : Option Addr) (n1 n2 c1 c2 : Nat) (l1 l2 : List Int) (kk : UInt8) (w : World) (h1 : RdI w w.heap.size A1 n1 c1 l1) (h2 : RdI w w.heap.size A2 n2 c2 l2) :
    Calls Try.prog 7 #[.slice A1 n1 c1, .slice A2 n2 c2, .int .u8 (kk.toNat : Int)] w fun e w' => e = .returned (.bool true) ∧ Below w.heap.size w w' := by
  have R0 := Kept.mk (RdII.two h1 h2 (Nat.le_refl _))
  have hb0 : Below w.heap.size w (w.alloc (.cells #[.slice A1 n1 c1, .slice A2 n2 c2] 22)) := (Below.refl _ w).alloc (Nat.le_refl _) _
  have hk8 : kk.toNat < 256 := kk.toNat_lt
  clear h1 h2
  generalize kk.toNat = k at *
  go_enter Try.func7, Try.ntmps7
  go_upto_region 1 with fail
  go_cut [7, 8] (fun m k wx => Below w.heap.size w wx ∧ ((m = .slice none 0 0 ∧ k = .int .i64 0) ∨ (∃ A3 c3 M, m = .slice A3 2 c3 ∧ k = .int .i64 1 ∧ M = Ls.sl [l1, l2] ∧ Ls.wt [l1, l2] ≤ 300 ∧ OwnII wx w.heap.size A3 2 c3 M)))
  case first =>
    go_wp2_with (go_at_call 12; refine (sorted_any _ _ _ _ [l1, l2] _ R0.out (by simp)).mono ?_; rintro e w2 ⟨hb, (⟨h1, rfl⟩ | ⟨h1, A3, c3, rfl, ho⟩)⟩)
    · go_meet
      exact ⟨hb0.trans (hb.mono (by simp)), .inl ⟨rfl, rfl⟩⟩
    · go_meet
      refine ⟨hb0.trans (hb.mono (by simp)), .inr ⟨A3, c3, _, rfl, rfl, rfl, h1, ?_⟩⟩
      exact ho.base (by simp)
  case rest =>
    rename World => wx
    obtain ⟨hb, (⟨rfl, rfl⟩ | ⟨A3, c3, M, rfl, rfl, hM, hwt, ho⟩)⟩ := hcut
    · go_wp2_with (go_at_call 9; refine (alive_any _).mono ?_; rintro e w1 ⟨rfl, hb1⟩)
      go_ret
      exact ⟨rfl, hb.trans (hb1.mono hb.size)⟩
    · subst hM
      have hcap1 := ho.rd.cap.1
      have hcap2 := ho.rd.cap.2
      unfold maxLen at hcap2
      obtain ⟨b, off, A', n', c', rfl, hbb, hcell, hr⟩ := ho.rd.at_ (k := 0) (by simp [Ls.sl])
      obtain ⟨b', off', A'', n'', c'', e4, _, hcell2, hr2⟩ := ho.rd.at_ (k := 1) (by simp [Ls.sl])
      simp only [Option.some.injEq, Addr.mk.injEq, and_true] at e4
      obtain ⟨rfl, rfl⟩ := e4
      have e0 : (Ls.sl [l1, l2])[0]'(by simp [Ls.sl]) = Ls.uni [l1] := rfl
      have e1 : (Ls.sl [l1, l2])[1]'(by simp [Ls.sl]) = Ls.uni [l2] := rfl
      rw [e0] at hr
      rw [e1] at hr2
      rw [Nat.add_zero] at hcell
      have h3 : Ls.wt [l1, l2] = 1 + min l1.length 300 + (1 + min l2.length 300) := by simp [Ls.wt]
      have hlen : n' ≤ 300 := by
        have h1 := hr.len
        have h2 := Ls.uni1_len l1
        omega
      have hlen2 : n'' ≤ 300 := by
        have h1 := hr2.len
        have h2 := Ls.uni1_len l2
        omega
      have s1 := Kept.mk (Ls.uni_S [l1])
      have s2 := Kept.mk (Ls.uni_S [l2])
      have Hr := Kept.mk hr
      have Hr2 := Kept.mk hr2
      clear hr hr2 ho e0 e1 hwt h3
      generalize Ls.uni [l1] = M1 at *
      generalize Ls.uni [l2] = M2 at *
      have hz := hb.size
      go_upto_region 5 with fail
      go_cut [10, 11] (fun x y wy => ∃ A4 n4 c4 A5 n5 c5, x = .slice A4 n4 c4 ∧ y = .slice A5 n5 c5 ∧ Below wx.heap.size wx wy ∧ RdI wy wy.heap.size A4 n4 c4 (Ls.cmp k M1) ∧ RdI wy wy.heap.size A5 n5 c5 (Ls.cmp k M2))
      case first =>
        go_region_held3 (fun w' => w'.cell? ⟨b, off, none⟩ = some (.slice A' n' c') ∧ w'.cell? ⟨b, off + 1, none⟩ = some (.slice A'' n'' c'')) (first | exact ⟨hcell, hcell2⟩ | exact k1 | exact k2)
          (first
            | (go_at_call 20; refine (complement_any _ _ _ _ M1 (k : Int) _ (by exact Hr.out) (Nat.le_refl _) (by omega) (by omega) (by omega)).mono ?_; rintro e w1 ⟨A4, n4, c4, rfl, -, ho4, hb1'⟩; have hb1 := below_drew_of hb1'; have hs1 := hb1.size; have k1 : w1.cell? ⟨b, off, none⟩ = some (.slice A' n' c') ∧ w1.cell? ⟨b, off + 1, none⟩ = some (.slice A'' n'' c'') := ⟨(hb1.cell (p := ⟨b, off, none⟩) hbb).trans hcell, (hb1.cell (p := ⟨b, off + 1, none⟩) hbb).trans hcell2⟩; have R2 := Kept.mk (Hr2.out.below hb1); clear Hr; have P4 := Kept.mk ho4; clear ho4)
            | (go_at_call 20; refine (complement_any _ _ _ _ M2 (k : Int) _ R2.out hs1 (by omega) (by omega) (by omega)).mono ?_; rintro e w2 ⟨A5, n5, c5, rfl, -, ho5, hb2'⟩; have hb2 := hb1.trans (hb2'.mono hs1); have k2 : w2.cell? ⟨b, off, none⟩ = some (.slice A' n' c') ∧ w2.cell? ⟨b, off + 1, none⟩ = some (.slice A'' n'' c'') := ⟨(hb2.cell (p := ⟨b, off, none⟩) hbb).trans hcell, (hb2.cell (p := ⟨b, off + 1, none⟩) hbb).trans hcell2⟩; have Q4 := Kept.mk (P4.out.rd.below hb2'); have P5 := Kept.mk ho5.rd; clear ho5))
        go_wp2
        go_meet
        refine ⟨A4, n4, c4, A5, n5, c5, rfl, rfl, hb2, ?_, ?_⟩
        · have h := Q4.out.more hb2'.size
          simpa [Ls.cmp] using h
        · have h := P5.out
          simpa [Ls.cmp] using h
      case rest =>
        rename World => wy
        obtain ⟨A4, n4, c4, A5, n5, c5, rfl, rfl, hby, rx, ry⟩ := hcut
        have hx4 : n4 ≤ 256 := by
          have h1 := rx.len
          have h2 := Ls.cmp_len k M1 s1.out
          omega
        have hx5 : n5 ≤ 256 := by
          have h1 := ry.len
          have h2 := Ls.cmp_len k M2 s2.out
          omega
        have HX := Kept.mk (Ls.srt_true (Ls.cmp_S k s1.out))
        have HY := Kept.mk (Ls.srt_true (Ls.cmp_S k s2.out))
        have E1 : Kept (Ls.pick (fun _ s => !s) (Ls.upto (k : Int).toNat) (Ls.puni [] [M1, M2]) = Ls.piscs [Ls.cmp k M1, Ls.cmp k M2]) := ⟨by have h := Ls.morgan1 k M1 M2 s1.out s2.out; simpa [Ls.cmp, Ls.piscs] using h⟩
        have E2 : Kept (Ls.pick (fun _ s => !s) (Ls.cmp k M1) M2 = Ls.piscs [Ls.cmp k M1, Ls.cmp k M2]) := ⟨by have h := Ls.morgan2 k M1 M2 s1.out s2.out; simpa [Ls.piscs] using h⟩
        have E3 : Kept (Ls.pick (fun _ s => !s) (Ls.upto k) M1 = Ls.cmp k M1) := ⟨rfl⟩
        have E4 : Kept (Ls.pick (fun _ s => !s) (Ls.upto (k : Int).toNat) [] = Ls.upto k) := ⟨by have h := Ls.cmp_nil k; simpa [Ls.cmp] using h⟩
        have hU : Ls.tot [M1, M2] ≤ 600 := by
          have h1 := Hr.out.len
          have h2 := Hr2.out.len
          simp [Ls.tot]
          omega
        have hI : Ls.tot [Ls.cmp k M1, Ls.cmp k M2] ≤ 600 := by
          have h1 := rx.len
          have h2 := ry.len
          simp [Ls.tot]
          omega
        have TU := Kept.mk hU
        have TI := Kept.mk hI
        have HC : Kept (∀ W, Below wy.heap.size wy W → W.cell? ⟨b, off, none⟩ = some (.slice A' n' c') ∧ W.cell? ⟨b, off + 1, none⟩ = some (.slice A'' n'' c'')) := ⟨fun W h =>
          ⟨((below_next hby h).cell (p := ⟨b, off, none⟩) hbb).trans hcell, ((below_next hby h).cell (p := ⟨b, off + 1, none⟩) hbb).trans hcell2⟩⟩
        have HM1 : Kept (∀ W, Below wy.heap.size wy W → RdI W wy.heap.size A' n' c' M1) := ⟨fun W h => ((Hr.out.below hby).more hby.size).below h⟩
        have HM2 : Kept (∀ W, Below wy.heap.size wy W → RdI W wy.heap.size A'' n'' c'' M2) := ⟨fun W h => ((Hr2.out.below hby).more hby.size).below h⟩
        have HRX : Kept (∀ W, Below wy.heap.size wy W → RdI W wy.heap.size A4 n4 c4 (Ls.cmp k M1)) := ⟨fun W h => rx.below h⟩
        have HRY : Kept (∀ W, Below wy.heap.size wy W → RdI W wy.heap.size A5 n5 c5 (Ls.cmp k M2)) := ⟨fun W h => ry.below h⟩
        have hcy := HC.out wy (Below.refl _ _)
        have hwz := below_next hb hby
        clear Hr Hr2 rx ry hcell hcell2 hU hI
        generalize Ls.cmp k M1 = X at *
        generalize Ls.cmp k M2 = Y at *
        go_upto_region 6 with fail
        go_cut [60] (fun t wz => t = .bool false ∧ Below wy.heap.size wy wz)
        case first =>
          go_region_held3 (fun w' => w'.cell? ⟨b, off, none⟩ = some (.slice A' n' c') ∧ w'.cell? ⟨b, off + 1, none⟩ = some (.slice A'' n'' c'')) (first | exact HC.out _ hbc | exact HC.out _ (below_push hbc _) | exact HC.out _ (below_push (below_push hbc _) _) | exact hcy)
            (first
              | (go_at_call 10; refine (isSorted_is _ _ _ X true _ _ (by first | exact HRX.out _ ((Below.refl _ _).drew) | exact HRX.out _ (Below.refl _ _)) HX.out).mono ?_; rintro e w1 ⟨rfl, q1⟩; clear HX; have hbc : Below wy.heap.size wy w1 := below_drew_of (q1.below _))
              | (go_at_call 10; refine (isSorted_is _ _ _ Y true _ _ (HRY.out _ hbc) HY.out).mono ?_; rintro e w2 ⟨rfl, q2⟩; clear HY; replace hbc : Below wy.heap.size wy w2 := hbc.trans (q2.below _);
                  have u1 := Kept.mk (RdII.two (HM1.out _ hbc) (HM2.out _ hbc) hbc.size);
                  have u2 := Kept.mk (RdII.two_c (HM1.out _ hbc) (HM2.out _ hbc) hbc.size (.cells #[.slice A4 n4 c4, .slice A5 n5 c5] 22));
                  have u3 := Kept.mk (RdII.two_b (HM1.out _ hbc) (HM2.out _ hbc) hbc.size (.cells #[.slice A4 n4 c4, .slice A5 n5 c5] 22));
                  have v2 := Kept.mk (RdII.two_b (HRX.out _ hbc) (HRY.out _ hbc) hbc.size (.cells #[.slice A' n' c', .slice A'' n'' c''] 22));
                  have v3 := Kept.mk (RdII.two_c (HRX.out _ hbc) (HRY.out _ hbc) hbc.size (.cells #[.slice A' n' c', .slice A'' n'' c''] 22)))
              | (go_at_call 16; refine (union_any _ _ _ _ [M1, M2] _ (by first | (with_reducible exact u1.out) | (with_reducible exact u2.out) | (with_reducible exact u3.out)) (by simp) (by have := TU.out; omega)).mono ?_; rintro e w5 ⟨A6, n6, c6, rfl, hn6, ho6, hb5⟩;
                  (first | (have i5 := Kept.mk ((v2.out.below (hb5.mono (by simp))).more (B' := w5.heap.size) (by have := hb5.size; simp at this; omega))) | (have i5 := Kept.mk ((v3.out.below (hb5.mono (by simp))).more (B' := w5.heap.size) (by have := hb5.size; simp at this; omega))) | skip);
                  clear u1 u2 u3 v2 v3;
                  replace hbc : Below wy.heap.size wy w5 := (by first | (with_reducible exact below_next (below_push hbc _) hb5) | (with_reducible exact below_next (below_push (below_push hbc _) _) hb5));
                  have hn6' : n6 ≤ 600 := (by have := TU.out; omega);
                  have p5 := Kept.mk ho6.rd;
                  have p5' := Kept.mk (ho6.rd.alloc (Nat.le_refl _) (.cells #[.slice A4 n4 c4, .slice A5 n5 c5] 22));
                  have v5 := Kept.mk (RdII.two (HRX.out _ hbc) (HRY.out _ hbc) hbc.size);
                  clear ho6 hb5)
              | (go_at_call 20; refine (complement_any _ _ _ _ (Ls.puni [] [M1, M2]) (k : Int) _ (by first | (with_reducible exact p5.out) | (with_reducible exact p5'.out)) (by first | exact Nat.le_refl _ | simp) (by omega) (by omega) (by omega)).mono ?_; rintro e w7 ⟨A7, n7, c7, rfl, -, ho7, hb7⟩;
                  (first | (have i7 := Kept.mk ((i5.out.below hb7).more (B' := w7.heap.size) hb7.size)) | (have i7 := Kept.mk ((v5.out.below (hb7.mono (by simp))).more (B' := w7.heap.size) (by have := hb7.size; simp at this; omega))) | skip);
                  clear p5 p5' v5;
                  replace hbc : Below wy.heap.size wy w7 := (by first | (with_reducible exact below_next hbc hb7) | (with_reducible exact below_next (below_push hbc _) hb7));
                  have p7 := Kept.mk ho7.rd;
                  have v7 := Kept.mk (RdII.two (HRX.out _ hbc) (HRY.out _ hbc) hbc.size);
                  clear ho7 hb7)
              | (go_at_call 14; refine (intersect_any _ _ _ _ [X, Y] _ (by first | (with_reducible exact i7.out) | (with_reducible exact v7.out)) (by first | exact Nat.le_refl _ | (simp; done)) (by have := TI.out; omega)).mono ?_; rintro e w8 ⟨A8, n8, c8, rfl, -, ho8, hb8⟩;
                  have p8 := Kept.mk ho8.rd;
                  have p7' : Kept (RdI w8 w7.heap.size A7 n7 c7 (Ls.pick (fun _ s => !s) (Ls.upto (k : Int).toNat) (Ls.puni [] [M1, M2]))) := ⟨by first | exact p7.out.below hb8 | exact (p7.out.alloc (Nat.le_refl _) _).below (hb8.mono (by simp))⟩;
                  replace hbc : Below wy.heap.size wy w8 := (by first | (with_reducible exact below_next hbc hb8) | (with_reducible exact below_next (below_push hbc _) hb8));
                  clear p7 v7 ho8 hb8)
              | (go_at_call 13; refine (equalI_is _ _ _ _ _ _ (Ls.pick (fun _ s => !s) (Ls.upto (k : Int).toNat) (Ls.puni [] [M1, M2])) (Ls.piscs [X, Y]) true _ _ _ p7'.out p8.out (by rw [E1.out]; simp)).mono ?_; rintro e w9 ⟨rfl, q9⟩; replace hbc : Below wy.heap.size wy w9 := hbc.trans (q9.below _)))
          all_goals
            go_wp2
            go_meet
            exact ⟨rfl, hbc⟩
        case rest =>
          rename World => wz
          obtain ⟨rfl, hbz⟩ := hcut
          go_wp2_with (go_at_call 20; refine (complement_any none 0 0 wz.heap.size [] (k : Int) _ (by exact RdI.zero _ _ _ rfl (by unfold maxLen; omega)) (Nat.le_refl _) (by omega) (by omega) (by omega)).mono ?_; rintro e wa ⟨Aa, na, ca, rfl, -, hoa, hba⟩)
          rw [E4.out] at hoa
          have hla := hoa.len
          rw [Ls.upto_len] at hla
          obtain rfl : k = na := hla.symm
          have hbc := below_next hbz hba
          have hcz := HC.out _ hbc
          have P0 := Kept.mk hoa.rd
          clear hoa hba
          obtain ⟨kc0, kc1⟩ := hcz
          go_wp2_with (first
              | (go_at_call 9; refine (alive_any _).mono ?_; rintro e w1 ⟨rfl, hb1⟩; have hbd : Below wy.heap.size wy w1 := below_next hbc hb1; have P1 := Kept.mk (P0.out.below hb1); have z1 := hb1.size; clear hb1 P0; clear kc0 kc1; obtain ⟨kc0, kc1⟩ := HC.out _ hbd)
              | (go_at_call 18; refine (difference_any _ _ _ _ _ _ (Ls.upto k) M1 _ w1.heap.size (by exact P1.out.more z1) (by exact (HM1.out _ hbd).more hbd.size) (Nat.le_refl _) (by omega)).mono ?_; rintro e w2 ⟨A6, n6, c6, rfl, -, ho6, hb2⟩; rw [E3.out] at ho6; clear P1 z1; replace hbd : Below wy.heap.size wy w2 := below_next hbd hb2; have P6 := Kept.mk ho6.rd; have P6' := Kept.mk (HRX.out _ hbd); clear ho6 hb2)
              | (go_at_call 13; refine (equalI_is _ _ _ _ _ _ X X true _ _ _ P6.out P6'.out (by simp)).mono ?_; rintro e w3 ⟨rfl, q3⟩; clear P6 P6'; replace hbd : Below wy.heap.size wy w3 := hbd.trans (q3.below _); have x1 := Kept.mk (HRX.out _ hbd); have y1 := Kept.mk (HM2.out _ hbd); clear kc0 kc1; obtain ⟨kc0, kc1⟩ := HC.out _ hbd)
              | (go_at_call 18; refine (difference_any _ _ _ _ _ _ X M2 _ wy.heap.size x1.out y1.out hbd.size (by omega)).mono ?_; rintro e w4 ⟨A7, n7, c7, rfl, -, ho7, hb4⟩; clear x1 y1;
                  replace hbd : Below wy.heap.size wy w4 := below_next hbd hb4;
                  have p4 := Kept.mk ho7.rd;
                  have v4 := Kept.mk (RdII.two (HRX.out _ hbd) (HRY.out _ hbd) hbd.size);
                  clear ho7 hb4)
              | (go_at_call 14; refine (intersect_any _ _ _ _ [X, Y] _ v4.out (by simp) (by have := TI.out; omega)).mono ?_; rintro e w8 ⟨A8, n8, c8, rfl, -, ho8, hb8⟩;
                  have p8 := Kept.mk ho8.rd;
                  have p4' : Kept (RdI w8 w4.heap.size A7 n7 c7 (Ls.pick (fun _ s => !s) X M2)) := ⟨(p4.out.alloc (Nat.le_refl _) _).below (hb8.mono (by simp))⟩;
                  replace hbd : Below wy.heap.size wy w8 := below_next (below_push hbd _) hb8;
                  clear p4 v4 ho8 hb8)
              | (go_at_call 13; refine (equalI_is _ _ _ _ _ _ (Ls.pick (fun _ s => !s) X M2) (Ls.piscs [X, Y]) true _ _ _ p4'.out p8.out (by rw [E2.out]; simp)).mono ?_; rintro e w9 ⟨rfl, q9⟩; replace hbd : Below wy.heap.size wy w9 := hbd.trans (q9.below _)))
          go_ret
          exact ⟨rfl, below_next hwz hbd⟩
end Go.Proofs.Ytoomdjjjkolloab
