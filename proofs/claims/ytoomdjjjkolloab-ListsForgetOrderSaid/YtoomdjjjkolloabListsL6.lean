/- The law ListsForgetOrder. -/
import Derived.Test.YtoomdjjjkolloabListsJ
import Derived.Deep.RegionWith
namespace Go.Proofs.Ytoomdjjjkolloab
open Go.RowKit Go.Shelf

theorem bl_next {w W W' : World} (h : Below w.heap.size w W) (h2 : Below W.heap.size W W') : Below w.heap.size w W' := h.trans (h2.mono h.size)
theorem OwnI.keep {w w' : World} {base n c : Nat} {A : Option Addr} {l : List Int} (h : OwnI w base A n c l) (hb : Below w.heap.size w w') : OwnI w' base A n c l := own_below h hb (fun g hg => (own_lt h g hg).2)
theorem own_len {w : World} {base n c sz : Nat} {A : Option Addr} {xs : List Value} {e : TypeId} (h : w.ownsRow base e sz (.slice A n c) n xs) : xs.length = n * sz := h.1
/-- the headers and the lists of an own row of own rows -/
theorem OwnII.parts {w : World} {base n c : Nat} {A : Option Addr} {LL : List (List Int)} (h : OwnII w base A n c LL) :
    ∃ vs : List Value, w.ownsRow base 22 1 (.slice A n c) n vs ∧ vs.length = LL.length ∧ (∀ u ∈ vs, u.oneCell' = true) ∧ (∀ u ∈ vs, ∃ A n c, u = Value.slice A n c) ∧
      ∀ (i : Nat) (l : List Int), LL[i]? = some l → ∃ v, vs[i]? = some v ∧ ∃ A' n' c', v = .slice A' n' c' ∧ RdI w w.heap.size A' n' c' l := by
  obtain ⟨vs, h1, h2, h3, h4⟩ := h
  refine ⟨vs, h1, h2, h3, ?_, ?_⟩
  · intro u hu
    obtain ⟨i, hi⟩ := List.mem_iff_getElem?.1 hu
    have hl : i < LL.length := by rw [← h2]; exact (List.getElem?_eq_some_iff.1 hi).1
    obtain ⟨A', n', c', e, _⟩ := h4 i LL[i] (List.getElem?_eq_getElem hl)
    rw [hi] at e
    cases e
    exact ⟨_, _, _, rfl⟩
  · intro i l hi
    obtain ⟨A', n', c', e, ho⟩ := h4 i l hi
    exact ⟨_, e, _, _, _, rfl, ho.rd⟩

set_option maxRecDepth 100000 in
set_option maxHeartbeats 8000000 in
theorem law_forget (A : Option Addr) (n c : Nat) (LL : List (List Int)) (kk : UInt8) (w : World) (hv : RdII w w.heap.size A n c LL) :
    Calls Try.prog 8 #[.slice A n c, .int .u8 (kk.toNat : Int)] w fun e w' => e = .returned (.bool true) ∧ Below w.heap.size w w' := by
  have Hv := Kept.mk hv
  have hk8 : kk.toNat < 256 := kk.toNat_lt
  have htot := Kept.mk (Ls.tot_sl LL)
  have hwn := Kept.mk (Ls.wt_ge LL)
  have hnL := Kept.mk hv.len
  have HS := Kept.mk (Ls.sl_S LL)
  have hsl := Kept.mk (Ls.sl_len LL)
  clear hv
  generalize kk.toNat = k at *
  go_enter Try.func8, Try.ntmps8
  go_upto_region 1 with fail
  go_cut [5, 6] (fun m k wx => Below w.heap.size w wx ∧ ((m = .slice none 0 0 ∧ k = .int .i64 0) ∨ (∃ A3 c3 M, m = .slice A3 n c3 ∧ k = .int .i64 1 ∧ Kept (M = Ls.sl LL) ∧ Kept (Ls.wt LL ≤ 300) ∧ OwnII wx w.heap.size A3 n c3 M)))
  case first =>
    go_wp2_with (go_at_call 12; refine (sorted_any _ _ _ _ LL _ Hv.out (Nat.le_refl _)).mono ?_; rintro e w2 ⟨hb, (⟨h1, rfl⟩ | ⟨h1, A3, c3, rfl, ho⟩)⟩)
    · go_meet
      exact ⟨hb, .inl ⟨rfl, rfl⟩⟩
    · go_meet
      exact ⟨hb, .inr ⟨A3, c3, _, rfl, rfl, ⟨rfl⟩, ⟨h1⟩, ho⟩⟩
  case rest =>
    rename World => wx
    obtain ⟨hb, (⟨rfl, rfl⟩ | ⟨A3, c3, M, rfl, rfl, hM, hwt, ho⟩)⟩ := hcut
    · go_wp2_with (go_at_call 9; refine (alive_any _).mono ?_; rintro e w1 ⟨rfl, hb1⟩)
      go_ret
      exact ⟨rfl, bl_next hb hb1⟩
    · by_cases hn0 : n = 0
      · subst hn0
        go_wp2_with (go_at_call 9; refine (alive_any _).mono ?_; rintro e w1 ⟨rfl, hb1⟩)
        go_ret
        exact ⟨rfl, bl_next hb hb1⟩
      · have hn1 : (0 : Int) < (n : Int) := by omega
        have hnb : ((n : Int) == 0) = false := by simp; omega
        have hn3 : n ≤ 300 := by have h1 := hwt.out; have h2 := hwn.out; have h3 := hnL.out; omega
        have hnc := ho.rd.cap.1
        have hcm := ho.rd.cap.2
        unfold maxLen at hcm
        have hML : Kept (M.length = n) := ⟨by rw [hM.out, hsl.out]; exact hnL.out.symm⟩
        have hMS : Kept (∀ l ∈ M, Ls.S l) := ⟨by rw [hM.out]; exact HS.out⟩
        have hMt : Kept (Ls.tot M ≤ 1000000) := ⟨by rw [hM.out]; have h1 := htot.out hwt.out; have h2 := hwt.out; omega⟩
        obtain ⟨vs, p1, p2, p3, p4, p5⟩ := ho.parts
        obtain ⟨g3, rfl, hg3, hg3'⟩ := own_pos p1 (by omega)
        have RM := Kept.mk ho.rd
        have hvl : Kept (vs.length = n) := ⟨p2.trans hML.out⟩
        have Rv := Kept.mk (Rd.of_own p1)
        have P2 := Kept.mk p2
        have P3 := Kept.mk p3
        have P4 := Kept.mk p4
        have P5 := Kept.mk p5
        have hjn : k % n < n := Nat.mod_lt _ (by omega)
        have hj : (k : Int) % (n : Int) = ((k % n : Nat) : Int) := by simp
        clear p1 p2 p3 p4 p5 ho htot hwn
        generalize k % n = j at *
        go_upto_region 5 with fail
        go_cut [7, 8] (fun i x wy => ∃ A6 n6 c6, i = .int .i64 j ∧ x = .slice A6 n6 c6 ∧ Kept (n6 = n) ∧ wy.ownsRow wx.heap.size 22 1 (.slice A6 n6 c6) n6 (vs.drop j ++ vs.take j) ∧ Below wx.heap.size wx wy)
        case first =>
          have j1 : (0 : Int) ≤ (j : Int) := by omega
          have j2 : (j : Int) ≤ (n : Int) := by omega
          have j3 : (j : Int) ≤ (c3 : Int) := by omega
          have j4 : (n : Int) ≤ (c3 : Int) := by omega
          have j5 : ¬ c3 = j := by omega
          have d1 := Rd.drop (k := j) Rv.out (by omega)
          have d2 := Rd.take (k := j) Rv.out (by omega)
          rw [if_neg j5] at d1
          simp only [Nat.mul_one, Option.map_some, add_plain, Nat.zero_add] at d1 d2
          have hL : Below wx.heap.size wx (wx.alloc (.cells #[.slice (some ⟨g3, j, none⟩) (n - j) (c3 - j), .slice (some ⟨g3, 0, none⟩) j c3] 25)) := (Below.refl _ wx).alloc (Nat.le_refl _) _
          have e0 := World.cell?_alloc_mark wx #[Value.slice (some ⟨g3, j, none⟩) (n - j) (c3 - j), Value.slice (some ⟨g3, 0, none⟩) j c3] 25 (0, 0) 0
          have e1 := World.cell?_alloc_mark wx #[Value.slice (some ⟨g3, j, none⟩) (n - j) (c3 - j), Value.slice (some ⟨g3, 0, none⟩) j c3] 25 (0, 0) 1
          have D1 := Kept.mk ((d1.below hL).more (B' := wx.heap.size + 1) (by omega))
          have D2 := Kept.mk ((d2.below hL).more (B' := wx.heap.size + 1) (by omega))
          have O1 : Kept (∀ u ∈ vs.drop j, u.oneCell' = true) := ⟨fun u hu => P3.out u (List.mem_of_mem_drop hu)⟩
          have O2 : Kept (∀ u ∈ vs.take j, u.oneCell' = true) := ⟨fun u hu => P3.out u (List.mem_of_mem_take hu)⟩
          have hsum : Kept (n - j + j = n) := ⟨by omega⟩
          clear d1 d2
          have E0 := Kept.mk e0
          have E1 := Kept.mk e1
          have HL := Kept.mk hL
          clear e0 e1 hL
          go_region_with (go_at_call 22; refine (concat2_any (some ⟨g3, j, none⟩) (some ⟨g3, 0, none⟩) (n - j) (c3 - j) j c3 wx.heap.size (wx.heap.size + 1) (vs.drop j) (vs.take j) _ (by omega) (by exact E0.out) (by exact E1.out) (by exact D1.out) (by exact D2.out) O1.out O2.out (by simp) (by omega)).mono ?_; rintro e w1 ⟨A6, n6, c6, rfl, hn6, ho6, hb6⟩; have N6 := Kept.mk (hn6.trans hsum.out); have O6 := Kept.mk ho6; have B6 := Kept.mk hb6; clear hn6 ho6 hb6)
          go_wp2
          go_meet
          exact ⟨A6, n6, c6, rfl, rfl, N6, own_base O6.out HL.out.size, (HL.out.drew).trans (B6.out.mono HL.out.size)⟩
        case rest =>
          rename World => wy
          obtain ⟨A6, n6, c6, rfl, rfl, N6, ho6, hby⟩ := hcut
          clear hj
          have hn6 : n6 ≤ 300 := by have := N6.out; omega
          have V6 : Kept (∀ u ∈ vs.drop j ++ vs.take j, ∃ A n c, u = Value.slice A n c) := ⟨fun u hu => P4.out u (by rw [List.mem_append] at hu; rcases hu with h | h; exact List.mem_of_mem_drop h; exact List.mem_of_mem_take h)⟩
          have HO6 := Kept.mk ho6
          clear ho6
          go_upto_region 6 with fail
          go_cut [] (fun wz => Below wx.heap.size wx wz ∧ wz.ownsRow wx.heap.size 22 1 (.slice A6 n6 c6) n6 ((vs.drop j ++ vs.take j).reverse))
          case first =>
            go_wp2_with (go_at_call 23; refine (reverse_any _ _ _ _ _ _ HO6.out (by omega) V6.out).mono ?_; rintro e w1 ⟨rfl, ho7, hb7⟩)
            go_meet
            exact ⟨hby.trans hb7, ho7⟩
          case rest =>
            rename World => wz
            obtain ⟨hbz, hoz⟩ := hcut
            have HM : Kept (∀ W, Below wx.heap.size wx W → RdII W wx.heap.size (some ⟨g3, 0, none⟩) n c3 M) := ⟨fun W h => RM.out.below h⟩
            have hpair := pair_rot (E := fun v l => ∃ A' n' c', v = Value.slice A' n' c' ∧ RdI wx wx.heap.size A' n' c' l) P2.out P5.out j
            have HX : Kept (∀ W, Below wz.heap.size wz W → RdII W wz.heap.size A6 n6 c6 ((M.drop j ++ M.take j).reverse)) := ⟨fun W h => by
              refine ⟨_, (Rd.of_own hoz).below h, by simp [P2.out], fun i l hi => ?_⟩
              obtain ⟨v, hv, A', n', c', rfl, hr⟩ := hpair i l hi
              exact ⟨A', n', c', hv, ((hr.below hbz).more hbz.size).below h⟩⟩
            have hrm := Ls.rot_mem M j
            have hrS : ∀ l ∈ (M.drop j ++ M.take j).reverse, Ls.S l := fun l hl => hMS.out l ((hrm l).2 hl)
            have hne : M ≠ [] := by
              rintro rfl
              have := hML.out
              simp at this
              omega
            have E1 := Kept.mk (Ls.piscs_perm hMS.out hrS hrm hne)
            have E2 := Kept.mk (Ls.puni_perm hMS.out hrS hrm)
            have Tx : Kept (Ls.tot ((M.drop j ++ M.take j).reverse) ≤ 1000000) := ⟨by rw [Ls.tot_rot]; exact hMt.out⟩
            have hbx := bl_next hb hbz
            clear hoz hpair hrm hrS hne
            generalize (M.drop j ++ M.take j).reverse = X at *
            go_upto_region 8 with (first
              | (go_at_call 14; refine (intersect_any _ _ _ _ M wz (HM.out _ hbz) hbz.size hMt.out).mono ?_; rintro e w3 ⟨A7, n7, c7, rfl, hn7, ho7, hb3⟩; have hn7' : n7 ≤ 1000000 := Nat.le_trans hn7 hMt.out; have O7 := Kept.mk ho7; have hz3 := hb3.size; clear hn7 ho7)
              | (go_at_call 16; refine (union_any _ _ _ _ M w3 (HM.out _ (hbz.trans (hb3.mono hbz.size))) (by have := hbz.size; omega) hMt.out).mono ?_; rintro e w4 ⟨A8, n8, c8, rfl, hn8, ho8, hb4⟩; have hn8' : n8 ≤ 1000000 := Nat.le_trans hn8 hMt.out; have O8 := Kept.mk ho8; have O7' := Kept.mk (OwnI.keep O7.out hb4); have hz4 := hb4.size; clear hn8 ho8))
            have hA7 := Kept.mk (own_lt O7.out)
            have hA8 := Kept.mk (own_lt O8.out)
            have b4 := bl_next hb3 hb4
            go_cut [59] (fun t wq => t = .bool false ∧ Below w4.heap.size w4 wq)
            case first =>
              have R7 := Kept.mk O7'.out.rd
              have R8 := Kept.mk O8.out.rd
              go_wp2_with (first
                | (go_at_call 14; refine (intersect_any _ _ _ _ X w4 (HX.out _ b4) b4.size Tx.out).mono ?_; rintro e w5 ⟨A9, n9, c9, rfl, -, ho9, hb5⟩; have q5 := Kept.mk ho9.rd; have q7 := Kept.mk (R7.out.below hb5); clear ho9)
                | (go_at_call 13; refine (equalI_is _ _ _ _ _ _ (Ls.piscs M) (Ls.piscs X) true _ _ _ q7.out q5.out (by rw [E1.out]; simp)).mono ?_; rintro e w6 ⟨rfl, q6⟩; clear q7 q5; have hb6 := hb5.trans (q6.below _); clear hb5)
                | (go_at_call 16; refine (union_any _ _ _ _ X w6 (HX.out _ (bl_next b4 hb6)) (bl_next b4 hb6).size Tx.out).mono ?_; rintro e w7 ⟨A9, n9, c9, rfl, -, ho9, hb7⟩; have p5 := Kept.mk ho9.rd; have p8 := Kept.mk (R8.out.below (bl_next hb6 hb7)); clear ho9)
                | (go_at_call 13; refine (equalI_is _ _ _ _ _ _ (Ls.puni [] M) (Ls.puni [] X) true _ _ _ p8.out p5.out (by rw [E2.out]; simp)).mono ?_; rintro e w8 ⟨rfl, q8⟩; have hb8 := (bl_next hb6 hb7).trans (q8.below _)))
              go_meet
              exact ⟨rfl, hb8⟩
            case rest =>
              rename World => wq
              obtain ⟨rfl, hbq⟩ := hcut
              have OA : Kept (OwnI wq wz.heap.size A7 n7 c7 (Ls.piscs M)) := ⟨OwnI.keep O7'.out hbq⟩
              have OB : Kept (OwnI wq w3.heap.size A8 n8 c8 (Ls.puni [] M)) := ⟨OwnI.keep O8.out hbq⟩
              have hbq' := bl_next b4 hbq
              have cA : ∀ g, ab A7 = some g → wz.heap.size ≤ g ∧ g < w3.heap.size := hA7.out
              have cB : ∀ g, ab A8 = some g → w3.heap.size ≤ g := fun g hg => (hA8.out g hg).1
              clear hA7 hA8 O7 O7' O8 hbq E1 E2 HX Tx
              generalize Ls.piscs M = la at *
              generalize Ls.puni [] M = lb at *
              go_wp2
              go_loopw [62] (fun i W => ∃ k : Nat, k ≤ n7 ∧ i = .int .i64 k ∧ (∃ la, OwnI W wz.heap.size A7 n7 c7 la) ∧ (∃ lb, OwnI W w3.heap.size A8 n8 c8 lb) ∧ Below wz.heap.size wz W) (fun i _ => n7 - (intOf i).toNat)
              case atStart => exact ⟨0, Nat.zero_le _, rfl, ⟨_, OA.out⟩, ⟨_, OB.out⟩, hbq'⟩
              case round =>
                clear OA OB hbq'
                obtain ⟨k, hk, rfl, ⟨la', oa⟩, ⟨lb', ob⟩, hbW⟩ := hrel
                by_cases hlt : k < n7
                · obtain ⟨g, rfl, hg1, hg2⟩ := oa.pos (by omega)
                  have hkl : k < la'.length := by rw [← oa.len]; exact hlt
                  obtain ⟨c1, f1⟩ := oa.at_ hkl
                  have hgm := (cA g rfl).2
                  have Oa := Kept.mk oa
                  have Ob := Kept.mk ob
                  have Hw := Kept.mk hbW
                  have hne : Kept (ab A8 = none ∨ ab A8 ≠ some g) := ⟨by
                    rcases h : ab A8 with _ | g8
                    · exact .inl rfl
                    · refine .inr fun e => ?_
                      cases e
                      have := cB g h
                      omega⟩
                  clear oa ob hbW
                  generalize la'[k] = v at *
                  go_wp2
                  go_roundw
                  case rel => exact ⟨k + 1, by omega, by go_num, ⟨_, OwnI.set Oa.out k _⟩, ⟨_, own_grown Ob.out (World.ownsRow.stored Oa.out k _).2 hne.out⟩, Hw.out.setCell (p := ⟨g, k, none⟩) hg1 _⟩
                  case measure => simp [intOf]; omega
                · have OA := Kept.mk oa
                  have OB := Kept.mk ob
                  have hbq' := hbW
                  clear oa ob hbW
                  go_wp2
                  go_loopw [74] (fun i W => ∃ k : Nat, k ≤ n8 ∧ i = .int .i64 k ∧ (∃ lb, OwnI W w3.heap.size A8 n8 c8 lb) ∧ Below wz.heap.size wz W) (fun i _ => n8 - (intOf i).toNat)
                  case atStart => exact ⟨0, Nat.zero_le _, rfl, ⟨_, OB.out⟩, hbq'⟩
                  case round =>
                    clear OA OB hbq'
                    obtain ⟨k, hk, rfl, ⟨lb', ob⟩, hbW⟩ := hrel
                    by_cases hlt : k < n8
                    · obtain ⟨g, rfl, hg1, hg2⟩ := ob.pos (by omega)
                      have hkl : k < lb'.length := by rw [← ob.len]; exact hlt
                      obtain ⟨c1, f1⟩ := ob.at_ hkl
                      have hgm := cB g rfl
                      have Ob := Kept.mk ob
                      have Hw := Kept.mk hbW
                      clear ob hbW
                      generalize lb'[k] = v at *
                      go_wp2
                      go_roundw
                      case rel => exact ⟨k + 1, by omega, by go_num, ⟨_, OwnI.set Ob.out k _⟩, Hw.out.setCell (p := ⟨g, k, none⟩) (by show wz.heap.size ≤ g; have := hb3.size; omega) _⟩
                      case measure => simp [intOf]; omega
                    · clear ob
                      have hbl := bl_next hbx hbW
                      have hbm := hbz.trans (hbW.mono hbz.size)
                      go_wp2_with (go_at_call 12; refine (sorted_any _ _ _ _ LL _ (Hv.out.below hbl) hbl.size).mono ?_; rintro e w9 ⟨hb9, h9⟩; obtain ⟨A9, c9, he9, ho9⟩ := (h9.resolve_left fun h => absurd h.1 (by have := hwt.out; omega)).2; subst he9; have hb9' := bl_next hbl hb9; have hbm9 := hbm.trans (hb9.mono hbm.size); have Y9 := Kept.mk ho9.rd; clear h9 ho9)
                      rw [← hM.out] at Y9
                      have hnc9 := Y9.out.cap.1
                      have hcm9 := Y9.out.cap.2
                      unfold maxLen at hcm9
                      go_loopw [91] (fun i W => ∃ k : Nat, k ≤ n ∧ i = .int .i64 k ∧ Below w9.heap.size w9 W) (fun i _ => n - (intOf i).toNat)
                      case atStart => exact ⟨0, Nat.zero_le _, rfl, Below.refl _ _⟩
                      case round =>
                        obtain ⟨k, hk, rfl, hbW9⟩ := hrel
                        by_cases hlt9 : k < n
                        · have i1 : (0 : Int) ≤ (k : Int) := by omega
                          have i2 : (k : Int) < (n : Int) := by omega
                          have hkM : k < M.length := by rw [hML.out]; exact hlt9
                          obtain ⟨b1, o1, A1, n1, c1, e1, hb1, hc1, hr1⟩ := (HM.out _ (hbm9.trans (hbW9.mono hbm9.size))).at_ hkM
                          obtain ⟨b2, o2, A2, n2, c2, e2, hb2, hc2, hr2⟩ := (Y9.out.below hbW9).at_ hkM
                          simp only [Option.some.injEq, Addr.mk.injEq, and_true] at e1
                          obtain ⟨rfl, rfl⟩ := e1
                          subst e2
                          rw [Nat.zero_add] at hc1
                          have R1 := Kept.mk hr1
                          have R2 := Kept.mk hr2
                          have Hw := Kept.mk hbW9
                          clear hr1 hr2 hbW9
                          generalize M[k] = l at *
                          go_wp2
                          go_region_held3 (fun w' => w'.cell? ⟨g3, k, none⟩ = some (.slice A1 n1 c1) ∧ w'.cell? ⟨b2, o2 + k, none⟩ = some (.slice A2 n2 c2)) (first | exact ⟨hc1, hc2⟩ | exact K1.out)
                            (first
                              | (go_at_call 13; refine (equalI_is _ _ _ _ _ _ l l true _ _ _ (by exact R1.out) (by exact R2.out) (by simp)).mono ?_; rintro e w10 ⟨rfl, q10⟩; have K1 : Kept (w10.cell? ⟨g3, k, none⟩ = some (.slice A1 n1 c1) ∧ w10.cell? ⟨b2, o2 + k, none⟩ = some (.slice A2 n2 c2)) := ⟨by obtain ⟨q, rfl⟩ := q10; exact ⟨hc1, hc2⟩⟩; have B10 := Kept.mk (below_drew_of (q10.below w9.heap.size))))
                          go_wp2
                          go_roundw
                          case rel => exact ⟨k + 1, by omega, by go_num, Hw.out.trans B10.out⟩
                          case measure => simp [intOf]; omega
                        · go_wp2_with (go_at_call 9; refine (alive_any _).mono ?_; rintro e w10 ⟨rfl, hb10⟩)
                          go_ret
                          exact ⟨rfl, bl_next (bl_next hb9' hbW9) hb10⟩
end Go.Proofs.Ytoomdjjjkolloab
