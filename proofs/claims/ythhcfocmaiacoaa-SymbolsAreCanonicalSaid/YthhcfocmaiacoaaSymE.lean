/- Chapter 10: the reference's Encode. -/
import Derived.Test.YthhcfocmaiacoaaSymD
namespace Go.Proofs.Ythhcfocmaiacoaa
open Go.RowKit Go.Shelf

namespace Sy
theorem asc_ix {T : List ByteArray} (h : ∀ j (hj : j + 1 < T.length), St.lt T[j] T[j + 1] = true) : ascB T = true := by
  unfold ascB
  rw [List.all_eq_true]
  intro p hp
  obtain ⟨j, hj, rfl⟩ := List.mem_iff_getElem.1 hp
  rw [pairs_len] at hj
  rw [pairs_get T j (by omega)]
  exact h j (by omega)
theorem asc_bad_ix {T : List ByteArray} {j : Nat} (hj : j + 1 < T.length) (h : St.lt T[j] T[j + 1] = false) : ascB T = false := by
  unfold ascB
  rw [List.all_eq_false]
  refine ⟨(T[j], T[j + 1]), ?_, by rw [h]; simp⟩
  rw [← pairs_get T j hj]
  exact List.getElem_mem _
end Sy
set_option maxRecDepth 100000 in
set_option maxHeartbeats 8000000 in
theorem refEncode10_any (A : Option Addr) (n c : Nat) (T : List ByteArray) (w : World) (hv : RdS w w.heap.size A n c T) (hf : ∀ s ∈ T, s.size ≤ maxLen) (hn : n ≤ 1000000) :
    Calls Try.prog 22 #[.slice A n c] w fun e w' => ∃ A3 n3 c3, e = .returned (.tuple #[.slice A3 n3 c3, .int .i64 (Sy.enc T).2]) ∧ OwnB w' w.heap.size A3 n3 c3 (Sy.enc T).1 ∧ Below w.heap.size w w' := by
  have hlc := hv.1
  have hcm := hv.2.1
  unfold maxLen at hcm
  have HN := Kept.mk hv.len
  have V := Kept.mk hv
  have F := Kept.mk hf
  obtain ⟨M, hM⟩ : ∃ M, M = Sy.enc T := ⟨_, rfl⟩
  rw [← hM]
  have HM := Kept.mk hM
  have hwn := wrap_u64 (n : Int) (by omega) (by omega)
  clear hv hM hf
  go_enter Try.func22, Try.ntmps22
  go_wp2
  go_loopw [4] (fun i wr => ∃ k : Nat, k ≤ n ∧ i = .int .i64 k ∧ Kept (∀ s ∈ T.take k, s.size ≤ 65535) ∧ wr = w) (fun i _ => n - (intOf i).toNat)
  case atStart => exact ⟨0, by omega, rfl, ⟨by simp⟩, rfl⟩
  case round =>
    obtain ⟨k, hk, rfl, hd, hw⟩ := hrel
    have hw := hw.symm
    subst hw
    by_cases hlt : k < n
    · have hkl : k < T.length := by rw [← HN.out]; exact hlt
      obtain ⟨b, off, rfl, -, c0⟩ := V.out.at_ hkl
      have hs := F.out _ (List.getElem_mem hkl)
      have HL := Kept.mk (fun h => Sy.hasLong_at hkl h)
      have HN2 : Kept (T[k].size ≤ 65535 → ∀ s ∈ T.take (k + 1), s.size ≤ 65535) := ⟨fun h => by
        rw [List.take_succ_eq_append_getElem hkl]
        intro s hs
        rcases List.mem_append.1 hs with hs | hs
        · exact hd.out s hs
        · rw [List.mem_singleton.1 hs]; exact h⟩
      unfold maxLen at hs
      clear hd
      generalize T[k] = x at *
      by_cases hx : 65535 < x.size
      · have HM2 : Kept (M = ([], 7)) := ⟨by rw [HM.out, Sy.enc, if_pos (HL.out hx)]⟩
        have hx' : (65535 : Int) < (x.size : Int) := by omega
        clear hx
        go_wp2
        go_ret2
        refine ⟨none, 0, 0, ?_, ?_, Below.refl _ _⟩
        · rw [HM2.out]; rfl
        · rw [HM2.out]; exact OwnB.nil _ _
      · have hN := Kept.mk (HN2.out (by omega))
        have hx' : ¬ (65535 : Int) < (x.size : Int) := by omega
        clear hx
        go_wp2
        go_roundw
        case rel => exact ⟨k + 1, by omega, by go_num, hN, by simp⟩
        case measure => simp [intOf]; omega
    · have hsz : ∀ s ∈ T, s.size ≤ 65535 := by have := hd.out; rwa [List.take_of_length_le (by have := HN.out; omega)] at this
      have hle := Sy.encB_le hsz (by have := HN.out; omega)
      obtain ⟨E, hE⟩ : ∃ E, E = Sy.encB T := ⟨_, rfl⟩
      have HM2 : Kept (M = if Sy.ascB T = true then (E, 0) else ([], 16)) := ⟨by rw [HM.out, Sy.enc, if_neg (by rw [Sy.hasLong_no.2 hsz]; simp), hE]⟩
      rw [← hE] at hle
      have HSZ := Kept.mk hsz
      have HE := Kept.mk hE
      have LE := Kept.mk hle
      clear hd hsz hE hle
      go_wp2_with (go_at_call 54; refine (refEncode_any n _ (by omega)).mono ?_; rintro e w1 ⟨A1, n1, c1, rfl, ho1, hb1⟩; have O1 := Kept.mk ho1; have G1 := Kept.mk hb1; clear ho1 hb1)
      go_loopw [5, 6] (fun b i wq => ∃ k : Nat, k ≤ n ∧ i = .int .i64 k ∧ ∃ A2 n2 c2 bl, b = .slice A2 n2 c2 ∧ OwnB wq w.heap.size A2 n2 c2 bl ∧ Below w.heap.size w wq ∧ Kept (bl ++ (T.drop k).flatMap Sy.strE = E ∧ ∀ j (hj : j + 1 < T.length), j + 1 < k → St.lt T[j] T[j + 1] = true)) (fun _ i _ => n - (intOf i).toNat)
      case atStart => exact ⟨0, by omega, rfl, A1, n1, c1, _, rfl, O1.out, G1.out, ⟨by rw [HE.out, Sy.encB, HN.out]; simp, fun j _ h => by omega⟩⟩
      case round =>
        clear O1 G1
        obtain ⟨k, hk, rfl, A2, n2, c2, bl, rfl, ho, hb, hd⟩ := hrel
        by_cases hlt : k < n
        · have hkl : k < T.length := by rw [← HN.out]; exact hlt
          have hsk := HSZ.out _ (List.getElem_mem hkl)
          have hd1 := hd.out.1
          have hn2 : n2 ≤ 70000000000 := by
            have e1 := ho.len
            have e2 := LE.out
            rw [← hd1, List.length_append] at e2
            omega
          rw [List.drop_eq_getElem_cons hkl, List.flatMap_cons, ← List.append_assoc] at hd1
          have HD := Kept.mk hd1
          have HA := Kept.mk hd.out.2
          have hse : Sy.strE T[k] = Wr.str T[k].data.toList := rfl
          rw [hse] at HD
          obtain ⟨b, off, rfl, -, c0⟩ := (V.out.below hb).at_ hkl
          have O := Kept.mk ho
          have B := Kept.mk hb
          rcases Nat.eq_zero_or_pos k with h0 | h0
          · subst h0
            have HA2 : Kept (∀ j (hj : j + 1 < T.length), j + 1 < 0 + 1 → St.lt T[j] T[j + 1] = true) := ⟨fun j _ h => by omega⟩
            clear ho hb hd hd1 hse
            simp only [Nat.add_zero] at c0
            generalize T[0] = x at *
            go_upto_region 10 with fail
            go_quiet (fail)
            go_wp2_with (first
              | (go_at_call 55; refine (refBytes_any x _ (by omega)).mono ?_; rintro e w2 ⟨A3, n3, c3, rfl, ho, hb⟩; have O3 := Kept.mk ho.rd; have hn3 : n3 ≤ 65545 := (by have h1 := ho.len; have h2 : x.data.toList.length = x.size := (by simp); have := Wr.str_len x.data.toList (by omega); omega); have hb' : Below wr.heap.size wr w2 := (below_drewN (Below.refl _ wr) nq).trans hb; have P3 : Kept (OwnB w2 w.heap.size A2 n2 c2 bl) := ⟨OwnB.keep O.out hb'⟩; have B3 := Kept.mk (bl_next B.out hb'); clear ho hb hb')
              | (at_builtin; refine wpList_appB rfl (.tmp 43) (.tmp 48) rfl w.heap.size A2 n2 c2 bl rfl P3.out _ _ _ _ _ rfl O3.out (by omega) B3.out.size ?_; intro A4 c4 w4 hown4 hgrow4 hat4; have O4 := Kept.mk hown4; have B4 := Kept.mk (B3.out.trans (own_grown_below P3.out B3.out.size hgrow4)); clear hown4 hgrow4 hat4))
            go_roundw
            case rel => exact ⟨0 + 1, by omega, by go_num, A4, _, c4, _, rfl, O4.out, B4.out, ⟨HD.out, HA2.out⟩⟩
            case measure => simp [intOf]; omega
          · have hk1 : k - 1 < T.length := by omega
            obtain ⟨b', off', e', -, c1⟩ := (V.out.below hb).at_ hk1
            simp only [Option.some.injEq, Addr.mk.injEq, and_true] at e'
            obtain ⟨rfl, rfl⟩ := e'
            have ek : (k : Int) - 1 = ((k - 1 : Nat) : Int) := by omega
            have ek2 : ((k - 1 : Nat) : Int) < (n : Int) := by omega
            have ew : IntKind.i64.wrap ((k - 1 : Nat) : Int) = ((k - 1 : Nat) : Int) := by rw [IntKind.wrap_i64]; omega
            have hkp : (0 : Int) < (k : Int) := by omega
            have hltb : Op.bytesLess T[k - 1].toList T[k].toList = St.lt T[k - 1] T[k] := rfl
            by_cases hxy : St.lt T[k - 1] T[k] = true
            · have HA2 : Kept (∀ j (hj : j + 1 < T.length), j + 1 < k + 1 → St.lt T[j] T[j + 1] = true) := ⟨fun j hj h => by
                by_cases e : j + 1 = k
                · have : j = k - 1 := by omega
                  subst this
                  have e2 : k - 1 + 1 = k := by omega
                  simp only [e2]; exact hxy
                · exact HA.out j hj (by omega)⟩
              rw [hxy] at hltb
              clear ho hb hd hd1 hse hxy
              generalize T[k] = x at *
              generalize T[k - 1] = y at *
              go_upto_region 10 with fail
              go_quiet (fail)
              go_wp2_with (first
                | (go_at_call 55; refine (refBytes_any x _ (by omega)).mono ?_; rintro e w2 ⟨A3, n3, c3, rfl, ho, hb⟩; have O3 := Kept.mk ho.rd; have hn3 : n3 ≤ 65545 := (by have h1 := ho.len; have h2 : x.data.toList.length = x.size := (by simp); have := Wr.str_len x.data.toList (by omega); omega); have hb' : Below wr.heap.size wr w2 := (below_drewN (Below.refl _ wr) nq).trans hb; have P3 : Kept (OwnB w2 w.heap.size A2 n2 c2 bl) := ⟨OwnB.keep O.out hb'⟩; have B3 := Kept.mk (bl_next B.out hb'); clear ho hb hb')
                | (at_builtin; refine wpList_appB rfl (.tmp 43) (.tmp 48) rfl w.heap.size A2 n2 c2 bl rfl P3.out _ _ _ _ _ rfl O3.out (by omega) B3.out.size ?_; intro A4 c4 w4 hown4 hgrow4 hat4; have O4 := Kept.mk hown4; have B4 := Kept.mk (B3.out.trans (own_grown_below P3.out B3.out.size hgrow4)); clear hown4 hgrow4 hat4))
              go_roundw
              case rel => exact ⟨k + 1, by omega, by go_num, A4, _, c4, _, rfl, O4.out, B4.out, ⟨HD.out, HA2.out⟩⟩
              case measure => simp [intOf]; omega
            · have hxy' : St.lt T[k - 1] T[k] = false := by simpa using hxy
              have HM3 : Kept (M = ([], 16)) := ⟨by
                have hkk : k - 1 + 1 < T.length := by omega
                rw [HM2.out, if_neg]
                have := Sy.asc_bad_ix hkk (by have e2 : k - 1 + 1 = k := by omega
                                              simp only [e2]; exact hxy')
                rw [this]; simp⟩
              rw [hxy'] at hltb
              clear ho hb hd hd1 hse hxy hxy'
              generalize T[k] = x at *
              generalize T[k - 1] = y at *
              go_upto_region 10 with fail
              go_quiet (fail)
              go_wp2
              go_ret2
              refine ⟨none, 0, 0, ?_, ?_, below_drewN B.out _⟩
              · rw [HM3.out]; rfl
              · rw [HM3.out]; exact OwnB.nil _ _
        · have hd1 : bl = E := by have := hd.out.1; rwa [List.drop_eq_nil_of_le (by have := HN.out; omega), List.flatMap_nil, List.append_nil] at this
          have hasc : Sy.ascB T = true := Sy.asc_ix fun j hj => hd.out.2 j hj (by have := HN.out; omega)
          have HM3 : Kept (M = (bl, 0)) := ⟨by rw [HM2.out, if_pos hasc, hd1]⟩
          have O := Kept.mk ho
          have B := Kept.mk hb
          clear ho hb hd hd1 hasc
          go_wp2
          go_ret2
          refine ⟨A2, n2, c2, ?_, ?_, B.out⟩
          · rw [HM3.out]; rfl
          · rw [HM3.out]; exact O.out
end Go.Proofs.Ythhcfocmaiacoaa
