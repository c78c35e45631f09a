/- Chapter 10: the program's Encode. -/
import Derived.Test.YthhcfocmaiacoaaSymB
import Derived.Test.YthhcfocmaiacoaaSymW
namespace Go.Proofs.Ythhcfocmaiacoaa
open Go.RowKit Go.Shelf

attribute [local go_sem] Oper.semAt_some

namespace Sy
def ascB (T : List ByteArray) : Bool := (pairs T).all fun p => St.lt p.1 p.2
theorem ascB_iff {T : List ByteArray} : ascB T = true ↔ Srt T := by
  rw [srt_pairs]
  unfold ascB
  rw [List.all_eq_true]
def strE (s : ByteArray) : List UInt8 := Wr.str s.data.toList
def encB (T : List ByteArray) : List UInt8 := Vi.enc T.length ++ T.flatMap strE
def enc (T : List ByteArray) : List UInt8 × Int := if hasLong T = true then ([], 7) else if ascB T = true then (encB T, 0) else ([], 16)
theorem strE_le {s : ByteArray} (h : s.size ≤ 65535) : (strE s).length ≤ 65545 := by
  unfold strE
  have h2 : s.data.toList.length = s.size := by simp
  have := Wr.str_len s.data.toList (by omega)
  omega
theorem flat_le {T : List ByteArray} (h : ∀ s ∈ T, s.size ≤ 65535) : (T.flatMap strE).length ≤ T.length * 65545 := by
  induction T with
  | nil => simp
  | cons s T ih =>
    have h1 := strE_le (h s (by simp))
    have h2 := ih fun t ht => h t (by simp [ht])
    rw [List.flatMap_cons, List.length_append, List.length_cons]; omega
theorem encB_le {T : List ByteArray} (h : ∀ s ∈ T, s.size ≤ 65535) (hl : T.length ≤ 1000000) : (encB T).length ≤ 70000000000 := by
  have h1 := flat_le h
  have h2 := Vi.enc_len T.length (by omega)
  unfold encB
  rw [List.length_append]; omega
theorem asc_bad {T : List ByteArray} {pre : List (ByteArray × ByteArray)} (hp : pre <+: pairs T) {p : ByteArray × ByteArray} (h : p ∈ pre) (hn : St.lt p.1 p.2 = false) : ascB T = false := by
  unfold ascB
  rw [List.all_eq_false]
  exact ⟨p, hp.subset h, by rw [hn]; simp⟩
end Sy
theorem wrap_u64 (k : Int) (h0 : 0 ≤ k) (h : k < 18446744073709551616) : IntKind.u64.wrap k = k := by simp [IntKind.wrap, IntKind.bits, IntKind.signed]; omega
theorem own_set_far {w : World} {base n c sz g k : Nat} {A : Option Addr} {xs : List Value} {t : TypeId} {v : Value} (h : w.ownsRow base t sz (.slice A n c) n xs) (hne : ∀ g', ab A = some g' → g' ≠ g) : (w.setCell ⟨g, k, none⟩ v).ownsRow base t sz (.slice A n c) n xs :=
  own_grown h (grown_set w ⟨g, k, none⟩ v) (by
    rcases hA : ab A with _ | g'
    · exact .inl rfl
    · exact .inr fun e => hne g' hA (Option.some.inj e))
/-- what lies between two rounds of Encode's first loop -/
def EncI (w : World) (pre : List (ByteArray × ByteArray)) (W : World) : Prop :=
  (∀ p ∈ pre, St.lt p.1 p.2 = true) ∧ Boxed W w.heap.size 30 (.slice none 0 0) ∧ Boxed W (w.heap.size + 1) 31 (.int .i64 0) ∧ Below w.heap.size w W
/-- how Encode's first loop is left early -/
def EncX (w : World) (c : Code) (pre : List (ByteArray × ByteArray)) (W : World) : Prop :=
  c = .ret ∧ (∃ p ∈ pre, St.lt p.1 p.2 = false) ∧ Boxed W w.heap.size 30 (.slice none 0 0) ∧ Boxed W (w.heap.size + 1) 31 (.int .i64 16) ∧ Below w.heap.size w W
theorem EncI.own {w : World} : MindsOwn (w.heap.size + 3) (fun _ => False) (EncI w) := by
  rintro s W W' row ⟨h1, h2, h3, h4⟩ hg hr
  have hrow : ∀ r, row = some r → w.heap.size + 3 ≤ r := fun r e => by
    rcases hr r e with h | ⟨h, _⟩
    · exact h.elim
    · omega
  exact ⟨h1, h2.kept hg (fun e => by have := hrow _ e.symm; omega), h3.kept hg (fun e => by have := hrow _ e.symm; omega), h4.grown hg h4.size (fun g e => by have := hrow g e; omega)⟩
theorem EncX.own {w : World} (c : Code) : MindsOwn (w.heap.size + 3) (fun _ => False) (EncX w c) := by
  rintro s W W' row ⟨h0, h1, h2, h3, h4⟩ hg hr
  have hrow : ∀ r, row = some r → w.heap.size + 3 ≤ r := fun r e => by
    rcases hr r e with h | ⟨h, _⟩
    · exact h.elim
    · omega
  exact ⟨h0, h1, h2.kept hg (fun e => by have := hrow _ e.symm; omega), h3.kept hg (fun e => by have := hrow _ e.symm; omega), h4.grown hg h4.size (fun g e => by have := hrow g e; omega)⟩
theorem two_ends {wr : World} {D g1 g2 : Nat} {t1 t2 : TypeId} {u1 u2 : Value} (v1 v2 : Value) (h1 : Boxed wr g1 t1 u1) (h2 : Boxed wr g2 t2 u2) (h12 : g1 ≠ g2) (hD1 : D ≠ g1) (hD2 : D ≠ g2) (hK : wr.heap[D]? = some (.deferred (some []))) :
    let W2 := (wr.setCell ⟨g1, 0, none⟩ v1).setCell ⟨g2, 0, none⟩ v2
    W2.heap[D]? = some (.deferred (some [])) ∧ (W2.putObj D (.deferred none)).cell? ⟨g1, 0, none⟩ = some v1 ∧ (W2.putObj D (.deferred none)).cell? ⟨g2, 0, none⟩ = some v2 := by
  intro W2
  have b1 : Boxed W2 g1 t1 v1 := (h1.set v1).other h12 v2
  have b2 : Boxed W2 g2 t2 v2 := (h2.other (Ne.symm h12) v1).set v2
  have hgo : W2.grownBy (W2.putObj D (.deferred none)) (some D) := grownBy_putObj' W2 D _
  exact ⟨(Below.heap_setCell _ _ _ _ (by show D ≠ g2; exact hD2)).trans ((Below.heap_setCell _ _ _ _ (by show D ≠ g1; exact hD1)).trans hK), (b1.kept hgo (fun e => hD1 (Option.some.inj e).symm)).cell, (b2.kept hgo (fun e => hD2 (Option.some.inj e).symm)).cell⟩
set_option maxRecDepth 100000 in
set_option maxHeartbeats 8000000 in
theorem encodeS_any (A : Option Addr) (n c : Nat) (T : List ByteArray) (w : World) (hv : RdS w w.heap.size A n c T) (hf : ∀ s ∈ T, s.size ≤ maxLen) (hn : n ≤ 1000000) :
    Calls Try.prog 21 #[.slice A n c] w fun e w' => ∃ A3 n3 c3, e = .returned (.tuple #[.slice A3 n3 c3, .int .i64 (Sy.enc T).2]) ∧ OwnB w' w.heap.size A3 n3 c3 (Sy.enc T).1 ∧ Below w.heap.size w w' := by
  have hlc := hv.1
  have hcm := hv.2.1
  unfold maxLen at hcm
  have HN := Kept.mk hv.len
  have V := Kept.mk hv
  obtain ⟨M, hM⟩ : ∃ M, M = Sy.enc T := ⟨_, rfl⟩
  rw [← hM]
  have CL : Kept (∀ W, Below w.heap.size w W → Calls Try.prog 49 #[.slice A n c, .func (.func 50) #[] #[]] W fun e w' => e = .returned (.bool (Sy.hasLong T)) ∧ W = w') := ⟨fun W hW => containsLong_any A n c T W ((hv.below hW).more hW.size) hf⟩
  cases hlong : Sy.hasLong T with
  | true =>
    have HM : Kept (M = ([], 7)) := ⟨by rw [hM, Sy.enc, if_pos hlong]⟩
    rw [hlong] at CL
    clear hv hM hlong hf
    go_enter Try.func21, Try.ntmps21
    go_wp2_with (go_at_call 49; refine (CL.out _ (((Below.refl _ _).alloc (Nat.le_refl _) _).alloc (by simp) _)).mono ?_; rintro e w1 ⟨rfl, rfl⟩)
    refine bodyPost_ret (v := .tuple #[.slice none 0 0, .int .i64 7]) (by simp [results, Try.results21, go_sem]) rfl ⟨none, 0, 0, by rw [HM.out], by rw [HM.out]; exact OwnB.nil _ _, ?_⟩
    exact ((Below.refl _ _).alloc (Nat.le_refl _) _).alloc (by simp) _
  | false =>
    have hsz := Sy.hasLong_no.1 hlong
    have HM : Kept (M = if Sy.ascB T = true then (Sy.encB T, 0) else ([], 16)) := ⟨by rw [hM, Sy.enc, if_neg (by rw [hlong]; simp)]⟩
    have HSZ := Kept.mk hsz
    rw [hlong] at CL
    clear hv hM hlong hf hsz
    refine (callsIn_wide (n := 9)).1 ?_
    refine callsIn_of_wp_marks Try.func21 rfl trivial ?_ rfl
    simp only [Try.ntmps21, List.size_toArray, List.length_cons, List.length_nil, Nat.reduceAdd, Nat.reduceSub, Array.replicate_succ, Array.replicate_zero, List.push_toArray, List.append_toArray, List.nil_append, List.cons_append]
    refine wpIn_wide.2 ?_
    go_wp2_with (first
      | (go_at_call 49; refine (CL.out _ (((Below.refl _ _).alloc (Nat.le_refl _) _).alloc (by simp) _)).mono ?_; rintro e w1 ⟨rfl, rfl⟩)
      | (go_at_call 51; refine (neighbors_any A n c _).mono ?_; rintro e w2 ⟨rfl, rfl⟩))
    have b1 : Boxed (((w.alloc (.cells #[.slice none 0 0] 30)).alloc (.cells #[.int .i64 0] 31)).alloc (.cells #[.slice A n c] 22)) w.heap.size 30 (.slice none 0 0) := ((Boxed.new w _ _).alloc _).alloc _
    have b2 : Boxed (((w.alloc (.cells #[.slice none 0 0] 30)).alloc (.cells #[.int .i64 0] 31)).alloc (.cells #[.slice A n c] 22)) (w.heap.size + 1) 31 (.int .i64 0) := by
      have := (Boxed.new (w.alloc (.cells #[.slice none 0 0] 30)) 31 (.int .i64 0)).alloc (.cells #[.slice A n c] 22)
      simpa using this
    have b3 : Boxed (((w.alloc (.cells #[.slice none 0 0] 30)).alloc (.cells #[.int .i64 0] 31)).alloc (.cells #[.slice A n c] 22)) (w.heap.size + 1 + 1) 22 (.slice A n c) := by
      have := Boxed.new ((w.alloc (.cells #[.slice none 0 0] 30)).alloc (.cells #[.int .i64 0] 31)) 22 (.slice A n c)
      simpa using this
    have hb : Below w.heap.size w (((w.alloc (.cells #[.slice none 0 0] 30)).alloc (.cells #[.int .i64 0] 31)).alloc (.cells #[.slice A n c] 22)) := (((Below.refl _ _).alloc (Nat.le_refl _) _).alloc (by simp) _).alloc (by simp; omega) _
    have hsz : (((w.alloc (.cells #[.slice none 0 0] 30)).alloc (.cells #[.int .i64 0] 31)).alloc (.cells #[.slice A n c] 22)).heap.size = w.heap.size + 3 := by simp
    generalize ((w.alloc (.cells #[.slice none 0 0] 30)).alloc (.cells #[.int .i64 0] 31)).alloc (.cells #[.slice A n c] 22) = w4 at *
    have Y4 := neighbors_yields 8 (w.heap.size + 1 + 1) (w.heap.size + 3) A n c T w4 b3 (by omega) ((V.out.below hb).more (by omega))
    have HB := Kept.mk hb
    clear hb
    refine (wpIn_wide (n := 9)).1 ?_
    refine wp_range (by decide) (gf := 92) (lb := #[.pointer (some ⟨w.heap.size + 1 + 1, 0, none⟩)]) rfl (enters_of Try.func92 (by kernel_rfl) rfl)
      (encs := encP) (O := fun _ => False) (Kp := fun X Y => Below (w.heap.size + 3) X Y) (L := Sy.pairs T) Y4
      (fun _ h => h.elim) (fun h k => h.trans k) (fun W W' row hW hg hr => (Below.refl _ W).grown hg (by omega) (fun g e => by have := hr g e; omega)) (fun _ => rfl)
      (EncI w) (EncX w)
      (fun pre x a₁ W => EncI w pre W ∧
        a₁ = { tmps := #[.slice A n c, undef, .pointer (some ⟨w.heap.size, 0, none⟩), .pointer (some ⟨w.heap.size + 1, 0, none⟩), .string x.1, .string x.2, undef, undef, undef, .slice A n c, .bool false, .slice A n c, .func (.func 92) #[] #[.pointer (some ⟨w.heap.size + 1 + 1, 0, none⟩)],
          .string x.1, .string x.2, undef, undef, undef, undef, undef, undef, undef, undef, undef, undef, undef, undef, undef, undef, undef, undef, undef, undef], defers := [] })
      ?hI ?hIx ?hM ?h0 ?assign ?body ?done ?stop
    case hI => rw [hsz]; exact EncI.own
    case hIx => rw [hsz]; exact EncX.own
    case hM =>
      rw [hsz]
      rintro pre p a₁ u W W' row ⟨hI, ha⟩ hgr hr
      exact ⟨EncI.own _ _ _ _ hI hgr hr, ha⟩
    case h0 => exact ⟨by simp, b1, b2, HB.out⟩
    case assign =>
      rintro q pre ⟨x, y⟩ W hI hpre hW
      unfold encP
      gi_wp2
      exact ⟨⟨Nat.le_refl _, fun _ _ _ h _ => h⟩, Below.refl _ _, hI, trivial⟩
    case body =>
      rintro q pre ⟨x, y⟩ a₁ W ⟨⟨h1, h2, h3, h4⟩, rfl⟩ hpre hW
      have hc1 := h2.cell
      have hf1 := h2.frozen
      have hc2 := h3.cell
      have hf2 := h3.frozen
      have B1 := Kept.mk h2
      have B2 := Kept.mk h3
      have BB := Kept.mk h4
      have H1 := Kept.mk h1
      have hltb : Op.bytesLess x.toList y.toList = St.lt x y := rfl
      clear h1 h2 h3 h4
      cases hxy : St.lt x y with
      | true =>
        rw [hxy] at hltb
        have HX := Kept.mk hxy
        clear hxy
        gi_wp2
        refine ⟨⟨Nat.le_refl _, fun _ _ _ h _ => h⟩, Below.refl _ _, fun p hp => ?_, B1.out, B2.out, BB.out⟩
        rcases List.mem_append.1 hp with hp | hp
        · exact H1.out p hp
        · rw [List.mem_singleton.1 hp]; exact HX.out
      | false =>
        rw [hxy] at hltb
        have HX := Kept.mk hxy
        clear hxy
        gi_wp2
        exact ⟨((KeepsOthers.setCell _ _ _).trans (KeepsOthers.setCell _ _ _)).from _, rfl, ⟨(x, y), by simp, HX.out⟩, (B1.out.set _).other (by omega) _, (B2.out.other (by omega) _).set _,
          (BB.out.setCell (p := ⟨w.heap.size, 0, none⟩) (Nat.le_refl _) _).setCell (p := ⟨w.heap.size + 1, 0, none⟩) (by show _ ≤ _ + 1; omega) _⟩
    case done =>
      rintro D W hD ⟨h1, h2, h3, h4⟩ hK
      have hasc : Sy.ascB T = true := by unfold Sy.ascB; rw [List.all_eq_true]; exact h1
      obtain ⟨E, hE⟩ : ∃ E, E = Sy.encB T := ⟨_, rfl⟩
      have HM2 : Kept (M = (E, 0)) := ⟨by rw [HM.out, if_pos hasc, hE]⟩
      have hle : E.length ≤ 70000000000 := by rw [hE]; exact Sy.encB_le HSZ.out (by have := HN.out; omega)
      have HE := Kept.mk hE
      have LE := Kept.mk hle
      have hwn := wrap_u64 (n : Int) (by omega) (by omega)
      have B1 := Kept.mk h2
      have B2 := Kept.mk h3
      have BB := Kept.mk h4
      have HK := Kept.mk hK
      have hDs := (Array.getElem?_eq_some_iff.1 hK).1
      have hbz := h4.size
      clear h1 h2 h3 h4 hK hasc hE hle b1 b2 b3 Y4
      go_wp2_with (go_at_call 52; refine (vappend_any none 0 0 W.heap.size n [] W (OwnB.nil _ _) (Nat.le_refl _) (by omega) (by omega)).mono ?_; rintro e w1 ⟨A1, n1, c1, rfl, ho1, hg1, -⟩; have O1 := Kept.mk ho1; have G1 := Kept.mk (own_grown_below (OwnB.nil W W.heap.size) (Nat.le_refl _) hg1); clear ho1 hg1)
      go_loopw [6, 24] (fun b i wr => ∃ k : Nat, k ≤ n ∧ i = .int .i64 k ∧ ∃ A2 n2 c2 bl, b = .slice A2 n2 c2 ∧ OwnB wr W.heap.size A2 n2 c2 bl ∧ Below W.heap.size W wr ∧ Kept (bl ++ (T.drop k).flatMap Sy.strE = E)) (fun _ i _ => n - (intOf i).toNat)
      case atStart => exact ⟨0, by omega, rfl, A1, n1, c1, _, rfl, O1.out, G1.out, ⟨by rw [HE.out, Sy.encB, HN.out]; simp⟩⟩
      case round =>
        clear O1 G1
        obtain ⟨k, hk, rfl, A2, n2, c2, bl, rfl, ho, hb, hd⟩ := hrel
        by_cases hlt : k < n
        · have hkl : k < T.length := by rw [← HN.out]; exact hlt
          have hsk := HSZ.out _ (List.getElem_mem hkl)
          have hd1 := hd.out
          have hn2 : n2 ≤ 70000000000 := by
            have e1 := ho.len
            have e2 := LE.out
            rw [← hd1, List.length_append] at e2
            omega
          rw [List.drop_eq_getElem_cons hkl, List.flatMap_cons, ← List.append_assoc] at hd1
          have HD := Kept.mk hd1
          obtain ⟨b, off, rfl, -, c0⟩ := ((V.out.below (BB.out.trans (hb.mono hbz))).more (Nat.le_refl _)).at_ hkl
          have O := Kept.mk ho
          have B := Kept.mk hb
          have hse : Sy.strE T[k] = Wr.str T[k].data.toList := rfl
          rw [hse] at HD
          clear ho hb hd hd1 hse
          generalize T[k] = x at *
          go_wp2_with (go_at_call 53; refine (appendBytes_any A2 n2 c2 W.heap.size bl x wr O.out B.out.size (by omega)).mono ?_; rintro e w2 ⟨A3, n3, c3, rfl, ho, hb⟩; have O3 := Kept.mk ho; have B3 := Kept.mk (B.out.trans hb); clear ho hb)
          go_roundw
          case rel => exact ⟨k + 1, by omega, by go_num, A3, n3, c3, _, rfl, O3.out, B3.out, HD⟩
          case measure => simp [intOf]; omega
        · have hd1 : Kept (bl = E) := ⟨by have := hd.out; rwa [List.drop_eq_nil_of_le (by have := HN.out; omega), List.flatMap_nil, List.append_nil] at this⟩
          have X1 : Boxed wr w.heap.size 30 (.slice none 0 0) := (hb.block _ (by omega)).trans B1.out
          have X2 : Boxed wr (w.heap.size + 1) 31 (.int .i64 0) := (hb.block _ (by omega)).trans B2.out
          have XK : wr.heap[D]? = some (.deferred (some [])) := (hb.block _ hDs).trans HK.out
          have hc1 := X1.cell
          have hf1 := X1.frozen
          have hc2 := X2.cell
          have hf2 := X2.frozen
          have Z1 := Kept.mk X1
          have Z2 := Kept.mk X2
          have ZK := Kept.mk XK
          have O := Kept.mk ho
          have B := Kept.mk hb
          clear ho hb hd X1 X2 XK
          go_wp2
          obtain ⟨q0, q1, q2⟩ := two_ends (.slice A2 n2 c2) (.int .i64 0) Z1.out Z2.out (by omega) (by omega) (by omega) ZK.out
          refine ⟨by simp, .inl ⟨_, _, rfl, run_takeDeferred q0, ?_⟩⟩
          refine ⟨.tuple #[.slice A2 n2 c2, .int .i64 0], by simp [results, Try.results21, go_sem, q1, q2], A2, n2, c2, ?_, ?_, ?_⟩
          · rw [HM2.out]
          · rw [HM2.out]
            have h1 : OwnB wr w.heap.size A2 n2 c2 E := by rw [← hd1.out]; exact O.out.base hbz
            have gs1 := own_set_far h1 (g := w.heap.size) (k := 0) (v := .slice A2 n2 c2) (fun g e => by have := (own_lt O.out g e).1; omega)
            have gs2 := own_set_far gs1 (g := w.heap.size + 1) (k := 0) (v := .int .i64 0) (fun g e => by have := (own_lt O.out g e).1; omega)
            exact own_aside gs2 (grownBy_putObj' _ D _) (fun r e => by cases e; exact .inr ⟨_, q0, rfl⟩)
          · exact (((BB.out.trans (B.out.mono hbz)).setCell (p := ⟨w.heap.size, 0, none⟩) (Nat.le_refl _) _).setCell (p := ⟨w.heap.size + 1, 0, none⟩) (by show _ ≤ _ + 1; omega) _).grown (grownBy_putObj' _ D _) (by simp; have := B.out.size; omega) (fun g e => by cases e; omega)
    case stop =>
      rintro D c pre W hD hpre ⟨rfl, ⟨p, hp, hp2⟩, h2, h3, h4⟩ hK
      have HM2 : Kept (M = ([], 16)) := ⟨by rw [HM.out, if_neg (by rw [Sy.asc_bad hpre hp hp2]; simp)]⟩
      have hc1 := h2.cell
      have hc2 := h3.cell
      have B1 := Kept.mk h2
      have B2 := Kept.mk h3
      have BB := Kept.mk h4
      have HK := Kept.mk hK
      clear h2 h3 h4 hK hp hp2
      gi_wp2
      have hgo : W.grownBy (W.putObj D (.deferred none)) (some D) := grownBy_putObj' W D _
      have q1 := (B1.out.kept hgo (fun e => by have := Option.some.inj e; omega)).cell
      have q2 := (B2.out.kept hgo (fun e => by have := Option.some.inj e; omega)).cell
      refine ⟨by simp, .inl ⟨_, _, rfl, run_takeDeferred HK.out, ?_⟩⟩
      refine ⟨.tuple #[.slice none 0 0, .int .i64 16], by simp [results, Try.results21, go_sem, q1, q2], none, 0, 0, ?_, ?_, BB.out.grown hgo BB.out.size (fun g e => by cases e; omega)⟩
      · rw [HM2.out]
      · rw [HM2.out]; exact OwnB.nil _ _
end Go.Proofs.Ythhcfocmaiacoaa
