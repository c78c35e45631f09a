/- The law WireIsolated. -/
import Derived.Test.YtknfkbgnfjfpeaaDoorWireO
import Derived.Test.YtknfkbgnfjfpeaaDoorWireP
namespace Go.Proofs.YtknfkbgnfjfpeaaDoor
open Go.RowKit Go.Shelf

/-- a fresh reader, its bytes its own -/
def RdrN (w : World) (p base n : Nat) (l : List UInt8) : Prop := ∃ A c, w.heap[p]? = some (.cells #[.slice A n c, .int .i64 0, .int .i64 0] 85 (0, 0)) ∧ OwnB w base A n c l ∧ ∀ g, ab A = some g → g < p
theorem RdrN.rdr {w : World} {p base n : Nat} {l : List UInt8} (h : RdrN w p base n l) (hn : n ≤ 140737488340000) : Rdr w p l 0 0 := by
  obtain ⟨A, c, h1, h2, hp⟩ := h
  refine ⟨A, n, c, h1, ?_, hn, Nat.zero_le _⟩
  have hr := h2.rd
  refine ⟨hr.1, hr.2.1, hr.2.2.1, fun h0 => ?_⟩
  obtain ⟨b, off, e, _, hc⟩ := hr.2.2.2 h0
  exact ⟨b, off, e, hp b (by rw [e]; rfl), hc⟩
theorem OwnB.past' {w w' : World} {base n c q : Nat} {A : Option Addr} {l : List UInt8} (h : OwnB w base A n c l) (hg : w.grownBy w' (some q)) (hq : q < base) : OwnB w' base A n c l :=
  own_grown h hg (by
    rcases hA : ab A with _ | g
    · exact .inl rfl
    · refine .inr fun e => ?_
      have := (own_lt h g hA).1
      have := Option.some.inj e
      omega)
theorem RdrN.grown {w w' : World} {p base n g : Nat} {l : List UInt8} (h : RdrN w p base n l) (hg : w.grownBy w' (some g)) (h1 : g < base) (h2 : base ≤ p) : RdrN w' p base n l := by
  obtain ⟨A, c, h3, h4, h5⟩ := h
  have hp := (Array.getElem?_eq_some_iff.1 h3).1
  exact ⟨A, c, (hg.block p hp (fun e => by have := Option.some.inj e; omega)).trans h3, OwnB.past' h4 hg h1, h5⟩
/-- a row, changed up to k -/
def mp (f : UInt8 → UInt8) (k : Nat) (l : List UInt8) : List UInt8 := (l.take k).map f ++ l.drop k
theorem mp_zero (f : UInt8 → UInt8) (l : List UInt8) : mp f 0 l = l := by simp [mp]
theorem mp_all (f : UInt8 → UInt8) (l : List UInt8) (k : Nat) (h : l.length ≤ k) : mp f k l = l.map f := by simp [mp, List.take_of_length_le h, List.drop_eq_nil_of_le h]
theorem mp_len (f : UInt8 → UInt8) (l : List UInt8) (k : Nat) : (mp f k l).length = l.length := by simp [mp]; omega
theorem mp_get (f : UInt8 → UInt8) (l : List UInt8) (k : Nat) (h : k < l.length) : (mp f k l)[k]'(by rw [mp_len]; exact h) = l[k] := by
  have h1 : (mp f k l)[k]? = some l[k] := by
    unfold mp
    rw [List.getElem?_append_right (by simp; omega)]
    simp [show min k l.length = k by omega, List.getElem?_eq_getElem h]
  exact (List.getElem?_eq_some_iff.1 h1).2
theorem mp_set (f : UInt8 → UInt8) (l : List UInt8) (k : Nat) (h : k < l.length) : (mp f k l).set k (f l[k]) = mp f (k + 1) l := by
  have hk : ((l.take k).map f).length = k := by simp; omega
  unfold mp
  rw [List.set_append_right _ _ (by omega), hk, Nat.sub_self, List.drop_eq_getElem_cons h, List.take_succ_eq_append_getElem h, List.set_cons_zero, List.map_append, List.append_assoc]
  rfl
theorem u8_inc (v : UInt8) : IntKind.u8.wrap ((v.toNat : Int) + 1) = ((v + 1).toNat : Int) := by
  rw [IntKind.wrap_u8, UInt8.toNat_add]
  have := v.toNat_lt
  simp
theorem u8_dec (v : UInt8) : IntKind.u8.wrap ((v.toNat : Int) - 1) = ((v - 1).toNat : Int) := by
  rw [IntKind.wrap_u8, UInt8.toNat_sub]
  have := v.toNat_lt
  simp
  omega
theorem dec_inc (l : List UInt8) : (l.map (· - 1)).map (· + 1) = l := by
  rw [List.map_map]
  conv => rhs; rw [← List.map_id l]
  apply List.map_congr_left
  intro v _
  show v - 1 + 1 = v
  exact UInt8.sub_add_cancel v 1
set_option maxHeartbeats 1000000 in
theorem newReaderN_any (A : Option Addr) (n c B : Nat) (l : List UInt8) (w : World) (hv : RdB w B A n c l) (hB : B ≤ w.heap.size) (hn : n ≤ 140737488340000) :
    Calls Tryd.prog 23 #[.slice A n c] w fun r w' => ∃ p, r = .returned (.pointer (some ⟨p, 0, none⟩)) ∧ w.heap.size ≤ p ∧ p < w'.heap.size ∧ RdrN w' p w.heap.size n l ∧ Below w.heap.size w w' := by
  have Hv := Kept.mk hv
  have hlc := hv.1
  clear hv
  go_enter Tryd.func23, Tryd.ntmps23
  go_wp2_with (go_at_call 50; refine (sclone_any _ _ _ B l _ Hv.out hB (by omega)).mono ?_; rintro e w1 ⟨A1, c1, rfl, ho, hb⟩)
  go_ret
  have hz := hb.size
  exact ⟨w1.heap.size, rfl, hz, by simp, ⟨A1, c1, heap_alloc_new w1 _, World.ownsRow.alloc ho _, fun g hg => (own_lt ho g hg).2⟩, hb.alloc hz _⟩
set_option maxRecDepth 100000 in
set_option maxHeartbeats 4000000 in
theorem law_isolated (A : Option Addr) (n c : Nat) (l : List UInt8) (kd nn : Int) (u : Nat) (id : UInt8) (w : World) (hv : RdB w w.heap.size A n c l) (ht : Tab w) :
    Calls Tryd.prog 8 #[.slice A n c, .agg #[.int .i64 kd, .int .i64 nn, .int .u64 (u : Int), .int .u8 (id.toNat : Int)]] w fun r w' => r = .returned (.bool true) ∧ Below w.heap.size w w' := by
  have hlc := hv.1
  have hcm := hv.2.1
  unfold maxLen at hcm
  have hnl := Kept.mk hv.len
  obtain ⟨W1, hW1⟩ : ∃ W1, W1 = w.alloc (.cells #[.int .i64 kd, .int .i64 nn, .int .u64 (u : Int), .int .u8 (id.toNat : Int)] 53) := ⟨_, rfl⟩
  have hb0 : Below w.heap.size w W1 := by rw [hW1]; exact (Below.refl _ w).alloc (Nat.le_refl _) _
  have ha0 : ActAt W1 w.heap.size kd nn u id := by rw [hW1]; exact ActAt.new w kd nn u id
  have hz0 : w.heap.size < W1.heap.size := by rw [hW1]; simp
  have V0 := Kept.mk ((hv.below hb0).more (B' := W1.heap.size) (by omega))
  have T0 := Kept.mk (ht.below hb0)
  have B0 := Kept.mk hb0
  have A0 := Kept.mk ha0
  have HW1 := Kept.mk hW1.symm
  clear hv ht hb0 hW1
  by_cases hbig : (2000 : Int) < (n : Int)
  · clear ha0
    go_enter Tryd.func8, Tryd.ntmps8
    go_wp2_with (go_at_call 15; rw [HW1.out]; refine (alive_any _).mono ?_; rintro e w1 ⟨rfl, hb1⟩)
    go_ret
    exact ⟨rfl, bl_next B0.out hb1⟩
  have hsm : (n : Int) ≤ 2000 := by omega
  have hnn : n ≤ 2000 := by omega
  clear hbig
  obtain ⟨k0, k1, k2, k3⟩ := ha0
  have bW1 := Kept.mk (Below.refl W1.heap.size W1)
  have htk : Kept (Wr.take l 0 0 (n : Int) = (l, n, 0)) := ⟨by
    unfold Wr.take
    rw [if_neg (by simp), if_neg (by omega), if_neg (by rw [← hnl.out]; simp), Int.toNat_natCast, List.drop_zero, List.take_of_length_le (by rw [← hnl.out]; exact Nat.le_refl _), Nat.zero_add]⟩
  have hfin : Kept (Wr.fin l n 0 = 0) := ⟨by unfold Wr.fin; rw [if_neg (by simp), if_neg (by rw [← hnl.out]; omega)]⟩
  go_enter Tryd.func8, Tryd.ntmps8
  go_upto_region 4 with fail
  rw [HW1.out]
  go_upto_region 11 with (first
    | (go_at_call 33; refine (nil_fail _ _).mono ?_; rintro r w2 ⟨rfl, rfl⟩)
    | (go_at_call 26; refine (nil_at _).mono ?_; rintro r w2 ⟨rfl, rfl⟩)
    | (go_at_call 25; refine (nil_err _).mono ?_; rintro r w2 ⟨rfl, rfl⟩)
    | (go_at_call 29; refine (nil_end _).mono ?_; rintro r w2 ⟨rfl, rfl⟩)
    | (go_at_call 32; refine (nil_byte W1).mono ?_; rintro r w1 ⟨rfl, hb⟩; have bw1 := Kept.mk (bl_next bW1.out hb); clear hb k0 k1 k2 k3; obtain ⟨k0, k1, k2, k3⟩ := A0.out.below bw1.out hz0)
    | (go_at_call 34; refine (nil_uint u w1).mono ?_; rintro r w2 ⟨rfl, hb⟩; have bw2 := Kept.mk (bl_next bw1.out hb); clear hb k0 k1 k2 k3; obtain ⟨k0, k1, k2, k3⟩ := A0.out.below bw2.out hz0)
    | (go_at_call 35; refine (nil_take nn w2).mono ?_; rintro r w3 ⟨rfl, hb⟩; have bw3 := Kept.mk (bl_next bw2.out hb); clear hb k0 k1 k2 k3; obtain ⟨k0, k1, k2, k3⟩ := A0.out.below bw3.out hz0)
    | (go_at_call 28; refine (nil_string nn w3).mono ?_; rintro r w4 ⟨rfl, hb⟩; have bw4 := Kept.mk (bl_next bw3.out hb); clear hb k0 k1 k2 k3; obtain ⟨k0, k1, k2, k3⟩ := A0.out.below bw4.out hz0)
    | (go_at_call 24; refine (nil_section id w4).mono ?_; rintro r w5 ⟨rfl, hb⟩; have bw5 := Kept.mk (bl_next bw4.out hb); clear hb k0 k1 k2 k3; obtain ⟨k0, k1, k2, k3⟩ := A0.out.below bw5.out hz0)
    | (go_at_call 17; refine (clone_any _ _ _ W1.heap.size l w5 (V0.out.below bw5.out) bw5.out.size (by omega)).mono ?_; rintro r w6 ⟨A6, c6, rfl, ho6, hb6⟩; have o6 := Kept.mk ho6; have b6 := Kept.mk hb6; have hlc6 := ho6.rd.1; clear ho6 hb6)
    | (go_at_call 23; refine (newReaderN_any _ _ _ w6.heap.size l w6 o6.out.rd (Nat.le_refl _) (by omega)).mono ?_; rintro r w7 ⟨p, rfl, hp1, hp2, hr7, hb7⟩; have r7 := Kept.mk hr7; have b7 := Kept.mk hb7; have o7 := Kept.mk (OwnB.keep o6.out hb7); clear hr7 hb7))
  have hz5 := bw5.out.size
  have hz6 := b6.out.size
  have hz7 := b7.out.size
  have Bb7 : Kept (Below W1.heap.size W1 w7) := ⟨bw5.out.trans ((b6.out.mono hz5).trans (b7.out.mono (by omega)))⟩
  have hA6 : Kept (∀ g, ab A6 = some g → w5.heap.size ≤ g ∧ g < w6.heap.size) := ⟨own_lt o6.out⟩
  clear b7 b6 o6 bw5 bW1 k0 k1 k2 k3
  go_wp2
  go_loopw [76] (fun i wr => ∃ k : Nat, k ≤ n ∧ i = .int .i64 k ∧ (∃ lc, OwnB wr w5.heap.size A6 n c6 lc) ∧ RdrN wr p w6.heap.size n l ∧ w7.heap.size ≤ wr.heap.size ∧ Below W1.heap.size W1 wr) (fun i _ => n - (intOf i).toNat)
  case atStart => exact ⟨0, Nat.zero_le _, rfl, ⟨_, o7.out⟩, r7.out, Nat.le_refl _, Bb7.out⟩
  case round =>
    clear o7 r7 Bb7
    obtain ⟨k, hk, rfl, ⟨lc, ho⟩, hr, hz, hb⟩ := hrel
    by_cases hlt : k < n
    · obtain ⟨g, rfl, hg1, hg2⟩ := ho.pos (by omega)
      have hkl : k < lc.length := by rw [← ho.len]; exact hlt
      obtain ⟨cc, ff⟩ := ho.at_ hkl
      have hg6 := (hA6.out g rfl).2
      have hx := u8_inc lc[k]
      have Ho := Kept.mk ho
      have Hr := Kept.mk hr
      have Hb := Kept.mk hb
      clear ho hr hb
      generalize lc[k] = v at *
      have hx1 : ((v.toNat : Int) + 1) % 256 = ((v + 1).toNat : Int) := by rw [← hx, IntKind.wrap_u8]
      generalize v + 1 = x at *
      go_wp2
      go_roundw
      case rel => exact ⟨k + 1, by omega, by go_num, ⟨_, OwnB.set Ho.out k x⟩, Hr.out.grown (grown_set wr ⟨g, k, none⟩ _) hg6 hp1, by simpa using hz, Hb.out.setCell (p := ⟨g, k, none⟩) (by show W1.heap.size ≤ g; omega) _⟩
      case measure => simp [intOf]; omega
    · have R0 := Kept.mk (hr.rdr (by omega))
      have Hb := Kept.mk hb
      have hlr := hr.rdr (by omega)
      have hpz : p < wr.heap.size := by omega
      clear ho hr hb hlr
      go_upto_region 17 with (go_at_call 35; refine (take_any p 0 l 0 (n : Int) wr R0.out (by omega) (by omega)).mono ?_; rintro r w8 ⟨A8, n8, c8, rfl, ho8, hr8, hg8⟩; rw [htk.out] at ho8 hr8; obtain rfl : n8 = n := (by have h1 : n8 = l.length := ho8.len; have h2 := hnl.out; omega); have o8 := Kept.mk ho8; have r8 := Kept.mk hr8; have b8 := Kept.mk (Hb.out.trans (grown_below hg8 (by omega) Hb.out.size)); have z8 := hg8.size; have hlc8 := ho8.rd.1; clear ho8 hr8 hg8)
      have R8 : Kept (∀ W, Below wr.heap.size w8 W → Rdr W p l n8 0) := ⟨fun W h => r8.out.below h hpz⟩
      have B8 : Kept (∀ W, Below wr.heap.size w8 W → Below W1.heap.size W1 W) := ⟨fun W h => b8.out.trans (h.mono Hb.out.size)⟩
      clear R0 r8 b8 Hb
      generalize wr.heap.size = Bs at *
      go_wp2
      go_loopw [92] (fun i wq => ∃ k : Nat, k ≤ n8 ∧ i = .int .i64 k ∧ OwnB wq Bs A8 n8 c8 (mp (· - 1) k l) ∧ Below Bs w8 wq) (fun i _ => n8 - (intOf i).toNat)
      case atStart => exact ⟨0, Nat.zero_le _, rfl, by rw [mp_zero]; exact o8.out, Below.refl _ _⟩
      case round =>
        clear o8
        obtain ⟨k, hk, rfl, ho, hb⟩ := hrel
        by_cases hlt : k < n8
        · obtain ⟨g, rfl, hg1, hg2⟩ := ho.pos (by omega)
          have hkl : k < l.length := by rw [← hnl.out]; exact hlt
          obtain ⟨cc, ff⟩ := ho.at_ (k := k) (by rw [mp_len]; exact hkl)
          rw [mp_get _ _ _ hkl] at cc
          have hx := u8_dec l[k]
          have Ho := Kept.mk ho
          have Hs := Kept.mk (mp_set (· - 1) l k hkl)
          have Hb := Kept.mk hb
          clear ho hb
          generalize l[k] = v at *
          have hx1 : ((v.toNat : Int) - 1) % 256 = ((v - 1).toNat : Int) := by rw [← hx, IntKind.wrap_u8]
          obtain ⟨x, hxx⟩ : ∃ x, v - 1 = x := ⟨_, rfl⟩
          rw [hxx] at hx hx1
          have Hxx := Kept.mk hxx
          clear hxx
          go_wp2
          go_roundw
          case rel =>
            refine ⟨k + 1, by omega, by go_num, ?_, Hb.out.setCell (p := ⟨g, k, none⟩) hg1 _⟩
            have h := OwnB.set Ho.out k x
            rw [← Hs.out]
            simp only [Hxx.out]
            exact h
          case measure => simp [intOf]; omega
        · obtain rfl : k = n8 := by omega
          rw [mp_all _ _ _ (by rw [← hnl.out]; exact Nat.le_refl _)] at ho
          have hld : (l.map (· - 1)).length = l.length := List.length_map _
          have hdi := Kept.mk (dec_inc l)
          have Ho := Kept.mk ho
          have Hb2 := Kept.mk hb
          have hnd : Kept (k = (l.map (· - 1)).length) := ⟨by rw [hld]; exact hnl.out⟩
          clear ho hb hld
          generalize l.map (· - 1) = ld at *
          go_wp2
          go_loopw [104] (fun i wq => ∃ j : Nat, j ≤ k ∧ i = .int .i64 j ∧ OwnB wq Bs A8 k c8 (mp (· + 1) j ld) ∧ Below Bs w8 wq) (fun i _ => k - (intOf i).toNat)
          case atStart => exact ⟨0, Nat.zero_le _, rfl, by rw [mp_zero]; exact Ho.out, Hb2.out⟩
          case round =>
            clear Ho Hb2
            obtain ⟨j, hj, rfl, ho, hb⟩ := hrel
            by_cases hlt : j < k
            · obtain ⟨g, rfl, hg1, hg2⟩ := ho.pos (by omega)
              have hkl : j < ld.length := by rw [← hnd.out]; exact hlt
              obtain ⟨cc, ff⟩ := ho.at_ (k := j) (by rw [mp_len]; exact hkl)
              rw [mp_get _ _ _ hkl] at cc
              have hx := u8_inc ld[j]
              have Ho := Kept.mk ho
              have Hs := Kept.mk (mp_set (· + 1) ld j hkl)
              have Hb := Kept.mk hb
              clear ho hb
              generalize ld[j] = v at *
              have hx1 : ((v.toNat : Int) + 1) % 256 = ((v + 1).toNat : Int) := by rw [← hx, IntKind.wrap_u8]
              obtain ⟨x, hxx⟩ : ∃ x, v + 1 = x := ⟨_, rfl⟩
              rw [hxx] at hx hx1
              have Hxx := Kept.mk hxx
              clear hxx
              go_wp2
              go_roundw
              case rel =>
                refine ⟨j + 1, by omega, by go_num, ?_, Hb.out.setCell (p := ⟨g, j, none⟩) hg1 _⟩
                have h := OwnB.set Ho.out j x
                rw [← Hs.out]
                simp only [Hxx.out]
                exact h
              case measure => simp [intOf]; omega
            · obtain rfl : j = k := by omega
              rw [mp_all _ _ _ (by rw [← hnd.out]; exact Nat.le_refl _), hdi.out] at ho
              have Ho := Kept.mk ho
              have R9 := Kept.mk (R8.out _ hb)
              have B9 := Kept.mk (B8.out _ hb)
              clear ho hb
              go_wp2_with (first
                | (go_at_call 15; refine (alive_any _).mono ?_; rintro r w10 ⟨rfl, hb10⟩; have O10 := Kept.mk (OwnB.keep Ho.out hb10).rd; have R10 := Kept.mk (R9.out.below hb10 R9.out.lt); have B10 := Kept.mk (bl_next B9.out hb10); have V10 := Kept.mk (V0.out.below B10.out); clear hb10)
                | (go_at_call 19; refine (equal_is _ _ _ _ _ _ l l true w10 _ _ O10.out V10.out (by simp)).mono ?_; rintro r w11 ⟨rfl, rfl⟩)
                | (go_at_call 29; refine (end_any p j l 0 w10 R10.out).mono ?_; rintro r w11 ⟨rfl, rfl⟩; rw [hfin.out]))
              go_ret
              exact ⟨rfl, B0.out.trans (B10.out.mono (by omega))⟩
end Go.Proofs.YtknfkbgnfjfpeaaDoor
