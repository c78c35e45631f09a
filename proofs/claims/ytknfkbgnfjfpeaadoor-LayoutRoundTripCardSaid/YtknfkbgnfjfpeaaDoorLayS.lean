/- The law LayoutRoundTrip. -/
import Derived.Test.YtknfkbgnfjfpeaaDoorLayO
import Derived.Test.YtknfkbgnfjfpeaaDoorLayQ
namespace Go.Proofs.YtknfkbgnfjfpeaaDoor
open Go.RowKit Go.Shelf

theorem own_past {w w' : World} {base n c q : Nat} {A : Option Addr} {l : List UInt8} (h : OwnB w base A n c l) (hg : w.grownBy w' (some q)) (hq : ab A ≠ some q) : OwnB w' base A n c l :=
  own_grown h hg (by
    rcases hA : ab A with _ | g
    · exact .inl rfl
    · exact .inr fun e => hq (by rw [hA]; exact e))
/-- four rows of bytes of our own, whatever they hold -/
def FourW (w : World) (base : Nat) (V : Nat → Value) : Prop := ∀ i, i < 4 → ∃ A n c, V i = .slice A n c ∧ ∃ l, OwnB w base A n c l
theorem FourO.weak {w : World} {base : Nat} {V : Nat → Value} {D : Nat → List UInt8} (h : FourO w base V D) : FourW w base V := fun i hi => by
  obtain ⟨A, n, c, h1, h2⟩ := h i hi
  exact ⟨A, n, c, h1, _, h2⟩
theorem FourW.below {w w' : World} {base : Nat} {V : Nat → Value} (h : FourW w base V) (hb : Below w.heap.size w w') : FourW w' base V := fun i hi => by
  obtain ⟨A, n, c, h1, l, h2⟩ := h i hi
  exact ⟨A, n, c, h1, l, OwnB.keep h2 hb⟩
theorem FourW.set {w : World} {base : Nat} {V : Nat → Value} (h : FourW w base V) (g k : Nat) (x : UInt8) : FourW (w.setCell ⟨g, k, none⟩ (.int .u8 (x.toNat : Int))) base V := fun i hi => by
  obtain ⟨A, n, c, h1, l, h2⟩ := h i hi
  by_cases hA : ab A = some g
  · obtain rfl : A = some ⟨g, 0, none⟩ := by
      rcases h2.2 with hn | ⟨g', cap, cur, hv, _⟩
      · have h3 := hn.1
        injection h3 with h4 _ _
        rw [h4] at hA
        exact absurd hA (by simp [ab])
      · injection hv with h4 _ _
        rw [h4] at hA ⊢
        have : g' = g := Option.some.inj hA
        rw [this]
    exact ⟨_, n, c, h1, _, OwnB.set h2 k x⟩
  · exact ⟨A, n, c, h1, l, own_past h2 (grown_set w ⟨g, k, none⟩ _) hA⟩
theorem inc_u8 (v : UInt8) : IntKind.u8.wrap ((v.toNat : Int) + 1) = ((v + 1).toNat : Int) := by
  rw [IntKind.wrap_u8, UInt8.toNat_add]
  have := v.toNat_lt
  simp
theorem FourO.top {w : World} {base : Nat} {V : Nat → Value} {D : Nat → List UInt8} (h : FourO w base V D) : ∀ i, i < 4 → ∀ A n c, V i = .slice A n c → ∀ g, ab A = some g → base ≤ g ∧ g < w.heap.size := fun i hi A n c hV g hg => by
  obtain ⟨A', n', c', h1, h2⟩ := h i hi
  rw [hV] at h1
  injection h1 with e1 e2 e3
  subst e1 e2 e3
  exact own_lt h2 g hg
set_option maxRecDepth 100000 in
set_option maxHeartbeats 8000000 in
theorem law_lrt (V : Nat → Value) (D : Nat → List UInt8) (w : World) (hV : Four w w.heap.size V D) (hcap : ∀ i, i < 4 → (D i).length ≤ 140737488351232) (ht : Tab w) :
    Calls Tryd.prog 13 #[.agg (Ly.ar4 V)] w fun r w' => r = .returned (.bool true) ∧ Below w.heap.size w w' := by
  obtain ⟨W1, hW1⟩ : ∃ W1, W1 = w.alloc (.cells #[V 0, V 1, V 2, V 3] 62) := ⟨_, rfl⟩
  have B1 : Kept (Below w.heap.size w W1) := ⟨by rw [hW1]; exact (Below.refl _ w).alloc (Nat.le_refl _) _⟩
  have C1 : Kept (∀ k, W1.cell? ⟨w.heap.size, k, none⟩ = (#[V 0, V 1, V 2, V 3] : Array Value)[k]?) := ⟨by rw [hW1]; exact cells_new w _ _⟩
  have z1 : w.heap.size < W1.heap.size := by rw [hW1]; simp
  have HV := Kept.mk hV
  have HT := Kept.mk ht
  have HC := Kept.mk hcap
  have HW := Kept.mk hW1.symm
  clear hV ht hcap hW1
  have HL := large_any V D W1 ((HV.out.below B1.out).more B1.out.size)
  unfold Ly.ar4 at HL
  have k0 : W1.cell? ⟨w.heap.size, 0, none⟩ = some (V 0) := C1.out 0
  have k1 : W1.cell? ⟨w.heap.size, 1, none⟩ = some (V 1) := C1.out 1
  have k2 : W1.cell? ⟨w.heap.size, 2, none⟩ = some (V 2) := C1.out 2
  have k3 : W1.cell? ⟨w.heap.size, 3, none⟩ = some (V 3) := C1.out 3
  show Calls _ _ #[.agg #[V 0, V 1, V 2, V 3]] _ _
  rcases Ly.large_or D with hbig | hsm
  · rw [hbig] at HL
    have HL' := Kept.mk HL
    clear HL hbig
    go_enter Tryd.func13, Tryd.ntmps13
    go_upto_region 1 with fail
    rw [HW.out]
    go_wp2_with (first
      | (go_at_call 36; refine HL'.out.mono ?_; rintro r w2 ⟨rfl, hb2⟩; have B2 := Kept.mk (bl_next B1.out hb2); clear hb2)
      | (go_at_call 37; refine (alive16_any _ (HT.out.below B2.out)).mono ?_; rintro e w3 ⟨rfl, hb3⟩))
    go_ret
    exact ⟨rfl, bl_next B2.out hb3⟩
  · have hD := Ly.tot_small D hsm HC.out
    rw [hsm] at HL
    have HL' := Kept.mk HL
    have HP := Kept.mk (Ly.pe_asm D hD)
    have HO := Kept.mk (Ly.outS_asm D hD)
    have HN := Kept.mk (Ly.asm_le D hD)
    have HD := Kept.mk hD
    clear HL hsm hD
    go_enter Tryd.func13, Tryd.ntmps13
    go_upto_region 1 with fail
    rw [HW.out]
    generalize hg0 : w.heap.size = g0 at *
    have E0 := Kept.mk hg0
    have HV0 : Kept (Four w g0 V D) := ⟨HV.out⟩
    clear hg0
    go_upto_region 4 with (first
      | (go_at_call 36; refine HL'.out.mono ?_; rintro r w2 ⟨rfl, hb2⟩; have B2 : Kept (Below g0 w w2) := ⟨B1.out.trans (hb2.mono (by omega))⟩; have C2 := Kept.mk (cells_keep C1.out hb2 z1); clear hb2 k0 k1 k2 k3))
    have y2 : g0 < w2.heap.size := World.block_lt_of_cell? w2 _ (C2.out 0)
    have B3 := Kept.mk (B2.out.alloc (by omega) (.cells #[.slice none 0 0, .slice none 0 0, .slice none 0 0, .slice none 0 0] 62))
    have R3 : Kept ((w2.alloc (.cells #[.slice none 0 0, .slice none 0 0, .slice none 0 0, .slice none 0 0] 62)).heap[w2.heap.size]? = some (.cells (Ly.ar4 nilV) 62 (0, 0))) := ⟨heap_alloc_new w2 _⟩
    have C3 := Kept.mk (cells_old C2.out y2 (.cells #[.slice none 0 0, .slice none 0 0, .slice none 0 0, .slice none 0 0] 62))
    have z3 : w2.heap.size < (w2.alloc (.cells #[.slice none 0 0, .slice none 0 0, .slice none 0 0, .slice none 0 0] 62)).heap.size := by simp
    clear C2 B2
    generalize w2.alloc (.cells #[.slice none 0 0, .slice none 0 0, .slice none 0 0, .slice none 0 0] 62) = W3 at *
    generalize w2.heap.size = gc at *
    have k0 : W3.cell? ⟨g0, 0, none⟩ = some (V 0) := C3.out 0
    have k1 : W3.cell? ⟨g0, 1, none⟩ = some (V 1) := C3.out 1
    have k2 : W3.cell? ⟨g0, 2, none⟩ = some (V 2) := C3.out 2
    have k3 : W3.cell? ⟨g0, 3, none⟩ = some (V 3) := C3.out 3
    go_wp2
    go_loopw [17] (fun i wr => ∃ k : Nat, k ≤ 4 ∧ i = .int .i64 k ∧ (∃ U, FourO wr W3.heap.size U (Ly.gate k D) ∧ wr.heap[gc]? = some (.cells (Ly.ar4 U) 62 (0, 0))) ∧ Below gc W3 wr ∧ W3.heap.size ≤ wr.heap.size) (fun i _ => 4 - (intOf i).toNat)
    case atStart => exact ⟨0, by omega, rfl, ⟨nilV, fun _ _ => ⟨none, 0, 0, rfl, OwnB.nil _ _⟩, R3.out⟩, Below.refl _ _, Nat.le_refl _⟩
    case round =>
      clear R3 k0 k1 k2 k3
      obtain ⟨k, hk, rfl, ⟨U, hf, hr⟩, hb, hz⟩ := hrel
      by_cases hlt : k < 4
      · obtain ⟨Ak, nk, ck, hVk, hrd⟩ := HV.out k hlt
        have hcp := HC.out k hlt
        rw [← hrd.len] at hcp
        have hidx : ∀ W, (Instr.index 62 (.agg #[V 0, V 1, V 2, V 3]) (.int .i64 (k : Int))).run Tryd.prog W = .ok (.slice Ak nk ck) W := fun W => by rw [← hVk]; exact idx4 _ Tryd.underlying62 V k hlt W
        have hrd' : RdB wr g0 Ak nk ck (D k) := (hrd.below B3.out).below (hb.mono (by omega))
        have HS := Kept.mk (clone_any Ak nk ck g0 (D k) wr hrd' (by omega) (by omega))
        have Hput : Kept (∀ W, FourO W W3.heap.size U (Ly.gate k D) → ∀ A n c, OwnB W W3.heap.size A n c (D k) → FourO W W3.heap.size (fun i => if i = k then .slice A n c else U i) (Ly.gate (k + 1) D)) := ⟨fun W h A n c ho => h.put ho⟩
        have F1 := Kept.mk hf
        have R1 := Kept.mk hr
        have H1 := Kept.mk hb
        clear hVk hrd hrd' hf hr hb
        go_wp2_with (first
          | (go_at_call 17; refine HS.out.mono ?_; rintro r w8 ⟨A8, c8, rfl, ho8, hb8⟩;
              have f8 := Kept.mk (Hput.out _ (F1.out.below hb8) A8 nk c8 (OwnB.base ho8 hz));
              have r8 := Kept.mk ((hb8.block gc (by omega)).trans R1.out);
              have b8 := Kept.mk (H1.out.trans (hb8.mono (by omega)));
              have z8 := hb8.size;
              have x8 := (cell_of_row w8 gc k _ _ _ r8.out).trans (Ly.ar4_get U k hlt);
              have q8 := frozen_of_row w8 gc k _ _ r8.out;
              clear ho8 hb8))
        go_roundw
        case rel =>
          refine ⟨k + 1, by omega, by go_num, ⟨fun i => if i = k then .slice A8 nk c8 else U i, f8.out.grown (grown_set w8 ⟨gc, k, none⟩ _) z3, ?_⟩, b8.out.setCell (p := ⟨gc, k, none⟩) (Nat.le_refl _) _, by simp; omega⟩
          rw [heap_setCell_same w8 gc k _ _ _ r8.out, Ly.ar4_set U k _ hlt]
        case measure => simp [intOf]; omega
      · obtain rfl : k = 4 := by omega
        have hf4 : FourO wr W3.heap.size U D := fun i hi => by
          obtain ⟨A, n, c, h1, h2⟩ := hf i hi
          refine ⟨A, n, c, h1, ?_⟩
          unfold Ly.gate at h2
          rw [if_pos hi] at h2
          exact h2
        obtain ⟨Aa, na, ca, Ab, nb, cb, Ac, nc, cc, Ad, nd, cd, hU⟩ := hf4.lit
        have HU : Kept ((#[U 0, U 1, U 2, U 3] : Array Value) = #[.slice Aa na ca, .slice Ab nb cb, .slice Ac nc cc, .slice Ad nd cd]) := ⟨hU⟩
        have TOP := Kept.mk hf4.top
        have F4 := Kept.mk hf4.weak
        have Bw : Kept (Below g0 w wr) := ⟨B3.out.trans (hb.mono (by omega))⟩
        have HA := assemble_any U D wr hf4.four HD.out (HT.out.below (by rw [E0.out]; exact Bw.out))
        rw [hU] at HA hr
        have HA' := Kept.mk HA
        have R4 := Kept.mk hr
        have x0 := cell_of_row wr gc 0 _ _ _ hr
        have x1 := cell_of_row wr gc 1 _ _ _ hr
        have x2 := cell_of_row wr gc 2 _ _ _ hr
        have x3 := cell_of_row wr gc 3 _ _ _ hr
        have y0 : wr.cell? ⟨gc, 0, none⟩ = some (.slice Aa na ca) := x0
        have y1 : wr.cell? ⟨gc, 1, none⟩ = some (.slice Ab nb cb) := x1
        have y2 : wr.cell? ⟨gc, 2, none⟩ = some (.slice Ac nc cc) := x2
        have y3 : wr.cell? ⟨gc, 3, none⟩ = some (.slice Ad nd cd) := x3
        have CS := Kept.mk (cells_keep C3.out hb (by omega))
        clear HA hr hU hf hf4 hb x0 x1 x2 x3 HV C3 B3
        generalize hBs : wr.heap.size = Bs at *
        go_upto_region 10 with (first
          | (go_at_call 38; refine HA'.out.mono ?_; rintro r w5 ⟨A5, n5, c5, rfl, ho5, hb5⟩;
              have o5 := Kept.mk ho5;
              have F5 := Kept.mk (F4.out.below (by rw [hBs]; exact hb5));
              have R5 := (hb5.block gc (by omega)).trans R4.out;
              have y0 : w5.cell? ⟨gc, 0, none⟩ = some (.slice Aa na ca) := cell_of_row w5 gc 0 _ _ _ R5;
              have y1 : w5.cell? ⟨gc, 1, none⟩ = some (.slice Ab nb cb) := cell_of_row w5 gc 1 _ _ _ R5;
              have y2 : w5.cell? ⟨gc, 2, none⟩ = some (.slice Ac nc cc) := cell_of_row w5 gc 2 _ _ _ R5;
              have y3 : w5.cell? ⟨gc, 3, none⟩ = some (.slice Ad nd cd) := cell_of_row w5 gc 3 _ _ _ R5;
              have Bw5 : Kept (Below g0 w w5) := ⟨Bw.out.trans (hb5.mono (by omega))⟩;
              have CS5 := Kept.mk (cells_keep CS.out hb5 (by omega));
              have z5 := hb5.size;
              have hn5 : n5 ≤ 140737488352300 := (by have h1 := ho5.len; have h2 := HN.out; omega);
              have hlc5 := ho5.rd.1;
              clear ho5 hb5 R5))
        clear HA' R4 F4 Bw CS
        go_wp2
        go_loopw [29] (fun i wr => ∃ k : Nat, k ≤ 4 ∧ i = .int .i64 k ∧ FourW wr W3.heap.size U ∧ OwnB wr Bs A5 n5 c5 (Ly.asm D) ∧ Below W3.heap.size w5 wr) (fun i _ => 4 - (intOf i).toNat)
        case atStart => exact ⟨0, by omega, rfl, F5.out, o5.out, Below.refl _ _⟩
        case round =>
          clear y0 y1 y2 y3 o5 F5
          obtain ⟨k, hk, rfl, hf, ho, hb⟩ := hrel
          by_cases hlt : k < 4
          · obtain ⟨A1, n1, c1, hv, l1, ho1⟩ := hf k hlt
            have hidx : ∀ W, (Instr.index 62 (.agg #[.slice Aa na ca, .slice Ab nb cb, .slice Ac nc cc, .slice Ad nd cd]) (.int .i64 (k : Int))).run Tryd.prog W = .ok (.slice A1 n1 c1) W := fun W => by rw [← hv, ← HU.out]; exact idx4 _ Tryd.underlying62 U k hlt W
            have htop := Kept.mk (TOP.out k hlt A1 n1 c1 hv)
            have HVk := Kept.mk hv
            have hlc1 := ho1.rd.1
            have hcm1 := ho1.rd.2.1
            unfold maxLen at hcm1
            have F6 := Kept.mk hf
            have O6 := Kept.mk ho
            have B6 := Kept.mk hb
            clear hf ho hb ho1 hv
            go_wp2
            go_loopw [34] (fun i wq => ∃ j : Nat, j ≤ n1 ∧ i = .int .i64 j ∧ FourW wq W3.heap.size U ∧ OwnB wq Bs A5 n5 c5 (Ly.asm D) ∧ Below W3.heap.size w5 wq) (fun i _ => n1 - (intOf i).toNat)
            case atStart => exact ⟨0, by omega, rfl, F6.out, O6.out, B6.out⟩
            case round =>
              clear F6 O6 B6
              obtain ⟨j, hj, rfl, hf, ho, hb⟩ := hrel
              by_cases hlj : j < n1
              · obtain ⟨A2, n2, c2, hv2, l2, ho2⟩ := hf k hlt
                rw [HVk.out] at hv2
                injection hv2 with e1 e2 e3
                subst e1 e2 e3
                obtain ⟨g, rfl, hg1, hg2⟩ := ho2.pos (by omega)
                have hkl : j < l2.length := by rw [← ho2.len]; exact hlj
                obtain ⟨cc2, ff2⟩ := ho2.at_ hkl
                have hgB := (htop.out g rfl).2
                have hx := inc_u8 l2[j]
                have F7 := Kept.mk hf
                have O7 := Kept.mk ho
                have B7 := Kept.mk hb
                clear ho2 hf ho hb hidx
                generalize l2[j] = v at *
                have hx1 : ((v.toNat : Int) + 1) % 256 = ((v + 1).toNat : Int) := by rw [← hx, IntKind.wrap_u8]
                generalize v + 1 = x at *
                go_wp2
                go_roundw
                case rel => exact ⟨j + 1, by omega, by go_num, F7.out.set g j x, OwnB.past O7.out (grown_set _ ⟨g, j, none⟩ _) hgB, B7.out.setCell (p := ⟨g, j, none⟩) hg1 _⟩
                case measure => simp [intOf]; omega
              · obtain rfl : j = n1 := by omega
                have F7 := Kept.mk hf
                have O7 := Kept.mk ho
                have B7 := Kept.mk hb
                clear hf ho hb hidx
                go_wp2
                go_roundw
                case rel => exact ⟨k + 1, by omega, by go_num, F7.out, O7.out, B7.out⟩
                case measure => simp [intOf]; omega
          · obtain rfl : k = 4 := by omega
            have V8 := Kept.mk ho.rd
            have B8 : Kept (Below g0 w wr) := ⟨Bw5.out.trans (hb.mono (by omega))⟩
            have C8 := Kept.mk (cells_keep CS5.out hb (by omega))
            have hg8 : g0 < wr.heap.size := by have := hb.size; omega
            clear hf ho hb CS5 Bw5
            go_upto_region 20 with (go_at_call 42; refine (lParse_any A5 n5 c5 (Ly.asm D) wr V8.out (by omega) (HT.out.below (by rw [E0.out]; exact B8.out))).mono ?_; rintro r w9 ⟨S, rfl, hf, hb⟩; obtain ⟨Ba, ma, da, Bb, mb, db, Bc, mc, dc, Bd, md, dd, hS⟩ := hf.lit; rw [hS, HP.out]; have f9 := Kept.mk hf; have b9 := Kept.mk hb; have HS := Kept.mk hS; clear hf hb hS)
            have F9 := Kept.mk (f9.out.below ((Below.refl _ w9).alloc (Nat.le_refl _) (.cells #[.slice Ba ma da, .slice Bb mb db, .slice Bc mc dc, .slice Bd md dd] 65)))
            have B9 := Kept.mk (b9.out.alloc b9.out.size (.cells #[.slice Ba ma da, .slice Bb mb db, .slice Bc mc dc, .slice Bd md dd] 65))
            have C9 := Kept.mk (cells_new w9 #[.slice Ba ma da, .slice Bb mb db, .slice Bc mc dc, .slice Bd md dd] 65)
            have z9 : w9.heap.size < (w9.alloc (.cells #[.slice Ba ma da, .slice Bb mb db, .slice Bc mc dc, .slice Bd md dd] 65)).heap.size := by simp
            have S9 := Kept.mk (cells_keep C8.out B9.out hg8)
            have BB9 : Kept (Below g0 w (w9.alloc (.cells #[.slice Ba ma da, .slice Bb mb db, .slice Bc mc dc, .slice Bd md dd] 65))) := ⟨B8.out.trans (B9.out.mono (by omega))⟩
            have hg9 : g0 < w9.heap.size := by have := b9.out.size; omega
            clear f9 b9
            generalize w9.alloc (.cells #[.slice Ba ma da, .slice Bb mb db, .slice Bc mc dc, .slice Bd md dd] 65) = W9 at *
            generalize w9.heap.size = gs at *
            go_wp2_with (first
              | (go_at_call 37; refine (alive16_any _ (HT.out.below (by rw [E0.out]; exact BB9.out))).mono ?_; rintro e w10 ⟨rfl, hb10⟩;
                  have v0 : w10.cell? ⟨gs, 0, none⟩ = some (.slice Ba ma da) := cells_keep C9.out hb10 (by omega) 0;
                  have v1 : w10.cell? ⟨gs, 1, none⟩ = some (.slice Bb mb db) := cells_keep C9.out hb10 (by omega) 1;
                  have v2 : w10.cell? ⟨gs, 2, none⟩ = some (.slice Bc mc dc) := cells_keep C9.out hb10 (by omega) 2;
                  have v3 : w10.cell? ⟨gs, 3, none⟩ = some (.slice Bd md dd) := cells_keep C9.out hb10 (by omega) 3;
                  have u0 : w10.cell? ⟨g0, 0, none⟩ = some (V 0) := cells_keep S9.out hb10 (by omega) 0;
                  have u1 : w10.cell? ⟨g0, 1, none⟩ = some (V 1) := cells_keep S9.out hb10 (by omega) 1;
                  have u2 : w10.cell? ⟨g0, 2, none⟩ = some (V 2) := cells_keep S9.out hb10 (by omega) 2;
                  have u3 : w10.cell? ⟨g0, 3, none⟩ = some (V 3) := cells_keep S9.out hb10 (by omega) 3;
                  have B10 : Kept (Below g0 w w10) := ⟨BB9.out.trans (hb10.mono (by omega))⟩;
                  have zz10 : g0 ≤ w10.heap.size := (by have := hb10.size; omega);
                  have HX := same_true V S D (Ly.outS (Ly.asm D)) w10 ((HV0.out.below B10.out).more zz10) (F9.out.below hb10).four (fun i hi => (HO.out i hi).symm);
                  rw [HS.out] at HX; unfold Ly.ar4 at HX; have HX' := Kept.mk HX; clear hb10 HX)
              | (go_at_call 43; refine HX'.out.mono ?_; rintro r w11 ⟨rfl, hb11⟩; have B11 : Kept (Below g0 w w11) := ⟨B10.out.trans (hb11.mono zz10)⟩; clear hb11))
            go_ret
            exact ⟨rfl, by rw [E0.out]; exact B11.out⟩
end Go.Proofs.YtknfkbgnfjfpeaaDoor
