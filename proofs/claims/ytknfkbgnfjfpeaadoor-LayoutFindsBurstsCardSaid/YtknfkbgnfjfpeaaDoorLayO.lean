/- The law LayoutAssembles. -/
import Derived.Test.YtknfkbgnfjfpeaaDoorLayN
namespace Go.Proofs.YtknfkbgnfjfpeaaDoor
open Go.RowKit Go.Shelf

theorem Ly.tot_small (D : Nat → List UInt8) (h : Ly.large D = 0) (hc : ∀ i, i < 4 → (D i).length ≤ 140737488351232) : Ly.tot D 4 ≤ 140737488352000 := by
  have h4 : Ly.sm4 D 4 = 0 + min (D 0).length 5000 + min (D 1).length 5000 + min (D 2).length 5000 + min (D 3).length 5000 := rfl
  have t4 : Ly.tot D 4 = 0 + (D 0).length + (D 1).length + (D 2).length + (D 3).length := rfl
  have c0 := hc 0 (by omega)
  have c1 := hc 1 (by omega)
  have c2 := hc 2 (by omega)
  have c3 := hc 3 (by omega)
  unfold Ly.large at h
  split at h
  · omega
  · omega
theorem Ly.large_or (D : Nat → List UInt8) : Ly.large D = 1 ∨ Ly.large D = 0 := by
  unfold Ly.large
  split
  · exact .inl rfl
  · exact .inr rfl
theorem Ly.asm_le (D : Nat → List UInt8) (hD : Ly.tot D 4 ≤ 140737488352000) : (Ly.asm D).length ≤ 140737488352300 := by
  have h1 := Ly.pre_len D hD 4 (by omega)
  have h2 := Ly.con_small D hD
  have h3 := Wr.frame_len 5 (Ly.con (Ly.off D) 4) (by omega)
  rw [Ly.asm_len]
  unfold Ly.body
  rw [List.length_append]
  omega
set_option maxRecDepth 100000 in
set_option maxHeartbeats 8000000 in
theorem law_lass (V : Nat → Value) (D : Nat → List UInt8) (w : World) (hV : Four w w.heap.size V D) (hcap : ∀ i, i < 4 → (D i).length ≤ 140737488351232) (ht : Tab w) :
    Calls Tryd.prog 9 #[.agg (Ly.ar4 V)] w fun r w' => r = .returned (.bool true) ∧ Below w.heap.size w w' := by
  obtain ⟨W1, hW1⟩ : ∃ W1, W1 = w.alloc (.cells #[V 0, V 1, V 2, V 3] 62) := ⟨_, rfl⟩
  have B1 : Kept (Below w.heap.size w W1) := ⟨by rw [hW1]; exact (Below.refl _ w).alloc (Nat.le_refl _) _⟩
  have C1 : Kept (∀ k, W1.cell? ⟨w.heap.size, k, none⟩ = (#[V 0, V 1, V 2, V 3] : Array Value)[k]?) := ⟨by rw [hW1]; exact cells_new w _ _⟩
  have z1 : w.heap.size < W1.heap.size := by rw [hW1]; simp
  have HV := Kept.mk hV
  have HT := Kept.mk ht
  have HC := Kept.mk hcap
  have HW := Kept.mk hW1.symm
  clear hV ht hcap hW1
  have HL := large_any V D W1 ((HV.out.below B1.out).more B1.out.size)
  unfold Ly.ar4 at HL
  have k0 : W1.cell? ⟨w.heap.size, 0, none⟩ = some (V 0) := C1.out 0
  have k1 : W1.cell? ⟨w.heap.size, 1, none⟩ = some (V 1) := C1.out 1
  have k2 : W1.cell? ⟨w.heap.size, 2, none⟩ = some (V 2) := C1.out 2
  have k3 : W1.cell? ⟨w.heap.size, 3, none⟩ = some (V 3) := C1.out 3
  show Calls _ _ #[.agg #[V 0, V 1, V 2, V 3]] _ _
  rcases Ly.large_or D with hbig | hsm
  · rw [hbig] at HL
    have HL' := Kept.mk HL
    clear HL hbig
    go_enter Tryd.func9, Tryd.ntmps9
    go_upto_region 1 with fail
    rw [HW.out]
    go_wp2_with (first
      | (go_at_call 36; refine HL'.out.mono ?_; rintro r w2 ⟨rfl, hb2⟩; have B2 := Kept.mk (bl_next B1.out hb2); clear hb2)
      | (go_at_call 37; refine (alive16_any _ (HT.out.below B2.out)).mono ?_; rintro e w3 ⟨rfl, hb3⟩))
    go_ret
    exact ⟨rfl, bl_next B2.out hb3⟩
  · have hD := Ly.tot_small D hsm HC.out
    rw [hsm] at HL
    have HL' := Kept.mk HL
    have HD := Kept.mk hD
    have HP := Kept.mk (Ly.pe_asm D hD)
    have HN := Kept.mk (Ly.asm_le D hD)
    have hat := Kept.mk (Ly.at5_lit (Ly.asm D))
    have heq := fun W => eq5 (Ly.outA (Ly.asm D) 0 : Int) (Ly.outA (Ly.asm D) 1 : Int) (Ly.outA (Ly.asm D) 2 : Int) (Ly.outA (Ly.asm D) 3 : Int) (Ly.outA (Ly.asm D) 4 : Int) W
    have HA := Kept.mk (fun (W : World) (h : Below w.heap.size w W) => assemble_any V D W ((HV.out.below h).more h.size) hD (HT.out.below h))
    have HR := Kept.mk (fun (W : World) (h : Below w.heap.size w W) => refAssemble_any V D W ((HV.out.below h).more h.size) hD)
    unfold Ly.ar4 at HA HR
    clear HL hsm hD
    generalize (Ly.outA (Ly.asm D) 0 : Int) = o0 at *
    generalize (Ly.outA (Ly.asm D) 1 : Int) = o1 at *
    generalize (Ly.outA (Ly.asm D) 2 : Int) = o2 at *
    generalize (Ly.outA (Ly.asm D) 3 : Int) = o3 at *
    generalize (Ly.outA (Ly.asm D) 4 : Int) = o4 at *
    generalize Ly.asm D = l at *
    go_enter Tryd.func9, Tryd.ntmps9
    go_upto_region 1 with fail
    rw [HW.out]
    generalize hg0 : w.heap.size = g0 at *
    have E0 := Kept.mk hg0
    clear hg0
    go_upto_region 5 with (first
      | (go_at_call 36; refine HL'.out.mono ?_; rintro r w2 ⟨rfl, hb2⟩; have B2 : Kept (Below g0 w w2) := ⟨B1.out.trans (hb2.mono (by omega))⟩; have C2 := Kept.mk (cells_keep C1.out hb2 z1); clear hb2 k0 k1 k2 k3; have z2 := B2.out.size;
          have k0 : w2.cell? ⟨g0, 0, none⟩ = some (V 0) := C2.out 0; have k1 : w2.cell? ⟨g0, 1, none⟩ = some (V 1) := C2.out 1; have k2 : w2.cell? ⟨g0, 2, none⟩ = some (V 2) := C2.out 2; have k3 : w2.cell? ⟨g0, 3, none⟩ = some (V 3) := C2.out 3;
          have y2 : g0 < w2.heap.size := World.block_lt_of_cell? w2 _ k0)
      | (go_at_call 38; refine (HA.out w2 B2.out).mono ?_; rintro r w3 ⟨A3, n3, c3, rfl, ho3, hb3⟩; have o3' := Kept.mk ho3; have B3 : Kept (Below g0 w w3) := ⟨B2.out.trans (hb3.mono (by omega))⟩; have C3 := Kept.mk (cells_keep C2.out hb3 y2); clear hb3 ho3 k0 k1 k2 k3;
          have k0 : w3.cell? ⟨g0, 0, none⟩ = some (V 0) := C3.out 0; have k1 : w3.cell? ⟨g0, 1, none⟩ = some (V 1) := C3.out 1; have k2 : w3.cell? ⟨g0, 2, none⟩ = some (V 2) := C3.out 2; have k3 : w3.cell? ⟨g0, 3, none⟩ = some (V 3) := C3.out 3;
          have y3 : g0 < w3.heap.size := World.block_lt_of_cell? w3 _ k0)
      | (go_at_call 39; refine (HR.out w3 B3.out).mono ?_; rintro r w4 ⟨A4, n4, c4, rfl, ho4, hb4⟩; have o4' := Kept.mk ho4.rd; have r4 := Kept.mk (OwnB.keep o3'.out hb4).rd; have B4 : Kept (Below g0 w w4) := ⟨B3.out.trans (hb4.mono (by omega))⟩; have hn4 : n4 ≤ 140737488352300 := (by have h1 := ho4.len; have h2 := HN.out; omega); have y4 : g0 < w4.heap.size := (by have := hb4.size; omega); clear hb4 ho4 k0 k1 k2 k3))
    clear C1 C2 C3 o3'
    have T4 : Kept (Tab w4) := ⟨HT.out.below (by rw [E0.out]; exact B4.out)⟩
    go_upto_region 6 with (go_at_call 40; refine (refParse_any A4 n4 c4 l w4 o4'.out (by omega)).mono ?_; rintro r w5 ⟨U, M, rfl, hf, hm, hb⟩; obtain ⟨Ba, ma, da, Bb, mb, db, Bc, mc, dc, Bd, md, dd, hU⟩ := hf.lit; rw [hU, hat.out M hm, HP.out]; have b5 := Kept.mk hb; clear hf hm hb hU)
    have B5 := Kept.mk ((b5.out.alloc b5.out.size (.cells #[.slice Ba ma da, .slice Bb mb db, .slice Bc mc dc, .slice Bd md dd] 62)).alloc (by have := b5.out.size; simp; omega) (.cells #[.int .i64 o0, .int .i64 o1, .int .i64 o2, .int .i64 o3, .int .i64 o4] 67))
    have D5 := cells_new (w5.alloc (.cells #[.slice Ba ma da, .slice Bb mb db, .slice Bc mc dc, .slice Bd md dd] 62)) #[.int .i64 o0, .int .i64 o1, .int .i64 o2, .int .i64 o3, .int .i64 o4] 67
    rw [World.size_alloc] at D5
    have DD5 := Kept.mk D5
    clear D5
    have z5 : w5.heap.size + 1 < ((w5.alloc (.cells #[.slice Ba ma da, .slice Bb mb db, .slice Bc mc dc, .slice Bd md dd] 62)).alloc (.cells #[.int .i64 o0, .int .i64 o1, .int .i64 o2, .int .i64 o3, .int .i64 o4] 67)).heap.size := by simp
    clear b5
    generalize (w5.alloc (.cells #[.slice Ba ma da, .slice Bb mb db, .slice Bc mc dc, .slice Bd md dd] 62)).alloc (.cells #[.int .i64 o0, .int .i64 o1, .int .i64 o2, .int .i64 o3, .int .i64 o4] 67) = W5 at *
    generalize w5.heap.size = gt at *
    have zz5 := B5.out.size
    have V5 := Kept.mk ((o4'.out.below B5.out).more (B' := W5.heap.size) zz5)
    go_upto_region 7 with (go_at_call 41; refine (lOffsets_any A4 n4 c4 l W5 V5.out (by omega) (T4.out.below B5.out)).mono ?_; rintro r w6 ⟨N, rfl, hm, hb⟩; rw [hat.out N hm, HP.out]; have b6 := Kept.mk hb; clear hm hb)
    have B6 := Kept.mk (b6.out.alloc b6.out.size (.cells #[.int .i64 o0, .int .i64 o1, .int .i64 o2, .int .i64 o3, .int .i64 o4] 67))
    have C6 := Kept.mk (cells_new w6 #[.int .i64 o0, .int .i64 o1, .int .i64 o2, .int .i64 o3, .int .i64 o4] 67)
    have z6 : w6.heap.size < (w6.alloc (.cells #[.int .i64 o0, .int .i64 o1, .int .i64 o2, .int .i64 o3, .int .i64 o4] 67)).heap.size := by simp
    clear b6
    generalize w6.alloc (.cells #[.int .i64 o0, .int .i64 o1, .int .i64 o2, .int .i64 o3, .int .i64 o4] 67) = W6 at *
    generalize w6.heap.size = gg at *
    have zz6 := B6.out.size
    have A6 := Kept.mk (cells_keep DD5.out B6.out (by omega))
    have BB6 := Kept.mk (bl_next B5.out B6.out)
    have X6 := Kept.mk (r4.out.below BB6.out)
    have Y6 := Kept.mk (o4'.out.below BB6.out)
    have T6 := Kept.mk (T4.out.below BB6.out)
    clear DD5 B5 B6 V5
    go_wp2_with (first
      | (go_at_call 37; refine (alive16_any _ T6.out).mono ?_; rintro e w7 ⟨rfl, hb7⟩;
          have u0 : w7.cell? ⟨gt + 1, 0, none⟩ = some (.int .i64 o0) := cells_keep A6.out hb7 (by omega) 0;
          have u1 : w7.cell? ⟨gt + 1, 1, none⟩ = some (.int .i64 o1) := cells_keep A6.out hb7 (by omega) 1;
          have u2 : w7.cell? ⟨gt + 1, 2, none⟩ = some (.int .i64 o2) := cells_keep A6.out hb7 (by omega) 2;
          have u3 : w7.cell? ⟨gt + 1, 3, none⟩ = some (.int .i64 o3) := cells_keep A6.out hb7 (by omega) 3;
          have u4 : w7.cell? ⟨gt + 1, 4, none⟩ = some (.int .i64 o4) := cells_keep A6.out hb7 (by omega) 4;
          have v0 : w7.cell? ⟨gg, 0, none⟩ = some (.int .i64 o0) := cells_keep C6.out hb7 (by omega) 0;
          have v1 : w7.cell? ⟨gg, 1, none⟩ = some (.int .i64 o1) := cells_keep C6.out hb7 (by omega) 1;
          have v2 : w7.cell? ⟨gg, 2, none⟩ = some (.int .i64 o2) := cells_keep C6.out hb7 (by omega) 2;
          have v3 : w7.cell? ⟨gg, 3, none⟩ = some (.int .i64 o3) := cells_keep C6.out hb7 (by omega) 3;
          have v4 : w7.cell? ⟨gg, 4, none⟩ = some (.int .i64 o4) := cells_keep C6.out hb7 (by omega) 4;
          have BB7 := Kept.mk (bl_next BB6.out hb7); have X7 := Kept.mk (X6.out.below (hb7.mono BB6.out.size)); have Y7 := Kept.mk (Y6.out.below (hb7.mono BB6.out.size)); clear hb7)
      | (go_at_call 19; refine (equal_is _ _ _ _ _ _ l l true w7 _ _ X7.out Y7.out (by simp)).mono ?_; rintro r w8 ⟨rfl, rfl⟩))
    go_ret
    exact ⟨rfl, by rw [E0.out]; exact B4.out.trans (BB7.out.mono (by omega))⟩
end Go.Proofs.YtknfkbgnfjfpeaaDoor
