/- Chapter 16: the reference's Assemble. -/
import Derived.Test.YtknfkbgnfjfpeaaDoorLayC
namespace Go.Proofs.YtknfkbgnfjfpeaaDoor
open Go.RowKit Go.Shelf

set_option maxRecDepth 100000 in
set_option maxHeartbeats 4000000 in
theorem refAssemble_any (V : Nat → Value) (D : Nat → List UInt8) (w : World) (hV : Four w w.heap.size V D) (hD : Ly.tot D 4 ≤ 140737488352000) :
    Calls Tryd.prog 39 #[.agg (Ly.ar4 V)] w fun e w' => ∃ A n c, e = .returned (.slice A n c) ∧ OwnB w' w.heap.size A n c (Ly.asm D) ∧ Below w.heap.size w w' := by
  obtain ⟨W1, hW1⟩ : ∃ W1, W1 = w.alloc (.cells #[V 0, V 1, V 2, V 3] 62) := ⟨_, rfl⟩
  obtain ⟨W2, hW2⟩ : ∃ W2, W2 = W1.alloc (.cells #[.int .u8 84, .int .u8 83, .int .u8 66, .int .u8 75, .int .u8 1] 5 (5, 6)) := ⟨_, rfl⟩
  obtain ⟨W3, hW3⟩ : ∃ W3, W3 = W2.alloc (.cells #[.int .i64 0, .int .i64 0, .int .i64 0, .int .i64 0, .int .i64 0] 67) := ⟨_, rfl⟩
  have hz1 : W1.heap.size = w.heap.size + 1 := by rw [hW1]; simp
  have hz2 : W2.heap.size = W1.heap.size + 1 := by rw [hW2]; simp
  have hz3 : W3.heap.size = W2.heap.size + 1 := by rw [hW3]; simp
  have kc : (convert 22 22 (.slice (some ⟨W1.heap.size, 0, none⟩) 5 5)).run Tryd.prog (W1.alloc (.cells #[.int .u8 84, .int .u8 83, .int .u8 66, .int .u8 75, .int .u8 1] 5)) = .ok (.slice (some ⟨W1.heap.size, 0, none⟩) 5 5) W2 := by rw [hW2]; exact run_bytes_lit W1 _ 5 5
  have B1 : Kept (Below w.heap.size w W1) := ⟨by rw [hW1]; exact (Below.refl _ w).alloc (Nat.le_refl _) _⟩
  have B2 : Kept (Below W1.heap.size W1 W2) := ⟨by rw [hW2]; exact (Below.refl _ W1).alloc (Nat.le_refl _) _⟩
  have B3 : Kept (Below W2.heap.size W2 W3) := ⟨by rw [hW3]; exact (Below.refl _ W2).alloc (Nat.le_refl _) _⟩
  have hcl : ∀ k, k < 4 → W3.cell? ⟨w.heap.size, k, none⟩ = some (V k) := fun k hk => by
    rw [B3.out.cell (p := ⟨w.heap.size, k, none⟩) (by show w.heap.size < _; omega), B2.out.cell (p := ⟨w.heap.size, k, none⟩) (by show w.heap.size < _; omega), hW1]
    exact (World.cell?_alloc_mark w _ _ _ k).trans (Ly.ar4_get V k hk)
  have hU : Kept (UpL W3 W3.heap.size W2.heap.size (some ⟨W1.heap.size, 0, none⟩) 5 5 (Ly.pre D 0)) := ⟨.inr ⟨by omega, rfl, by
    have h := RdB.litM W1 Ly.head (5, 6) (by simp [Ly.head])
    have h2 : RdB W2 (W1.heap.size + 1) (some ⟨W1.heap.size, 0, none⟩) 5 5 Ly.head := by rw [hW2]; exact h
    have h3 : Ly.pre D 0 = Ly.head := by simp [Ly.pre]
    rw [h3]
    exact (h2.below (B3.out.mono (by omega))).more (by omega)⟩⟩
  have hA : Kept (W3.heap[W2.heap.size]? = some (.cells (Ly.at5 (Ly.mk (Ly.off D) 0)) 67 (0, 0))) := ⟨by rw [hW3]; exact heap_alloc_new W2 _⟩
  have BA : Kept (Below w.heap.size w W3) := ⟨bl_next (bl_next B1.out B2.out) B3.out⟩
  have HV : Kept (Four W3 w.heap.size V D) := ⟨hV.below BA.out⟩
  have Z1 := Kept.mk hz1
  have Z2 := Kept.mk hz2
  have Z3 := Kept.mk hz3
  have HW1 := Kept.mk hW1.symm
  have HW3 := Kept.mk hW3.symm
  have hPL := Kept.mk (Ly.pre_len D hD)
  have HCL := Kept.mk hcl
  clear hz1 hz2 hz3 hcl hV hW1 hW2 hW3 B1 B2 B3
  show Calls _ _ #[.agg #[V 0, V 1, V 2, V 3]] _ _
  go_enter Tryd.func39, Tryd.ntmps39
  go_upto_region 1 with fail
  rw [HW1.out]
  go_upto_region 3 with fail
  rw [HW3.out]
  go_wp2
  have hg23 : W2.heap.size < W3.heap.size := by rw [Z3.out]; omega
  generalize W2.heap.size = g at *
  go_loopw [3, 5] (fun o i wr => ∃ k : Nat, k ≤ 4 ∧ i = .int .i64 k ∧ ∃ A3 n3 c3, o = .slice A3 n3 c3 ∧ UpL wr W3.heap.size g A3 n3 c3 (Ly.pre D k) ∧ wr.heap[g]? = some (.cells (Ly.at5 (Ly.mk (Ly.off D) k)) 67 (0, 0)) ∧ Below g W3 wr ∧ W3.heap.size ≤ wr.heap.size) (fun _ i _ => 4 - (intOf i).toNat)
  case atStart => exact ⟨0, by omega, rfl, _, 5, 5, rfl, hU.out, hA.out, Below.refl _ _, Nat.le_refl _⟩
  case round =>
    clear hU hA
    obtain ⟨k, hk, rfl, A3, n3, c3, rfl, hu, ha, hb3, hz⟩ := hrel
    by_cases hlt : k < 4
    · obtain ⟨Ak, nk, ck, hVk, hrd⟩ := HV.out k hlt
      have hck0 := (hb3.cell (p := ⟨w.heap.size, k, none⟩) (by show w.heap.size < g; have h1 := Z1.out; have h2 := Z2.out; omega)).trans (HCL.out k hlt)
      rw [hVk] at hck0
      have hck := cell_of_row wr g k _ _ _ ha
      rw [Ly.at5_get _ k (by omega)] at hck
      have hfk := frozen_of_row wr g k _ _ ha
      have hidk : ((UInt8.ofNat (1 + k)).toNat : Int) = (k : Int) + 1 := by have := Ly.id_nat k (by omega); omega
      have hn3 : n3 = Ly.off D k := hu.len
      have hset := Ly.at5_set (Ly.off D) k (by omega)
      have hne : g ≠ w.heap.size := by have h1 := Z1.out; have h2 := Z2.out; omega
      have hck1 : (wr.setCell ⟨g, k, none⟩ (.int .i64 (n3 : Int))).cell? ⟨w.heap.size, k, none⟩ = some (.slice Ak nk ck) := (World.cell?_setCell_other wr ⟨g, k, none⟩ ⟨w.heap.size, k, none⟩ _ (fun e => by injection e with e1 _ _; omega)).trans hck0
      have ha2 : (wr.setCell ⟨g, k, none⟩ (.int .i64 (n3 : Int))).heap[g]? = some (.cells (Ly.at5 (Ly.mk (Ly.off D) (k + 1))) 67 (0, 0)) := by rw [heap_setCell_same wr g k _ _ _ ha, hn3, hset]
      have hu2 := hu.store (Nat.le_refl g) hg23 k (.int .i64 (n3 : Int))
      have hb4 : Below g W3 (wr.setCell ⟨g, k, none⟩ (.int .i64 (n3 : Int))) := hb3.setCell (p := ⟨g, k, none⟩) (Nat.le_refl _) _
      have hsz : (wr.setCell ⟨g, k, none⟩ (.int .i64 (n3 : Int))).heap.size = wr.heap.size := by simp
      have hsum : n3 + nk ≤ 140737488352100 := by
        have h1 := hPL.out (k + 1) (by omega)
        rw [Ly.pre_succ, List.length_append, Wr.frame_len_eq] at h1
        have h2 := hrd.len
        rw [hn3]
        show (Ly.pre D k).length + nk ≤ _
        omega
      have hnk := Kept.mk hrd.len
      have hd2 : RdB (wr.setCell ⟨g, k, none⟩ (.int .i64 (n3 : Int))) wr.heap.size Ak nk ck (D k) := (hrd.below (hb4.mono (by have h1 := Z1.out; have h2 := Z2.out; omega))).more (by have := BA.out.size; omega)
      have HS := refFrame_any Ak nk ck wr.heap.size (D k) (UInt8.ofNat (1 + k)) _ hd2 (by rw [hsz]; exact Nat.le_refl _) (by omega)
      rw [hidk] at HS
      have hfe := Kept.mk (Wr.frame_len_eq (UInt8.ofNat (1 + k)) (D k))
      have hfl := Kept.mk (Wr.frame_len (UInt8.ofNat (1 + k)) (D k) (by have := Ly.tot_dat D k 4 hlt; omega))
      have hps := Kept.mk (Ly.pre_succ D k)
      have HS' := Kept.mk HS
      have A2 := Kept.mk ha2
      have B4 := Kept.mk hb4
      have SZ := Kept.mk hsz
      have U2 := Kept.mk (hu2.up (by rw [hsz]; omega))
      clear HS ha2 hb4 hsz hu2 hu ha hset hn3 hidk hb3 hrd hVk hd2
      generalize Wr.frame (UInt8.ofNat (1 + k)) (D k) = F at *
      go_wp2_with (first
        | (go_at_call 21; refine HS'.out.mono ?_; rintro r w5 ⟨A5, n5, c5, rfl, ho5, hb5⟩; have hn5 : 0 < n5 ∧ n5 ≤ nk + 15 := (by have h1 := ho5.len; have h2 := hfe.out; have h3 := hfl.out; have h4 := hnk.out; omega); have r5 := Kept.mk ho5.rd; have u5 := Kept.mk (Up.keep U2.out hb5); have z5 : wr.heap.size ≤ w5.heap.size := (by have h1 := hb5.size; have h2 := SZ.out; omega); have b5 := Kept.mk hb5; clear ho5 hb5)
        | (at_builtin; refine wpList_appU rfl (.tmp 16) (.tmp 23) rfl W3.heap.size _ _ _ _ rfl u5.out _ _ _ _ _ rfl r5.out hn5.1 (by omega) (by omega) ?_; intro A6 c6 w6 hown6 hb6; rw [← hps.out] at hown6; have o6 := Kept.mk hown6; have b6 := Kept.mk hb6; clear hown6 hb6))
      go_roundw
      case rel =>
        refine ⟨k + 1, by omega, by go_num, A6, n3 + n5, c6, rfl, .inl o6.out, (b6.out.block g hg23).trans ((b5.out.block g (by rw [SZ.out]; omega)).trans A2.out), B4.out.trans ((b5.out.mono (by rw [SZ.out]; omega)).trans (b6.out.mono (by omega))), by have := b6.out.size; omega⟩
      case measure => simp [intOf]; omega
    · obtain rfl : k = 4 := by omega
      have hm : ∀ i, Ly.mk (Ly.off D) 4 i ≤ 140737488355328 := fun i => by
        unfold Ly.mk
        split
        · rename_i hi4
          have h1 := hPL.out i (by omega)
          show Ly.off D i ≤ _
          unfold Ly.off
          omega
        · omega
      have hcg : Kept (Ly.con (Ly.mk (Ly.off D) 4) 4 = Ly.con (Ly.off D) 4) := ⟨Ly.con_congr 4 fun i hi => by unfold Ly.mk; rw [if_pos hi]⟩
      have hcle := Ly.con_len _ hm 4
      have a0 := (cell_of_row wr g 0 _ _ _ ha).trans (Ly.at5_get _ 0 (by omega))
      have a1 := (cell_of_row wr g 1 _ _ _ ha).trans (Ly.at5_get _ 1 (by omega))
      have a2 := (cell_of_row wr g 2 _ _ _ ha).trans (Ly.at5_get _ 2 (by omega))
      have a3 := (cell_of_row wr g 3 _ _ _ ha).trans (Ly.at5_get _ 3 (by omega))
      have a4 := (cell_of_row wr g 4 _ _ _ ha).trans (Ly.at5_get _ 4 (by omega))
      have HC := Kept.mk (refContents_any (Ly.mk (Ly.off D) 4) wr hm)
      rw [hcg.out] at HC hcle
      unfold Ly.at5 at HC
      have hn3 : n3 = (Ly.pre D 4).length := hu.len
      have hn3b : n3 ≤ 140737488352100 := by have h1 := hPL.out 4 (by omega); omega
      have HU := Kept.mk hu
      have B3 := Kept.mk hb3
      have hwg : w.heap.size ≤ g := by have h1 := Z1.out; have h2 := Z2.out; omega
      have hbod : Kept (Ly.pre D 4 ++ Wr.frame 5 (Ly.con (Ly.off D) 4) = Ly.body D) := ⟨rfl⟩
      have hfl := Kept.mk (Wr.frame_len 5 (Ly.con (Ly.off D) 4) (by omega))
      have hfe := Kept.mk (Wr.frame_len_eq 5 (Ly.con (Ly.off D) 4))
      have hN3 := Kept.mk hn3
      have HCE := Kept.mk hcle
      clear hu hb3 ha hcg hm hn3 hcle
      go_wp2_with (first
        | (go_at_call 70; refine HC.out.mono ?_; rintro r w5 ⟨A5, n5, c5, rfl, ho5, hb5⟩; have r5 := Kept.mk ho5.rd; have hn5 : n5 ≤ 40 := (by have h1 := ho5.len; have h2 := HCE.out; omega); have u5 := Kept.mk (Up.keep (HU.out.up (by omega)) hb5); have b5 := Kept.mk hb5; have z5 := hb5.size; clear ho5 hb5)
        | (go_at_call 21; refine (refFrame_any A5 n5 c5 w5.heap.size (Ly.con (Ly.off D) 4) 5 w5 r5.out (Nat.le_refl _) (by omega)).mono ?_; rintro r w6 ⟨A6, n6, c6, rfl, ho6, hb6⟩; have u6 := Kept.mk (Up.keep u5.out hb6); have r6 := Kept.mk ho6.rd; have b6 := Kept.mk hb6; have z6 := hb6.size; have hn6 : 0 < n6 ∧ n6 ≤ 60 := (by have h1 := ho6.len; have h2 := hfl.out; have h3 := HCE.out; have h4 := hfe.out; omega); clear ho6 hb6)
        | (at_builtin; refine wpList_appU rfl (.tmp 25) (.tmp 28) rfl W3.heap.size _ _ _ _ rfl u6.out _ _ _ _ _ rfl r6.out hn6.1 (by omega) (by omega) ?_; intro A7 c7 w7 hown7 hb7; rw [hbod.out] at hown7; have r7 := Kept.mk hown7.rd; have hN7 : Kept (n3 + n6 = (Ly.body D).length) := ⟨hown7.len⟩; have b7 := Kept.mk hb7; have z7 := hb7.size; clear hown7 hb7)
        | (go_at_call 49; refine (refappend_any _ _ _ (Ly.body D) w7 _ r7.out (Nat.le_refl _) (by have h1 := hN7.out; omega)).mono ?_; rintro r w8 ⟨A8, n8, c8, rfl, ho8, hb8⟩; have o8 := Kept.mk ho8; have b8 := Kept.mk hb8; have z8 := hb8.size; have hn8 : n8 ≤ 140737488352300 := (by have h1 := ho8.len; rw [Crc.app_len'] at h1; have h2 := hN7.out; omega); clear ho8 hb8)
        | (at_builtin; refine wpList_appS rfl (.tmp 31) (.const (.string ⟨#[75, 66, 83, 84]⟩)) rfl w7.heap.size _ _ _ _ rfl o8.out ⟨#[75, 66, 83, 84]⟩ rfl (by have e : (⟨#[75, 66, 83, 84]⟩ : ByteArray).size = 4 := rfl; omega) (by omega) ?_; intro A9 c9 w9 hown9 hgrow9))
      go_ret
      have zB := BA.out.size
      refine ⟨A9, _, c9, rfl, (hown9.base (by omega)), ?_⟩
      refine BA.out.trans ((B3.out.mono hwg).trans ((b5.out.mono (by omega)).trans ((b6.out.mono (by omega)).trans ((b7.out.mono (by omega)).trans ((b8.out.mono (by omega)).trans ((own_grown_below o8.out (by omega) hgrow9).mono (by omega)))))))
end Go.Proofs.YtknfkbgnfjfpeaaDoor
