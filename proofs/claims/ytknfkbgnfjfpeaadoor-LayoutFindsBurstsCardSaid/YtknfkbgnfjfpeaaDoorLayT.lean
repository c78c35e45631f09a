/- The law LayoutFindsBursts. -/
import Derived.Test.YtknfkbgnfjfpeaaDoorLayO
import Derived.Test.YtknfkbgnfjfpeaaDoorLayP
import Derived.Test.YtknfkbgnfjfpeaaDoorCrcFlip
namespace Go.Proofs.YtknfkbgnfjfpeaaDoor
open Go.RowKit Go.Shelf

namespace Ly
theorem getD_take (l : List UInt8) (m q : Nat) (h : q < m) : (l.take m).getD q 0 = l.getD q 0 := by
  simp only [List.getD, List.getElem?_take, if_pos h]
theorem flipN_take (m : Nat) : ∀ (n : Nat) (l : List UInt8) (k p : Nat), (Crc.flipN l k n p).take m = Crc.flipN (l.take m) k n p
  | 0, _, _, _ => rfl
  | n + 1, l, k, p => by
    by_cases h : k < 8 * l.length ∧ p % 2 = 1
    · rw [Crc.flipN_yes l k n p h.1 h.2, flipN_take m n]
      by_cases hm : k / 8 < m
      · rw [Crc.flipN_yes (l.take m) k n p (by rw [List.length_take]; omega) h.2, getD_take l m _ hm, List.take_set]
      · rw [Crc.flipN_no (l.take m) k n p (by rw [List.length_take]; omega), List.take_set_of_le (by omega)]
    · rw [Crc.flipN_no l k n p h, flipN_take m n, Crc.flipN_no]
      rw [List.length_take]
      omega
theorem pe_flip (D : Nat → List UInt8) (hD : tot D 4 ≤ 140737488352000) (k p : Nat) : pe (Crc.flipN (asm D) k 32 p) = 0 ↔ asm D = Crc.flipN (asm D) k 32 p := by
  constructor
  · intro h
    have hc := canon _ h
    generalize hE : sec (Crc.flipN (asm D) k 32 p) = E at hc
    have hl : (asm E).length = (asm D).length := by rw [hc, Crc.flipN_length]
    have h4 : tail.length = 4 := rfl
    have l1 : (asm D).length = (Crc.app (body D)).length + 4 := by unfold asm; rw [List.length_append, h4]
    have l2 : (asm E).length = (Crc.app (body E)).length + 4 := by unfold asm; rw [List.length_append, h4]
    have t1 : (asm D).take (Crc.app (body D)).length = Crc.app (body D) := by unfold asm; rw [List.take_left]
    have t2 : (asm E).take (Crc.app (body D)).length = Crc.app (body E) := by
      rw [show (Crc.app (body D)).length = (Crc.app (body E)).length by omega]
      unfold asm
      rw [List.take_left]
    have hf := flipN_take (Crc.app (body D)).length 32 (asm D) k p
    rw [← hc, t1, t2] at hf
    have hck : Crc.chk (Crc.flipN (Crc.app (body D)) k 32 p) = true := by rw [← hf]; exact Crc.chk_app _
    have he := (Crc.chk_flip (Crc.app (body D)) k p (Crc.chk_app _)).1 hck
    rw [← hc]
    unfold asm
    rw [hf, ← he]
  · intro h
    rw [← h]
    exact pe_asm D hD
end Ly
set_option maxRecDepth 100000 in
set_option maxHeartbeats 8000000 in
theorem law_lbursts (V : Nat → Value) (D : Nat → List UInt8) (from_ p : Nat) (w : World) (hV : Four w w.heap.size V D) (hcap : ∀ i, i < 4 → (D i).length ≤ 140737488351232) (hf : from_ < 65536) (hp : p < 4294967296) (ht : Tab w) :
    Calls Tryd.prog 12 #[.agg (Ly.ar4 V), .int .u16 (from_ : Int), .int .u32 (p : Int)] w fun r w' => r = .returned (.bool true) ∧ Below w.heap.size w w' := by
  obtain ⟨W1, hW1⟩ : ∃ W1, W1 = w.alloc (.cells #[V 0, V 1, V 2, V 3] 62) := ⟨_, rfl⟩
  have B1 : Kept (Below w.heap.size w W1) := ⟨by rw [hW1]; exact (Below.refl _ w).alloc (Nat.le_refl _) _⟩
  have C1 : Kept (∀ k, W1.cell? ⟨w.heap.size, k, none⟩ = (#[V 0, V 1, V 2, V 3] : Array Value)[k]?) := ⟨by rw [hW1]; exact cells_new w _ _⟩
  have z1 : w.heap.size < W1.heap.size := by rw [hW1]; simp
  have HV := Kept.mk hV
  have HT := Kept.mk ht
  have HC := Kept.mk hcap
  have HW := Kept.mk hW1.symm
  clear hV ht hcap hW1
  have HL := large_any V D W1 ((HV.out.below B1.out).more B1.out.size)
  unfold Ly.ar4 at HL
  have k0 : W1.cell? ⟨w.heap.size, 0, none⟩ = some (V 0) := C1.out 0
  have k1 : W1.cell? ⟨w.heap.size, 1, none⟩ = some (V 1) := C1.out 1
  have k2 : W1.cell? ⟨w.heap.size, 2, none⟩ = some (V 2) := C1.out 2
  have k3 : W1.cell? ⟨w.heap.size, 3, none⟩ = some (V 3) := C1.out 3
  show Calls _ _ #[.agg #[V 0, V 1, V 2, V 3], _, _] _ _
  rcases Ly.large_or D with hbig | hsm
  · rw [hbig] at HL
    have HL' := Kept.mk HL
    clear HL hbig
    go_enter Tryd.func12, Tryd.ntmps12
    go_upto_region 1 with fail
    rw [HW.out]
    go_wp2_with (first
      | (go_at_call 36; refine HL'.out.mono ?_; rintro r w2 ⟨rfl, hb2⟩; have B2 := Kept.mk (bl_next B1.out hb2); clear hb2)
      | (go_at_call 37; refine (alive16_any _ (HT.out.below B2.out)).mono ?_; rintro e w3 ⟨rfl, hb3⟩))
    go_ret
    exact ⟨rfl, bl_next B2.out hb3⟩
  · have hD := Ly.tot_small D hsm HC.out
    rw [hsm] at HL
    have HL' := Kept.mk HL
    have HP := Kept.mk (fun k => Ly.pe_flip D hD k p)
    have HN := Kept.mk (Ly.asm_le D hD)
    have HN8 : Kept (8 ≤ (Ly.asm D).length) := ⟨by rw [Ly.asm_len]; omega⟩
    have HR := Kept.mk (fun (W : World) (h : Below w.heap.size w W) => refAssemble_any V D W ((HV.out.below h).more h.size) hD)
    unfold Ly.ar4 at HR
    clear HL hsm hD
    generalize Ly.asm D = F at *
    go_enter Tryd.func12, Tryd.ntmps12
    go_upto_region 1 with fail
    rw [HW.out]
    generalize hg0 : w.heap.size = g0 at *
    have E0 := Kept.mk hg0
    clear hg0
    go_upto_region 4 with (first
      | (go_at_call 36; refine HL'.out.mono ?_; rintro r w2 ⟨rfl, hb2⟩; have B2 : Kept (Below g0 w w2) := ⟨B1.out.trans (hb2.mono (by omega))⟩; have C2 := Kept.mk (cells_keep C1.out hb2 z1); clear hb2 k0 k1 k2 k3; have z2 := B2.out.size;
          have k0 : w2.cell? ⟨g0, 0, none⟩ = some (V 0) := C2.out 0; have k1 : w2.cell? ⟨g0, 1, none⟩ = some (V 1) := C2.out 1; have k2 : w2.cell? ⟨g0, 2, none⟩ = some (V 2) := C2.out 2; have k3 : w2.cell? ⟨g0, 3, none⟩ = some (V 3) := C2.out 3;
          have y2 : g0 < w2.heap.size := World.block_lt_of_cell? w2 _ k0)
      | (go_at_call 39; refine (HR.out w2 B2.out).mono ?_; rintro r w4 ⟨A4, n4, c4, rfl, ho4, hb4⟩; have o4 := Kept.mk ho4.rd; have nl4 := Kept.mk ho4.len; have B4 : Kept (Below g0 w w4) := ⟨B2.out.trans (hb4.mono (by omega))⟩; have hn4 : n4 ≤ 140737488352300 := (by have h1 := ho4.len; have h2 := HN.out; omega); have hn8 : 8 ≤ n4 := (by have h1 := ho4.len; have h2 := HN8.out; omega); have hlc4 := ho4.rd.1; have y4 : g0 < w4.heap.size := (by have := hb4.size; omega); clear hb4 ho4 k0 k1 k2 k3))
    clear C1
    obtain ⟨k, hk⟩ : ∃ k, k = from_ % (8 * n4) := ⟨_, rfl⟩
    have ek : (from_ : Int) % (8 * (n4 : Int)) = (k : Int) := by rw [hk]; simp
    have hkb : k ≤ 1125899906842624 := by have := Nat.mod_le from_ (8 * n4); omega
    clear hk
    have hpos : ((8 * (n4 : Int)) == 0) = false := by simp; omega
    have hwr : IntKind.i64.wrap (8 * (n4 : Int)) = 8 * (n4 : Int) := by rw [IntKind.wrap_i64]; omega
    have htm : (from_ : Int).tmod (8 * (n4 : Int)) = (k : Int) := by rw [Int.tmod_eq_emod_of_nonneg (by omega)]; exact ek
    have hn10 : ((n4 : Int) == 0) = false := by simp; omega
    have hn8' : ¬ 8 * (n4 : Int) = 0 := by omega
    have hwf : IntKind.i64.wrap (from_ : Int) = (from_ : Int) := by rw [IntKind.wrap_i64]; omega
    have z4 := B4.out.size
    have hiff := Kept.mk (HP.out k)
    clear HP
    go_upto_region 5 with (go_at_call 22; refine (flip_any _ _ _ F k p _ w4.heap.size (by exact o4.out) (by exact Nat.le_refl _) (by omega) hkb hp).mono ?_; rintro r w5 ⟨A5, n5, c5, rfl, ho5, hb5⟩; obtain rfl : n5 = n4 := (by rw [ho5.len, Crc.flipN_length]; exact nl4.out.symm); have o5 := Kept.mk ho5.rd; have hlc5 := ho5.rd.1; have r5 := Kept.mk (o4.out.below hb5); have B5 : Kept (Below g0 w w5) := ⟨B4.out.trans (hb5.mono (by omega))⟩; have z5 := hb5.size; clear hb5 ho5)
    clear ek hpos hwr htm hn10 hn8' hwf
    generalize Crc.flipN F k 32 p = C at *
    by_cases hFC : F = C
    · have hbe : Kept ((F == C) = true) := ⟨by rw [beq_iff_eq]; exact hFC⟩
      have hpe := Kept.mk (hiff.out.2 hFC)
      clear hFC hiff
      go_upto_region 6 with (go_at_call 42; refine (lParse_any A5 n5 c5 C w5 o5.out (by omega) (HT.out.below (by rw [E0.out]; exact B5.out))).mono ?_; rintro r w6 ⟨S, rfl, hf, hb⟩; obtain ⟨Ba, ma, da, Bb, mb, db, Bc, mc, dc, Bd, md, dd, hS⟩ := hf.lit; rw [hS, hpe.out]; have b6 := Kept.mk hb; clear hf hb hS)
      have B6 := Kept.mk (b6.out.alloc b6.out.size (.cells #[.slice Ba ma da, .slice Bb mb db, .slice Bc mc dc, .slice Bd md dd] 65))
      clear b6
      generalize w6.alloc (.cells #[.slice Ba ma da, .slice Bb mb db, .slice Bc mc dc, .slice Bd md dd] 65) = W6 at *
      go_wp2_with (first
        | (go_at_call 37; refine (alive16_any _ (HT.out.below (by rw [E0.out]; exact B5.out.trans (B6.out.mono (by omega))))).mono ?_; rintro e w7 ⟨rfl, hb7⟩; have BB7 := Kept.mk (bl_next B6.out hb7); have X7 := Kept.mk ((r5.out.more (B' := w5.heap.size) z5).below BB7.out); have Y7 := Kept.mk (o5.out.below BB7.out); clear hb7)
        | (go_at_call 19; refine (equal_is _ _ _ _ _ _ F C true w7 _ _ X7.out Y7.out hbe.out).mono ?_; rintro r w8 ⟨rfl, rfl⟩))
      go_ret
      exact ⟨rfl, by rw [E0.out]; exact B5.out.trans (BB7.out.mono (by omega))⟩
    · have hbe : Kept ((F == C) = false) := ⟨by simpa using hFC⟩
      obtain ⟨f, hf0⟩ : ∃ f, Ly.pe C = f := ⟨_, rfl⟩
      have hf1 : ¬ f = 0 := by rw [← hf0]; exact fun h => hFC (hiff.out.1 h)
      have hpe := Kept.mk hf0
      have hfb : Kept ((f == 0) = false) := ⟨by simpa using hf1⟩
      clear hFC hiff hf0
      go_upto_region 6 with (go_at_call 42; refine (lParse_any A5 n5 c5 C w5 o5.out (by omega) (HT.out.below (by rw [E0.out]; exact B5.out))).mono ?_; rintro r w6 ⟨S, rfl, hf, hb⟩; obtain ⟨Ba, ma, da, Bb, mb, db, Bc, mc, dc, Bd, md, dd, hS⟩ := hf.lit; rw [hS, hpe.out]; have b6 := Kept.mk hb; clear hf hb hS)
      have B6 := Kept.mk (b6.out.alloc b6.out.size (.cells #[.slice Ba ma da, .slice Bb mb db, .slice Bc mc dc, .slice Bd md dd] 65))
      clear b6
      generalize w6.alloc (.cells #[.slice Ba ma da, .slice Bb mb db, .slice Bc mc dc, .slice Bd md dd] 65) = W6 at *
      go_wp2_with (first
        | (go_at_call 37; refine (alive16_any _ (HT.out.below (by rw [E0.out]; exact B5.out.trans (B6.out.mono (by omega))))).mono ?_; rintro e w7 ⟨rfl, hb7⟩; have BB7 := Kept.mk (bl_next B6.out hb7); have X7 := Kept.mk ((r5.out.more (B' := w5.heap.size) z5).below BB7.out); have Y7 := Kept.mk (o5.out.below BB7.out); clear hb7)
        | (go_at_call 19; refine (equal_is _ _ _ _ _ _ F C false w7 _ _ X7.out Y7.out hbe.out).mono ?_; rintro r w8 ⟨rfl, rfl⟩))
      go_ret
      refine ⟨?_, by rw [E0.out]; exact B5.out.trans (BB7.out.mono (by omega))⟩
      show Ending.returned (.bool (!(f == 0))) = _
      rw [hfb.out]
      rfl
end Go.Proofs.YtknfkbgnfjfpeaaDoor
