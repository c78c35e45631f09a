/- Chapter 16: Assemble, the program's and the reference's. -/
import Derived.Test.YtknfkbgnfjfpeaaDoorLayB
namespace Go.Proofs.YtknfkbgnfjfpeaaDoor
open Go.RowKit Go.Shelf

namespace Ly
def head : List UInt8 := [84, 83, 66, 75, 1]
def tail : List UInt8 := [75, 66, 83, 84]
def pre (D : Nat → List UInt8) (k : Nat) : List UInt8 := head ++ (List.range k).flatMap fun i => Wr.frame (UInt8.ofNat (1 + i)) (D i)
def off (D : Nat → List UInt8) (i : Nat) : Nat := (pre D i).length
def mk (m : Nat → Nat) (k i : Nat) : Nat := if i < k then m i else 0
def body (D : Nat → List UInt8) : List UInt8 := pre D 4 ++ Wr.frame 5 (con (off D) 4)
def asm (D : Nat → List UInt8) : List UInt8 := Crc.app (body D) ++ tail
theorem pre_succ (D : Nat → List UInt8) (k : Nat) : pre D (k + 1) = pre D k ++ Wr.frame (UInt8.ofNat (1 + k)) (D k) := by
  unfold pre
  rw [List.range_succ, List.flatMap_append, List.append_assoc]
  simp
theorem con_congr {m m' : Nat → Nat} (k : Nat) (h : ∀ i, i < k → m i = m' i) : con m k = con m' k := by
  induction k with
  | zero => rfl
  | succ k ih => rw [con_succ, con_succ, ih (fun i hi => h i (by omega)), h k (by omega)]
/-- the bytes of the first k sections -/
def tot (D : Nat → List UInt8) : Nat → Nat
  | 0 => 0
  | k + 1 => tot D k + (D k).length
theorem tot_mono (D : Nat → List UInt8) (k n : Nat) (h : k ≤ n) : tot D k ≤ tot D n := by
  induction n with
  | zero => rw [Nat.le_zero.1 h]; exact Nat.le_refl _
  | succ n ih =>
    rcases Nat.lt_or_ge n k with h1 | h1
    · rw [show k = n + 1 by omega]; exact Nat.le_refl _
    · have := ih h1
      show _ ≤ tot D n + _
      omega
theorem tot_dat (D : Nat → List UInt8) (k n : Nat) (h : k < n) : (D k).length ≤ tot D n := by
  have h1 := tot_mono D (k + 1) n h
  have h2 : tot D (k + 1) = tot D k + (D k).length := rfl
  omega
theorem pre_len' (D : Nat → List UInt8) (hD : tot D 4 ≤ 140737488352000) : ∀ k, k ≤ 4 → (pre D k).length ≤ 5 + 15 * k + tot D k
  | 0, _ => by simp [pre, head]
  | k + 1, hk => by
    have h0 := pre_len' D hD k (by omega)
    have h1 := Wr.frame_len (UInt8.ofNat (1 + k)) (D k) (by have := tot_dat D k 4 (by omega); omega)
    have h2 : tot D (k + 1) = tot D k + (D k).length := rfl
    rw [pre_succ, List.length_append]
    omega
theorem pre_len (D : Nat → List UInt8) (hD : tot D 4 ≤ 140737488352000) (k : Nat) (hk : k ≤ 4) : (pre D k).length ≤ 140737488352100 := by
  have h1 := pre_len' D hD k hk
  have h2 := tot_mono D k 4 hk
  omega
theorem at5_set (m : Nat → Nat) (k : Nat) (h : k < 5) : (at5 (mk m k)).setIfInBounds k (.int .i64 (m k : Int)) = at5 (mk m (k + 1)) := by
  match k, h with
  | 0, _ => simp [at5, mk]
  | 1, _ => simp [at5, mk]
  | 2, _ => simp [at5, mk]
  | 3, _ => simp [at5, mk]
  | 4, _ => simp [at5, mk]
theorem id_nat (k : Nat) (h : k < 5) : ((UInt8.ofNat (1 + k)).toNat : Int) = 1 + (k : Int) := by
  rw [UInt8.toNat_ofNat']
  have : (1 + k) % 2 ^ 8 = 1 + k := by omega
  rw [this]
  omega
def ar4 (V : Nat → Value) : Array Value := #[V 0, V 1, V 2, V 3]
theorem ar4_get (V : Nat → Value) (k : Nat) (h : k < 4) : (ar4 V)[k]? = some (V k) := by
  match k, h with
  | 0, _ => rfl
  | 1, _ => rfl
  | 2, _ => rfl
  | 3, _ => rfl
end Ly
theorem infoSl : (Tryd.prog.info? 22).map (fun i => (i.zero, i.size, i.bytes)) = some (some (.slice none 0 0), 1, 24) := by kernel_rfl
theorem idx4 (T : TypeId) (hT : Tryd.prog.underlying T = some (.array 4 22)) (V : Nat → Value) (k : Nat) (h : k < 4) (w : World) : (Instr.index T (.agg #[V 0, V 1, V 2, V 3]) (.int .i64 (k : Int))).run Tryd.prog w = .ok (V k) w := by
  obtain ⟨i0, hi0, hz0, hz1, hz2⟩ := info_parts infoSl
  unfold Instr.index
  have h1 : (0 : Int) ≤ (k : Int) ∧ (k : Int) < 4 := by omega
  have h2 : [V 0, V 1, V 2, V 3][k]? = some (V k) := by
    match k, h with
    | 0, _ => rfl
    | 1, _ => rfl
    | 2, _ => rfl
    | 3, _ => rfl
  simp [asIntOf, run_underlying hT, sizeOf, typeInfo, hi0, hz1, h1, part]
  rw [if_pos h, h2]
  rfl
/-- four slices of bytes -/
def Four (w : World) (B : Nat) (V : Nat → Value) (D : Nat → List UInt8) : Prop := ∀ i, i < 4 → ∃ A n c, V i = .slice A n c ∧ RdB w B A n c (D i)
theorem Four.below {w w' : World} {B : Nat} {V : Nat → Value} {D : Nat → List UInt8} (h : Four w B V D) (hb : Below B w w') : Four w' B V D := fun i hi => by
  obtain ⟨A, n, c, h1, h2⟩ := h i hi
  exact ⟨A, n, c, h1, h2.below hb⟩
theorem Four.more {w : World} {B B' : Nat} {V : Nat → Value} {D : Nat → List UInt8} (h : Four w B V D) (hb : B ≤ B') : Four w B' V D := fun i hi => by
  obtain ⟨A, n, c, h1, h2⟩ := h i hi
  exact ⟨A, n, c, h1, h2.more hb⟩

/-- as Up, the full ones below a block -/
def UpL (w : World) (base lim : Nat) (A : Option Addr) (n c : Nat) (l : List UInt8) : Prop := OwnB w base A n c l ∨ (0 < n ∧ c = n ∧ RdB w lim A n c l)
theorem UpL.up {w : World} {base lim n c : Nat} {A : Option Addr} {l : List UInt8} (h : UpL w base lim A n c l) (hl : lim ≤ w.heap.size) : Up w base A n c l := by
  rcases h with h | h
  · exact .inl h
  · exact .inr ⟨h.1, h.2.1, h.2.2.more hl⟩
theorem UpL.len {w : World} {base lim n c : Nat} {A : Option Addr} {l : List UInt8} (h : UpL w base lim A n c l) : n = l.length := by
  rcases h with h | h
  · exact h.len
  · exact h.2.2.len
theorem UpL.store {w : World} {base lim n c g : Nat} {A : Option Addr} {l : List UInt8} (h : UpL w base lim A n c l) (h1 : lim ≤ g) (h2 : g < base) (k : Nat) (v : Value) : UpL (w.setCell ⟨g, k, none⟩ v) base lim A n c l := by
  rcases h with h | h
  · exact .inl (OwnB.far h h2 v)
  · exact .inr ⟨h.1, h.2.1, h.2.2.setCell (p := ⟨g, k, none⟩) h1 v⟩

set_option maxRecDepth 100000 in
set_option maxHeartbeats 4000000 in
theorem assemble_any (V : Nat → Value) (D : Nat → List UInt8) (w : World) (hV : Four w w.heap.size V D) (hD : Ly.tot D 4 ≤ 140737488352000) (ht : Tab w) :
    Calls Tryd.prog 38 #[.agg (Ly.ar4 V)] w fun e w' => ∃ A n c, e = .returned (.slice A n c) ∧ OwnB w' w.heap.size A n c (Ly.asm D) ∧ Below w.heap.size w w' := by
  obtain ⟨W1, hW1⟩ : ∃ W1, W1 = w.alloc (.cells #[V 0, V 1, V 2, V 3] 65) := ⟨_, rfl⟩
  obtain ⟨W2, hW2⟩ : ∃ W2, W2 = W1.alloc (.cells #[.int .u8 84, .int .u8 83, .int .u8 66, .int .u8 75, .int .u8 1] 5 (5, 6)) := ⟨_, rfl⟩
  obtain ⟨W3, hW3⟩ : ∃ W3, W3 = W2.alloc (.cells #[.int .i64 0, .int .i64 0, .int .i64 0, .int .i64 0, .int .i64 0] 67) := ⟨_, rfl⟩
  have hz1 : W1.heap.size = w.heap.size + 1 := by rw [hW1]; simp
  have hz2 : W2.heap.size = W1.heap.size + 1 := by rw [hW2]; simp
  have hz3 : W3.heap.size = W2.heap.size + 1 := by rw [hW3]; simp
  have kc : (convert 22 22 (.slice (some ⟨W1.heap.size, 0, none⟩) 5 5)).run Tryd.prog (W1.alloc (.cells #[.int .u8 84, .int .u8 83, .int .u8 66, .int .u8 75, .int .u8 1] 5)) = .ok (.slice (some ⟨W1.heap.size, 0, none⟩) 5 5) W2 := by rw [hW2]; exact run_bytes_lit W1 _ 5 5
  have B1 : Kept (Below w.heap.size w W1) := ⟨by rw [hW1]; exact (Below.refl _ w).alloc (Nat.le_refl _) _⟩
  have B2 : Kept (Below W1.heap.size W1 W2) := ⟨by rw [hW2]; exact (Below.refl _ W1).alloc (Nat.le_refl _) _⟩
  have B3 : Kept (Below W2.heap.size W2 W3) := ⟨by rw [hW3]; exact (Below.refl _ W2).alloc (Nat.le_refl _) _⟩
  have hcl : ∀ k, k < 4 → W3.cell? ⟨w.heap.size, k, none⟩ = some (V k) := fun k hk => by
    rw [B3.out.cell (p := ⟨w.heap.size, k, none⟩) (by show w.heap.size < _; omega), B2.out.cell (p := ⟨w.heap.size, k, none⟩) (by show w.heap.size < _; omega), hW1]
    exact (World.cell?_alloc_mark w _ _ _ k).trans (Ly.ar4_get V k hk)
  have k0 := hcl 0 (by omega)
  have k1 := hcl 1 (by omega)
  have k2 := hcl 2 (by omega)
  have k3 := hcl 3 (by omega)
  have hU : Kept (UpL W3 W3.heap.size W2.heap.size (some ⟨W1.heap.size, 0, none⟩) 5 5 (Ly.pre D 0)) := ⟨.inr ⟨by omega, rfl, by
    have h := RdB.litM W1 Ly.head (5, 6) (by simp [Ly.head])
    have h2 : RdB W2 (W1.heap.size + 1) (some ⟨W1.heap.size, 0, none⟩) 5 5 Ly.head := by rw [hW2]; exact h
    have h3 : Ly.pre D 0 = Ly.head := by simp [Ly.pre]
    rw [h3]
    exact (h2.below (B3.out.mono (by omega))).more (by omega)⟩⟩
  have hA : Kept (W3.heap[W2.heap.size]? = some (.cells (Ly.at5 (Ly.mk (Ly.off D) 0)) 67 (0, 0))) := ⟨by rw [hW3]; exact heap_alloc_new W2 _⟩
  have BA : Kept (Below w.heap.size w W3) := ⟨bl_next (bl_next B1.out B2.out) B3.out⟩
  have HV : Kept (Four W3 w.heap.size V D) := ⟨hV.below BA.out⟩
  have hgt := ht.lt
  have T3 : Kept (Tab W3) := ⟨ht.below BA.out⟩
  have Z1 := Kept.mk hz1
  have Z2 := Kept.mk hz2
  have Z3 := Kept.mk hz3
  have HW1 := Kept.mk hW1.symm
  have HW3 := Kept.mk hW3.symm
  have hPL := Kept.mk (Ly.pre_len D hD)
  clear hz1 hz2 hz3 hcl hV ht hW1 hW2 hW3 B1 B2 B3
  show Calls _ _ #[.agg #[V 0, V 1, V 2, V 3]] _ _
  go_enter Tryd.func38, Tryd.ntmps38
  go_upto_region 1 with fail
  rw [HW1.out]
  go_upto_region 3 with fail
  rw [HW3.out]
  go_wp2
  have hg23 : W2.heap.size < W3.heap.size := by rw [Z3.out]; omega
  generalize W2.heap.size = g at *
  go_loopw [3, 10] (fun o i wr => ∃ k : Nat, k ≤ 4 ∧ i = .int .i64 k ∧ ∃ A3 n3 c3, o = .slice A3 n3 c3 ∧ UpL wr W3.heap.size g A3 n3 c3 (Ly.pre D k) ∧ wr.heap[g]? = some (.cells (Ly.at5 (Ly.mk (Ly.off D) k)) 67 (0, 0)) ∧ Below g W3 wr ∧ W3.heap.size ≤ wr.heap.size) (fun _ i _ => 4 - (intOf i).toNat)
  case atStart => exact ⟨0, by omega, rfl, _, 5, 5, rfl, hU.out, hA.out, Below.refl _ _, Nat.le_refl _⟩
  case round =>
    clear hU hA
    obtain ⟨k, hk, rfl, A3, n3, c3, rfl, hu, ha, hb3, hz⟩ := hrel
    by_cases hlt : k < 4
    · obtain ⟨Ak, nk, ck, hVk, hrd⟩ := HV.out k hlt
      have hidx : ∀ W, (Instr.index 65 (.agg #[V 0, V 1, V 2, V 3]) (.int .i64 (k : Int))).run Tryd.prog W = .ok (.slice Ak nk ck) W := fun W => by rw [← hVk]; exact idx4 _ Tryd.underlying65 V k hlt W
      have hck := cell_of_row wr g k _ _ _ ha
      rw [Ly.at5_get _ k (by omega)] at hck
      have hfk := frozen_of_row wr g k _ _ ha
      have hidk := Ly.id_nat k (by omega)
      have hn3 : n3 = Ly.off D k := hu.len
      have hset := Ly.at5_set (Ly.off D) k (by omega)
      have ha2 : (wr.setCell ⟨g, k, none⟩ (.int .i64 (n3 : Int))).heap[g]? = some (.cells (Ly.at5 (Ly.mk (Ly.off D) (k + 1))) 67 (0, 0)) := by rw [heap_setCell_same wr g k _ _ _ ha, hn3, hset]
      have hu2 := hu.store (Nat.le_refl g) hg23 k (.int .i64 (n3 : Int))
      have hb4 : Below g W3 (wr.setCell ⟨g, k, none⟩ (.int .i64 (n3 : Int))) := hb3.setCell (p := ⟨g, k, none⟩) (Nat.le_refl _) _
      have hsz : (wr.setCell ⟨g, k, none⟩ (.int .i64 (n3 : Int))).heap.size = wr.heap.size := by simp
      have hsum : n3 + nk ≤ 140737488352100 := by
        have h1 := hPL.out (k + 1) (by omega)
        rw [Ly.pre_succ, List.length_append, Wr.frame_len_eq] at h1
        have h2 := hrd.len
        rw [hn3]
        show (Ly.pre D k).length + nk ≤ _
        omega
      have hd2 : RdB (wr.setCell ⟨g, k, none⟩ (.int .i64 (n3 : Int))) wr.heap.size Ak nk ck (D k) := (hrd.below (hb4.mono (by have h1 := Z1.out; have h2 := Z2.out; omega))).more (by have := BA.out.size; omega)
      have ht2 : Tab (wr.setCell ⟨g, k, none⟩ (.int .i64 (n3 : Int))) := T3.out.base (base := g) (by have h1 := Z1.out; have h2 := Z2.out; omega) hb4
      have HS := appendSectionU_any A3 Ak n3 c3 nk ck W3.heap.size wr.heap.size (Ly.pre D k) (D k) (UInt8.ofNat (1 + k)) _ (hu2.up (by rw [hsz]; omega)) hd2 (by rw [hsz]; exact Nat.le_refl _) ht2 (by rw [hsz]; exact hz) (by omega)
      rw [hidk, ← Ly.pre_succ] at HS
      have HS' := Kept.mk HS
      have A2 := Kept.mk ha2
      have B4 := Kept.mk hb4
      have SZ := Kept.mk hsz
      clear HS ha2 hb4 hsz hu2 hu ha hset hn3 hidk hb3 hrd hVk hd2 ht2
      go_wp2_with (go_at_call 18; refine HS'.out.mono ?_; rintro r w5 ⟨A5, n5, c5, rfl, ho5, hb5⟩)
      go_roundw
      case rel => exact ⟨k + 1, by omega, by go_num, A5, n5, c5, rfl, .inl ho5, (hb5.block g hg23).trans A2.out, B4.out.trans (hb5.mono (by omega)), by have := hb5.size; rw [SZ.out] at this; omega⟩
      case measure => simp [intOf]; omega
    · obtain rfl : k = 4 := by omega
      have hm : ∀ i, Ly.mk (Ly.off D) 4 i ≤ 140737488355328 := fun i => by
        unfold Ly.mk
        split
        · rename_i hi4
          have h1 := hPL.out i (by omega)
          show Ly.off D i ≤ _
          unfold Ly.off
          omega
        · omega
      have hcg : Kept (Ly.con (Ly.mk (Ly.off D) 4) 4 = Ly.con (Ly.off D) 4) := ⟨Ly.con_congr 4 fun i hi => by unfold Ly.mk; rw [if_pos hi]⟩
      have hcle := Ly.con_len _ hm 4
      have a0 := (cell_of_row wr g 0 _ _ _ ha).trans (Ly.at5_get _ 0 (by omega))
      have a1 := (cell_of_row wr g 1 _ _ _ ha).trans (Ly.at5_get _ 1 (by omega))
      have a2 := (cell_of_row wr g 2 _ _ _ ha).trans (Ly.at5_get _ 2 (by omega))
      have a3 := (cell_of_row wr g 3 _ _ _ ha).trans (Ly.at5_get _ 3 (by omega))
      have a4 := (cell_of_row wr g 4 _ _ _ ha).trans (Ly.at5_get _ 4 (by omega))
      have HC := Kept.mk (contents_any (Ly.mk (Ly.off D) 4) wr hm)
      rw [hcg.out] at HC hcle
      unfold Ly.at5 at HC
      have hn3 : n3 = (Ly.pre D 4).length := hu.len
      have hn3b : n3 ≤ 140737488352100 := by have h1 := hPL.out 4 (by omega); omega
      have HU := Kept.mk hu
      have B3 := Kept.mk hb3
      have Tr : Kept (Tab wr) := ⟨T3.out.base (base := g) (by have h1 := Z1.out; have h2 := Z2.out; omega) hb3⟩
      have hwg : w.heap.size ≤ g := by have h1 := Z1.out; have h2 := Z2.out; omega
      have hbod : Kept (Ly.pre D 4 ++ Wr.frame 5 (Ly.con (Ly.off D) 4) = Ly.body D) := ⟨rfl⟩
      have hfl := Kept.mk (Wr.frame_len 5 (Ly.con (Ly.off D) 4) (by omega))
      have hN3 := Kept.mk hn3
      have HCL := Kept.mk hcle
      clear hu hb3 ha hcg hm hn3 hcle
      go_wp2_with (first
        | (go_at_call 69; refine HC.out.mono ?_; rintro r w5 ⟨A5, n5, c5, rfl, ho5, hb5⟩; have r5 := Kept.mk ho5.rd; have hn5 : n5 ≤ 40 := (by have h1 := ho5.len; have h2 := HCL.out; omega); have u5 := Kept.mk (Up.keep (HU.out.up (by omega)) hb5); have b5 := Kept.mk hb5; have t5 := Kept.mk (Tr.out.below hb5); have z5 := hb5.size; clear ho5 hb5)
        | (go_at_call 18; refine (appendSectionU_any A3 A5 n3 c3 n5 c5 W3.heap.size w5.heap.size (Ly.pre D 4) (Ly.con (Ly.off D) 4) 5 w5 u5.out r5.out (Nat.le_refl _) t5.out (by omega) (by omega)).mono ?_; rintro r w6 ⟨A6, n6, c6, rfl, ho6, hb6⟩; rw [hbod.out] at ho6; have o6 := Kept.mk ho6.rd; have t6 : Kept (Tab w6) := ⟨t5.out.base (base := W3.heap.size) (by omega) hb6⟩; have b6 : Kept (Below g wr w6) := ⟨(b5.out.mono (by omega)).trans (hb6.mono (by omega))⟩; have hn6 : n6 = (Ly.body D).length := ho6.len; have hl6 : Kept (n6 ≤ 140737488352200) := ⟨by have h1 := hN3.out; have h2 := hfl.out; have h3 := HCL.out; rw [hn6]; unfold Ly.body; rw [List.length_append]; omega⟩; have hN6 := Kept.mk hn6; clear ho6 hb6 hn6)
        | (go_at_call 47; refine (append_any _ _ _ (Ly.body D) w6 _ o6.out t6.out (Nat.le_refl _) (by have h1 := hN6.out; have h2 := hl6.out; omega)).mono ?_; rintro r w7 ⟨A7, n7, c7, rfl, ho7, hb7⟩; have o7 := Kept.mk ho7; have b7 := Kept.mk hb7; have z7 := hb7.size; have hn7 : n7 ≤ 140737488352300 := (by have h1 := ho7.len; rw [Crc.app_len'] at h1; have h2 := hN6.out; have h3 := hl6.out; omega); clear ho7 hb7)
        | (at_builtin; refine wpList_appS rfl (.tmp 32) (.const (.string ⟨#[75, 66, 83, 84]⟩)) rfl w6.heap.size _ _ _ _ rfl o7.out ⟨#[75, 66, 83, 84]⟩ rfl (by have e : (⟨#[75, 66, 83, 84]⟩ : ByteArray).size = 4 := rfl; omega) (by omega) ?_; intro A8 c8 w8 hown8 hgrow8))
      go_ret
      have z6 := b6.out.size
      have zB := BA.out.size
      refine ⟨A8, _, c8, rfl, (hown8.base (by omega)), ?_⟩
      refine BA.out.trans ((B3.out.mono hwg).trans ((b6.out.mono hwg).trans ((b7.out.mono (by omega)).trans ((own_grown_below o7.out (by omega) hgrow8).mono (by omega)))))
end Go.Proofs.YtknfkbgnfjfpeaaDoor
