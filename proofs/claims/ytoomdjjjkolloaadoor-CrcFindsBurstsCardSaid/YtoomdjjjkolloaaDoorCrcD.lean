/- The matrices: times, square, zeroByte; Combine. -/
import Derived.Test.YtoomdjjjkolloaaDoorCrcA
import Derived.BigQuiet
import Derived.Laws.CopyOwn
import Derived.Deep.RegionHeld3
import Derived.Deep.MidRow
import Derived.Deep.DeepCutAuto
namespace Go.Proofs.YtoomdjjjkolloaaDoor
open Go.RowKit

/-- a word -/
def wv (n : Nat) : Value := .int .u32 (n : Int)
def mv (m : List Nat) : Array Value := (m.map wv).toArray

theorem times_bit (u x k y : Nat) (hu : u < 4294967296) (hx : x < 4294967296) (hy : y < 4294967296) :
    bits .xor .u32 (u : Int) (bits .and .u32 (y : Int) (-bits .and .u32 ((x : Int) / 2 ^ k) 1 % 4294967296)) = ((u ^^^ (x / 2 ^ k % 2 * y) : Nat) : Int) := by
  have hxk : x / 2 ^ k < 4294967296 := Nat.lt_of_le_of_lt (Nat.div_le_self _ _) hx
  have e1 : bits .and .u32 ((x : Int) / 2 ^ k) 1 = ((x / 2 ^ k % 2 : Nat) : Int) := by
    rw [← nat_mask1, ← u32_and_nat (x / 2 ^ k) 1 hxk (by omega)]; simp
  rw [e1]
  rcases Nat.mod_two_eq_zero_or_one (x / 2 ^ k) with h0 | h0 <;> rw [h0]
  · have e2 : bits .and .u32 (y : Int) (-((0 : Nat) : Int) % 4294967296) = ((0 : Nat) : Int) := by
      have := u32_and_nat y 0 hy (by omega)
      simpa using this
    rw [e2, Nat.zero_mul]
    exact u32_xor_nat u 0 hu (by omega)
  · have e2 : bits .and .u32 (y : Int) (-((1 : Nat) : Int) % 4294967296) = (y : Int) := by
      have := u32_and_nat y 4294967295 hy (by omega)
      rw [show (4294967295 : Nat) = 2 ^ 32 - 1 from rfl, Nat.and_two_pow_sub_one_eq_mod, Nat.mod_eq_of_lt hy] at this
      exact this
    rw [e2, Nat.one_mul]
    exact u32_xor_nat u y hu hy

set_option maxHeartbeats 1000000 in
theorem times_any (m : List Nat) (x : Nat) (w : World) (hm : m.length = 32) (hx : x < 4294967296) (hml : ∀ y ∈ m, y < 4294967296) :
    Calls Tryd.prog 22 #[.agg (mv m), .int .u32 (x : Int)] w fun e w' => e = .returned (.int .u32 ((Crc.mulM m x : Nat) : Int)) ∧ Below w.heap.size w w' := by
  go_enter Tryd.func22, Tryd.ntmps22
  go_wp2
  go_loopw [5, 7] (fun t i wr => ∃ k : Nat, k ≤ 32 ∧ i = .int .i64 k ∧ t = .int .u32 ((Crc.mulN m x k : Nat) : Int) ∧ (∀ j, j < 32 → wr.cell? ⟨w.heap.size, j, none⟩ = some (.int .u32 ((m.getD j 0 : Nat) : Int))) ∧ Below w.heap.size w wr) (fun _ i _ => 32 - (intOf i).toNat)
  case atStart =>
    refine ⟨0, Nat.zero_le _, rfl, rfl, fun j hj => ?_, (Below.refl _ w).alloc (Nat.le_refl _) _⟩
    rw [World.cell?_alloc_mark]
    simp [mv, wv, hm, hj, List.getD]
  case round =>
    obtain ⟨k, hk, rfl, rfl, hM, hb⟩ := hrel
    by_cases hlt : k < 32
    · have hck := hM k hlt
      have hu := Crc.mulN_lt m x k hml
      have hy := Crc.getD_lt m k hml
      have hst := hide (show Crc.mulN m x (k + 1) = Crc.mulN m x k ^^^ (x / 2 ^ k % 2 * m.getD k 0) from rfl)
      have HM := hide hM
      clear hM
      generalize m.getD k 0 = y at *
      generalize Crc.mulN m x k = u at *
      go_wp2
      go_quiet (fail)
      go_wp2
      go_roundw
      case rel =>
        refine ⟨k + 1, by omega, by go_num, ?_, fun j hj => HM.out j hj, below_drewN hb nq⟩
        rw [hst.out, times_bit u x k y hu hx hy]
      case measure => simp [intOf]; omega
    · obtain rfl : k = 32 := by omega
      go_wp2
      go_ret
      exact ⟨rfl, hb⟩

theorem mv_size (m : List Nat) : (mv m).size = m.length := by simp [mv]
theorem mv_get (m : List Nat) (k : Nat) (h : k < m.length) : (mv m)[k]? = some (.int .u32 ((m.getD k 0 : Nat) : Int)) := by
  simp [mv, wv, h, List.getD]
theorem mv_one (m : List Nat) : (mv m).all (·.oneCell') = true := by
  simp [mv, wv, Value.oneCell']
/-- the block g is just the words m -/
def Mat (w : World) (g : Nat) (m : List Nat) : Prop := w.heap[g]? = some (.cells (mv m) 41 (0, 0))
section
variable {w w' : World} {g : Nat} {m : List Nat}
theorem Mat.lt (h : Mat w g m) : g < w.heap.size := by
  rcases Nat.lt_or_ge g w.heap.size with hlt | hge
  · exact hlt
  · unfold Mat at h; rw [Array.getElem?_eq_none hge] at h; cases h
theorem Mat.below {B : Nat} (h : Mat w g m) (hb : Below B w w') (hg : g < B) : Mat w' g m := (hb.block g hg).trans h
theorem Mat.cell (h : Mat w g m) {k : Nat} (hk : k < m.length) : w.cell? ⟨g, k, none⟩ = some (.int .u32 ((m.getD k 0 : Nat) : Int)) := by
  rw [cell_of_row w g k _ _ _ h, mv_get m k hk]
theorem Mat.frozen (h : Mat w g m) (k : Nat) : w.frozen? ⟨g, k, none⟩ = false := frozen_of_row w g k _ _ h
theorem Mat.set (h : Mat w g m) (k x : Nat) : Mat (w.setCell ⟨g, k, none⟩ (.int .u32 (x : Int))) g (m.set k x) := by
  unfold Mat at h ⊢
  rw [heap_setCell_same w g k _ _ _ h]
  simp [mv, wv]
theorem Mat.new (w : World) (m : List Nat) : Mat (w.alloc (.cells (mv m) 41)) w.heap.size m := heap_alloc_new w _
theorem Mat.alloc (h : Mat w g m) (o : Obj) : Mat (w.alloc o) g m := (Below.heap_alloc w o g h.lt).trans h
theorem Mat.drew (h : Mat w g m) : Mat w.drew g m := h
theorem Mat.drewN (h : Mat w g m) (n : Nat) : Mat (w.drewN n) g m := h
theorem Mat.far (h : Mat w g m) {p : Addr} (hp : g ≠ p.block) (u : Value) : Mat (w.setCell p u) g m := (Below.heap_setCell w p u g hp).trans h
theorem Mat.setRow (h : Mat w g m) (m' : List Nat) : Mat (w.setRow g (mv m')) g m' := setRow_heap w g _ _ _ _ h
theorem Mat.range (h : Mat w g m) : w.rangeAt g 0 (m.map wv) := fun j v hv => by
  rw [Nat.zero_add, cell_of_row w g j _ _ _ h]
  simpa [mv] using hv
theorem Mat.load (h : Mat w g m) (hm : m.length = 32) : (Instr.loadAt 41 (.pointer (some ⟨g, 0, none⟩))).run Tryd.prog w = .ok (.agg (mv m)) w := by
  simp only [Instr.loadAt, Instr.sureAddr, Sem.run_bind, Sem.run_pure, Result.andThen_ok]
  exact run_loadVar_row w g _ _ (mv m) (0, 0) _ h Tryd.underlying41 rfl (by rw [mv_size, hm]; kernel_rfl)
end
def zeros : List Nat := List.replicate 32 0
theorem mv_zeros : #[Value.int IntKind.u32 0, Value.int IntKind.u32 0, Value.int IntKind.u32 0, Value.int IntKind.u32 0,
          Value.int IntKind.u32 0, Value.int IntKind.u32 0, Value.int IntKind.u32 0, Value.int IntKind.u32 0,
          Value.int IntKind.u32 0, Value.int IntKind.u32 0, Value.int IntKind.u32 0, Value.int IntKind.u32 0,
          Value.int IntKind.u32 0, Value.int IntKind.u32 0, Value.int IntKind.u32 0, Value.int IntKind.u32 0,
          Value.int IntKind.u32 0, Value.int IntKind.u32 0, Value.int IntKind.u32 0, Value.int IntKind.u32 0,
          Value.int IntKind.u32 0, Value.int IntKind.u32 0, Value.int IntKind.u32 0, Value.int IntKind.u32 0,
          Value.int IntKind.u32 0, Value.int IntKind.u32 0, Value.int IntKind.u32 0, Value.int IntKind.u32 0,
          Value.int IntKind.u32 0, Value.int IntKind.u32 0, Value.int IntKind.u32 0, Value.int IntKind.u32 0] = mv zeros := rfl
theorem zeros_len : zeros.length = 32 := rfl

set_option maxHeartbeats 2000000 in
theorem square_any (m : List Nat) (w : World) (hm : m.length = 32) (hml : ∀ y ∈ m, y < 4294967296) :
    Calls Tryd.prog 23 #[.agg (mv m)] w fun e w' => e = .returned (.agg (mv (m.map (Crc.mulM m)))) ∧ Below w.heap.size w w' := by
  have Hm := hide hm
  clear hm
  go_enter Tryd.func23, Tryd.ntmps23
  go_wp2
  rw [mv_zeros]
  have hA := ((Mat.new w m).alloc (.cells (mv zeros) 41)).alloc (.cells (mv zeros) 41)
  have hB := (Mat.new (w.alloc (.cells (mv m) 41)) zeros).alloc (.cells (mv zeros) 41)
  have hC := Mat.new ((w.alloc (.cells (mv m) 41)).alloc (.cells (mv zeros) 41)) zeros
  have hb0 : Below w.heap.size w (((w.alloc (.cells (mv m) 41)).alloc (.cells (mv zeros) 41)).alloc (.cells (mv zeros) 41)) :=
    (((Below.refl _ w).alloc (Nat.le_refl _) _).alloc (by simp) _).alloc (by simp; omega) _
  simp only [World.size_alloc] at hB hC
  generalize ((w.alloc (.cells (mv m) 41)).alloc (.cells (mv zeros) 41)).alloc (.cells (mv zeros) 41) = w0 at *
  go_loopw [5] (fun i wr => ∃ k : Nat, k ≤ 32 ∧ i = .int .i64 k ∧ Mat wr w.heap.size m ∧ Mat wr (w.heap.size + 1) zeros ∧ Mat wr (w.heap.size + 1 + 1) (Crc.part (m.map (Crc.mulM m)) k) ∧ Below w.heap.size w wr) (fun i _ => 32 - (intOf i).toNat)
  case atStart => exact ⟨0, Nat.zero_le _, rfl, hA, hB, hC, hb0⟩
  case round =>
    obtain ⟨k, hk, rfl, hA1, hB1, hC1, hb1⟩ := hrel
    clear hA hB hC hb0
    by_cases hlt : k < 32
    · have hlen : (Crc.part (m.map (Crc.mulM m)) k).length = 32 := Crc.part_len _ k (by simpa using Hm.out) hk
      have hck := hA1.cell (show k < m.length by rw [Hm.out]; exact hlt)
      have hmk := Crc.getD_lt m k hml
      have hzz := zeros_len
      have hst := hide (Crc.part_succ (m.map (Crc.mulM m)) k (by simpa using Hm.out) hlt)
      have hmul := hide (Crc.mulM_get m k (by rw [Hm.out]; exact hlt))
      have hold := hC1.cell (show k < (Crc.part (m.map (Crc.mulM m)) k).length by rw [hlen]; exact hlt)
      have hz1 := hb1.size
      have hzA := hA1.lt
      have hzC := hC1.lt
      have hty := Tryd.underlying41
      have hin : (Tryd.prog.info? 41).map (·.size) = some (m.map wv).length := by rw [List.length_map, Hm.out]; kernel_rfl
      have hR1 := hA1.range
      have hl0 := hide hlen
      clear hlen hzz
      obtain ⟨y, hy⟩ : ∃ y, y = m.getD k 0 := ⟨_, rfl⟩
      rw [← hy] at hck hmk hmul
      have Hy := hide hy
      clear hy
      go_wp2_with fail
      go_region_held3 (fun w' => w'.rangeAt w.heap.size 0 (m.map wv) ∧ w'.cell? ⟨w.heap.size, k, none⟩ = some (.int .u32 (y : Int))) (first | exact ⟨hR1, hck⟩ | exact ⟨hR2, hck2⟩ | exact ⟨hR4, hck4⟩)
        (first
          | (go_at_call 22; refine (times_any m y _ Hm.out hmk hml).mono ?_; rintro e w2 ⟨rfl, hb2⟩; have hb3 : Below wr.heap.size wr w2 := (Below.drew (Below.refl _ wr)).trans hb2; have hA2 : Mat w2 w.heap.size m := hA1.below hb3 hzA; have hC2 := hC1.below hb3 hzC; have hB2 := hB1.below hb3 (by omega); have hold2 := hC2.cell (show k < (Crc.part (m.map (Crc.mulM m)) k).length by rw [hl0.out]; exact hlt); have hfr2 := hC2.frozen k; have hR2 := hA2.range; have hck2 : w2.cell? ⟨w.heap.size, k, none⟩ = some (.int .u32 (y : Int)) := (by rw [Hy.out]; exact hA2.cell (show k < m.length by rw [Hm.out]; exact hlt)); have hA4 := hA2.far (p := ⟨w.heap.size + 1 + 1, k, none⟩) (show w.heap.size ≠ w.heap.size + 1 + 1 by omega) (.int .u32 ((Crc.mulM m y : Nat) : Int)); have hR4 := hA4.range; have hck4 : (w2.setCell ⟨w.heap.size + 1 + 1, k, none⟩ (.int .u32 ((Crc.mulM m y : Nat) : Int))).cell? ⟨w.heap.size, k, none⟩ = some (.int .u32 (y : Int)) := (by have h0 := hA4.cell (show k < m.length by rw [Hm.out]; exact hlt); rwa [← Hy.out] at h0)))
      have hfin : Mat (w2.setCell ⟨w.heap.size + 1 + 1, k, none⟩ (.int .u32 ((Crc.mulM m y : Nat) : Int))) (w.heap.size + 1 + 1) (Crc.part (m.map (Crc.mulM m)) (k + 1)) := by
        have := hC2.set k (Crc.mulM m y)
        rwa [← hmul.out, hst.out, hmul.out] at this
      have hB4 := hB2.far (p := ⟨w.heap.size + 1 + 1, k, none⟩) (show w.heap.size + 1 ≠ w.heap.size + 1 + 1 by omega) (.int .u32 ((Crc.mulM m y : Nat) : Int))
      have hb4 : Below w.heap.size w (w2.setCell ⟨w.heap.size + 1 + 1, k, none⟩ (.int .u32 ((Crc.mulM m y : Nat) : Int))) := (hb1.trans (hb3.mono hz1)).setCell (by simp; omega) _
      go_wp2
      go_roundw
      case rel => exact ⟨k + 1, by omega, by go_num, hA4, hB4, hfin, hb4⟩
      case measure => simp [intOf]; omega
    · obtain rfl : k = 32 := by omega
      rw [Crc.part_all _ (by simpa using Hm.out)] at hC1
      have hin : (Tryd.prog.info? 41).map (·.size) = some (mv (m.map (Crc.mulM m))).size := by rw [mv_size, List.length_map, Hm.out]; kernel_rfl
      go_wp2_with (first
        | (refine wpList_load_row rfl 41 _ rfl (w.heap.size + 1 + 1) rfl _ _ _ _ hC1 Tryd.underlying41 rfl hin ?_)
        | (refine wpList_store_row rfl 41 _ _ rfl (w.heap.size + 1) (mv (m.map (Crc.mulM m))) rfl rfl _ _ hB1 hin (by rw [mv_size, mv_size, List.length_map, Hm.out]; rfl) (mv_one _) ?_))
      have hres := setRow_heap wr (w.heap.size + 1) _ (mv (m.map (Crc.mulM m))) _ _ hB1
      exact bodyPost_ret (results_cell_row rfl _ _ (w.heap.size + 1) _ _ _ _ rfl hres Tryd.underlying41 rfl hin) rfl ⟨rfl, below_setRow hb1 (by omega) _⟩

set_option maxHeartbeats 2000000 in
theorem zeroByte_any (w : World) (ht : Tab w) :
    Calls Tryd.prog 21 #[] w fun e w' => e = .returned (.agg (mv (Crc.matOf (Crc.it 8)))) ∧ Below w.heap.size w w' := by
  have ht0 := hide ht
  have hz0 := ht.lt
  clear ht
  go_enter Tryd.func21, Tryd.ntmps21
  go_wp2
  rw [mv_zeros]
  have hB := (Mat.new w zeros).alloc (.cells (mv zeros) 41)
  have hC := Mat.new (w.alloc (.cells (mv zeros) 41)) zeros
  have hb0 : Below w.heap.size w ((w.alloc (.cells (mv zeros) 41)).alloc (.cells (mv zeros) 41)) :=
    ((Below.refl _ w).alloc (Nat.le_refl _) _).alloc (by simp) _
  simp only [World.size_alloc] at hC
  generalize (w.alloc (.cells (mv zeros) 41)).alloc (.cells (mv zeros) 41) = w0 at *
  have Hl := hide (Crc.matOf_len (Crc.it 8))
  go_loopw [3] (fun i wr => ∃ k : Nat, k ≤ 32 ∧ i = .int .i64 k ∧ Mat wr w.heap.size zeros ∧ Mat wr (w.heap.size + 1) (Crc.part (Crc.matOf (Crc.it 8)) k) ∧ Below w.heap.size w wr) (fun i _ => 32 - (intOf i).toNat)
  case atStart => exact ⟨0, Nat.zero_le _, rfl, hB, hC, hb0⟩
  case round =>
    obtain ⟨k, hk, rfl, hB1, hC1, hb1⟩ := hrel
    clear hB hC hb0
    have hz1 := hb1.size
    have hzC := hC1.lt
    by_cases hlt : k < 32
    · have hl0 := hide (Crc.part_len (Crc.matOf (Crc.it 8)) k Hl.out hk)
      have hold := hC1.cell (show k < (Crc.part (Crc.matOf (Crc.it 8)) k).length by rw [hl0.out]; exact hlt)
      have hfr := hC1.frozen k
      have hst := hide (Crc.part_succ (Crc.matOf (Crc.it 8)) k Hl.out hlt)
      have hget := hide (Crc.matOf_get (Crc.it 8) k hlt)
      obtain ⟨p, hp⟩ : ∃ p, p = 2 ^ k := ⟨_, rfl⟩
      have hpl : p < 4294967296 := by rw [hp]; exact Nat.pow_lt_pow_right (n := 32) (by decide) hlt
      rw [← hp] at hget
      have Hp := hide hp
      have ep : IntKind.u32.wrap (2 ^ k) = (p : Int) := by
        have e : (2 : Int) ^ k = (p : Int) := by rw [hp]; simp
        rw [IntKind.wrap_u32', e]; omega
      clear hp
      have hC2 := hC1.alloc (.cells #[.int .u8 0] 5)
      have hB2 := hB1.alloc (.cells #[.int .u8 0] 5)
      have hb2 : Below w.heap.size w (wr.alloc (.cells #[.int .u8 0] 5)) := hb1.alloc hz1 _
      have hold2 := hC2.cell (show k < (Crc.part (Crc.matOf (Crc.it 8)) k).length by rw [hl0.out]; exact hlt)
      have hfr2 := hC2.frozen k
      have eU := hide (show Crc.upd p [0] = Crc.it 8 p by simp [Crc.upd])
      go_wp2_with (go_at_call 10; refine (upd_any p _ _ _ [0] _ (wr.heap.size + 1) hpl (RdB.one wr 0) (ht0.out.below hb2)).mono ?_; rintro e w2 ⟨rfl, rfl⟩; rw [eU.out])
      have hfin := hC1.set k (Crc.it 8 p)
      rw [← hget.out, hst.out, hget.out] at hfin
      have hfin2 := hfin.alloc (.cells #[.int .u8 0] 5)
      have hB3 := (hB1.far (p := ⟨w.heap.size + 1, k, none⟩) (show w.heap.size ≠ w.heap.size + 1 by omega) (.int .u32 ((Crc.it 8 p : Nat) : Int))).alloc (.cells #[.int .u8 0] 5)
      have hb3 := (hb1.setCell (p := ⟨w.heap.size + 1, k, none⟩) (by simp) (.int .u32 ((Crc.it 8 p : Nat) : Int))).alloc (by simp; exact hz1) (.cells #[.int .u8 0] 5)
      go_roundw
      case rel => exact ⟨k + 1, by omega, by go_num, hB3, hfin2, hb3⟩
      case measure => simp [intOf]; omega
    · obtain rfl : k = 32 := by omega
      rw [Crc.part_all _ Hl.out] at hC1
      have hin : (Tryd.prog.info? 41).map (·.size) = some (mv (Crc.matOf (Crc.it 8))).size := by rw [mv_size, Hl.out]; kernel_rfl
      go_wp2_with (first
        | (refine wpList_load_row rfl 41 _ rfl (w.heap.size + 1) rfl _ _ _ _ hC1 Tryd.underlying41 rfl hin ?_)
        | (refine wpList_store_row rfl 41 _ _ rfl w.heap.size (mv (Crc.matOf (Crc.it 8))) rfl rfl _ _ hB1 hin (by rw [mv_size, mv_size, Hl.out]; rfl) (mv_one _) ?_))
      have hres := setRow_heap wr w.heap.size _ (mv (Crc.matOf (Crc.it 8))) _ _ hB1
      exact bodyPost_ret (results_cell_row rfl _ _ w.heap.size _ _ _ _ rfl hres Tryd.underlying41 rfl hin) rfl ⟨rfl, below_setRow hb1 (Nat.le_refl _) _⟩

theorem i64_and1 (m : Nat) (h : m ≤ 9223372036854775807) : bits .and .i64 (m : Int) 1 = ((m % 2 : Nat) : Int) := by
  have e (a : Nat) (ha : a < 9223372036854775808) : (BitVec.ofInt 64 (a : Int)).toNat = a := by
    rw [BitVec.ofInt_natCast, BitVec.toNat_ofNat]; exact Nat.mod_eq_of_lt (by omega)
  have hx : m &&& 1 < 2 ^ 63 := Nat.and_lt_two_pow _ (by omega)
  show IntKind.i64.wrap ((BitVec.ofInt 64 (m : Int) &&& BitVec.ofInt 64 ((1 : Nat) : Int)).toNat : Int) = _
  rw [BitVec.toNat_and, e m (by omega), e 1 (by omega), IntKind.wrap_i64, nat_mask1]
  omega

set_option maxHeartbeats 2000000 in
theorem combine_neg (a b : Nat) (n : Int) (w : World) (hn : n < 0) :
    Calls Tryd.prog 11 #[.int .u32 (a : Int), .int .u32 (b : Int), .int .i64 n] w fun e w' => e = .returned (.int .u32 0) ∧ w = w' := by
  go_enter Tryd.func11, Tryd.ntmps11
  go_wp2
  go_ret
  exact ⟨rfl, rfl⟩

set_option maxHeartbeats 2000000 in
theorem combine_any (a b n : Nat) (w : World) (ht : Tab w) (ha : a < 4294967296) (hb : b < 4294967296) (hn : n < 9223372036854775808) :
    Calls Tryd.prog 11 #[.int .u32 (a : Int), .int .u32 (b : Int), .int .i64 (n : Int)] w fun e w' => e = .returned (.int .u32 ((Crc.it (8 * n) a ^^^ b : Nat) : Int)) ∧ Below w.heap.size w w' := by
  have hn' : n ≤ 9223372036854775807 := by omega
  clear hn
  have hin : ∀ m : List Nat, m.length = 32 → (Tryd.prog.info? 41).map (·.size) = some (mv m).size := fun m h => by rw [mv_size, h]; kernel_rfl
  have hfl : ∀ j x, x < 4294967296 → Crc.it j x < 4294967296 := fun j x h => Crc.it_lt j h
  have hlen := fun j => Crc.matOf_len (Crc.it j)
  have Hin := hide hin
  have Hlen := hide hlen
  have Hfl := hide hfl
  clear hin hfl hlen
  go_enter Tryd.func11, Tryd.ntmps11
  go_wp2_with (first
    | (go_at_call 21; refine (zeroByte_any _ ht).mono ?_; rintro e w1 ⟨rfl, hb1⟩; have hz1 := hb1.size; have hM0 : Mat (w1.alloc (.cells (mv zeros) 41)) w1.heap.size zeros := Mat.new w1 zeros)
    | (refine wpList_store_row rfl 41 _ _ rfl w1.heap.size (mv (Crc.matOf (Crc.it 8))) rfl rfl _ _ hM0 (Hin.out _ (Hlen.out 8)) (by rw [mv_size, mv_size, Hlen.out]; rfl) (mv_one _) ?_))
  have hM1 := hM0.setRow (Crc.matOf (Crc.it 8))
  have hb2 : Below w.heap.size w ((w1.alloc (.cells (mv zeros) 41)).setRow w1.heap.size (mv (Crc.matOf (Crc.it 8)))) := below_setRow (hb1.alloc hz1 _) hz1 _
  go_frame
  rw [mv_zeros]
  clear hM0 hb1
  generalize (w1.alloc (.cells (mv zeros) 41)).setRow w1.heap.size (mv (Crc.matOf (Crc.it 8))) = w0 at *
  go_loopw [0, 2, 7] (fun f r p wr => ∃ k m g d : Nat, Hid (d + m * 2 ^ k = n) ∧ m ≤ 9223372036854775807 ∧ f = .int .u32 ((Crc.it (8 * d) a : Nat) : Int) ∧ r = .int .i64 m ∧ p = .pointer (some ⟨g, 0, none⟩) ∧ w.heap.size ≤ g ∧ Mat wr g (Crc.matOf (Crc.it (8 * 2 ^ k))) ∧ Below w.heap.size w wr) (fun _ r _ _ => (intOf r).toNat)
  case atStart => exact ⟨0, n, w1.heap.size, 0, by show 0 + n * 2 ^ 0 = n; simp, hn', rfl, rfl, rfl, hz1, hM1, hb2⟩
  case round =>
    obtain ⟨k, m, g, d, hd, hm, rfl, rfl, rfl, hg, hM, hb3⟩ := hrel
    have hfd := Hfl.out (8 * d) a ha
    have hml := Crc.matOf_lt (Crc.it (8 * 2 ^ k)) (Hfl.out _)
    have Hml := hide hml
    clear hml
    have hz3 := hb3.size
    have hgl := hM.lt
    by_cases hpos : 0 < m
    · have e1 : bits .and .i64 (m : Int) 1 = ((m % 2 : Nat) : Int) := i64_and1 m hm
      have Hsq := hide (Crc.matOf_sq (8 * 2 ^ k))
      have Hl := hide (Hlen.out (8 * 2 ^ k))
      have Hmul := hide (Crc.mulM_matOf (Crc.it (8 * 2 ^ k)) (Crc.it_xor _) (Crc.it (8 * d) a) hfd)
      have Hd1 := hide (Crc.it_add (8 * d) (8 * 2 ^ k) a)
      have Hsl : Hid (((Crc.matOf (Crc.it (8 * 2 ^ k))).map (Crc.mulM (Crc.matOf (Crc.it (8 * 2 ^ k))))).length = 32) := by show _ = _; rw [List.length_map]; exact Hl.out
      generalize Crc.matOf (Crc.it (8 * 2 ^ k)) = M at *
      by_cases hodd : m % 2 = 1
      · have hne : ((m % 2 : Nat) : Int) = 1 := by rw [hodd]; rfl
        have hne2 : (((1 : Nat) : Int) != 0) = true := rfl
        generalize Crc.it (8 * d) a = fa at *
        go_wp2_with (first
          | (refine wpList_load_row rfl 41 _ rfl g rfl _ _ _ _ hM Tryd.underlying41 rfl (Hin.out _ Hl.out) ?_)
          | (go_at_call 22; refine (times_any M fa _ Hl.out hfd Hml.out).mono ?_; rintro e w2 ⟨rfl, hb4⟩; rw [Hmul.out]; have hM2 := hM.below hb4 hgl; have hgl2 := hM2.lt; have hz4 := hb4.size; clear hM)
          | (refine wpList_load_row rfl 41 _ rfl g rfl _ _ _ _ hM2 Tryd.underlying41 rfl (Hin.out _ Hl.out) ?_)
          | (go_at_call 23; refine (square_any M w2 Hl.out Hml.out).mono ?_; rintro e w3 ⟨rfl, hb5⟩; have hM3 := hM2.below hb5 hgl2; have hM4 := hM3.setRow (M.map (Crc.mulM M)); have hgl3 := hM3.lt; have hz5 := hb5.size)
          | (refine wpList_store_row rfl 41 _ _ rfl g (mv (M.map (Crc.mulM M))) rfl rfl _ _ hM3 (Hin.out _ Hsl.out) (by rw [mv_size, mv_size, Hl.out, Hsl.out]) (mv_one _) ?_)
          | (refine wpList_load_row rfl 41 _ rfl g rfl _ _ _ _ hM4 Tryd.underlying41 rfl (Hin.out _ Hsl.out) ?_; have hM5 : Mat ((w3.setRow g (mv (M.map (Crc.mulM M)))).alloc (.cells (mv zeros) 41)) w3.heap.size zeros := (by have := Mat.new (w3.setRow g (mv (M.map (Crc.mulM M)))) zeros; rwa [size_setRow] at this))
          | (refine wpList_store_row rfl 41 _ _ rfl w3.heap.size (mv (M.map (Crc.mulM M))) rfl rfl _ _ hM5 (Hin.out _ Hsl.out) (by rw [mv_size, mv_size, Hsl.out]; rfl) (mv_one _) ?_))
        have hb6 : Below w.heap.size w w3 := (hb3.trans (hb4.mono hz3)).trans (hb5.mono (by omega))
        rw [mv_zeros]
        have hM6 := hM5.setRow (M.map (Crc.mulM M))
        rw [Hsq.out] at hM6 ⊢
        have hb7 : Below w.heap.size w ((((w3.setRow g (mv (Crc.matOf (Crc.it (2 * (8 * 2 ^ k)))))).alloc (.cells (mv zeros) 41)).setRow w3.heap.size (mv (Crc.matOf (Crc.it (2 * (8 * 2 ^ k))))))) :=
          below_setRow ((below_setRow hb6 hg _).alloc (by rw [size_setRow]; omega) _) (by omega) _
        have e2k : 2 * (8 * 2 ^ k) = 8 * 2 ^ (k + 1) := by rw [Nat.pow_succ]; omega
        rw [e2k] at hM6 hb7 ⊢
        clear e2k
        go_roundw
        case rel =>
          refine ⟨k + 1, m / 2, w3.heap.size, d + 2 ^ k, ?_, by omega, ?_, by go_num, rfl, by omega, hM6, hb7⟩
          · show _ = n
            rw [← hd.out, Nat.pow_succ]
            have : m * 2 ^ k = (2 * (m / 2) + 1) * 2 ^ k := by congr 1; omega
            rw [this, Nat.add_mul, Nat.mul_comm 2 (m / 2), Nat.mul_assoc, Nat.mul_comm 2 (2 ^ k)]
            omega
          · rw [show 8 * (d + 2 ^ k) = 8 * d + 8 * 2 ^ k by omega, Hd1.out]
        case measure => simp [intOf]; omega
      · have hne : ((m % 2 : Nat) : Int) = 0 := by omega
        have hne2 : (((0 : Nat) : Int) != 0) = false := rfl
        have hgl2 := hgl
        clear Hmul Hd1
        go_wp2_with (first
          | (refine wpList_load_row rfl 41 _ rfl g rfl _ _ _ _ hM Tryd.underlying41 rfl (Hin.out _ Hl.out) ?_)
          | (go_at_call 23; refine (square_any M wr Hl.out Hml.out).mono ?_; rintro e w3 ⟨rfl, hb5⟩; have hM3 := hM.below hb5 hgl2; have hM4 := hM3.setRow (M.map (Crc.mulM M)); have hgl3 := hM3.lt; have hz5 := hb5.size)
          | (refine wpList_store_row rfl 41 _ _ rfl g (mv (M.map (Crc.mulM M))) rfl rfl _ _ hM3 (Hin.out _ Hsl.out) (by rw [mv_size, mv_size, Hl.out, Hsl.out]) (mv_one _) ?_)
          | (refine wpList_load_row rfl 41 _ rfl g rfl _ _ _ _ hM4 Tryd.underlying41 rfl (Hin.out _ Hsl.out) ?_; have hM5 : Mat ((w3.setRow g (mv (M.map (Crc.mulM M)))).alloc (.cells (mv zeros) 41)) w3.heap.size zeros := (by have := Mat.new (w3.setRow g (mv (M.map (Crc.mulM M)))) zeros; rwa [size_setRow] at this))
          | (refine wpList_store_row rfl 41 _ _ rfl w3.heap.size (mv (M.map (Crc.mulM M))) rfl rfl _ _ hM5 (Hin.out _ Hsl.out) (by rw [mv_size, mv_size, Hsl.out]; rfl) (mv_one _) ?_))
        have hb6 : Below w.heap.size w w3 := hb3.trans (hb5.mono hz3)
        rw [mv_zeros]
        have hM6 := hM5.setRow (M.map (Crc.mulM M))
        rw [Hsq.out] at hM6 ⊢
        have hb7 : Below w.heap.size w ((((w3.setRow g (mv (Crc.matOf (Crc.it (2 * (8 * 2 ^ k)))))).alloc (.cells (mv zeros) 41)).setRow w3.heap.size (mv (Crc.matOf (Crc.it (2 * (8 * 2 ^ k))))))) :=
          below_setRow ((below_setRow hb6 hg _).alloc (by rw [size_setRow]; omega) _) (by omega) _
        have e2k : 2 * (8 * 2 ^ k) = 8 * 2 ^ (k + 1) := by rw [Nat.pow_succ]; omega
        rw [e2k] at hM6 hb7 ⊢
        clear e2k
        go_roundw
        case rel =>
          refine ⟨k + 1, m / 2, w3.heap.size, d, ?_, by omega, rfl, by go_num, rfl, by omega, hM6, hb7⟩
          show _ = n
          rw [← hd.out, Nat.pow_succ]
          have : m * 2 ^ k = (2 * (m / 2)) * 2 ^ k := by congr 1; omega
          rw [this, Nat.mul_comm 2 (m / 2), Nat.mul_assoc, Nat.mul_comm 2 (2 ^ k)]
        case measure => simp [intOf]; omega
    · obtain rfl : m = 0 := by omega
      have hdn : d = n := by have := hd.out; omega
      subst hdn
      have ex : bits .xor .u32 ((Crc.it (8 * d) a : Nat) : Int) (b : Int) = ((Crc.it (8 * d) a ^^^ b : Nat) : Int) := u32_xor_nat _ _ hfd hb
      go_wp2
      go_ret
      exact ⟨rfl, hb3⟩
end Go.Proofs.YtoomdjjjkolloaaDoor
