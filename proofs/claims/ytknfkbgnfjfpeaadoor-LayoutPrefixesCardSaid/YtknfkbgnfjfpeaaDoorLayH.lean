/- Chapter 16: parse, walked. -/
import Derived.Test.YtknfkbgnfjfpeaaDoorLayR
namespace Go.Proofs.YtknfkbgnfjfpeaaDoor
open Go.RowKit Go.Shelf

theorem Ly.take_lit (l : List UInt8) (a : Nat) (s : List UInt8) (e : Int) (ha : a ≤ l.length) (h : e = 0 → s.length ≤ l.length - a) :
    (Wr.take l a e ((min (l.drop a).length s.length : Nat) : Int)).2 = if e = 0 then (a + s.length, 0) else (a, e) := by
  unfold Wr.take
  by_cases he : e = 0
  · have h1 := h he
    have hm : min (l.drop a).length s.length = s.length := by rw [List.length_drop]; omega
    rw [if_neg (by simpa using he), hm, if_neg (by omega), if_neg (by omega), if_pos he, Int.toNat_natCast]
  · rw [if_pos he, if_neg he]
theorem Ly.lit_zero {b s : List UInt8} (h : Ly.lit b s = 0) : s.length ≤ b.length := by
  unfold Ly.lit at h
  split at h
  · omega
  · split at h
    · omega
    · omega
theorem Ly.S_le (l : List UInt8) (h : l.length ≤ 140737488354000) (k : Nat) : (Ly.S l k).1 ≤ l.length := by
  induction k with
  | zero =>
    show Ly.a0 l ≤ _
    unfold Ly.a0
    split
    · rename_i h0
      have := Ly.lit_zero h0
      exact this
    · omega
  | succ k ih =>
    rw [Ly.S_succ]
    generalize Ly.S l k = s at *
    obtain ⟨a, e⟩ := s
    unfold Wr.sect
    simp only at ih ⊢
    by_cases he : e = 0
    · subst he
      rw [if_neg (by simp)]
      by_cases h0 : (Wr.section1 l a (UInt8.ofNat (1 + k))).2.2 = 0
      · rw [if_neg (by simpa using h0)]
        have := Wr.section1_to h0
        simp only
        omega
      · rw [if_pos h0]; exact ih
    · rw [if_pos he]; exact ih

set_option maxRecDepth 100000 in
set_option maxHeartbeats 8000000 in
theorem parse_any (A : Option Addr) (n c : Nat) (l : List UInt8) (w : World) (hv : RdB w w.heap.size A n c l) (hnb : n ≤ 140737488353000) (ht : Tab w) :
    Calls Tryd.prog 73 #[.slice A n c] w fun r w' => ∃ V M, r = .returned (.tuple #[.agg (Ly.ar4 V), .agg (Ly.at5 M), .int .i64 (Ly.pe l)]) ∧ FourO w' w.heap.size V (Ly.outS l) ∧ (∀ i, i < 5 → M i = Ly.outA l i) ∧ Below w.heap.size w w' := by
  have hlc := hv.1
  have hcm := hv.2.1
  unfold maxLen at hcm
  have hn := Kept.mk hv.len
  obtain ⟨W4, hW4⟩ : ∃ W4, W4 = (((w.alloc (.cells #[.slice none 0 0, .slice none 0 0, .slice none 0 0, .slice none 0 0] 65)).alloc (.cells #[.int .i64 0, .int .i64 0, .int .i64 0, .int .i64 0, .int .i64 0] 67)).alloc
    (.cells #[.slice none 0 0, .slice none 0 0, .slice none 0 0, .slice none 0 0] 65)).alloc (.cells #[.int .i64 0, .int .i64 0, .int .i64 0, .int .i64 0, .int .i64 0] 67) := ⟨_, rfl⟩
  have hz4 : W4.heap.size = w.heap.size + 4 := by rw [hW4]; simp
  have hb4 : Below w.heap.size w W4 := by rw [hW4]; exact ((((Below.refl _ w).alloc (Nat.le_refl _) _).alloc (by simp) _).alloc (by simp; omega) _).alloc (by simp; omega) _
  have hg2 : W4.heap[w.heap.size]? = some (.cells (Ly.ar4 fun _ => .slice none 0 0) 65 (0, 0)) := by
    rw [hW4]
    rw [heap_alloc_old _ _ (by simp; omega), heap_alloc_old _ _ (by simp; omega), heap_alloc_old _ _ (by simp), heap_alloc_new]; rfl
  have hg3 : W4.heap[w.heap.size + 1]? = some (.cells (Ly.at5 fun _ => 0) 67 (0, 0)) := by
    rw [hW4]
    rw [heap_alloc_old _ _ (by simp), heap_alloc_old _ _ (by simp)]
    have h := heap_alloc_new (w.alloc (.cells #[.slice none 0 0, .slice none 0 0, .slice none 0 0, .slice none 0 0] 65)) (.cells #[.int .i64 0, .int .i64 0, .int .i64 0, .int .i64 0, .int .i64 0] 67)
    rw [World.size_alloc] at h
    exact h
  have hg5 : W4.heap[w.heap.size + 1 + 1]? = some (.cells (Ly.ar4 fun _ => .slice none 0 0) 65 (0, 0)) := by
    rw [hW4]
    rw [heap_alloc_old _ _ (by simp)]
    have h := heap_alloc_new ((w.alloc (.cells #[.slice none 0 0, .slice none 0 0, .slice none 0 0, .slice none 0 0] 65)).alloc (.cells #[.int .i64 0, .int .i64 0, .int .i64 0, .int .i64 0, .int .i64 0] 67)) (.cells #[.slice none 0 0, .slice none 0 0, .slice none 0 0, .slice none 0 0] 65)
    rw [World.size_alloc, World.size_alloc] at h
    exact h
  have hg6 : W4.heap[w.heap.size + 1 + 1 + 1]? = some (.cells (Ly.at5 (Ly.mk (Ly.aoff l) 0)) 67 (0, 0)) := by
    rw [hW4]
    have h := heap_alloc_new (((w.alloc (.cells #[.slice none 0 0, .slice none 0 0, .slice none 0 0, .slice none 0 0] 65)).alloc (.cells #[.int .i64 0, .int .i64 0, .int .i64 0, .int .i64 0, .int .i64 0] 67)).alloc (.cells #[.slice none 0 0, .slice none 0 0, .slice none 0 0, .slice none 0 0] 65)) (.cells #[.int .i64 0, .int .i64 0, .int .i64 0, .int .i64 0, .int .i64 0] 67)
    rw [World.size_alloc, World.size_alloc, World.size_alloc] at h
    exact h
  have HW := Kept.mk hW4.symm
  have Z4 := Kept.mk hz4
  have B4 := Kept.mk hb4
  have V4 := Kept.mk (hv.below hb4)
  have T4 := Kept.mk (ht.below hb4)
  have G2 := Kept.mk hg2
  have G3 := Kept.mk hg3
  have G5 := Kept.mk hg5
  have G6 := Kept.mk hg6
  have hgt := ht.lt
  have hSl := Kept.mk (Ly.S_le l (by have := hn.out; omega))
  have hTL := Kept.mk (Ly.take_lit l 0 Ly.head (Ly.lit l Ly.head) (Nat.zero_le _) (fun h => by have := Ly.lit_zero h; omega))
  rw [List.drop_zero] at hTL
  have hz4' : w.heap.size ≤ W4.heap.size := by omega
  clear hv ht hW4 hz4 hb4 hg2 hg3 hg5 hg6
  go_enter Tryd.func73, Tryd.ntmps73
  go_upto_region 3 with fail
  rw [HW.out]
  have hgs : Kept (W4.heap.size = w.heap.size + 1 + 1 + 1 + 1) := ⟨by rw [Z4.out]⟩
  generalize hg6 : w.heap.size + 1 + 1 + 1 = g6 at *
  generalize hg5 : w.heap.size + 1 + 1 = g5 at *
  generalize hg3 : w.heap.size + 1 = g3 at *
  generalize hg2 : w.heap.size = g2 at *
  have hlt23 : g2 < g3 := by omega
  have hlt35 : g3 < g5 := by omega
  have hlt56 : g5 < g6 := by omega
  have hlt64 : g6 < W4.heap.size := by rw [hgs.out]; omega
  have E2 := Kept.mk hg2
  clear hg6 hg5 hg3 hgs Z4 hg2
  go_upto_region 5 with (first
    | (go_at_call 23; refine (newReader_any A n c g2 l W4 V4.out hz4' (by omega)).mono ?_; rintro r w5 ⟨p, rfl, hp1, hp2, hr5, hb5⟩; have r5 := Kept.mk hr5; have b5 := Kept.mk hb5; have z5 := hb5.size; clear hr5 hb5)
    | (go_at_call 78; refine (literal_any p 0 l 0 A n c g2 l ⟨#[84, 83, 66, 75, 1]⟩ w5 (Ly.lit l Ly.head) rfl r5.out (V4.out.below (b5.out.mono hz4')) (by decide)).mono ?_; rintro r w6 ⟨rfl, hr6, hg6⟩; have r6 := Kept.mk hr6; have gr6 := Kept.mk hg6; have z6 := hg6.size; clear hr6 hg6))
  have r6' : Rdr w6 p l (Wr.take l 0 (Ly.lit l Ly.head) ((min l.length Ly.head.length : Nat) : Int)).2.1 (Wr.take l 0 (Ly.lit l Ly.head) ((min l.length Ly.head.length : Nat) : Int)).2.2 := r6.out
  rw [hTL.out] at r6'
  have hp0 : W4.heap.size ≤ p := hp1
  have R6 : Kept (Rdr w6 p l (Ly.S l 0).1 (Ly.S l 0).2) := ⟨by
    have h := r6'
    show Rdr w6 p l (Ly.a0 l) (Ly.lit l Ly.head)
    unfold Ly.a0
    by_cases h0 : Ly.lit l Ly.head = 0
    · rw [if_pos h0] at h ⊢; rw [h0]; exact h
    · rw [if_neg h0] at h ⊢; exact h⟩
  have B6 : Kept (Below W4.heap.size W4 w6) := ⟨b5.out.trans (grown_below gr6.out hp0 z5)⟩
  have F6 : Kept (FourO w6 w6.heap.size (fun _ => .slice none 0 0) (Ly.gate 0 (Ly.sec l))) := ⟨fun i hi => ⟨none, 0, 0, rfl, OwnB.nil _ _⟩⟩
  have H5 : Kept (w6.heap[g5]? = some (.cells (Ly.ar4 fun _ => .slice none 0 0) 65 (0, 0))) := ⟨(B6.out.block g5 (by omega)).trans G5.out⟩
  have H6 : Kept (w6.heap[g6]? = some (.cells (Ly.at5 (Ly.mk (Ly.aoff l) 0)) 67 (0, 0))) := ⟨(B6.out.block g6 (by omega)).trans G6.out⟩
  have hpB : p < w6.heap.size := by omega
  have hz46 : W4.heap.size ≤ w6.heap.size := B6.out.size
  have D4 : Kept (Below g5 W4 w6) := ⟨B6.out.mono (by omega)⟩
  clear r6' r6 r5 b5 gr6 B6 G5 G6 hTL
  generalize hgen : w6.heap.size = base at *
  have hzb : base ≤ w6.heap.size := by rw [hgen]; exact Nat.le_refl _
  clear hgen
  go_wp2
  go_loopw [17] (fun i wr => ∃ k : Nat, k ≤ 4 ∧ i = .int .i64 k ∧ Rdr wr p l (Ly.S l k).1 (Ly.S l k).2 ∧ wr.heap[g6]? = some (.cells (Ly.at5 (Ly.mk (Ly.aoff l) k)) 67 (0, 0)) ∧
    (∃ V, wr.heap[g5]? = some (.cells (Ly.ar4 V) 65 (0, 0)) ∧ FourO wr base V (Ly.gate k (Ly.sec l))) ∧ Below g5 W4 wr ∧ base ≤ wr.heap.size) (fun i _ => 4 - (intOf i).toNat)
  case atStart => exact ⟨0, by omega, rfl, R6.out, H6.out, ⟨_, H5.out, F6.out⟩, D4.out, hzb⟩
  case round =>
    clear R6 H6 H5 F6 D4
    obtain ⟨k, hk, rfl, hr, ha, ⟨V, hs, hf⟩, hb, hz⟩ := hrel
    by_cases hlt : k < 4
    · have hck := (cell_of_row wr g6 k _ _ _ ha).trans (Ly.at5_get _ k (by omega))
      have hfk := frozen_of_row wr g6 k _ _ ha
      have hak : Ly.aoff l k = (Ly.S l k).1 := rfl
      have hset := Ly.at5_set (Ly.aoff l) k (by omega)
      have hsu := Ly.S_succ l k
      have hse := Ly.sec_eq l k
      have hidk := Ly.id_nat k (by omega)
      rw [hak] at hset
      have hSk := hSl.out k
      obtain ⟨s, hSs⟩ : ∃ s, Ly.S l k = s := ⟨_, rfl⟩
      rw [hSs] at hr hset hsu hse hSk
      obtain ⟨a, e⟩ := s
      simp only at hr hset hsu hse hSk
      have hn6 : g6 ≠ p := by omega
      have hn5 : g5 ≠ p := by omega
      have hr1 := hr.store ha (NoB.at5 _) hn6 k (.int .i64 (a : Int))
      have ha1 : (wr.setCell ⟨g6, k, none⟩ (.int .i64 (a : Int))).heap[g6]? = some (.cells (Ly.at5 (Ly.mk (Ly.aoff l) (k + 1))) 67 (0, 0)) := by rw [heap_setCell_same wr g6 k _ _ _ ha, hset]
      have hs1 := (Below.heap_setCell wr ⟨g6, k, none⟩ (.int .i64 (a : Int)) g5 (by show g5 ≠ g6; omega)).trans hs
      have hf1 := hf.grown (grown_set wr ⟨g6, k, none⟩ (.int .i64 (a : Int))) (by show g6 < base; omega)
      have hb1 : Below g5 W4 (wr.setCell ⟨g6, k, none⟩ (.int .i64 (a : Int))) := hb.setCell (p := ⟨g6, k, none⟩) (by show g5 ≤ g6; omega) _
      have hz1 : (wr.setCell ⟨g6, k, none⟩ (.int .i64 (a : Int))).heap.size = wr.heap.size := by simp
      have ht1 : Tab (wr.setCell ⟨g6, k, none⟩ (.int .i64 (a : Int))) := T4.out.base (base := g5) (by omega) hb1
      have HS := section_any p a l e (UInt8.ofNat (1 + k)) _ hr1 ht1
      rw [hidk, ← hse, ← hsu] at HS
      rw [hz1] at HS
      have HR := Kept.mk hr
      have HS' := Kept.mk HS
      have A1 := Kept.mk ha1
      have S1 := Kept.mk hs1
      have F1 := Kept.mk hf1
      have C1 := Kept.mk hb1
      have Z1 := Kept.mk hz1
      have Hput : Kept (∀ W, FourO W base V (Ly.gate k (Ly.sec l)) → ∀ A n c, OwnB W base A n c (Ly.sec l k) → FourO W base (fun i => if i = k then .slice A n c else V i) (Ly.gate (k + 1) (Ly.sec l))) := ⟨fun W h A n c ho => h.put ho⟩
      clear hr hr1 ha ha1 hs hs1 hf hf1 hb hb1 hz1 ht1 HS hSs hset hsu hse hak hidk
      go_wp2_with (first
        | (go_at_call 26; refine (at_any p a l e wr HR.out).mono ?_; rintro r w7 ⟨rfl, rfl⟩)
        | (go_at_call 24; refine HS'.out.mono ?_; rintro r w8 ⟨A3, n3, c3, rfl, ho8, hr8, hg8⟩;
            have ar8 := Kept.mk ((hg8.block g6 (by rw [Z1.out]; omega) (fun e => hn6 (Option.some.inj e))).trans A1.out);
            have s8 := Kept.mk ((hg8.block g5 (by rw [Z1.out]; omega) (fun e => hn5 (Option.some.inj e))).trans S1.out);
            have f8 := Kept.mk (Hput.out _ (F1.out.grown hg8 hpB) A3 n3 c3 (OwnB.base ho8 hz));
            have b8 := Kept.mk (C1.out.grown hg8 (by rw [Z1.out]; omega) (fun g e => by cases e; omega));
            have hfm := Kept.mk ((F1.out.grown hg8 hpB).form);
            have z8 := hg8.size; rw [Z1.out] at z8;
            have c8 := (cell_of_row w8 g5 k _ _ _ s8.out).trans (Ly.ar4_get V k hlt);
            have q8 := frozen_of_row w8 g5 k _ _ s8.out;
            have r8 := Kept.mk hr8; clear ho8 hr8 hg8))
      go_roundw
      case rel =>
        refine ⟨k + 1, by omega, by go_num, r8.out.store s8.out (NoB.ar4 V hfm.out) hn5 k _, (Below.heap_setCell w8 ⟨g5, k, none⟩ _ g6 (by show g6 ≠ g5; omega)).trans ar8.out, ⟨fun i => if i = k then .slice A3 n3 c3 else V i, ?_, f8.out.grown (grown_set w8 ⟨g5, k, none⟩ _) (by show g5 < base; omega)⟩, b8.out.setCell (p := ⟨g5, k, none⟩) (Nat.le_refl _) _, by simp; omega⟩
        rw [heap_setCell_same w8 g5 k _ _ _ s8.out, Ly.ar4_set V k _ hlt]
      case measure => simp [intOf]; omega
    · obtain rfl : k = 4 := by omega
      have hck := (cell_of_row wr g6 4 _ _ _ ha).trans (Ly.at5_get _ 4 (by omega))
      have hfk := frozen_of_row wr g6 4 _ _ ha
      have hset := Ly.at5_set (Ly.aoff l) 4 (by omega)
      have hsu := Ly.S_succ l 4
      have hse := Ly.sec_eq l 4
      have hak : Ly.aoff l 4 = (Ly.S l 4).1 := rfl
      rw [hak] at hset
      have hSk := hSl.out 4
      have hS5 := hSl.out 5
      obtain ⟨s, hSs⟩ : ∃ s, Ly.S l 4 = s := ⟨_, rfl⟩
      rw [hSs] at hr hset hsu hse hSk
      obtain ⟨a, e⟩ := s
      simp only at hr hset hsu hse hSk
      have hn6 : g6 ≠ p := by omega
      have hn5 : g5 ≠ p := by omega
      have hr1 := hr.store ha (NoB.at5 _) hn6 4 (.int .i64 (a : Int))
      have ha1 : (wr.setCell ⟨g6, 4, none⟩ (.int .i64 (a : Int))).heap[g6]? = some (.cells (Ly.at5 (Ly.mk (Ly.aoff l) 5)) 67 (0, 0)) := by rw [heap_setCell_same wr g6 4 _ _ _ ha, hset]
      have hs1 := (Below.heap_setCell wr ⟨g6, 4, none⟩ (.int .i64 (a : Int)) g5 (by show g5 ≠ g6; omega)).trans hs
      have hf1 := hf.grown (grown_set wr ⟨g6, 4, none⟩ (.int .i64 (a : Int))) (by show g6 < base; omega)
      have hb1 : Below g5 W4 (wr.setCell ⟨g6, 4, none⟩ (.int .i64 (a : Int))) := hb.setCell (p := ⟨g6, 4, none⟩) (by show g5 ≤ g6; omega) _
      have hz1 : (wr.setCell ⟨g6, 4, none⟩ (.int .i64 (a : Int))).heap.size = wr.heap.size := by simp
      have ht1 : Tab (wr.setCell ⟨g6, 4, none⟩ (.int .i64 (a : Int))) := T4.out.base (base := g5) (by omega) hb1
      have HS := section_any p a l e 5 _ hr1 ht1
      rw [show (5 : UInt8) = UInt8.ofNat (1 + 4) from rfl, ← hse, ← hsu, hz1] at HS
      have HS' : Kept (Calls Tryd.prog 24 #[.pointer (some ⟨p, 0, none⟩), .int .u8 5] (wr.setCell ⟨g6, 4, none⟩ (.int .i64 (a : Int))) fun r w' => ∃ A3 n3 c3, r = .returned (.slice A3 n3 c3) ∧ OwnB w' wr.heap.size A3 n3 c3 (Ly.sec l 4) ∧ Rdr w' p l (Ly.S l 5).1 (Ly.S l 5).2 ∧ (wr.setCell ⟨g6, 4, none⟩ (.int .i64 (a : Int))).grownBy w' (some p)) := ⟨HS⟩
      have HR := Kept.mk hr
      have A1 := Kept.mk ha1
      have S1 := Kept.mk hs1
      have F1 := Kept.mk hf1
      have C1 := Kept.mk hb1
      have Z1 := Kept.mk hz1
      clear hr hr1 ha ha1 hs hs1 hf hf1 hb hb1 hz1 ht1 HS hSs hset hsu hse hak
      go_upto_region 13 with (first
        | (go_at_call 26; refine (at_any p a l e wr HR.out).mono ?_; rintro r w7 ⟨rfl, rfl⟩)
        | (go_at_call 24; refine HS'.out.mono ?_; rintro r w8 ⟨A3, n3, c3, rfl, ho8, hr8, hg8⟩;
            have ar8 := Kept.mk ((hg8.block g6 (by rw [Z1.out]; omega) (fun e => hn6 (Option.some.inj e))).trans A1.out);
            have s8 := Kept.mk ((hg8.block g5 (by rw [Z1.out]; omega) (fun e => hn5 (Option.some.inj e))).trans S1.out);
            have f8 := Kept.mk (F1.out.grown hg8 hpB);
            have b8 := Kept.mk (C1.out.grown hg8 (by rw [Z1.out]; omega) (fun g e => by cases e; omega));
            have z8 := hg8.size; rw [Z1.out] at z8;
            have o8 := Kept.mk ho8;
            have r8 := Kept.mk hr8; clear ho8 hr8 hg8))
      clear HR HS' A1 S1 F1 C1 Z1 hck hfk
      have hm : ∀ i, Ly.mk (Ly.aoff l) 5 i ≤ 140737488355328 := fun i => by
        unfold Ly.mk
        split
        · have h1 := hSl.out i
          have h2 := hn.out
          show (Ly.S l i).1 ≤ _
          omega
        · omega
      have hcg : Ly.con (Ly.mk (Ly.aoff l) 5) 4 = Ly.con (Ly.aoff l) 4 := Ly.con_congr 4 fun i hi => by unfold Ly.mk; rw [if_pos (by omega)]
      have hcp : 0 < (Ly.con (Ly.aoff l) 4).length := by rw [Ly.con_succ, List.length_append]; have := Vi.enc_pos (Ly.aoff l 3); omega
      have HC := contents_any (Ly.mk (Ly.aoff l) 5) w8 hm
      rw [hcg] at HC
      have k0 := (cell_of_row w8 g6 0 _ _ _ ar8.out).trans (Ly.at5_get _ 0 (by omega))
      have k1 := (cell_of_row w8 g6 1 _ _ _ ar8.out).trans (Ly.at5_get _ 1 (by omega))
      have k2 := (cell_of_row w8 g6 2 _ _ _ ar8.out).trans (Ly.at5_get _ 2 (by omega))
      have k3 := (cell_of_row w8 g6 3 _ _ _ ar8.out).trans (Ly.at5_get _ 3 (by omega))
      have k4 := (cell_of_row w8 g6 4 _ _ _ ar8.out).trans (Ly.at5_get _ 4 (by omega))
      unfold Ly.at5 at HC
      have HC' := Kept.mk HC
      have hpe : Ly.pe l = if (Ly.S l 5).2 ≠ 0 then (Ly.S l 5).2 else if Ly.sec l 4 ≠ Ly.con (Ly.aoff l) 4 then 13 else if l.length - (Ly.S l 5).1 < 4 then 3 else if Crc.chk (l.take ((Ly.S l 5).1 + 4)) = false then 12
        else if Ly.lit (l.drop ((Ly.S l 5).1 + 4)) Ly.tail ≠ 0 then Ly.lit (l.drop ((Ly.S l 5).1 + 4)) Ly.tail else if (Ly.S l 5).1 + 8 < l.length then 4 else 0 := rfl
      have hsn : (Ly.S l 5).2 ≠ 0 → Ly.sec l 4 = [] := fun h => by
        rw [Ly.S_succ] at h
        rw [Ly.sec_eq]
        revert h
        unfold Wr.sect
        by_cases he : (Ly.S l 4).2 ≠ 0
        · rw [if_pos he]; intro _; rfl
        · rw [if_neg he]
          by_cases h0 : (Wr.section1 l (Ly.S l 4).1 (UInt8.ofNat (1 + 4))).2.2 ≠ 0
          · rw [if_pos h0]; intro _; rfl
          · rw [if_neg h0]; intro h; exact absurd rfl h
      obtain ⟨s5, hs5⟩ : ∃ s, Ly.S l 5 = s := ⟨_, rfl⟩
      rw [hs5] at r8 hpe hsn hS5
      obtain ⟨a5, e5⟩ := s5
      simp only at r8 hpe hsn hS5
      clear HC hm hcg hs5
      have hm5 : Kept (∀ i, i < 5 → Ly.mk (Ly.aoff l) 5 i = Ly.aoff l i) := ⟨fun i hi => by unfold Ly.mk; rw [if_pos hi]⟩
      generalize Ly.mk (Ly.aoff l) 5 = m5 at *
      generalize hDD : Ly.sec l 4 = D at *
      generalize hCC : Ly.con (Ly.aoff l) 4 = C at *
      -- CASES
      have hlen := hn.out
      have hpeK := Kept.mk hpe
      have Vt : Kept (∀ W, Below g2 W4 W → ∀ k, k ≤ n → RdB W g2 A k c (l.take k)) := ⟨fun W h k hk => (V4.out.below h).take hk⟩
      have Vd0 : Kept (∀ W, Below g2 W4 W → ∀ k, k ≤ n → c ≠ k → RdB W g2 (A.map (·.add k)) (n - k) (c - k) (l.drop k)) := ⟨fun W h k hk hc => by have h1 := (V4.out.below h).drop hk; rw [if_neg hc] at h1; exact h1⟩
      have htail : (⟨#[75, 66, 83, 84]⟩ : ByteArray).data.toList = Ly.tail := rfl
      clear hpe
      by_cases hDC : D = C
      · skip
        obtain rfl : e5 = 0 := by
          by_cases h : e5 = 0
          · exact h
          · have h1 := hsn h
            rw [hDC] at h1
            rw [h1] at hcp
            simp at hcp
        have hE : Kept ((D == C) = true) := ⟨by rw [hDC]; simp⟩
        have hpe1 : Ly.pe l = if l.length - a5 < 4 then 3 else if Crc.chk (l.take (a5 + 4)) = false then 12 else if Ly.lit (l.drop (a5 + 4)) Ly.tail ≠ 0 then Ly.lit (l.drop (a5 + 4)) Ly.tail else if a5 + 8 < l.length then 4 else 0 := by
          rw [hpeK.out, if_neg (by simp), if_neg (by simpa using hDC)]
        by_cases hsh : l.length - a5 < 4
        · skip
          have hpe : Kept (Ly.pe l = 3) := ⟨by rw [hpe1, if_pos hsh]⟩
          have hTK : Kept (Wr.take l a5 0 4 = ([], a5, 3)) := ⟨by unfold Wr.take; rw [if_neg (by simp), if_neg (by omega), if_pos (by omega)]⟩
          have hTn : Kept (([] : List UInt8).length = 0) := ⟨rfl⟩
          have hFin : Kept (Wr.fin l a5 3 = 3) := ⟨by unfold Wr.fin; rw [if_pos (by simp)]⟩
          by_cases hcn : c = a5
          · skip
            have hnc : n = c := by omega
            have hdn : Kept (l.drop a5 = []) := ⟨List.drop_eq_nil_of_le (by omega)⟩
            have he9 : Kept ((3 : Int) = if (3 : Int) = 0 then Ly.lit [] (⟨#[75, 66, 83, 84]⟩ : ByteArray).data.toList else 3) := ⟨by rw [if_neg (by simp)]⟩
            have hT2 : Kept ((Wr.take l a5 3 ((min ([] : List UInt8).length Ly.tail.length : Nat) : Int)).2 = (a5, 3)) := ⟨by unfold Wr.take; rw [if_pos (by simp)]⟩
            clear hlen hDC hsh hpe1
            subst hnc
            obtain rfl : n = a5 := by omega
            go_upto_region 20 with (first
              | (go_at_call 69; refine HC'.out.mono ?_; rintro r w9 ⟨A4, n4, c4, rfl, ho4, hb4⟩; have ar9 := Kept.mk ((hb4.block g6 (by omega)).trans ar8.out); have s9 := Kept.mk ((hb4.block g5 (by omega)).trans s8.out); have f9 := Kept.mk (f8.out.below hb4); have b9 := Kept.mk (b8.out.trans (hb4.mono (by omega))); have z9 := Nat.le_trans z8 hb4.size; have r9 := Kept.mk (r8.out.below hb4 (by omega)); have q9 := Kept.mk (OwnB.keep o8.out hb4).rd; have t9 := Kept.mk ho4.rd; clear ho4 hb4 k0 k1 k2 k3 k4)
              | (go_at_call 19; refine (equal_is _ _ _ _ _ _ D C true w9 _ _ q9.out t9.out hE.out).mono ?_; rintro r w10 ⟨rfl, rfl⟩; clear q9 t9)
              | (go_at_call 35; refine (take_any p n l 0 4 w9 r9.out (by omega) (by omega)).mono ?_; rintro r w11 ⟨A11, n11, c11, rfl, ho11, hr11, hg11⟩; rw [hTK.out] at ho11 hr11; have hn11 := ho11.len; simp only at hr11; have ar11 := Kept.mk ((hg11.block g6 (by omega) (fun e => hn6 (Option.some.inj e))).trans ar9.out); have s11 := Kept.mk ((hg11.block g5 (by omega) (fun e => hn5 (Option.some.inj e))).trans s9.out); have f11 := Kept.mk (f9.out.grown hg11 hpB); have b11 := Kept.mk (b9.out.grown hg11 (by omega) (fun g e => by cases e; omega)); have z11 := Nat.le_trans z9 hg11.size; have r11 := Kept.mk hr11; obtain rfl : n11 = 0 := (by rw [hn11]; exact hTn.out); clear ho11 hr11 hg11 hn11 r9 ar9 s9 f9 b9)
              | (go_at_call 26; refine (at_any p n l 3 w11 r11.out).mono ?_; rintro r w12 ⟨rfl, rfl⟩)
              | (go_at_call 78; refine (literal_any p n l 3 A 0 0 g2 [] ⟨#[75, 66, 83, 84]⟩ w11 3 he9.out r11.out (Rd.nil _ _ 1 0 A (by unfold maxLen; omega)) (by decide)).mono ?_; rintro r w15 ⟨rfl, hr15, hg15⟩; have hr15' : Rdr w15 p l (Wr.take l n 3 ((min [].length Ly.tail.length : Nat) : Int)).2.1 (Wr.take l n 3 ((min [].length Ly.tail.length : Nat) : Int)).2.2 := hr15; rw [hT2.out] at hr15'; simp only at hr15'; have ar15 := Kept.mk ((hg15.block g6 (by omega) (fun e => hn6 (Option.some.inj e))).trans ar11.out); have s15 := Kept.mk ((hg15.block g5 (by omega) (fun e => hn5 (Option.some.inj e))).trans s11.out); have f15 := Kept.mk (f11.out.grown hg15 hpB); have b15 := Kept.mk (b11.out.grown hg15 (by omega) (fun g e => by cases e; omega)); have z15 := Nat.le_trans z11 hg15.size; have r15 := Kept.mk hr15'; clear hr15 hr15' hg15 r11 ar11 s11 f11 b11)
              | (go_at_call 29; refine (end_any p n l 3 w15 r15.out).mono ?_; rintro r w16 ⟨rfl, rfl⟩; rw [hFin.out]))
            have hg2' := (b15.out.block g2 (by omega)).trans G2.out
            have hg3' := (b15.out.block g3 (by omega)).trans G3.out
            have x0 := fun k => frozen_of_row w15 g2 k _ _ hg2'
            have x1 := fun k => frozen_of_row w15 g3 k _ _ hg3'
            have y0 := (cell_of_row w15 g2 0 _ _ _ hg2').trans (Ly.ar4_get _ 0 (by omega))
            have y1 := (cell_of_row w15 g2 1 _ _ _ hg2').trans (Ly.ar4_get _ 1 (by omega))
            have y2 := (cell_of_row w15 g2 2 _ _ _ hg2').trans (Ly.ar4_get _ 2 (by omega))
            have y3 := (cell_of_row w15 g2 3 _ _ _ hg2').trans (Ly.ar4_get _ 3 (by omega))
            have u0 := (cell_of_row w15 g3 0 _ _ _ hg3').trans (Ly.at5_get _ 0 (by omega))
            have u1 := (cell_of_row w15 g3 1 _ _ _ hg3').trans (Ly.at5_get _ 1 (by omega))
            have u2 := (cell_of_row w15 g3 2 _ _ _ hg3').trans (Ly.at5_get _ 2 (by omega))
            have u3 := (cell_of_row w15 g3 3 _ _ _ hg3').trans (Ly.at5_get _ 3 (by omega))
            have u4 := (cell_of_row w15 g3 4 _ _ _ hg3').trans (Ly.at5_get _ 4 (by omega))
            have hoS : Kept (∀ i, Ly.outS l i = []) := ⟨fun i => by unfold Ly.outS; rw [hpe.out, if_neg (by simp)]⟩
            have hoA : Kept (∀ i, Ly.outA l i = 0) := ⟨fun i => by unfold Ly.outA; rw [hpe.out, if_neg (by simp)]⟩
            have hre := Kept.mk (put5_row (put4 w15 g2 (.slice none 0 0) (.slice none 0 0) (.slice none 0 0) (.slice none 0 0)) g3 (.int .i64 0) (.int .i64 0) (.int .i64 0) (.int .i64 0) (.int .i64 0) (((put4_grown w15 g2 _ _ _ _).block g3 (by omega) (fun e => by have := Option.some.inj e; omega)).trans hg3') rfl)
            have hrs := Kept.mk (((put5_grown (put4 w15 g2 (.slice none 0 0) (.slice none 0 0) (.slice none 0 0) (.slice none 0 0)) g3 (.int .i64 0) (.int .i64 0) (.int .i64 0) (.int .i64 0) (.int .i64 0)).block g2 (by rw [put4_size]; omega) (fun e => by have := Option.some.inj e; omega)).trans (put4_row w15 g2 (.slice none 0 0) (.slice none 0 0) (.slice none 0 0) (.slice none 0 0) hg2' rfl))
            have hrb : Kept (Below g2 W4 (put5 (put4 w15 g2 (.slice none 0 0) (.slice none 0 0) (.slice none 0 0) (.slice none 0 0)) g3 (.int .i64 0) (.int .i64 0) (.int .i64 0) (.int .i64 0) (.int .i64 0))) := ⟨((b15.out.mono (by omega)).grown (put4_grown w15 g2 _ _ _ _) (by omega) (fun g e => by cases e; omega)).grown (put5_grown _ g3 _ _ _ _ _) (by rw [put4_size]; omega) (fun g e => by cases e; omega)⟩
            clear hg2' hg3'
            go_wp2
            refine bodyPost_ret (v := .tuple #[.agg (Ly.ar4 fun _ => .slice none 0 0), .agg (Ly.at5 fun _ => 0), .int .i64 3]) ?_ rfl ⟨fun _ => .slice none 0 0, fun _ => 0, by rw [hpe.out], fun i hi => ⟨none, 0, 0, rfl, by rw [hoS.out]; exact OwnB.nil _ _⟩, fun i hi => by rw [hoA.out], ?_⟩
            · exact results_cell2_row (fn := Tryd.f73) (a := 2) (b := 3) (u := 4) (T1 := 65) (T2 := 67) rfl _ _ g2 g3 _ _ _ _ _ _ _ _ rfl rfl hrs.out hre.out Tryd.underlying65 rfl (by kernel_rfl) Tryd.underlying67 rfl (by kernel_rfl)
            · rw [E2.out]; exact B4.out.trans hrb.out
          · skip
            have Vd : Kept (∀ W, Below g2 W4 W → RdB W g2 (A.map (·.add a5)) (n - a5) (c - a5) (l.drop a5)) := ⟨fun W h => Vd0.out W h a5 (by omega) hcn⟩
            have i1 : (a5 : Int) ≤ (n : Int) := by omega
            have i2 : (a5 : Int) < (c : Int) := by omega
            have i3 : (a5 : Int) ≤ (c : Int) := by omega
            have he9 : Kept ((3 : Int) = if (3 : Int) = 0 then Ly.lit (l.drop a5) (⟨#[75, 66, 83, 84]⟩ : ByteArray).data.toList else 3) := ⟨by rw [if_neg (by simp)]⟩
            have hT2 : Kept ((Wr.take l a5 3 ((min ((l.drop a5) : List UInt8).length Ly.tail.length : Nat) : Int)).2 = (a5, 3)) := ⟨by unfold Wr.take; rw [if_pos (by simp)]⟩
            clear hlen hDC hsh hpe1
            go_upto_region 20 with (first
              | (go_at_call 69; refine HC'.out.mono ?_; rintro r w9 ⟨A4, n4, c4, rfl, ho4, hb4⟩; have ar9 := Kept.mk ((hb4.block g6 (by omega)).trans ar8.out); have s9 := Kept.mk ((hb4.block g5 (by omega)).trans s8.out); have f9 := Kept.mk (f8.out.below hb4); have b9 := Kept.mk (b8.out.trans (hb4.mono (by omega))); have z9 := Nat.le_trans z8 hb4.size; have r9 := Kept.mk (r8.out.below hb4 (by omega)); have q9 := Kept.mk (OwnB.keep o8.out hb4).rd; have t9 := Kept.mk ho4.rd; clear ho4 hb4 k0 k1 k2 k3 k4)
              | (go_at_call 19; refine (equal_is _ _ _ _ _ _ D C true w9 _ _ q9.out t9.out hE.out).mono ?_; rintro r w10 ⟨rfl, rfl⟩; clear q9 t9)
              | (go_at_call 35; refine (take_any p a5 l 0 4 w9 r9.out (by omega) (by omega)).mono ?_; rintro r w11 ⟨A11, n11, c11, rfl, ho11, hr11, hg11⟩; rw [hTK.out] at ho11 hr11; have hn11 := ho11.len; simp only at hr11; have ar11 := Kept.mk ((hg11.block g6 (by omega) (fun e => hn6 (Option.some.inj e))).trans ar9.out); have s11 := Kept.mk ((hg11.block g5 (by omega) (fun e => hn5 (Option.some.inj e))).trans s9.out); have f11 := Kept.mk (f9.out.grown hg11 hpB); have b11 := Kept.mk (b9.out.grown hg11 (by omega) (fun g e => by cases e; omega)); have z11 := Nat.le_trans z9 hg11.size; have r11 := Kept.mk hr11; obtain rfl : n11 = 0 := (by rw [hn11]; exact hTn.out); clear ho11 hr11 hg11 hn11 r9 ar9 s9 f9 b9)
              | (go_at_call 26; refine (at_any p a5 l 3 w11 r11.out).mono ?_; rintro r w12 ⟨rfl, rfl⟩)
              | (go_at_call 78; refine (literal_any p a5 l 3 _ (n - a5) (c - a5) g2 (l.drop a5) ⟨#[75, 66, 83, 84]⟩ w11 3 he9.out r11.out (Vd.out _ (b11.out.mono (by omega))) (by decide)).mono ?_; rintro r w15 ⟨rfl, hr15, hg15⟩; have hr15' : Rdr w15 p l (Wr.take l a5 3 ((min (l.drop a5).length Ly.tail.length : Nat) : Int)).2.1 (Wr.take l a5 3 ((min (l.drop a5).length Ly.tail.length : Nat) : Int)).2.2 := hr15; rw [hT2.out] at hr15'; simp only at hr15'; have ar15 := Kept.mk ((hg15.block g6 (by omega) (fun e => hn6 (Option.some.inj e))).trans ar11.out); have s15 := Kept.mk ((hg15.block g5 (by omega) (fun e => hn5 (Option.some.inj e))).trans s11.out); have f15 := Kept.mk (f11.out.grown hg15 hpB); have b15 := Kept.mk (b11.out.grown hg15 (by omega) (fun g e => by cases e; omega)); have z15 := Nat.le_trans z11 hg15.size; have r15 := Kept.mk hr15'; clear hr15 hr15' hg15 r11 ar11 s11 f11 b11)
              | (go_at_call 29; refine (end_any p a5 l 3 w15 r15.out).mono ?_; rintro r w16 ⟨rfl, rfl⟩; rw [hFin.out]))
            have hg2' := (b15.out.block g2 (by omega)).trans G2.out
            have hg3' := (b15.out.block g3 (by omega)).trans G3.out
            have x0 := fun k => frozen_of_row w15 g2 k _ _ hg2'
            have x1 := fun k => frozen_of_row w15 g3 k _ _ hg3'
            have y0 := (cell_of_row w15 g2 0 _ _ _ hg2').trans (Ly.ar4_get _ 0 (by omega))
            have y1 := (cell_of_row w15 g2 1 _ _ _ hg2').trans (Ly.ar4_get _ 1 (by omega))
            have y2 := (cell_of_row w15 g2 2 _ _ _ hg2').trans (Ly.ar4_get _ 2 (by omega))
            have y3 := (cell_of_row w15 g2 3 _ _ _ hg2').trans (Ly.ar4_get _ 3 (by omega))
            have u0 := (cell_of_row w15 g3 0 _ _ _ hg3').trans (Ly.at5_get _ 0 (by omega))
            have u1 := (cell_of_row w15 g3 1 _ _ _ hg3').trans (Ly.at5_get _ 1 (by omega))
            have u2 := (cell_of_row w15 g3 2 _ _ _ hg3').trans (Ly.at5_get _ 2 (by omega))
            have u3 := (cell_of_row w15 g3 3 _ _ _ hg3').trans (Ly.at5_get _ 3 (by omega))
            have u4 := (cell_of_row w15 g3 4 _ _ _ hg3').trans (Ly.at5_get _ 4 (by omega))
            have hoS : Kept (∀ i, Ly.outS l i = []) := ⟨fun i => by unfold Ly.outS; rw [hpe.out, if_neg (by simp)]⟩
            have hoA : Kept (∀ i, Ly.outA l i = 0) := ⟨fun i => by unfold Ly.outA; rw [hpe.out, if_neg (by simp)]⟩
            have hre := Kept.mk (put5_row (put4 w15 g2 (.slice none 0 0) (.slice none 0 0) (.slice none 0 0) (.slice none 0 0)) g3 (.int .i64 0) (.int .i64 0) (.int .i64 0) (.int .i64 0) (.int .i64 0) (((put4_grown w15 g2 _ _ _ _).block g3 (by omega) (fun e => by have := Option.some.inj e; omega)).trans hg3') rfl)
            have hrs := Kept.mk (((put5_grown (put4 w15 g2 (.slice none 0 0) (.slice none 0 0) (.slice none 0 0) (.slice none 0 0)) g3 (.int .i64 0) (.int .i64 0) (.int .i64 0) (.int .i64 0) (.int .i64 0)).block g2 (by rw [put4_size]; omega) (fun e => by have := Option.some.inj e; omega)).trans (put4_row w15 g2 (.slice none 0 0) (.slice none 0 0) (.slice none 0 0) (.slice none 0 0) hg2' rfl))
            have hrb : Kept (Below g2 W4 (put5 (put4 w15 g2 (.slice none 0 0) (.slice none 0 0) (.slice none 0 0) (.slice none 0 0)) g3 (.int .i64 0) (.int .i64 0) (.int .i64 0) (.int .i64 0) (.int .i64 0))) := ⟨((b15.out.mono (by omega)).grown (put4_grown w15 g2 _ _ _ _) (by omega) (fun g e => by cases e; omega)).grown (put5_grown _ g3 _ _ _ _ _) (by rw [put4_size]; omega) (fun g e => by cases e; omega)⟩
            clear hg2' hg3'
            go_wp2
            refine bodyPost_ret (v := .tuple #[.agg (Ly.ar4 fun _ => .slice none 0 0), .agg (Ly.at5 fun _ => 0), .int .i64 3]) ?_ rfl ⟨fun _ => .slice none 0 0, fun _ => 0, by rw [hpe.out], fun i hi => ⟨none, 0, 0, rfl, by rw [hoS.out]; exact OwnB.nil _ _⟩, fun i hi => by rw [hoA.out], ?_⟩
            · exact results_cell2_row (fn := Tryd.f73) (a := 2) (b := 3) (u := 4) (T1 := 65) (T2 := 67) rfl _ _ g2 g3 _ _ _ _ _ _ _ _ rfl rfl hrs.out hre.out Tryd.underlying65 rfl (by kernel_rfl) Tryd.underlying67 rfl (by kernel_rfl)
            · rw [E2.out]; exact B4.out.trans hrb.out
        · skip
          have hpe2 := hpe1
          rw [if_neg hsh] at hpe2
          obtain ⟨a7, ha7⟩ : ∃ a7, a7 = a5 + 4 := ⟨_, rfl⟩
          rw [← ha7] at hpe2
          have hTK : Kept (Wr.take l a5 0 4 = ((l.drop a5).take 4, a7, 0)) := ⟨by unfold Wr.take; rw [if_neg (by simp), if_neg (by omega), if_neg (by omega), ha7]; rfl⟩
          have hTn : Kept (((l.drop a5).take 4).length = 4) := ⟨by rw [List.length_take, List.length_drop]; omega⟩
          have h7n : a7 ≤ n := by omega
          have Vt7 := Kept.mk (fun W h => Vt.out W h a7 h7n)
          clear Vt
          have Vt := Vt7
          have j1 : (a7 : Int) ≤ (n : Int) := by omega
          have j2 : (a7 : Int) ≤ (c : Int) := by omega
          have ha7' : a5 + 8 = a7 + 4 := by omega
          rw [ha7'] at hpe2
          by_cases hchk : Crc.chk (l.take a7) = false
          · skip
            have hpe : Kept (Ly.pe l = 12) := ⟨by rw [hpe2, if_pos hchk]⟩
            have hck := Kept.mk hchk
            have hFin : Kept (Wr.fin l a7 12 = 12) := ⟨by unfold Wr.fin; rw [if_pos (by simp)]⟩
            by_cases hcn : c = a7
            · skip
              have hnc : n = c := by omega
              have hdn : Kept (l.drop a7 = []) := ⟨List.drop_eq_nil_of_le (by omega)⟩
              have he9 : Kept ((12 : Int) = if (12 : Int) = 0 then Ly.lit [] (⟨#[75, 66, 83, 84]⟩ : ByteArray).data.toList else 12) := ⟨by rw [if_neg (by simp)]⟩
              have hT2 : Kept ((Wr.take l a7 12 ((min ([] : List UInt8).length Ly.tail.length : Nat) : Int)).2 = (a7, 12)) := ⟨by unfold Wr.take; rw [if_pos (by simp)]⟩
              clear hlen hDC hsh hpe1 hpe2 hchk ha7 ha7'
              subst hnc
              obtain rfl : n = a7 := by omega
              go_upto_region 20 with (first
                | (go_at_call 69; refine HC'.out.mono ?_; rintro r w9 ⟨A4, n4, c4, rfl, ho4, hb4⟩; have ar9 := Kept.mk ((hb4.block g6 (by omega)).trans ar8.out); have s9 := Kept.mk ((hb4.block g5 (by omega)).trans s8.out); have f9 := Kept.mk (f8.out.below hb4); have b9 := Kept.mk (b8.out.trans (hb4.mono (by omega))); have z9 := Nat.le_trans z8 hb4.size; have r9 := Kept.mk (r8.out.below hb4 (by omega)); have q9 := Kept.mk (OwnB.keep o8.out hb4).rd; have t9 := Kept.mk ho4.rd; clear ho4 hb4 k0 k1 k2 k3 k4)
                | (go_at_call 19; refine (equal_is _ _ _ _ _ _ D C true w9 _ _ q9.out t9.out hE.out).mono ?_; rintro r w10 ⟨rfl, rfl⟩; clear q9 t9)
                | (go_at_call 35; refine (take_any p a5 l 0 4 w9 r9.out (by omega) (by omega)).mono ?_; rintro r w11 ⟨A11, n11, c11, rfl, ho11, hr11, hg11⟩; rw [hTK.out] at ho11 hr11; have hn11 := ho11.len; simp only at hr11; have ar11 := Kept.mk ((hg11.block g6 (by omega) (fun e => hn6 (Option.some.inj e))).trans ar9.out); have s11 := Kept.mk ((hg11.block g5 (by omega) (fun e => hn5 (Option.some.inj e))).trans s9.out); have f11 := Kept.mk (f9.out.grown hg11 hpB); have b11 := Kept.mk (b9.out.grown hg11 (by omega) (fun g e => by cases e; omega)); have z11 := Nat.le_trans z9 hg11.size; have r11 := Kept.mk hr11; obtain rfl : n11 = 4 := (by rw [hn11]; exact hTn.out); clear ho11 hr11 hg11 hn11 r9 ar9 s9 f9 b9)
                | (go_at_call 26; refine (at_any p n l 0 w11 r11.out).mono ?_; rintro r w12 ⟨rfl, rfl⟩)
                | (go_at_call 55; refine (check_any A n n (l.take n) w11 g2 (Vt.out _ (b11.out.mono (by omega))) (T4.out.base (base := g5) (by omega) b11.out)).mono ?_; rintro r w12 ⟨rfl, rfl⟩; rw [hck.out])
                | (go_at_call 33; refine (fail_any p n l 0 12 w11 r11.out).mono ?_; rintro r w13 ⟨rfl, hr13, hg13⟩; rw [if_pos rfl] at hr13; have ar13 := Kept.mk ((hg13.block g6 (by omega) (fun e => hn6 (Option.some.inj e))).trans ar11.out); have s13 := Kept.mk ((hg13.block g5 (by omega) (fun e => hn5 (Option.some.inj e))).trans s11.out); have f13 := Kept.mk (f11.out.grown hg13 hpB); have b13 := Kept.mk (b11.out.grown hg13 (by omega) (fun g e => by cases e; omega)); have z13 := Nat.le_trans z11 hg13.size; have r13 := Kept.mk hr13; clear hr13 hg13 r11 ar11 s11 f11 b11)
                | (go_at_call 26; refine (at_any p n l 12 w13 r13.out).mono ?_; rintro r w14 ⟨rfl, rfl⟩)
                | (go_at_call 78; refine (literal_any p n l 12 A 0 0 g2 [] ⟨#[75, 66, 83, 84]⟩ w13 12 he9.out r13.out (Rd.nil _ _ 1 0 A (by unfold maxLen; omega)) (by decide)).mono ?_; rintro r w15 ⟨rfl, hr15, hg15⟩; have hr15' : Rdr w15 p l (Wr.take l n 12 ((min [].length Ly.tail.length : Nat) : Int)).2.1 (Wr.take l n 12 ((min [].length Ly.tail.length : Nat) : Int)).2.2 := hr15; rw [hT2.out] at hr15'; simp only at hr15'; have ar15 := Kept.mk ((hg15.block g6 (by omega) (fun e => hn6 (Option.some.inj e))).trans ar13.out); have s15 := Kept.mk ((hg15.block g5 (by omega) (fun e => hn5 (Option.some.inj e))).trans s13.out); have f15 := Kept.mk (f13.out.grown hg15 hpB); have b15 := Kept.mk (b13.out.grown hg15 (by omega) (fun g e => by cases e; omega)); have z15 := Nat.le_trans z13 hg15.size; have r15 := Kept.mk hr15'; clear hr15 hr15' hg15 r13 ar13 s13 f13 b13)
                | (go_at_call 29; refine (end_any p n l 12 w15 r15.out).mono ?_; rintro r w16 ⟨rfl, rfl⟩; rw [hFin.out]))
              have hg2' := (b15.out.block g2 (by omega)).trans G2.out
              have hg3' := (b15.out.block g3 (by omega)).trans G3.out
              have x0 := fun k => frozen_of_row w15 g2 k _ _ hg2'
              have x1 := fun k => frozen_of_row w15 g3 k _ _ hg3'
              have y0 := (cell_of_row w15 g2 0 _ _ _ hg2').trans (Ly.ar4_get _ 0 (by omega))
              have y1 := (cell_of_row w15 g2 1 _ _ _ hg2').trans (Ly.ar4_get _ 1 (by omega))
              have y2 := (cell_of_row w15 g2 2 _ _ _ hg2').trans (Ly.ar4_get _ 2 (by omega))
              have y3 := (cell_of_row w15 g2 3 _ _ _ hg2').trans (Ly.ar4_get _ 3 (by omega))
              have u0 := (cell_of_row w15 g3 0 _ _ _ hg3').trans (Ly.at5_get _ 0 (by omega))
              have u1 := (cell_of_row w15 g3 1 _ _ _ hg3').trans (Ly.at5_get _ 1 (by omega))
              have u2 := (cell_of_row w15 g3 2 _ _ _ hg3').trans (Ly.at5_get _ 2 (by omega))
              have u3 := (cell_of_row w15 g3 3 _ _ _ hg3').trans (Ly.at5_get _ 3 (by omega))
              have u4 := (cell_of_row w15 g3 4 _ _ _ hg3').trans (Ly.at5_get _ 4 (by omega))
              have hoS : Kept (∀ i, Ly.outS l i = []) := ⟨fun i => by unfold Ly.outS; rw [hpe.out, if_neg (by simp)]⟩
              have hoA : Kept (∀ i, Ly.outA l i = 0) := ⟨fun i => by unfold Ly.outA; rw [hpe.out, if_neg (by simp)]⟩
              have hre := Kept.mk (put5_row (put4 w15 g2 (.slice none 0 0) (.slice none 0 0) (.slice none 0 0) (.slice none 0 0)) g3 (.int .i64 0) (.int .i64 0) (.int .i64 0) (.int .i64 0) (.int .i64 0) (((put4_grown w15 g2 _ _ _ _).block g3 (by omega) (fun e => by have := Option.some.inj e; omega)).trans hg3') rfl)
              have hrs := Kept.mk (((put5_grown (put4 w15 g2 (.slice none 0 0) (.slice none 0 0) (.slice none 0 0) (.slice none 0 0)) g3 (.int .i64 0) (.int .i64 0) (.int .i64 0) (.int .i64 0) (.int .i64 0)).block g2 (by rw [put4_size]; omega) (fun e => by have := Option.some.inj e; omega)).trans (put4_row w15 g2 (.slice none 0 0) (.slice none 0 0) (.slice none 0 0) (.slice none 0 0) hg2' rfl))
              have hrb : Kept (Below g2 W4 (put5 (put4 w15 g2 (.slice none 0 0) (.slice none 0 0) (.slice none 0 0) (.slice none 0 0)) g3 (.int .i64 0) (.int .i64 0) (.int .i64 0) (.int .i64 0) (.int .i64 0))) := ⟨((b15.out.mono (by omega)).grown (put4_grown w15 g2 _ _ _ _) (by omega) (fun g e => by cases e; omega)).grown (put5_grown _ g3 _ _ _ _ _) (by rw [put4_size]; omega) (fun g e => by cases e; omega)⟩
              clear hg2' hg3'
              go_wp2
              refine bodyPost_ret (v := .tuple #[.agg (Ly.ar4 fun _ => .slice none 0 0), .agg (Ly.at5 fun _ => 0), .int .i64 12]) ?_ rfl ⟨fun _ => .slice none 0 0, fun _ => 0, by rw [hpe.out], fun i hi => ⟨none, 0, 0, rfl, by rw [hoS.out]; exact OwnB.nil _ _⟩, fun i hi => by rw [hoA.out], ?_⟩
              · exact results_cell2_row (fn := Tryd.f73) (a := 2) (b := 3) (u := 4) (T1 := 65) (T2 := 67) rfl _ _ g2 g3 _ _ _ _ _ _ _ _ rfl rfl hrs.out hre.out Tryd.underlying65 rfl (by kernel_rfl) Tryd.underlying67 rfl (by kernel_rfl)
              · rw [E2.out]; exact B4.out.trans hrb.out
            · skip
              have Vd : Kept (∀ W, Below g2 W4 W → RdB W g2 (A.map (·.add a7)) (n - a7) (c - a7) (l.drop a7)) := ⟨fun W h => Vd0.out W h a7 (by omega) hcn⟩
              have i1 : (a7 : Int) ≤ (n : Int) := by omega
              have i2 : (a7 : Int) < (c : Int) := by omega
              have i3 : (a7 : Int) ≤ (c : Int) := by omega
              have he9 : Kept ((12 : Int) = if (12 : Int) = 0 then Ly.lit (l.drop a7) (⟨#[75, 66, 83, 84]⟩ : ByteArray).data.toList else 12) := ⟨by rw [if_neg (by simp)]⟩
              have hT2 : Kept ((Wr.take l a7 12 ((min ((l.drop a7) : List UInt8).length Ly.tail.length : Nat) : Int)).2 = (a7, 12)) := ⟨by unfold Wr.take; rw [if_pos (by simp)]⟩
              clear hlen hDC hsh hpe1 hpe2 hchk ha7 ha7'
              go_upto_region 20 with (first
                | (go_at_call 69; refine HC'.out.mono ?_; rintro r w9 ⟨A4, n4, c4, rfl, ho4, hb4⟩; have ar9 := Kept.mk ((hb4.block g6 (by omega)).trans ar8.out); have s9 := Kept.mk ((hb4.block g5 (by omega)).trans s8.out); have f9 := Kept.mk (f8.out.below hb4); have b9 := Kept.mk (b8.out.trans (hb4.mono (by omega))); have z9 := Nat.le_trans z8 hb4.size; have r9 := Kept.mk (r8.out.below hb4 (by omega)); have q9 := Kept.mk (OwnB.keep o8.out hb4).rd; have t9 := Kept.mk ho4.rd; clear ho4 hb4 k0 k1 k2 k3 k4)
                | (go_at_call 19; refine (equal_is _ _ _ _ _ _ D C true w9 _ _ q9.out t9.out hE.out).mono ?_; rintro r w10 ⟨rfl, rfl⟩; clear q9 t9)
                | (go_at_call 35; refine (take_any p a5 l 0 4 w9 r9.out (by omega) (by omega)).mono ?_; rintro r w11 ⟨A11, n11, c11, rfl, ho11, hr11, hg11⟩; rw [hTK.out] at ho11 hr11; have hn11 := ho11.len; simp only at hr11; have ar11 := Kept.mk ((hg11.block g6 (by omega) (fun e => hn6 (Option.some.inj e))).trans ar9.out); have s11 := Kept.mk ((hg11.block g5 (by omega) (fun e => hn5 (Option.some.inj e))).trans s9.out); have f11 := Kept.mk (f9.out.grown hg11 hpB); have b11 := Kept.mk (b9.out.grown hg11 (by omega) (fun g e => by cases e; omega)); have z11 := Nat.le_trans z9 hg11.size; have r11 := Kept.mk hr11; obtain rfl : n11 = 4 := (by rw [hn11]; exact hTn.out); clear ho11 hr11 hg11 hn11 r9 ar9 s9 f9 b9)
                | (go_at_call 26; refine (at_any p a7 l 0 w11 r11.out).mono ?_; rintro r w12 ⟨rfl, rfl⟩)
                | (go_at_call 55; refine (check_any A a7 c (l.take a7) w11 g2 (Vt.out _ (b11.out.mono (by omega))) (T4.out.base (base := g5) (by omega) b11.out)).mono ?_; rintro r w12 ⟨rfl, rfl⟩; rw [hck.out])
                | (go_at_call 33; refine (fail_any p a7 l 0 12 w11 r11.out).mono ?_; rintro r w13 ⟨rfl, hr13, hg13⟩; rw [if_pos rfl] at hr13; have ar13 := Kept.mk ((hg13.block g6 (by omega) (fun e => hn6 (Option.some.inj e))).trans ar11.out); have s13 := Kept.mk ((hg13.block g5 (by omega) (fun e => hn5 (Option.some.inj e))).trans s11.out); have f13 := Kept.mk (f11.out.grown hg13 hpB); have b13 := Kept.mk (b11.out.grown hg13 (by omega) (fun g e => by cases e; omega)); have z13 := Nat.le_trans z11 hg13.size; have r13 := Kept.mk hr13; clear hr13 hg13 r11 ar11 s11 f11 b11)
                | (go_at_call 26; refine (at_any p a7 l 12 w13 r13.out).mono ?_; rintro r w14 ⟨rfl, rfl⟩)
                | (go_at_call 78; refine (literal_any p a7 l 12 _ (n - a7) (c - a7) g2 (l.drop a7) ⟨#[75, 66, 83, 84]⟩ w13 12 he9.out r13.out (Vd.out _ (b13.out.mono (by omega))) (by decide)).mono ?_; rintro r w15 ⟨rfl, hr15, hg15⟩; have hr15' : Rdr w15 p l (Wr.take l a7 12 ((min (l.drop a7).length Ly.tail.length : Nat) : Int)).2.1 (Wr.take l a7 12 ((min (l.drop a7).length Ly.tail.length : Nat) : Int)).2.2 := hr15; rw [hT2.out] at hr15'; simp only at hr15'; have ar15 := Kept.mk ((hg15.block g6 (by omega) (fun e => hn6 (Option.some.inj e))).trans ar13.out); have s15 := Kept.mk ((hg15.block g5 (by omega) (fun e => hn5 (Option.some.inj e))).trans s13.out); have f15 := Kept.mk (f13.out.grown hg15 hpB); have b15 := Kept.mk (b13.out.grown hg15 (by omega) (fun g e => by cases e; omega)); have z15 := Nat.le_trans z13 hg15.size; have r15 := Kept.mk hr15'; clear hr15 hr15' hg15 r13 ar13 s13 f13 b13)
                | (go_at_call 29; refine (end_any p a7 l 12 w15 r15.out).mono ?_; rintro r w16 ⟨rfl, rfl⟩; rw [hFin.out]))
              have hg2' := (b15.out.block g2 (by omega)).trans G2.out
              have hg3' := (b15.out.block g3 (by omega)).trans G3.out
              have x0 := fun k => frozen_of_row w15 g2 k _ _ hg2'
              have x1 := fun k => frozen_of_row w15 g3 k _ _ hg3'
              have y0 := (cell_of_row w15 g2 0 _ _ _ hg2').trans (Ly.ar4_get _ 0 (by omega))
              have y1 := (cell_of_row w15 g2 1 _ _ _ hg2').trans (Ly.ar4_get _ 1 (by omega))
              have y2 := (cell_of_row w15 g2 2 _ _ _ hg2').trans (Ly.ar4_get _ 2 (by omega))
              have y3 := (cell_of_row w15 g2 3 _ _ _ hg2').trans (Ly.ar4_get _ 3 (by omega))
              have u0 := (cell_of_row w15 g3 0 _ _ _ hg3').trans (Ly.at5_get _ 0 (by omega))
              have u1 := (cell_of_row w15 g3 1 _ _ _ hg3').trans (Ly.at5_get _ 1 (by omega))
              have u2 := (cell_of_row w15 g3 2 _ _ _ hg3').trans (Ly.at5_get _ 2 (by omega))
              have u3 := (cell_of_row w15 g3 3 _ _ _ hg3').trans (Ly.at5_get _ 3 (by omega))
              have u4 := (cell_of_row w15 g3 4 _ _ _ hg3').trans (Ly.at5_get _ 4 (by omega))
              have hoS : Kept (∀ i, Ly.outS l i = []) := ⟨fun i => by unfold Ly.outS; rw [hpe.out, if_neg (by simp)]⟩
              have hoA : Kept (∀ i, Ly.outA l i = 0) := ⟨fun i => by unfold Ly.outA; rw [hpe.out, if_neg (by simp)]⟩
              have hre := Kept.mk (put5_row (put4 w15 g2 (.slice none 0 0) (.slice none 0 0) (.slice none 0 0) (.slice none 0 0)) g3 (.int .i64 0) (.int .i64 0) (.int .i64 0) (.int .i64 0) (.int .i64 0) (((put4_grown w15 g2 _ _ _ _).block g3 (by omega) (fun e => by have := Option.some.inj e; omega)).trans hg3') rfl)
              have hrs := Kept.mk (((put5_grown (put4 w15 g2 (.slice none 0 0) (.slice none 0 0) (.slice none 0 0) (.slice none 0 0)) g3 (.int .i64 0) (.int .i64 0) (.int .i64 0) (.int .i64 0) (.int .i64 0)).block g2 (by rw [put4_size]; omega) (fun e => by have := Option.some.inj e; omega)).trans (put4_row w15 g2 (.slice none 0 0) (.slice none 0 0) (.slice none 0 0) (.slice none 0 0) hg2' rfl))
              have hrb : Kept (Below g2 W4 (put5 (put4 w15 g2 (.slice none 0 0) (.slice none 0 0) (.slice none 0 0) (.slice none 0 0)) g3 (.int .i64 0) (.int .i64 0) (.int .i64 0) (.int .i64 0) (.int .i64 0))) := ⟨((b15.out.mono (by omega)).grown (put4_grown w15 g2 _ _ _ _) (by omega) (fun g e => by cases e; omega)).grown (put5_grown _ g3 _ _ _ _ _) (by rw [put4_size]; omega) (fun g e => by cases e; omega)⟩
              clear hg2' hg3'
              go_wp2
              refine bodyPost_ret (v := .tuple #[.agg (Ly.ar4 fun _ => .slice none 0 0), .agg (Ly.at5 fun _ => 0), .int .i64 12]) ?_ rfl ⟨fun _ => .slice none 0 0, fun _ => 0, by rw [hpe.out], fun i hi => ⟨none, 0, 0, rfl, by rw [hoS.out]; exact OwnB.nil _ _⟩, fun i hi => by rw [hoA.out], ?_⟩
              · exact results_cell2_row (fn := Tryd.f73) (a := 2) (b := 3) (u := 4) (T1 := 65) (T2 := 67) rfl _ _ g2 g3 _ _ _ _ _ _ _ _ rfl rfl hrs.out hre.out Tryd.underlying65 rfl (by kernel_rfl) Tryd.underlying67 rfl (by kernel_rfl)
              · rw [E2.out]; exact B4.out.trans hrb.out
          · skip
            have hck : Kept (Crc.chk (l.take a7) = true) := ⟨by simpa using hchk⟩
            rw [if_neg hchk] at hpe2
            by_cases hlt0 : Ly.lit (l.drop a7) Ly.tail = 0
            · skip
              rw [if_neg (by simpa using hlt0)] at hpe2
              have h4l := Ly.lit_zero hlt0
              rw [List.length_drop] at h4l
              have h4t : Ly.tail.length = 4 := rfl
              have hcn : c ≠ a7 := by omega
              obtain ⟨a8, ha8⟩ : ∃ a8, a8 = a7 + 4 := ⟨_, rfl⟩
              rw [← ha8] at hpe2
              have hT2 : Kept ((Wr.take l a7 0 ((min (l.drop a7).length Ly.tail.length : Nat) : Int)).2 = (a8, 0)) := ⟨by rw [Ly.take_lit l a7 Ly.tail 0 (by omega) (fun _ => by omega), if_pos rfl, ha8, h4t]⟩
              have he9 : Kept ((0 : Int) = if (0 : Int) = 0 then Ly.lit (l.drop a7) (⟨#[75, 66, 83, 84]⟩ : ByteArray).data.toList else 0) := ⟨by rw [if_pos rfl, htail, hlt0]⟩
              by_cases htr : a8 < l.length
              · skip
                have hpe : Kept (Ly.pe l = 4) := ⟨by rw [hpe2, if_pos htr]⟩
                have hFin : Kept (Wr.fin l a8 0 = 4) := ⟨by unfold Wr.fin; rw [if_neg (by simp), if_pos htr]⟩
                have Vd : Kept (∀ W, Below g2 W4 W → RdB W g2 (A.map (·.add a7)) (n - a7) (c - a7) (l.drop a7)) := ⟨fun W h => Vd0.out W h a7 (by omega) hcn⟩
                have i1 : (a7 : Int) ≤ (n : Int) := by omega
                have i2 : (a7 : Int) < (c : Int) := by omega
                have i3 : (a7 : Int) ≤ (c : Int) := by omega
                
                clear hlen hDC hsh hpe1 hpe2 hchk hlt0 htr ha7 ha7' ha8
                go_upto_region 20 with (first
                  | (go_at_call 69; refine HC'.out.mono ?_; rintro r w9 ⟨A4, n4, c4, rfl, ho4, hb4⟩; have ar9 := Kept.mk ((hb4.block g6 (by omega)).trans ar8.out); have s9 := Kept.mk ((hb4.block g5 (by omega)).trans s8.out); have f9 := Kept.mk (f8.out.below hb4); have b9 := Kept.mk (b8.out.trans (hb4.mono (by omega))); have z9 := Nat.le_trans z8 hb4.size; have r9 := Kept.mk (r8.out.below hb4 (by omega)); have q9 := Kept.mk (OwnB.keep o8.out hb4).rd; have t9 := Kept.mk ho4.rd; clear ho4 hb4 k0 k1 k2 k3 k4)
                  | (go_at_call 19; refine (equal_is _ _ _ _ _ _ D C true w9 _ _ q9.out t9.out hE.out).mono ?_; rintro r w10 ⟨rfl, rfl⟩; clear q9 t9)
                  | (go_at_call 35; refine (take_any p a5 l 0 4 w9 r9.out (by omega) (by omega)).mono ?_; rintro r w11 ⟨A11, n11, c11, rfl, ho11, hr11, hg11⟩; rw [hTK.out] at ho11 hr11; have hn11 := ho11.len; simp only at hr11; have ar11 := Kept.mk ((hg11.block g6 (by omega) (fun e => hn6 (Option.some.inj e))).trans ar9.out); have s11 := Kept.mk ((hg11.block g5 (by omega) (fun e => hn5 (Option.some.inj e))).trans s9.out); have f11 := Kept.mk (f9.out.grown hg11 hpB); have b11 := Kept.mk (b9.out.grown hg11 (by omega) (fun g e => by cases e; omega)); have z11 := Nat.le_trans z9 hg11.size; have r11 := Kept.mk hr11; obtain rfl : n11 = 4 := (by rw [hn11]; exact hTn.out); clear ho11 hr11 hg11 hn11 r9 ar9 s9 f9 b9)
                  | (go_at_call 26; refine (at_any p a7 l 0 w11 r11.out).mono ?_; rintro r w12 ⟨rfl, rfl⟩)
                  | (go_at_call 55; refine (check_any A a7 c (l.take a7) w11 g2 (Vt.out _ (b11.out.mono (by omega))) (T4.out.base (base := g5) (by omega) b11.out)).mono ?_; rintro r w12 ⟨rfl, rfl⟩; rw [hck.out])
                  | (go_at_call 78; refine (literal_any p a7 l 0 _ (n - a7) (c - a7) g2 (l.drop a7) ⟨#[75, 66, 83, 84]⟩ w11 0 he9.out r11.out (Vd.out _ (b11.out.mono (by omega))) (by decide)).mono ?_; rintro r w15 ⟨rfl, hr15, hg15⟩; have hr15' : Rdr w15 p l (Wr.take l a7 0 ((min (l.drop a7).length Ly.tail.length : Nat) : Int)).2.1 (Wr.take l a7 0 ((min (l.drop a7).length Ly.tail.length : Nat) : Int)).2.2 := hr15; rw [hT2.out] at hr15'; simp only at hr15'; have ar15 := Kept.mk ((hg15.block g6 (by omega) (fun e => hn6 (Option.some.inj e))).trans ar11.out); have s15 := Kept.mk ((hg15.block g5 (by omega) (fun e => hn5 (Option.some.inj e))).trans s11.out); have f15 := Kept.mk (f11.out.grown hg15 hpB); have b15 := Kept.mk (b11.out.grown hg15 (by omega) (fun g e => by cases e; omega)); have z15 := Nat.le_trans z11 hg15.size; have r15 := Kept.mk hr15'; clear hr15 hr15' hg15 r11 ar11 s11 f11 b11)
                  | (go_at_call 29; refine (end_any p a8 l 0 w15 r15.out).mono ?_; rintro r w16 ⟨rfl, rfl⟩; rw [hFin.out]))
                have hg2' := (b15.out.block g2 (by omega)).trans G2.out
                have hg3' := (b15.out.block g3 (by omega)).trans G3.out
                have x0 := fun k => frozen_of_row w15 g2 k _ _ hg2'
                have x1 := fun k => frozen_of_row w15 g3 k _ _ hg3'
                have y0 := (cell_of_row w15 g2 0 _ _ _ hg2').trans (Ly.ar4_get _ 0 (by omega))
                have y1 := (cell_of_row w15 g2 1 _ _ _ hg2').trans (Ly.ar4_get _ 1 (by omega))
                have y2 := (cell_of_row w15 g2 2 _ _ _ hg2').trans (Ly.ar4_get _ 2 (by omega))
                have y3 := (cell_of_row w15 g2 3 _ _ _ hg2').trans (Ly.ar4_get _ 3 (by omega))
                have u0 := (cell_of_row w15 g3 0 _ _ _ hg3').trans (Ly.at5_get _ 0 (by omega))
                have u1 := (cell_of_row w15 g3 1 _ _ _ hg3').trans (Ly.at5_get _ 1 (by omega))
                have u2 := (cell_of_row w15 g3 2 _ _ _ hg3').trans (Ly.at5_get _ 2 (by omega))
                have u3 := (cell_of_row w15 g3 3 _ _ _ hg3').trans (Ly.at5_get _ 3 (by omega))
                have u4 := (cell_of_row w15 g3 4 _ _ _ hg3').trans (Ly.at5_get _ 4 (by omega))
                have hoS : Kept (∀ i, Ly.outS l i = []) := ⟨fun i => by unfold Ly.outS; rw [hpe.out, if_neg (by simp)]⟩
                have hoA : Kept (∀ i, Ly.outA l i = 0) := ⟨fun i => by unfold Ly.outA; rw [hpe.out, if_neg (by simp)]⟩
                have hre := Kept.mk (put5_row (put4 w15 g2 (.slice none 0 0) (.slice none 0 0) (.slice none 0 0) (.slice none 0 0)) g3 (.int .i64 0) (.int .i64 0) (.int .i64 0) (.int .i64 0) (.int .i64 0) (((put4_grown w15 g2 _ _ _ _).block g3 (by omega) (fun e => by have := Option.some.inj e; omega)).trans hg3') rfl)
                have hrs := Kept.mk (((put5_grown (put4 w15 g2 (.slice none 0 0) (.slice none 0 0) (.slice none 0 0) (.slice none 0 0)) g3 (.int .i64 0) (.int .i64 0) (.int .i64 0) (.int .i64 0) (.int .i64 0)).block g2 (by rw [put4_size]; omega) (fun e => by have := Option.some.inj e; omega)).trans (put4_row w15 g2 (.slice none 0 0) (.slice none 0 0) (.slice none 0 0) (.slice none 0 0) hg2' rfl))
                have hrb : Kept (Below g2 W4 (put5 (put4 w15 g2 (.slice none 0 0) (.slice none 0 0) (.slice none 0 0) (.slice none 0 0)) g3 (.int .i64 0) (.int .i64 0) (.int .i64 0) (.int .i64 0) (.int .i64 0))) := ⟨((b15.out.mono (by omega)).grown (put4_grown w15 g2 _ _ _ _) (by omega) (fun g e => by cases e; omega)).grown (put5_grown _ g3 _ _ _ _ _) (by rw [put4_size]; omega) (fun g e => by cases e; omega)⟩
                clear hg2' hg3'
                go_wp2
                refine bodyPost_ret (v := .tuple #[.agg (Ly.ar4 fun _ => .slice none 0 0), .agg (Ly.at5 fun _ => 0), .int .i64 4]) ?_ rfl ⟨fun _ => .slice none 0 0, fun _ => 0, by rw [hpe.out], fun i hi => ⟨none, 0, 0, rfl, by rw [hoS.out]; exact OwnB.nil _ _⟩, fun i hi => by rw [hoA.out], ?_⟩
                · exact results_cell2_row (fn := Tryd.f73) (a := 2) (b := 3) (u := 4) (T1 := 65) (T2 := 67) rfl _ _ g2 g3 _ _ _ _ _ _ _ _ rfl rfl hrs.out hre.out Tryd.underlying65 rfl (by kernel_rfl) Tryd.underlying67 rfl (by kernel_rfl)
                · rw [E2.out]; exact B4.out.trans hrb.out
              · skip
                have hpe : Kept (Ly.pe l = 0) := ⟨by rw [hpe2, if_neg htr]⟩
                have hFin : Kept (Wr.fin l a8 0 = 0) := ⟨by unfold Wr.fin; rw [if_neg (by simp), if_neg htr]⟩
                have Vd : Kept (∀ W, Below g2 W4 W → RdB W g2 (A.map (·.add a7)) (n - a7) (c - a7) (l.drop a7)) := ⟨fun W h => Vd0.out W h a7 (by omega) hcn⟩
                have i1 : (a7 : Int) ≤ (n : Int) := by omega
                have i2 : (a7 : Int) < (c : Int) := by omega
                have i3 : (a7 : Int) ≤ (c : Int) := by omega
                clear hlen hDC hsh hpe1 hpe2 hchk hlt0 htr ha7 ha7' ha8
                go_upto_region 20 with (first
                  | (go_at_call 69; refine HC'.out.mono ?_; rintro r w9 ⟨A4, n4, c4, rfl, ho4, hb4⟩; have ar9 := Kept.mk ((hb4.block g6 (by omega)).trans ar8.out); have s9 := Kept.mk ((hb4.block g5 (by omega)).trans s8.out); have f9 := Kept.mk (f8.out.below hb4); have b9 := Kept.mk (b8.out.trans (hb4.mono (by omega))); have z9 := Nat.le_trans z8 hb4.size; have r9 := Kept.mk (r8.out.below hb4 (by omega)); have q9 := Kept.mk (OwnB.keep o8.out hb4).rd; have t9 := Kept.mk ho4.rd; clear ho4 hb4 k0 k1 k2 k3 k4)
                  | (go_at_call 19; refine (equal_is _ _ _ _ _ _ D C true w9 _ _ q9.out t9.out hE.out).mono ?_; rintro r w10 ⟨rfl, rfl⟩; clear q9 t9)
                  | (go_at_call 35; refine (take_any p a5 l 0 4 w9 r9.out (by omega) (by omega)).mono ?_; rintro r w11 ⟨A11, n11, c11, rfl, ho11, hr11, hg11⟩; rw [hTK.out] at ho11 hr11; have hn11 := ho11.len; simp only at hr11; have ar11 := Kept.mk ((hg11.block g6 (by omega) (fun e => hn6 (Option.some.inj e))).trans ar9.out); have s11 := Kept.mk ((hg11.block g5 (by omega) (fun e => hn5 (Option.some.inj e))).trans s9.out); have f11 := Kept.mk (f9.out.grown hg11 hpB); have b11 := Kept.mk (b9.out.grown hg11 (by omega) (fun g e => by cases e; omega)); have z11 := Nat.le_trans z9 hg11.size; have r11 := Kept.mk hr11; obtain rfl : n11 = 4 := (by rw [hn11]; exact hTn.out); clear ho11 hr11 hg11 hn11 r9 ar9 s9 f9 b9)
                  | (go_at_call 26; refine (at_any p a7 l 0 w11 r11.out).mono ?_; rintro r w12 ⟨rfl, rfl⟩)
                  | (go_at_call 55; refine (check_any A a7 c (l.take a7) w11 g2 (Vt.out _ (b11.out.mono (by omega))) (T4.out.base (base := g5) (by omega) b11.out)).mono ?_; rintro r w12 ⟨rfl, rfl⟩; rw [hck.out])
                  | (go_at_call 78; refine (literal_any p a7 l 0 _ (n - a7) (c - a7) g2 (l.drop a7) ⟨#[75, 66, 83, 84]⟩ w11 0 he9.out r11.out (Vd.out _ (b11.out.mono (by omega))) (by decide)).mono ?_; rintro r w15 ⟨rfl, hr15, hg15⟩; have hr15' : Rdr w15 p l (Wr.take l a7 0 ((min (l.drop a7).length Ly.tail.length : Nat) : Int)).2.1 (Wr.take l a7 0 ((min (l.drop a7).length Ly.tail.length : Nat) : Int)).2.2 := hr15; rw [hT2.out] at hr15'; simp only at hr15'; have ar15 := Kept.mk ((hg15.block g6 (by omega) (fun e => hn6 (Option.some.inj e))).trans ar11.out); have s15 := Kept.mk ((hg15.block g5 (by omega) (fun e => hn5 (Option.some.inj e))).trans s11.out); have f15 := Kept.mk (f11.out.grown hg15 hpB); have b15 := Kept.mk (b11.out.grown hg15 (by omega) (fun g e => by cases e; omega)); have z15 := Nat.le_trans z11 hg15.size; have r15 := Kept.mk hr15'; clear hr15 hr15' hg15 r11 ar11 s11 f11 b11)
                  | (go_at_call 29; refine (end_any p a8 l 0 w15 r15.out).mono ?_; rintro r w16 ⟨rfl, rfl⟩; rw [hFin.out]))
                have hg2' := (b15.out.block g2 (by omega)).trans G2.out
                have hg3' := (b15.out.block g3 (by omega)).trans G3.out
                have x0 := fun k => frozen_of_row w15 g2 k _ _ hg2'
                have x1 := fun k => frozen_of_row w15 g3 k _ _ hg3'
                have y0 := (cell_of_row w15 g2 0 _ _ _ hg2').trans (Ly.ar4_get _ 0 (by omega))
                have y1 := (cell_of_row w15 g2 1 _ _ _ hg2').trans (Ly.ar4_get _ 1 (by omega))
                have y2 := (cell_of_row w15 g2 2 _ _ _ hg2').trans (Ly.ar4_get _ 2 (by omega))
                have y3 := (cell_of_row w15 g2 3 _ _ _ hg2').trans (Ly.ar4_get _ 3 (by omega))
                have u0 := (cell_of_row w15 g3 0 _ _ _ hg3').trans (Ly.at5_get _ 0 (by omega))
                have u1 := (cell_of_row w15 g3 1 _ _ _ hg3').trans (Ly.at5_get _ 1 (by omega))
                have u2 := (cell_of_row w15 g3 2 _ _ _ hg3').trans (Ly.at5_get _ 2 (by omega))
                have u3 := (cell_of_row w15 g3 3 _ _ _ hg3').trans (Ly.at5_get _ 3 (by omega))
                have u4 := (cell_of_row w15 g3 4 _ _ _ hg3').trans (Ly.at5_get _ 4 (by omega))
                have v0 := (cell_of_row w15 g5 0 _ _ _ s15.out).trans (Ly.ar4_get _ 0 (by omega))
                have v1 := (cell_of_row w15 g5 1 _ _ _ s15.out).trans (Ly.ar4_get _ 1 (by omega))
                have v2 := (cell_of_row w15 g5 2 _ _ _ s15.out).trans (Ly.ar4_get _ 2 (by omega))
                have v3 := (cell_of_row w15 g5 3 _ _ _ s15.out).trans (Ly.ar4_get _ 3 (by omega))
                obtain ⟨Aa, na, ca, ea⟩ := f15.out.form 0 (by omega)
                obtain ⟨Ab, nb, cb, eb⟩ := f15.out.form 1 (by omega)
                obtain ⟨Ac, nc, cc, ec⟩ := f15.out.form 2 (by omega)
                obtain ⟨Ad, nd, cd, ed⟩ := f15.out.form 3 (by omega)
                have har : Kept (Ly.ar4 V = #[.slice Aa na ca, .slice Ab nb cb, .slice Ac nc cc, .slice Ad nd cd]) := ⟨by unfold Ly.ar4; rw [ea, eb, ec, ed]⟩
                rw [ea] at v0
                rw [eb] at v1
                rw [ec] at v2
                rw [ed] at v3
                clear ea eb ec ed
                have m0 := (cell_of_row w15 g6 0 _ _ _ ar15.out).trans (Ly.at5_get _ 0 (by omega))
                have m1 := (cell_of_row w15 g6 1 _ _ _ ar15.out).trans (Ly.at5_get _ 1 (by omega))
                have m2 := (cell_of_row w15 g6 2 _ _ _ ar15.out).trans (Ly.at5_get _ 2 (by omega))
                have m3 := (cell_of_row w15 g6 3 _ _ _ ar15.out).trans (Ly.at5_get _ 3 (by omega))
                have m4 := (cell_of_row w15 g6 4 _ _ _ ar15.out).trans (Ly.at5_get _ 4 (by omega))
                have H2 := Kept.mk hg2'
                have H3 := Kept.mk hg3'
                clear hg2' hg3'
                have dx0 : ∀ k, w15.drew.frozen? ⟨g2, k, none⟩ = false := x0
                have dx1 : ∀ k, w15.drew.frozen? ⟨g3, k, none⟩ = false := x1
                go_wp2
                go_region
                go_wp2
                have hre := row_drew <| put5_row (put4 w15 g2 (.slice Aa na ca) (.slice Ab nb cb) (.slice Ac nc cc) (.slice Ad nd cd)) g3 (.int .i64 (m5 0 : Int)) (.int .i64 (m5 1 : Int)) (.int .i64 (m5 2 : Int)) (.int .i64 (m5 3 : Int)) (.int .i64 (m5 4 : Int)) (((put4_grown w15 g2 _ _ _ _).block g3 (by omega) (fun e => by have := Option.some.inj e; omega)).trans H3.out) rfl
                have hrs := row_drew <| ((put5_grown (put4 w15 g2 (.slice Aa na ca) (.slice Ab nb cb) (.slice Ac nc cc) (.slice Ad nd cd)) g3 (.int .i64 (m5 0 : Int)) (.int .i64 (m5 1 : Int)) (.int .i64 (m5 2 : Int)) (.int .i64 (m5 3 : Int)) (.int .i64 (m5 4 : Int))).block g2 (by rw [put4_size]; omega) (fun e => by have := Option.some.inj e; omega)).trans (put4_row w15 g2 (.slice Aa na ca) (.slice Ab nb cb) (.slice Ac nc cc) (.slice Ad nd cd) H2.out rfl)
                have hrb0 : Below g2 W4 (put5 (put4 w15 g2 (.slice Aa na ca) (.slice Ab nb cb) (.slice Ac nc cc) (.slice Ad nd cd)) g3 (.int .i64 (m5 0 : Int)) (.int .i64 (m5 1 : Int)) (.int .i64 (m5 2 : Int)) (.int .i64 (m5 3 : Int)) (.int .i64 (m5 4 : Int))) := ((b15.out.mono (by omega)).grown (put4_grown w15 g2 _ _ _ _) (by omega) (fun g e => by cases e; omega)).grown (put5_grown _ g3 _ _ _ _ _) (by rw [put4_size]; omega) (fun g e => by cases e; omega)
                have hrb := (B4.out.trans hrb0).drew
                have hfo := FourO.drew <| (f15.out.grown (put4_grown w15 g2 (.slice Aa na ca) (.slice Ab nb cb) (.slice Ac nc cc) (.slice Ad nd cd)) (by omega)).grown (put5_grown _ g3 (.int .i64 (m5 0 : Int)) (.int .i64 (m5 1 : Int)) (.int .i64 (m5 2 : Int)) (.int .i64 (m5 3 : Int)) (.int .i64 (m5 4 : Int))) (by omega)
                refine bodyPost_ret (v := .tuple #[.agg (Ly.ar4 V), .agg (Ly.at5 m5), .int .i64 0]) ?_ rfl ⟨V, m5, by rw [hpe.out], fun i hi => ?_, fun i hi => ?_, ?_⟩
                · rw [har.out]
                  exact results_cell2_row (fn := Tryd.f73) (a := 2) (b := 3) (u := 4) (T1 := 65) (T2 := 67) rfl _ _ g2 g3 _ _ _ _ _ _ _ _ rfl rfl hrs hre Tryd.underlying65 rfl (by kernel_rfl) Tryd.underlying67 rfl (by kernel_rfl)
                · obtain ⟨A', n', c', h1, h2⟩ := hfo i hi
                  have hg : Ly.gate 4 (Ly.sec l) i = Ly.outS l i := by unfold Ly.gate Ly.outS; rw [if_pos hi, hpe.out, if_pos rfl]
                  rw [hg] at h2
                  exact ⟨A', n', c', h1, OwnB.base h2 (by rw [E2.out]; omega)⟩
                · rw [hm5.out i hi]; unfold Ly.outA; rw [hpe.out, if_pos rfl]
                · rw [E2.out]; exact hrb
            · skip
              rw [if_pos hlt0] at hpe2
              obtain ⟨e9, he9'⟩ : ∃ e9, Ly.lit (l.drop a7) Ly.tail = e9 := ⟨_, rfl⟩
              rw [he9'] at hpe2 hlt0
              have hpe := Kept.mk hpe2
              have hFin : Kept (Wr.fin l a7 e9 = e9) := ⟨by unfold Wr.fin; rw [if_pos hlt0]⟩
              have heb : (e9 == 0) = false := by simpa using hlt0
              have hen : (e9 != 0) = true := by simpa using hlt0
              have hnz := Kept.mk hlt0
              by_cases hcn : c = a7
              · skip
                have hnc : n = c := by omega
                have hdn : Kept (l.drop a7 = []) := ⟨List.drop_eq_nil_of_le (by omega)⟩
                have he9 : Kept (e9 = if (0 : Int) = 0 then Ly.lit [] (⟨#[75, 66, 83, 84]⟩ : ByteArray).data.toList else 0) := ⟨by rw [if_pos rfl, htail]; exact (by have h := he9'; rw [hdn.out] at h; exact h.symm)⟩
                have hT2 : Kept ((Wr.take l a7 e9 ((min ([] : List UInt8).length Ly.tail.length : Nat) : Int)).2 = (a7, e9)) := ⟨by unfold Wr.take; rw [if_pos hlt0]⟩
                clear hlen hDC hsh hpe1 hpe2 hchk hlt0 he9' ha7 ha7'
                subst hnc
                obtain rfl : n = a7 := by omega
                go_upto_region 20 with (first
                  | (go_at_call 69; refine HC'.out.mono ?_; rintro r w9 ⟨A4, n4, c4, rfl, ho4, hb4⟩; have ar9 := Kept.mk ((hb4.block g6 (by omega)).trans ar8.out); have s9 := Kept.mk ((hb4.block g5 (by omega)).trans s8.out); have f9 := Kept.mk (f8.out.below hb4); have b9 := Kept.mk (b8.out.trans (hb4.mono (by omega))); have z9 := Nat.le_trans z8 hb4.size; have r9 := Kept.mk (r8.out.below hb4 (by omega)); have q9 := Kept.mk (OwnB.keep o8.out hb4).rd; have t9 := Kept.mk ho4.rd; clear ho4 hb4 k0 k1 k2 k3 k4)
                  | (go_at_call 19; refine (equal_is _ _ _ _ _ _ D C true w9 _ _ q9.out t9.out hE.out).mono ?_; rintro r w10 ⟨rfl, rfl⟩; clear q9 t9)
                  | (go_at_call 35; refine (take_any p a5 l 0 4 w9 r9.out (by omega) (by omega)).mono ?_; rintro r w11 ⟨A11, n11, c11, rfl, ho11, hr11, hg11⟩; rw [hTK.out] at ho11 hr11; have hn11 := ho11.len; simp only at hr11; have ar11 := Kept.mk ((hg11.block g6 (by omega) (fun e => hn6 (Option.some.inj e))).trans ar9.out); have s11 := Kept.mk ((hg11.block g5 (by omega) (fun e => hn5 (Option.some.inj e))).trans s9.out); have f11 := Kept.mk (f9.out.grown hg11 hpB); have b11 := Kept.mk (b9.out.grown hg11 (by omega) (fun g e => by cases e; omega)); have z11 := Nat.le_trans z9 hg11.size; have r11 := Kept.mk hr11; obtain rfl : n11 = 4 := (by rw [hn11]; exact hTn.out); clear ho11 hr11 hg11 hn11 r9 ar9 s9 f9 b9)
                  | (go_at_call 26; refine (at_any p n l 0 w11 r11.out).mono ?_; rintro r w12 ⟨rfl, rfl⟩)
                  | (go_at_call 55; refine (check_any A n n (l.take n) w11 g2 (Vt.out _ (b11.out.mono (by omega))) (T4.out.base (base := g5) (by omega) b11.out)).mono ?_; rintro r w12 ⟨rfl, rfl⟩; rw [hck.out])
                  | (go_at_call 78; refine (literal_any p n l 0 A 0 0 g2 [] ⟨#[75, 66, 83, 84]⟩ w11 e9 he9.out r11.out (Rd.nil _ _ 1 0 A (by unfold maxLen; omega)) (by decide)).mono ?_; rintro r w15 ⟨rfl, hr15, hg15⟩; have hr15' : Rdr w15 p l (Wr.take l n e9 ((min [].length Ly.tail.length : Nat) : Int)).2.1 (Wr.take l n e9 ((min [].length Ly.tail.length : Nat) : Int)).2.2 := hr15; rw [hT2.out] at hr15'; simp only at hr15'; have ar15 := Kept.mk ((hg15.block g6 (by omega) (fun e => hn6 (Option.some.inj e))).trans ar11.out); have s15 := Kept.mk ((hg15.block g5 (by omega) (fun e => hn5 (Option.some.inj e))).trans s11.out); have f15 := Kept.mk (f11.out.grown hg15 hpB); have b15 := Kept.mk (b11.out.grown hg15 (by omega) (fun g e => by cases e; omega)); have z15 := Nat.le_trans z11 hg15.size; have r15 := Kept.mk hr15'; clear hr15 hr15' hg15 r11 ar11 s11 f11 b11)
                  | (go_at_call 29; refine (end_any p n l e9 w15 r15.out).mono ?_; rintro r w16 ⟨rfl, rfl⟩; rw [hFin.out]))
                have hg2' := (b15.out.block g2 (by omega)).trans G2.out
                have hg3' := (b15.out.block g3 (by omega)).trans G3.out
                have x0 := fun k => frozen_of_row w15 g2 k _ _ hg2'
                have x1 := fun k => frozen_of_row w15 g3 k _ _ hg3'
                have y0 := (cell_of_row w15 g2 0 _ _ _ hg2').trans (Ly.ar4_get _ 0 (by omega))
                have y1 := (cell_of_row w15 g2 1 _ _ _ hg2').trans (Ly.ar4_get _ 1 (by omega))
                have y2 := (cell_of_row w15 g2 2 _ _ _ hg2').trans (Ly.ar4_get _ 2 (by omega))
                have y3 := (cell_of_row w15 g2 3 _ _ _ hg2').trans (Ly.ar4_get _ 3 (by omega))
                have u0 := (cell_of_row w15 g3 0 _ _ _ hg3').trans (Ly.at5_get _ 0 (by omega))
                have u1 := (cell_of_row w15 g3 1 _ _ _ hg3').trans (Ly.at5_get _ 1 (by omega))
                have u2 := (cell_of_row w15 g3 2 _ _ _ hg3').trans (Ly.at5_get _ 2 (by omega))
                have u3 := (cell_of_row w15 g3 3 _ _ _ hg3').trans (Ly.at5_get _ 3 (by omega))
                have u4 := (cell_of_row w15 g3 4 _ _ _ hg3').trans (Ly.at5_get _ 4 (by omega))
                have hoS : Kept (∀ i, Ly.outS l i = []) := ⟨fun i => by unfold Ly.outS; rw [hpe.out, if_neg hnz.out]⟩
                have hoA : Kept (∀ i, Ly.outA l i = 0) := ⟨fun i => by unfold Ly.outA; rw [hpe.out, if_neg hnz.out]⟩
                have hre := Kept.mk (put5_row (put4 w15 g2 (.slice none 0 0) (.slice none 0 0) (.slice none 0 0) (.slice none 0 0)) g3 (.int .i64 0) (.int .i64 0) (.int .i64 0) (.int .i64 0) (.int .i64 0) (((put4_grown w15 g2 _ _ _ _).block g3 (by omega) (fun e => by have := Option.some.inj e; omega)).trans hg3') rfl)
                have hrs := Kept.mk (((put5_grown (put4 w15 g2 (.slice none 0 0) (.slice none 0 0) (.slice none 0 0) (.slice none 0 0)) g3 (.int .i64 0) (.int .i64 0) (.int .i64 0) (.int .i64 0) (.int .i64 0)).block g2 (by rw [put4_size]; omega) (fun e => by have := Option.some.inj e; omega)).trans (put4_row w15 g2 (.slice none 0 0) (.slice none 0 0) (.slice none 0 0) (.slice none 0 0) hg2' rfl))
                have hrb : Kept (Below g2 W4 (put5 (put4 w15 g2 (.slice none 0 0) (.slice none 0 0) (.slice none 0 0) (.slice none 0 0)) g3 (.int .i64 0) (.int .i64 0) (.int .i64 0) (.int .i64 0) (.int .i64 0))) := ⟨((b15.out.mono (by omega)).grown (put4_grown w15 g2 _ _ _ _) (by omega) (fun g e => by cases e; omega)).grown (put5_grown _ g3 _ _ _ _ _) (by rw [put4_size]; omega) (fun g e => by cases e; omega)⟩
                clear hg2' hg3'
                go_wp2
                refine bodyPost_ret (v := .tuple #[.agg (Ly.ar4 fun _ => .slice none 0 0), .agg (Ly.at5 fun _ => 0), .int .i64 e9]) ?_ rfl ⟨fun _ => .slice none 0 0, fun _ => 0, by rw [hpe.out], fun i hi => ⟨none, 0, 0, rfl, by rw [hoS.out]; exact OwnB.nil _ _⟩, fun i hi => by rw [hoA.out], ?_⟩
                · exact results_cell2_row (fn := Tryd.f73) (a := 2) (b := 3) (u := 4) (T1 := 65) (T2 := 67) rfl _ _ g2 g3 _ _ _ _ _ _ _ _ rfl rfl hrs.out hre.out Tryd.underlying65 rfl (by kernel_rfl) Tryd.underlying67 rfl (by kernel_rfl)
                · rw [E2.out]; exact B4.out.trans hrb.out
              · skip
                have Vd : Kept (∀ W, Below g2 W4 W → RdB W g2 (A.map (·.add a7)) (n - a7) (c - a7) (l.drop a7)) := ⟨fun W h => Vd0.out W h a7 (by omega) hcn⟩
                have i1 : (a7 : Int) ≤ (n : Int) := by omega
                have i2 : (a7 : Int) < (c : Int) := by omega
                have i3 : (a7 : Int) ≤ (c : Int) := by omega
                have he9 : Kept (e9 = if (0 : Int) = 0 then Ly.lit (l.drop a7) (⟨#[75, 66, 83, 84]⟩ : ByteArray).data.toList else 0) := ⟨by rw [if_pos rfl, htail]; exact he9'.symm⟩
                have hT2 : Kept ((Wr.take l a7 e9 ((min ((l.drop a7) : List UInt8).length Ly.tail.length : Nat) : Int)).2 = (a7, e9)) := ⟨by unfold Wr.take; rw [if_pos hlt0]⟩
                clear hlen hDC hsh hpe1 hpe2 hchk hlt0 he9' ha7 ha7'
                go_upto_region 20 with (first
                  | (go_at_call 69; refine HC'.out.mono ?_; rintro r w9 ⟨A4, n4, c4, rfl, ho4, hb4⟩; have ar9 := Kept.mk ((hb4.block g6 (by omega)).trans ar8.out); have s9 := Kept.mk ((hb4.block g5 (by omega)).trans s8.out); have f9 := Kept.mk (f8.out.below hb4); have b9 := Kept.mk (b8.out.trans (hb4.mono (by omega))); have z9 := Nat.le_trans z8 hb4.size; have r9 := Kept.mk (r8.out.below hb4 (by omega)); have q9 := Kept.mk (OwnB.keep o8.out hb4).rd; have t9 := Kept.mk ho4.rd; clear ho4 hb4 k0 k1 k2 k3 k4)
                  | (go_at_call 19; refine (equal_is _ _ _ _ _ _ D C true w9 _ _ q9.out t9.out hE.out).mono ?_; rintro r w10 ⟨rfl, rfl⟩; clear q9 t9)
                  | (go_at_call 35; refine (take_any p a5 l 0 4 w9 r9.out (by omega) (by omega)).mono ?_; rintro r w11 ⟨A11, n11, c11, rfl, ho11, hr11, hg11⟩; rw [hTK.out] at ho11 hr11; have hn11 := ho11.len; simp only at hr11; have ar11 := Kept.mk ((hg11.block g6 (by omega) (fun e => hn6 (Option.some.inj e))).trans ar9.out); have s11 := Kept.mk ((hg11.block g5 (by omega) (fun e => hn5 (Option.some.inj e))).trans s9.out); have f11 := Kept.mk (f9.out.grown hg11 hpB); have b11 := Kept.mk (b9.out.grown hg11 (by omega) (fun g e => by cases e; omega)); have z11 := Nat.le_trans z9 hg11.size; have r11 := Kept.mk hr11; obtain rfl : n11 = 4 := (by rw [hn11]; exact hTn.out); clear ho11 hr11 hg11 hn11 r9 ar9 s9 f9 b9)
                  | (go_at_call 26; refine (at_any p a7 l 0 w11 r11.out).mono ?_; rintro r w12 ⟨rfl, rfl⟩)
                  | (go_at_call 55; refine (check_any A a7 c (l.take a7) w11 g2 (Vt.out _ (b11.out.mono (by omega))) (T4.out.base (base := g5) (by omega) b11.out)).mono ?_; rintro r w12 ⟨rfl, rfl⟩; rw [hck.out])
                  | (go_at_call 78; refine (literal_any p a7 l 0 _ (n - a7) (c - a7) g2 (l.drop a7) ⟨#[75, 66, 83, 84]⟩ w11 e9 he9.out r11.out (Vd.out _ (b11.out.mono (by omega))) (by decide)).mono ?_; rintro r w15 ⟨rfl, hr15, hg15⟩; have hr15' : Rdr w15 p l (Wr.take l a7 e9 ((min (l.drop a7).length Ly.tail.length : Nat) : Int)).2.1 (Wr.take l a7 e9 ((min (l.drop a7).length Ly.tail.length : Nat) : Int)).2.2 := hr15; rw [hT2.out] at hr15'; simp only at hr15'; have ar15 := Kept.mk ((hg15.block g6 (by omega) (fun e => hn6 (Option.some.inj e))).trans ar11.out); have s15 := Kept.mk ((hg15.block g5 (by omega) (fun e => hn5 (Option.some.inj e))).trans s11.out); have f15 := Kept.mk (f11.out.grown hg15 hpB); have b15 := Kept.mk (b11.out.grown hg15 (by omega) (fun g e => by cases e; omega)); have z15 := Nat.le_trans z11 hg15.size; have r15 := Kept.mk hr15'; clear hr15 hr15' hg15 r11 ar11 s11 f11 b11)
                  | (go_at_call 29; refine (end_any p a7 l e9 w15 r15.out).mono ?_; rintro r w16 ⟨rfl, rfl⟩; rw [hFin.out]))
                have hg2' := (b15.out.block g2 (by omega)).trans G2.out
                have hg3' := (b15.out.block g3 (by omega)).trans G3.out
                have x0 := fun k => frozen_of_row w15 g2 k _ _ hg2'
                have x1 := fun k => frozen_of_row w15 g3 k _ _ hg3'
                have y0 := (cell_of_row w15 g2 0 _ _ _ hg2').trans (Ly.ar4_get _ 0 (by omega))
                have y1 := (cell_of_row w15 g2 1 _ _ _ hg2').trans (Ly.ar4_get _ 1 (by omega))
                have y2 := (cell_of_row w15 g2 2 _ _ _ hg2').trans (Ly.ar4_get _ 2 (by omega))
                have y3 := (cell_of_row w15 g2 3 _ _ _ hg2').trans (Ly.ar4_get _ 3 (by omega))
                have u0 := (cell_of_row w15 g3 0 _ _ _ hg3').trans (Ly.at5_get _ 0 (by omega))
                have u1 := (cell_of_row w15 g3 1 _ _ _ hg3').trans (Ly.at5_get _ 1 (by omega))
                have u2 := (cell_of_row w15 g3 2 _ _ _ hg3').trans (Ly.at5_get _ 2 (by omega))
                have u3 := (cell_of_row w15 g3 3 _ _ _ hg3').trans (Ly.at5_get _ 3 (by omega))
                have u4 := (cell_of_row w15 g3 4 _ _ _ hg3').trans (Ly.at5_get _ 4 (by omega))
                have hoS : Kept (∀ i, Ly.outS l i = []) := ⟨fun i => by unfold Ly.outS; rw [hpe.out, if_neg hnz.out]⟩
                have hoA : Kept (∀ i, Ly.outA l i = 0) := ⟨fun i => by unfold Ly.outA; rw [hpe.out, if_neg hnz.out]⟩
                have hre := Kept.mk (put5_row (put4 w15 g2 (.slice none 0 0) (.slice none 0 0) (.slice none 0 0) (.slice none 0 0)) g3 (.int .i64 0) (.int .i64 0) (.int .i64 0) (.int .i64 0) (.int .i64 0) (((put4_grown w15 g2 _ _ _ _).block g3 (by omega) (fun e => by have := Option.some.inj e; omega)).trans hg3') rfl)
                have hrs := Kept.mk (((put5_grown (put4 w15 g2 (.slice none 0 0) (.slice none 0 0) (.slice none 0 0) (.slice none 0 0)) g3 (.int .i64 0) (.int .i64 0) (.int .i64 0) (.int .i64 0) (.int .i64 0)).block g2 (by rw [put4_size]; omega) (fun e => by have := Option.some.inj e; omega)).trans (put4_row w15 g2 (.slice none 0 0) (.slice none 0 0) (.slice none 0 0) (.slice none 0 0) hg2' rfl))
                have hrb : Kept (Below g2 W4 (put5 (put4 w15 g2 (.slice none 0 0) (.slice none 0 0) (.slice none 0 0) (.slice none 0 0)) g3 (.int .i64 0) (.int .i64 0) (.int .i64 0) (.int .i64 0) (.int .i64 0))) := ⟨((b15.out.mono (by omega)).grown (put4_grown w15 g2 _ _ _ _) (by omega) (fun g e => by cases e; omega)).grown (put5_grown _ g3 _ _ _ _ _) (by rw [put4_size]; omega) (fun g e => by cases e; omega)⟩
                clear hg2' hg3'
                go_wp2
                refine bodyPost_ret (v := .tuple #[.agg (Ly.ar4 fun _ => .slice none 0 0), .agg (Ly.at5 fun _ => 0), .int .i64 e9]) ?_ rfl ⟨fun _ => .slice none 0 0, fun _ => 0, by rw [hpe.out], fun i hi => ⟨none, 0, 0, rfl, by rw [hoS.out]; exact OwnB.nil _ _⟩, fun i hi => by rw [hoA.out], ?_⟩
                · exact results_cell2_row (fn := Tryd.f73) (a := 2) (b := 3) (u := 4) (T1 := 65) (T2 := 67) rfl _ _ g2 g3 _ _ _ _ _ _ _ _ rfl rfl hrs.out hre.out Tryd.underlying65 rfl (by kernel_rfl) Tryd.underlying67 rfl (by kernel_rfl)
                · rw [E2.out]; exact B4.out.trans hrb.out
      · skip
        have hE : Kept ((D == C) = false) := ⟨by simpa using hDC⟩
        obtain ⟨e6, he6'⟩ : ∃ e6, (if e5 = 0 then 13 else e5) = e6 := ⟨_, rfl⟩
        have he6n : e6 ≠ 0 := by rw [← he6']; split <;> omega
        have hpe : Kept (Ly.pe l = e6) := ⟨by
          rw [hpeK.out, ← he6']
          by_cases h : e5 = 0
          · rw [if_neg (by simpa using h), if_pos hDC, if_pos h]
          · rw [if_pos h, if_neg h]⟩
        have he6 := Kept.mk he6'
        have hTK : Kept (Wr.take l a5 e6 4 = ([], a5, e6)) := ⟨by unfold Wr.take; rw [if_pos he6n]⟩
        have hTn : Kept (([] : List UInt8).length = 0) := ⟨rfl⟩
        have hFin : Kept (Wr.fin l a5 e6 = e6) := ⟨by unfold Wr.fin; rw [if_pos he6n]⟩
        have heb : (e6 == 0) = false := by simpa using he6n
        have hen : (e6 != 0) = true := by simpa using he6n
        have hnz := Kept.mk he6n
        by_cases hcn : c = a5
        · skip
          have hnc : n = c := by omega
          have hdn : Kept (l.drop a5 = []) := ⟨List.drop_eq_nil_of_le (by omega)⟩
          have he9 : Kept (e6 = if e6 = 0 then Ly.lit [] (⟨#[75, 66, 83, 84]⟩ : ByteArray).data.toList else e6) := ⟨by rw [if_neg he6n]⟩
          have hT2 : Kept ((Wr.take l a5 e6 ((min ([] : List UInt8).length Ly.tail.length : Nat) : Int)).2 = (a5, e6)) := ⟨by unfold Wr.take; rw [if_pos he6n]⟩
          clear hlen he6' hDC he6n
          subst hnc
          obtain rfl : n = a5 := by omega
          go_upto_region 20 with (first
            | (go_at_call 69; refine HC'.out.mono ?_; rintro r w9 ⟨A4, n4, c4, rfl, ho4, hb4⟩; have ar9 := Kept.mk ((hb4.block g6 (by omega)).trans ar8.out); have s9 := Kept.mk ((hb4.block g5 (by omega)).trans s8.out); have f9 := Kept.mk (f8.out.below hb4); have b9 := Kept.mk (b8.out.trans (hb4.mono (by omega))); have z9 := Nat.le_trans z8 hb4.size; have r9 := Kept.mk (r8.out.below hb4 (by omega)); have q9 := Kept.mk (OwnB.keep o8.out hb4).rd; have t9 := Kept.mk ho4.rd; clear ho4 hb4 k0 k1 k2 k3 k4)
            | (go_at_call 19; refine (equal_is _ _ _ _ _ _ D C false w9 _ _ q9.out t9.out hE.out).mono ?_; rintro r w10 ⟨rfl, rfl⟩; clear q9 t9)
            | (go_at_call 33; refine (fail_any p n l e5 13 w9 r9.out).mono ?_; rintro r w10 ⟨rfl, hr10, hg10⟩; rw [he6.out] at hr10; have ar10 := Kept.mk ((hg10.block g6 (by omega) (fun e => hn6 (Option.some.inj e))).trans ar9.out); have s10 := Kept.mk ((hg10.block g5 (by omega) (fun e => hn5 (Option.some.inj e))).trans s9.out); have f10 := Kept.mk (f9.out.grown hg10 hpB); have b10 := Kept.mk (b9.out.grown hg10 (by omega) (fun g e => by cases e; omega)); have z10 := Nat.le_trans z9 hg10.size; have r10 := Kept.mk hr10; clear hr10 hg10 r9 ar9 s9 f9 b9)
            | (go_at_call 35; refine (take_any p n l e6 4 w10 r10.out (by omega) (by omega)).mono ?_; rintro r w11 ⟨A11, n11, c11, rfl, ho11, hr11, hg11⟩; rw [hTK.out] at ho11 hr11; have hn11 := ho11.len; simp only at hr11; have ar11 := Kept.mk ((hg11.block g6 (by omega) (fun e => hn6 (Option.some.inj e))).trans ar10.out); have s11 := Kept.mk ((hg11.block g5 (by omega) (fun e => hn5 (Option.some.inj e))).trans s10.out); have f11 := Kept.mk (f10.out.grown hg11 hpB); have b11 := Kept.mk (b10.out.grown hg11 (by omega) (fun g e => by cases e; omega)); have z11 := Nat.le_trans z10 hg11.size; have r11 := Kept.mk hr11; obtain rfl : n11 = 0 := (by rw [hn11]; exact hTn.out); clear ho11 hr11 hg11 hn11 r10 ar10 s10 f10 b10)
            | (go_at_call 26; refine (at_any p n l e6 w11 r11.out).mono ?_; rintro r w12 ⟨rfl, rfl⟩)
            | (go_at_call 78; refine (literal_any p n l e6 A 0 0 g2 [] ⟨#[75, 66, 83, 84]⟩ w11 e6 he9.out r11.out (Rd.nil _ _ 1 0 A (by unfold maxLen; omega)) (by decide)).mono ?_; rintro r w15 ⟨rfl, hr15, hg15⟩; have hr15' : Rdr w15 p l (Wr.take l n e6 ((min [].length Ly.tail.length : Nat) : Int)).2.1 (Wr.take l n e6 ((min [].length Ly.tail.length : Nat) : Int)).2.2 := hr15; rw [hT2.out] at hr15'; simp only at hr15'; have ar15 := Kept.mk ((hg15.block g6 (by omega) (fun e => hn6 (Option.some.inj e))).trans ar11.out); have s15 := Kept.mk ((hg15.block g5 (by omega) (fun e => hn5 (Option.some.inj e))).trans s11.out); have f15 := Kept.mk (f11.out.grown hg15 hpB); have b15 := Kept.mk (b11.out.grown hg15 (by omega) (fun g e => by cases e; omega)); have z15 := Nat.le_trans z11 hg15.size; have r15 := Kept.mk hr15'; clear hr15 hr15' hg15 r11 ar11 s11 f11 b11)
            | (go_at_call 29; refine (end_any p n l e6 w15 r15.out).mono ?_; rintro r w16 ⟨rfl, rfl⟩; rw [hFin.out]))
          have hg2' := (b15.out.block g2 (by omega)).trans G2.out
          have hg3' := (b15.out.block g3 (by omega)).trans G3.out
          have x0 := fun k => frozen_of_row w15 g2 k _ _ hg2'
          have x1 := fun k => frozen_of_row w15 g3 k _ _ hg3'
          have y0 := (cell_of_row w15 g2 0 _ _ _ hg2').trans (Ly.ar4_get _ 0 (by omega))
          have y1 := (cell_of_row w15 g2 1 _ _ _ hg2').trans (Ly.ar4_get _ 1 (by omega))
          have y2 := (cell_of_row w15 g2 2 _ _ _ hg2').trans (Ly.ar4_get _ 2 (by omega))
          have y3 := (cell_of_row w15 g2 3 _ _ _ hg2').trans (Ly.ar4_get _ 3 (by omega))
          have u0 := (cell_of_row w15 g3 0 _ _ _ hg3').trans (Ly.at5_get _ 0 (by omega))
          have u1 := (cell_of_row w15 g3 1 _ _ _ hg3').trans (Ly.at5_get _ 1 (by omega))
          have u2 := (cell_of_row w15 g3 2 _ _ _ hg3').trans (Ly.at5_get _ 2 (by omega))
          have u3 := (cell_of_row w15 g3 3 _ _ _ hg3').trans (Ly.at5_get _ 3 (by omega))
          have u4 := (cell_of_row w15 g3 4 _ _ _ hg3').trans (Ly.at5_get _ 4 (by omega))
          have hoS : Kept (∀ i, Ly.outS l i = []) := ⟨fun i => by unfold Ly.outS; rw [hpe.out, if_neg hnz.out]⟩
          have hoA : Kept (∀ i, Ly.outA l i = 0) := ⟨fun i => by unfold Ly.outA; rw [hpe.out, if_neg hnz.out]⟩
          have hre := Kept.mk (put5_row (put4 w15 g2 (.slice none 0 0) (.slice none 0 0) (.slice none 0 0) (.slice none 0 0)) g3 (.int .i64 0) (.int .i64 0) (.int .i64 0) (.int .i64 0) (.int .i64 0) (((put4_grown w15 g2 _ _ _ _).block g3 (by omega) (fun e => by have := Option.some.inj e; omega)).trans hg3') rfl)
          have hrs := Kept.mk (((put5_grown (put4 w15 g2 (.slice none 0 0) (.slice none 0 0) (.slice none 0 0) (.slice none 0 0)) g3 (.int .i64 0) (.int .i64 0) (.int .i64 0) (.int .i64 0) (.int .i64 0)).block g2 (by rw [put4_size]; omega) (fun e => by have := Option.some.inj e; omega)).trans (put4_row w15 g2 (.slice none 0 0) (.slice none 0 0) (.slice none 0 0) (.slice none 0 0) hg2' rfl))
          have hrb : Kept (Below g2 W4 (put5 (put4 w15 g2 (.slice none 0 0) (.slice none 0 0) (.slice none 0 0) (.slice none 0 0)) g3 (.int .i64 0) (.int .i64 0) (.int .i64 0) (.int .i64 0) (.int .i64 0))) := ⟨((b15.out.mono (by omega)).grown (put4_grown w15 g2 _ _ _ _) (by omega) (fun g e => by cases e; omega)).grown (put5_grown _ g3 _ _ _ _ _) (by rw [put4_size]; omega) (fun g e => by cases e; omega)⟩
          clear hg2' hg3'
          go_wp2
          refine bodyPost_ret (v := .tuple #[.agg (Ly.ar4 fun _ => .slice none 0 0), .agg (Ly.at5 fun _ => 0), .int .i64 e6]) ?_ rfl ⟨fun _ => .slice none 0 0, fun _ => 0, by rw [hpe.out], fun i hi => ⟨none, 0, 0, rfl, by rw [hoS.out]; exact OwnB.nil _ _⟩, fun i hi => by rw [hoA.out], ?_⟩
          · exact results_cell2_row (fn := Tryd.f73) (a := 2) (b := 3) (u := 4) (T1 := 65) (T2 := 67) rfl _ _ g2 g3 _ _ _ _ _ _ _ _ rfl rfl hrs.out hre.out Tryd.underlying65 rfl (by kernel_rfl) Tryd.underlying67 rfl (by kernel_rfl)
          · rw [E2.out]; exact B4.out.trans hrb.out
        · skip
          have Vd : Kept (∀ W, Below g2 W4 W → RdB W g2 (A.map (·.add a5)) (n - a5) (c - a5) (l.drop a5)) := ⟨fun W h => Vd0.out W h a5 (by omega) hcn⟩
          have i1 : (a5 : Int) ≤ (n : Int) := by omega
          have i2 : (a5 : Int) < (c : Int) := by omega
          have i3 : (a5 : Int) ≤ (c : Int) := by omega
          have he9 : Kept (e6 = if e6 = 0 then Ly.lit (l.drop a5) (⟨#[75, 66, 83, 84]⟩ : ByteArray).data.toList else e6) := ⟨by rw [if_neg he6n]⟩
          have hT2 : Kept ((Wr.take l a5 e6 ((min ((l.drop a5) : List UInt8).length Ly.tail.length : Nat) : Int)).2 = (a5, e6)) := ⟨by unfold Wr.take; rw [if_pos he6n]⟩
          clear hlen he6' hDC he6n
          go_upto_region 20 with (first
            | (go_at_call 69; refine HC'.out.mono ?_; rintro r w9 ⟨A4, n4, c4, rfl, ho4, hb4⟩; have ar9 := Kept.mk ((hb4.block g6 (by omega)).trans ar8.out); have s9 := Kept.mk ((hb4.block g5 (by omega)).trans s8.out); have f9 := Kept.mk (f8.out.below hb4); have b9 := Kept.mk (b8.out.trans (hb4.mono (by omega))); have z9 := Nat.le_trans z8 hb4.size; have r9 := Kept.mk (r8.out.below hb4 (by omega)); have q9 := Kept.mk (OwnB.keep o8.out hb4).rd; have t9 := Kept.mk ho4.rd; clear ho4 hb4 k0 k1 k2 k3 k4)
            | (go_at_call 19; refine (equal_is _ _ _ _ _ _ D C false w9 _ _ q9.out t9.out hE.out).mono ?_; rintro r w10 ⟨rfl, rfl⟩; clear q9 t9)
            | (go_at_call 33; refine (fail_any p a5 l e5 13 w9 r9.out).mono ?_; rintro r w10 ⟨rfl, hr10, hg10⟩; rw [he6.out] at hr10; have ar10 := Kept.mk ((hg10.block g6 (by omega) (fun e => hn6 (Option.some.inj e))).trans ar9.out); have s10 := Kept.mk ((hg10.block g5 (by omega) (fun e => hn5 (Option.some.inj e))).trans s9.out); have f10 := Kept.mk (f9.out.grown hg10 hpB); have b10 := Kept.mk (b9.out.grown hg10 (by omega) (fun g e => by cases e; omega)); have z10 := Nat.le_trans z9 hg10.size; have r10 := Kept.mk hr10; clear hr10 hg10 r9 ar9 s9 f9 b9)
            | (go_at_call 35; refine (take_any p a5 l e6 4 w10 r10.out (by omega) (by omega)).mono ?_; rintro r w11 ⟨A11, n11, c11, rfl, ho11, hr11, hg11⟩; rw [hTK.out] at ho11 hr11; have hn11 := ho11.len; simp only at hr11; have ar11 := Kept.mk ((hg11.block g6 (by omega) (fun e => hn6 (Option.some.inj e))).trans ar10.out); have s11 := Kept.mk ((hg11.block g5 (by omega) (fun e => hn5 (Option.some.inj e))).trans s10.out); have f11 := Kept.mk (f10.out.grown hg11 hpB); have b11 := Kept.mk (b10.out.grown hg11 (by omega) (fun g e => by cases e; omega)); have z11 := Nat.le_trans z10 hg11.size; have r11 := Kept.mk hr11; obtain rfl : n11 = 0 := (by rw [hn11]; exact hTn.out); clear ho11 hr11 hg11 hn11 r10 ar10 s10 f10 b10)
            | (go_at_call 26; refine (at_any p a5 l e6 w11 r11.out).mono ?_; rintro r w12 ⟨rfl, rfl⟩)
            | (go_at_call 78; refine (literal_any p a5 l e6 _ (n - a5) (c - a5) g2 (l.drop a5) ⟨#[75, 66, 83, 84]⟩ w11 e6 he9.out r11.out (Vd.out _ (b11.out.mono (by omega))) (by decide)).mono ?_; rintro r w15 ⟨rfl, hr15, hg15⟩; have hr15' : Rdr w15 p l (Wr.take l a5 e6 ((min (l.drop a5).length Ly.tail.length : Nat) : Int)).2.1 (Wr.take l a5 e6 ((min (l.drop a5).length Ly.tail.length : Nat) : Int)).2.2 := hr15; rw [hT2.out] at hr15'; simp only at hr15'; have ar15 := Kept.mk ((hg15.block g6 (by omega) (fun e => hn6 (Option.some.inj e))).trans ar11.out); have s15 := Kept.mk ((hg15.block g5 (by omega) (fun e => hn5 (Option.some.inj e))).trans s11.out); have f15 := Kept.mk (f11.out.grown hg15 hpB); have b15 := Kept.mk (b11.out.grown hg15 (by omega) (fun g e => by cases e; omega)); have z15 := Nat.le_trans z11 hg15.size; have r15 := Kept.mk hr15'; clear hr15 hr15' hg15 r11 ar11 s11 f11 b11)
            | (go_at_call 29; refine (end_any p a5 l e6 w15 r15.out).mono ?_; rintro r w16 ⟨rfl, rfl⟩; rw [hFin.out]))
          have hg2' := (b15.out.block g2 (by omega)).trans G2.out
          have hg3' := (b15.out.block g3 (by omega)).trans G3.out
          have x0 := fun k => frozen_of_row w15 g2 k _ _ hg2'
          have x1 := fun k => frozen_of_row w15 g3 k _ _ hg3'
          have y0 := (cell_of_row w15 g2 0 _ _ _ hg2').trans (Ly.ar4_get _ 0 (by omega))
          have y1 := (cell_of_row w15 g2 1 _ _ _ hg2').trans (Ly.ar4_get _ 1 (by omega))
          have y2 := (cell_of_row w15 g2 2 _ _ _ hg2').trans (Ly.ar4_get _ 2 (by omega))
          have y3 := (cell_of_row w15 g2 3 _ _ _ hg2').trans (Ly.ar4_get _ 3 (by omega))
          have u0 := (cell_of_row w15 g3 0 _ _ _ hg3').trans (Ly.at5_get _ 0 (by omega))
          have u1 := (cell_of_row w15 g3 1 _ _ _ hg3').trans (Ly.at5_get _ 1 (by omega))
          have u2 := (cell_of_row w15 g3 2 _ _ _ hg3').trans (Ly.at5_get _ 2 (by omega))
          have u3 := (cell_of_row w15 g3 3 _ _ _ hg3').trans (Ly.at5_get _ 3 (by omega))
          have u4 := (cell_of_row w15 g3 4 _ _ _ hg3').trans (Ly.at5_get _ 4 (by omega))
          have hoS : Kept (∀ i, Ly.outS l i = []) := ⟨fun i => by unfold Ly.outS; rw [hpe.out, if_neg hnz.out]⟩
          have hoA : Kept (∀ i, Ly.outA l i = 0) := ⟨fun i => by unfold Ly.outA; rw [hpe.out, if_neg hnz.out]⟩
          have hre := Kept.mk (put5_row (put4 w15 g2 (.slice none 0 0) (.slice none 0 0) (.slice none 0 0) (.slice none 0 0)) g3 (.int .i64 0) (.int .i64 0) (.int .i64 0) (.int .i64 0) (.int .i64 0) (((put4_grown w15 g2 _ _ _ _).block g3 (by omega) (fun e => by have := Option.some.inj e; omega)).trans hg3') rfl)
          have hrs := Kept.mk (((put5_grown (put4 w15 g2 (.slice none 0 0) (.slice none 0 0) (.slice none 0 0) (.slice none 0 0)) g3 (.int .i64 0) (.int .i64 0) (.int .i64 0) (.int .i64 0) (.int .i64 0)).block g2 (by rw [put4_size]; omega) (fun e => by have := Option.some.inj e; omega)).trans (put4_row w15 g2 (.slice none 0 0) (.slice none 0 0) (.slice none 0 0) (.slice none 0 0) hg2' rfl))
          have hrb : Kept (Below g2 W4 (put5 (put4 w15 g2 (.slice none 0 0) (.slice none 0 0) (.slice none 0 0) (.slice none 0 0)) g3 (.int .i64 0) (.int .i64 0) (.int .i64 0) (.int .i64 0) (.int .i64 0))) := ⟨((b15.out.mono (by omega)).grown (put4_grown w15 g2 _ _ _ _) (by omega) (fun g e => by cases e; omega)).grown (put5_grown _ g3 _ _ _ _ _) (by rw [put4_size]; omega) (fun g e => by cases e; omega)⟩
          clear hg2' hg3'
          go_wp2
          refine bodyPost_ret (v := .tuple #[.agg (Ly.ar4 fun _ => .slice none 0 0), .agg (Ly.at5 fun _ => 0), .int .i64 e6]) ?_ rfl ⟨fun _ => .slice none 0 0, fun _ => 0, by rw [hpe.out], fun i hi => ⟨none, 0, 0, rfl, by rw [hoS.out]; exact OwnB.nil _ _⟩, fun i hi => by rw [hoA.out], ?_⟩
          · exact results_cell2_row (fn := Tryd.f73) (a := 2) (b := 3) (u := 4) (T1 := 65) (T2 := 67) rfl _ _ g2 g3 _ _ _ _ _ _ _ _ rfl rfl hrs.out hre.out Tryd.underlying65 rfl (by kernel_rfl) Tryd.underlying67 rfl (by kernel_rfl)
          · rw [E2.out]; exact B4.out.trans hrb.out
end Go.Proofs.YtknfkbgnfjfpeaaDoor
