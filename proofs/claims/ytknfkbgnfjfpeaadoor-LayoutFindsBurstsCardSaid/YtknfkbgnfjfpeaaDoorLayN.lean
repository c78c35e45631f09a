/- The law LayoutParses. -/
import Derived.Test.YtknfkbgnfjfpeaaDoorLayM
namespace Go.Proofs.YtknfkbgnfjfpeaaDoor
open Go.RowKit Go.Shelf

theorem cells_keep {w w' : World} {g B : Nat} {X : Array Value} (h : ∀ k, w.cell? ⟨g, k, none⟩ = X[k]?) (hb : Below B w w') (hg : g < B) : ∀ k, w'.cell? ⟨g, k, none⟩ = X[k]? := fun k => (hb.cell (p := ⟨g, k, none⟩) hg).trans (h k)
theorem cells_old {w : World} {g : Nat} {X : Array Value} (h : ∀ k, w.cell? ⟨g, k, none⟩ = X[k]?) (hg : g < w.heap.size) (o : Obj) : ∀ k, (w.alloc o).cell? ⟨g, k, none⟩ = X[k]? := fun k => (World.cell?_alloc_lt w o ⟨g, k, none⟩ hg).trans (h k)
theorem cells_new (w : World) (X : Array Value) (t : TypeId) : ∀ k, (w.alloc (.cells X t)).cell? ⟨w.heap.size, k, none⟩ = X[k]? := fun k => World.cell?_alloc_mark w X t (0, 0) k
theorem Ly.at5_lit (l : List UInt8) (M : Nat → Nat) (h : ∀ i, i < 5 → M i = Ly.outA l i) : Ly.at5 M = #[.int .i64 (Ly.outA l 0 : Int), .int .i64 (Ly.outA l 1 : Int), .int .i64 (Ly.outA l 2 : Int), .int .i64 (Ly.outA l 3 : Int), .int .i64 (Ly.outA l 4 : Int)] := by
  unfold Ly.at5
  rw [h 0 (by omega), h 1 (by omega), h 2 (by omega), h 3 (by omega), h 4 (by omega)]
set_option maxRecDepth 100000 in
set_option maxHeartbeats 8000000 in
theorem law_lparses (A : Option Addr) (n c : Nat) (l : List UInt8) (w : World) (hv : RdB w w.heap.size A n c l) (ht : Tab w) :
    Calls Tryd.prog 10 #[.slice A n c] w fun r w' => r = .returned (.bool true) ∧ Below w.heap.size w w' := by
  have hlc := hv.1
  have hcm := hv.2.1
  unfold maxLen at hcm
  have V := Kept.mk hv
  have T := Kept.mk ht
  clear hv ht
  by_cases hbig : (10000 : Int) < (n : Int)
  · go_enter Tryd.func10, Tryd.ntmps10
    go_wp2_with (go_at_call 37; refine (alive16_any _ T.out).mono ?_; rintro e w1 ⟨rfl, hb1⟩)
    go_ret
    exact ⟨rfl, hb1⟩
  have hsm : (n : Int) ≤ 10000 := by omega
  clear hbig
  have hat := Kept.mk (Ly.at5_lit l)
  have heq := fun W => eq5 (Ly.outA l 0 : Int) (Ly.outA l 1 : Int) (Ly.outA l 2 : Int) (Ly.outA l 3 : Int) (Ly.outA l 4 : Int) W
  obtain ⟨f, hf0⟩ : ∃ f, Ly.pe l = f := ⟨_, rfl⟩
  have HF := Kept.mk hf0
  clear hf0
  generalize (Ly.outA l 0 : Int) = o0 at *
  generalize (Ly.outA l 1 : Int) = o1 at *
  generalize (Ly.outA l 2 : Int) = o2 at *
  generalize (Ly.outA l 3 : Int) = o3 at *
  generalize (Ly.outA l 4 : Int) = o4 at *
  go_enter Tryd.func10, Tryd.ntmps10
  go_upto_region 4 with (go_at_call 42; refine (lParse_any A n c l w V.out (by omega) T.out).mono ?_; rintro r w2 ⟨S, rfl, hf, hb⟩; obtain ⟨Aa, na, ca, Ab, nb, cb, Ac, nc, cc, Ad, nd, cd, hS⟩ := hf.lit; rw [hS, HF.out]; have f2 := Kept.mk hf; have b2 := Kept.mk hb; have HS := Kept.mk hS; clear hf hb hS)
  have F2 := Kept.mk (f2.out.below ((Below.refl _ w2).alloc (Nat.le_refl _) (.cells #[.slice Aa na ca, .slice Ab nb cb, .slice Ac nc cc, .slice Ad nd cd] 65)))
  have B2 := Kept.mk (b2.out.alloc b2.out.size (.cells #[.slice Aa na ca, .slice Ab nb cb, .slice Ac nc cc, .slice Ad nd cd] 65))
  have C2 := Kept.mk (cells_new w2 #[.slice Aa na ca, .slice Ab nb cb, .slice Ac nc cc, .slice Ad nd cd] 65)
  have z2 : w2.heap.size < (w2.alloc (.cells #[.slice Aa na ca, .slice Ab nb cb, .slice Ac nc cc, .slice Ad nd cd] 65)).heap.size := by simp
  clear f2 b2
  generalize w2.alloc (.cells #[.slice Aa na ca, .slice Ab nb cb, .slice Ac nc cc, .slice Ad nd cd] 65) = W2 at *
  generalize w2.heap.size = gs at *
  have V2 := Kept.mk ((V.out.below B2.out).more (B' := W2.heap.size) B2.out.size)
  go_upto_region 5 with (go_at_call 40; refine (refParse_any A n c l W2 V2.out (by omega)).mono ?_; rintro r w3 ⟨U, M, rfl, hf, hm, hb⟩; obtain ⟨Ba, ma, da, Bb, mb, db, Bc, mc, dc, Bd, md, dd, hU⟩ := hf.lit; rw [hU, hat.out M hm, HF.out]; have f3 := Kept.mk hf; have b3 := Kept.mk hb; have HU := Kept.mk hU; clear hf hm hb hU)
  have F3 := Kept.mk ((f3.out.below ((Below.refl _ w3).alloc (Nat.le_refl _) (.cells #[.slice Ba ma da, .slice Bb mb db, .slice Bc mc dc, .slice Bd md dd] 62))).below ((Below.refl _ _).alloc (Nat.le_refl _) (.cells #[.int .i64 o0, .int .i64 o1, .int .i64 o2, .int .i64 o3, .int .i64 o4] 67)))
  have B3 := Kept.mk ((b3.out.alloc b3.out.size (.cells #[.slice Ba ma da, .slice Bb mb db, .slice Bc mc dc, .slice Bd md dd] 62)).alloc (by have := b3.out.size; simp; omega) (.cells #[.int .i64 o0, .int .i64 o1, .int .i64 o2, .int .i64 o3, .int .i64 o4] 67))
  have C3 := Kept.mk (cells_old (cells_new w3 #[.slice Ba ma da, .slice Bb mb db, .slice Bc mc dc, .slice Bd md dd] 62) (by simp) (.cells #[.int .i64 o0, .int .i64 o1, .int .i64 o2, .int .i64 o3, .int .i64 o4] 67))
  have D3 := cells_new (w3.alloc (.cells #[.slice Ba ma da, .slice Bb mb db, .slice Bc mc dc, .slice Bd md dd] 62)) #[.int .i64 o0, .int .i64 o1, .int .i64 o2, .int .i64 o3, .int .i64 o4] 67
  rw [World.size_alloc] at D3
  have DD3 := Kept.mk D3
  clear D3
  have z3 : w3.heap.size + 1 < ((w3.alloc (.cells #[.slice Ba ma da, .slice Bb mb db, .slice Bc mc dc, .slice Bd md dd] 62)).alloc (.cells #[.int .i64 o0, .int .i64 o1, .int .i64 o2, .int .i64 o3, .int .i64 o4] 67)).heap.size := by simp
  clear f3 b3
  generalize (w3.alloc (.cells #[.slice Ba ma da, .slice Bb mb db, .slice Bc mc dc, .slice Bd md dd] 62)).alloc (.cells #[.int .i64 o0, .int .i64 o1, .int .i64 o2, .int .i64 o3, .int .i64 o4] 67) = W3 at *
  generalize w3.heap.size = gt at *
  have zz3 := B3.out.size
  have CC3 := Kept.mk (cells_keep C2.out B3.out z2)
  have FF3 := Kept.mk (F2.out.below B3.out)
  have BB3 := Kept.mk (bl_next B2.out B3.out)
  have V3 := Kept.mk ((V2.out.below B3.out).more (B' := W3.heap.size) zz3)
  clear F2 C2 B2 V2
  go_upto_region 6 with (go_at_call 41; refine (lOffsets_any A n c l W3 V3.out (by omega) (T.out.below BB3.out)).mono ?_; rintro r w4 ⟨N, rfl, hm, hb⟩; rw [hat.out N hm, HF.out]; have b4 := Kept.mk hb; clear hm hb)
  have B4 := Kept.mk (b4.out.alloc b4.out.size (.cells #[.int .i64 o0, .int .i64 o1, .int .i64 o2, .int .i64 o3, .int .i64 o4] 67))
  have C4 := Kept.mk (cells_new w4 #[.int .i64 o0, .int .i64 o1, .int .i64 o2, .int .i64 o3, .int .i64 o4] 67)
  have z4 : w4.heap.size < (w4.alloc (.cells #[.int .i64 o0, .int .i64 o1, .int .i64 o2, .int .i64 o3, .int .i64 o4] 67)).heap.size := by simp
  clear b4
  generalize w4.alloc (.cells #[.int .i64 o0, .int .i64 o1, .int .i64 o2, .int .i64 o3, .int .i64 o4] 67) = W4 at *
  generalize w4.heap.size = gg at *
  have zz4 := B4.out.size
  have S4 := Kept.mk (cells_keep CC3.out B4.out (by omega))
  have T4 := Kept.mk (cells_keep C3.out B4.out (by omega))
  have A4 := Kept.mk (cells_keep DD3.out B4.out (by omega))
  have FS4 := Kept.mk (FF3.out.below B4.out)
  have FT4 := Kept.mk (F3.out.below B4.out)
  have BB4 := Kept.mk (bl_next BB3.out B4.out)
  have V4 := Kept.mk ((V3.out.below B4.out).more (B' := W4.heap.size) zz4)
  clear CC3 C3 DD3 FF3 F3 BB3 V3 B3 B4
  obtain ⟨ct, hct⟩ : ∃ ct, Ly.cert l = ct := ⟨_, rfl⟩
  have HC := Kept.mk hct
  clear hct
  go_wp2_with (first
    | (go_at_call 37; refine (alive16_any _ (T.out.below BB4.out)).mono ?_; rintro e w5 ⟨rfl, hb5⟩;
        have x0 : w5.cell? ⟨gs, 0, none⟩ = some (.slice Aa na ca) := cells_keep S4.out hb5 (by omega) 0;
        have x1 : w5.cell? ⟨gs, 1, none⟩ = some (.slice Ab nb cb) := cells_keep S4.out hb5 (by omega) 1;
        have x2 : w5.cell? ⟨gs, 2, none⟩ = some (.slice Ac nc cc) := cells_keep S4.out hb5 (by omega) 2;
        have x3 : w5.cell? ⟨gs, 3, none⟩ = some (.slice Ad nd cd) := cells_keep S4.out hb5 (by omega) 3;
        have y0 : w5.cell? ⟨gt, 0, none⟩ = some (.slice Ba ma da) := cells_keep T4.out hb5 (by omega) 0;
        have y1 : w5.cell? ⟨gt, 1, none⟩ = some (.slice Bb mb db) := cells_keep T4.out hb5 (by omega) 1;
        have y2 : w5.cell? ⟨gt, 2, none⟩ = some (.slice Bc mc dc) := cells_keep T4.out hb5 (by omega) 2;
        have y3 : w5.cell? ⟨gt, 3, none⟩ = some (.slice Bd md dd) := cells_keep T4.out hb5 (by omega) 3;
        have a5 := Kept.mk (cells_keep A4.out hb5 (by omega)); have c5 := Kept.mk (cells_keep C4.out hb5 (by omega)); have zz5 := hb5.size;
        have HSame := same_true S U (Ly.outS l) (Ly.outS l) w5 (FS4.out.below hb5).four (FT4.out.below hb5).four (fun _ _ => rfl);
        rw [HS.out, HU.out] at HSame; have HSame' := Kept.mk HSame; have B5 := Kept.mk (bl_next BB4.out hb5); have V5 := Kept.mk ((V4.out.below hb5).more (B' := w5.heap.size) zz5); clear hb5 HSame)
    | (go_at_call 43; refine HSame'.out.mono ?_; rintro e w6 ⟨rfl, hb6⟩;
        have u0 : w6.cell? ⟨gt + 1, 0, none⟩ = some (.int .i64 o0) := cells_keep a5.out hb6 (by omega) 0;
        have u1 : w6.cell? ⟨gt + 1, 1, none⟩ = some (.int .i64 o1) := cells_keep a5.out hb6 (by omega) 1;
        have u2 : w6.cell? ⟨gt + 1, 2, none⟩ = some (.int .i64 o2) := cells_keep a5.out hb6 (by omega) 2;
        have u3 : w6.cell? ⟨gt + 1, 3, none⟩ = some (.int .i64 o3) := cells_keep a5.out hb6 (by omega) 3;
        have u4 : w6.cell? ⟨gt + 1, 4, none⟩ = some (.int .i64 o4) := cells_keep a5.out hb6 (by omega) 4;
        have v0 : w6.cell? ⟨gg, 0, none⟩ = some (.int .i64 o0) := cells_keep c5.out hb6 (by omega) 0;
        have v1 : w6.cell? ⟨gg, 1, none⟩ = some (.int .i64 o1) := cells_keep c5.out hb6 (by omega) 1;
        have v2 : w6.cell? ⟨gg, 2, none⟩ = some (.int .i64 o2) := cells_keep c5.out hb6 (by omega) 2;
        have v3 : w6.cell? ⟨gg, 3, none⟩ = some (.int .i64 o3) := cells_keep c5.out hb6 (by omega) 3;
        have v4 : w6.cell? ⟨gg, 4, none⟩ = some (.int .i64 o4) := cells_keep c5.out hb6 (by omega) 4;
        have B6 := Kept.mk (bl_next B5.out hb6); have V6 := Kept.mk ((V5.out.below hb6).more (B' := w6.heap.size) hb6.size); clear hb6 x0 x1 x2 x3 y0 y1 y2 y3)
    | (go_at_call 44; refine (lCertain_any A n c l w6 V6.out (by omega) (T.out.below B6.out)).mono ?_; rintro e w7 ⟨rfl, hb7⟩; rw [HC.out]; have B7 := Kept.mk (bl_next B6.out hb7); have V7 := Kept.mk ((V6.out.below hb7).more (B' := w7.heap.size) hb7.size); clear hb7)
    | (go_at_call 45; refine (refCertain_any A n c l w7 V7.out (by omega)).mono ?_; rintro e w8 ⟨rfl, hb8⟩; rw [HC.out]; have B8 := Kept.mk (bl_next B7.out hb8); clear hb8))
  go_ret
  exact ⟨rfl, B8.out⟩
end Go.Proofs.YtknfkbgnfjfpeaaDoor
