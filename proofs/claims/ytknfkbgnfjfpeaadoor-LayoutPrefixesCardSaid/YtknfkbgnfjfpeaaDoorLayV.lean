/- The law LayoutPrefixes. -/
import Derived.Test.YtknfkbgnfjfpeaaDoorLayM
import Derived.Test.YtknfkbgnfjfpeaaDoorLayU
namespace Go.Proofs.YtknfkbgnfjfpeaaDoor
open Go.RowKit Go.Shelf

set_option maxRecDepth 100000 in
set_option maxHeartbeats 16000000 in
theorem law_lprefix (A : Option Addr) (n c : Nat) (l : List UInt8) (cut : Nat) (A2 : Option Addr) (n2 c2 : Nat) (m : List UInt8) (w : World) (hv : RdB w w.heap.size A n c l) (hv2 : RdB w w.heap.size A2 n2 c2 m)
    (hs : c ≤ 140737488351232) (hs2 : c2 ≤ 140737488351232) (hcut : cut < 65536) (ht : Tab w) :
    Calls Tryd.prog 14 #[.slice A n c, .int .u16 (cut : Int), .slice A2 n2 c2] w fun r w' => r = .returned (.bool true) ∧ Below w.heap.size w w' := by
  have hlc := hv.1
  have hlc2 := hv2.1
  have hlen := hv.len
  have V := Kept.mk hv
  have M := Kept.mk hv2
  have T := Kept.mk ht
  clear hv hv2 ht
  by_cases hbig : (10000 : Int) < (n : Int) + (n2 : Int)
  · clear hlen
    go_enter Tryd.func14, Tryd.ntmps14
    go_wp2_with (go_at_call 37; refine (alive16_any _ T.out).mono ?_; rintro e w1 ⟨rfl, hb1⟩)
    go_ret
    exact ⟨rfl, hb1⟩
  have hsm : (n : Int) + (n2 : Int) ≤ 10000 := by omega
  have hnn : n ≤ 10000 := by omega
  clear hbig
  obtain ⟨k, hk0⟩ : ∃ k, k = cut % (n + 1) := ⟨_, rfl⟩
  have hk : k ≤ n := by have := Nat.mod_lt cut (show 0 < n + 1 by omega); omega
  have ek : (cut : Int) % ((n : Int) + 1) = (k : Int) := by rw [hk0]; simp
  have htm : (cut : Int).tmod ((n : Int) + 1) = (k : Int) := by rw [Int.tmod_eq_emod_of_nonneg (by omega)]; exact ek
  have hn1 : (((n : Int) + 1) == 0) = false := by simp; omega
  have hn1' : ¬ (n : Int) + 1 = 0 := by omega
  have hwr : IntKind.i64.wrap ((n : Int) + 1) = (n : Int) + 1 := by rw [IntKind.wrap_i64]; omega
  have hwf : IntKind.i64.wrap (cut : Int) = (cut : Int) := by rw [IntKind.wrap_i64]; omega
  clear hk0
  have X := Kept.mk (V.out.take hk)
  have P1 : Ly.pe l = 0 → k < n → Ly.pe (l.take k) = 3 := fun h h2 => Ly.pe_prefix l k h (by omega)
  have P2 := Ly.pe_app m (l.take k)
  have hct : Ly.cert (l.take k) = if Ly.pe (l.take k) = 3 then 0 else Ly.pe (l.take k) := rfl
  clear hlen
  obtain ⟨f, hf⟩ : ∃ f, Ly.pe l = f := ⟨_, rfl⟩
  obtain ⟨e, he⟩ : ∃ e, Ly.pe (l.take k) = e := ⟨_, rfl⟩
  obtain ⟨d, hd⟩ : ∃ d, Ly.cert (l.take k) = d := ⟨_, rfl⟩
  obtain ⟨g, hg⟩ : ∃ g, Ly.pe (l.take k ++ m) = g := ⟨_, rfl⟩
  rw [hf, he] at P1
  rw [he, hg] at P2
  rw [hd, he] at hct
  have HF := Kept.mk hf
  have HE := Kept.mk he
  have HD := Kept.mk hd
  have HG := Kept.mk hg
  have hcase : (e = 3 ∧ d = 0 ∧ f = 0 ∧ (k : Int) < (n : Int)) ∨ (e = 3 ∧ d = 0 ∧ f = 0 ∧ (n : Int) ≤ (k : Int)) ∨ (e = 3 ∧ d = 0 ∧ ¬ f = 0) ∨ (e = 0 ∧ d = 0 ∧ f = 0 ∧ (n : Int) ≤ (k : Int)) ∨ (e = 0 ∧ d = 0 ∧ ¬ f = 0) ∨
      ((d = e ∧ g = e) ∧ ((e == 0) = false ∧ (e == 3) = false) ∧ f = 0 ∧ (n : Int) ≤ (k : Int)) ∨ ((d = e ∧ g = e) ∧ ((e == 0) = false ∧ (e == 3) = false) ∧ ¬ f = 0) := by
    by_cases h3 : e = 3
    · rw [if_pos h3] at hct
      by_cases hf0 : f = 0
      · by_cases hkn : (k : Int) < (n : Int)
        · exact .inl ⟨h3, hct, hf0, hkn⟩
        · exact .inr (.inl ⟨h3, hct, hf0, by omega⟩)
      · exact .inr (.inr (.inl ⟨h3, hct, hf0⟩))
    · rw [if_neg h3] at hct
      have hkn : f = 0 → (n : Int) ≤ (k : Int) := fun h => by
        by_cases h2 : k < n
        · exact absurd (P1 h h2) h3
        · omega
      by_cases he0 : e = 0
      · by_cases hf0 : f = 0
        · exact .inr (.inr (.inr (.inl ⟨he0, by omega, hf0, hkn hf0⟩)))
        · exact .inr (.inr (.inr (.inr (.inl ⟨he0, by omega, hf0⟩))))
      · by_cases hf0 : f = 0
        · exact .inr (.inr (.inr (.inr (.inr (.inl ⟨⟨hct, P2 he0 h3⟩, ⟨by simpa using he0, by simpa using h3⟩, hf0, hkn hf0⟩)))))
        · exact .inr (.inr (.inr (.inr (.inr (.inr ⟨⟨hct, P2 he0 h3⟩, ⟨by simpa using he0, by simpa using h3⟩, hf0⟩)))))
  clear P1 P2 hct hf he hd hg
  rcases hcase with ⟨rfl, rfl, rfl, hkn⟩ | ⟨rfl, rfl, rfl, hkn⟩ | ⟨rfl, rfl, hf0⟩ | ⟨rfl, rfl, rfl, hkn⟩ | ⟨rfl, rfl, hf0⟩ | ⟨⟨rfl, rfl⟩, ⟨he0, he3⟩, rfl, hkn⟩ | ⟨⟨rfl, rfl⟩, ⟨he0, he3⟩, hf0⟩
  all_goals
    go_enter Tryd.func14, Tryd.ntmps14
    go_upto_region 5 with (go_at_call 40; refine (refParse_any A n c l w V.out (by omega)).mono ?_; rintro r w3 ⟨U, Mm, rfl, hf, hm, hb⟩; obtain ⟨Ba, ma, da, Bb, mb, db, Bc, mc, dc, Bd, md, dd, hU⟩ := hf.lit; rw [hU, HF.out]; unfold Ly.at5; have b3 := Kept.mk hb; clear hf hm hb hU)
    have B3 := Kept.mk ((b3.out.alloc b3.out.size (.cells #[.slice Ba ma da, .slice Bb mb db, .slice Bc mc dc, .slice Bd md dd] 62)).alloc (by have := b3.out.size; simp; omega) (.cells #[.int .i64 (Mm 0 : Int), .int .i64 (Mm 1 : Int), .int .i64 (Mm 2 : Int), .int .i64 (Mm 3 : Int), .int .i64 (Mm 4 : Int)] 67))
    clear b3
    generalize (w3.alloc (.cells #[.slice Ba ma da, .slice Bb mb db, .slice Bc mc dc, .slice Bd md dd] 62)).alloc (.cells #[.int .i64 (Mm 0 : Int), .int .i64 (Mm 1 : Int), .int .i64 (Mm 2 : Int), .int .i64 (Mm 3 : Int), .int .i64 (Mm 4 : Int)] 67) = W3 at *
    have X3 := Kept.mk ((X.out.below B3.out).more (B' := W3.heap.size) B3.out.size)
    go_upto_region 6 with (go_at_call 42; refine (lParse_any A k c (l.take k) W3 X3.out (by omega) (T.out.below B3.out)).mono ?_; rintro r w4 ⟨S, rfl, hf, hb⟩; obtain ⟨Aa, na, ca, Ab, nb, cb, Ac, nc, cc, Ad, nd, cd, hS⟩ := hf.lit; rw [hS, HE.out]; have b4 := Kept.mk hb; clear hf hb hS)
    have B4 := Kept.mk (bl_next B3.out (b4.out.alloc b4.out.size (.cells #[.slice Aa na ca, .slice Ab nb cb, .slice Ac nc cc, .slice Ad nd cd] 65)))
    clear b4
    generalize w4.alloc (.cells #[.slice Aa na ca, .slice Ab nb cb, .slice Ac nc cc, .slice Ad nd cd] 65) = W4 at *
    have X4 := Kept.mk ((X.out.below B4.out).more (B' := W4.heap.size) B4.out.size)
    clear B3 X3
    go_upto_region 9 with (go_at_call 44; refine (lCertain_any A k c (l.take k) W4 X4.out (by omega) (T.out.below B4.out)).mono ?_; rintro r w5 ⟨rfl, hb⟩; rw [HD.out]; have B5 := Kept.mk (bl_next B4.out hb); clear hb)
    have X5 := Kept.mk (X.out.below B5.out)
    have M5 := Kept.mk ((M.out.below B5.out).more (B' := w5.heap.size) B5.out.size)
    have hz5 := B5.out.size
    clear B4 X4
    go_upto_region 12 with (first
      | (go_at_call 17; refine (clone_any A k c w.heap.size (l.take k) w5 X5.out hz5 (by omega)).mono ?_; rintro r w6 ⟨A6, c6, rfl, ho6, hb6⟩; have o6 := Kept.mk ho6; have b6 := Kept.mk hb6; have M6 := Kept.mk (M5.out.below hb6); have hz6 := hb6.size; clear ho6 hb6)
      | (at_builtin; refine wpList_appB rfl (.tmp 71) (.tmp 72) rfl w5.heap.size A6 k c6 (l.take k) rfl o6.out w5.heap.size A2 n2 c2 m rfl M6.out (by omega) hz6 ?_; intro A7 c7 w7 hown7 hgrow7 hat7; have o7 := Kept.mk hown7; have b7 := Kept.mk (b6.out.trans (own_grown_below o6.out hz6 hgrow7)); clear hown7 hgrow7 hat7)
      | (go_at_call 42; refine (lParse_any A7 (k + n2) c7 (l.take k ++ m) w7 o7.out.rd (by omega) (T.out.below (bl_next B5.out b7.out))).mono ?_; rintro r w8 ⟨S8, rfl, hf, hb⟩; obtain ⟨Ea, pa, qa, Eb, pb, qb, Ec, pc, qc, Ed, pd, qd, hS⟩ := hf.lit; rw [hS, HG.out]; have b8 := Kept.mk (bl_next (bl_next B5.out b7.out) hb); clear hf hb hS))
    have B8 := Kept.mk (b8.out.alloc (by have := b8.out.size; omega) (.cells #[.slice Ea pa qa, .slice Eb pb qb, .slice Ec pc qc, .slice Ed pd qd] 65))
    clear b8
    generalize w8.alloc (.cells #[.slice Ea pa qa, .slice Eb pb qb, .slice Ec pc qc, .slice Ed pd qd] 65) = W8 at *
    go_wp2_with (first
      | (go_at_call 37; refine (alive16_any _ (T.out.below B8.out)).mono ?_; rintro r w9 ⟨rfl, hb9⟩; have B9 := Kept.mk (bl_next B8.out hb9); clear hb9))
    go_ret
    exact ⟨rfl, B9.out⟩
end Go.Proofs.YtknfkbgnfjfpeaaDoor
