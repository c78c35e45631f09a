/- Chapter 16: the law's alive. -/
import Derived.Test.YtknfkbgnfjfpeaaDoorLayM0
namespace Go.Proofs.YtknfkbgnfjfpeaaDoor
open Go.RowKit Go.Shelf

namespace Ly
def D0 : Nat → List UInt8 := fun _ => []
theorem frame0 (id : UInt8) : (Wr.frame id []).length = 6 := by
  rw [Wr.frame_len_eq, show ([] : List UInt8).length = 0 from rfl, Vi.enc_lt (by omega)]; rfl
theorem off0 (k : Nat) : off D0 k = 5 + 6 * k := by
  induction k with
  | zero => simp [off, pre, head]
  | succ k ih =>
    unfold off at ih ⊢
    rw [pre_succ, List.length_append, ih, show D0 k = [] from rfl, frame0]
    omega
theorem con0 : (con (off D0) 4).length = 4 := by
  have h : ∀ k, k ≤ 4 → (con (off D0) k).length = k := fun k => by
    induction k with
    | zero => intro _; rfl
    | succ k ih =>
      intro hk
      rw [con_succ, List.length_append, ih (by omega), Vi.enc_lt (by rw [off0]; omega)]
      rfl
  exact h 4 (by omega)
theorem len0 : (asm D0).length = 47 := by
  rw [asm_len]
  unfold body
  rw [List.length_append, Wr.frame_len_eq, con0, Vi.enc_lt (by omega)]
  have h := off0 4
  unfold off at h
  rw [h]
  rfl
theorem hD0 : tot D0 4 ≤ 140737488352000 := by simp [tot, D0]
theorem certx : cert [120] = 10 := by
  have h0 : lit [120] head = 10 := by decide
  have h1 : pe [120] = 10 := by
    unfold pe
    rw [S_err _ (by rw [h0]; simp) 5, h0, if_pos (by simp)]
  unfold cert
  rw [h1, if_neg (by simp)]
end Ly
set_option maxRecDepth 100000 in
set_option maxHeartbeats 4000000 in
theorem alive16_any (w : World) (ht : Tab w) : Calls Tryd.prog 37 #[] w fun r w' => r = .returned (.bool true) ∧ Below w.heap.size w w' := by
  have HA := Kept.mk (assemble_any (fun _ => .slice none 0 0) Ly.D0 w (fun i hi => ⟨none, 0, 0, rfl, Rd.nil _ _ 1 0 none (by unfold maxLen; omega)⟩) Ly.hD0 ht)
  have HT := Kept.mk ht
  have hlen := Kept.mk Ly.len0
  have hp0 := Kept.mk (Ly.pe_asm Ly.D0 Ly.hD0)
  have hA0 : Kept (∀ M : Nat → Nat, (∀ i, i < 5 → M i = Ly.outA (Ly.asm Ly.D0) i) → Ly.at5 M = #[.int .i64 5, .int .i64 11, .int .i64 17, .int .i64 23, .int .i64 29]) := ⟨fun M h => by
    unfold Ly.at5
    rw [h 0 (by omega), h 1 (by omega), h 2 (by omega), h 3 (by omega), h 4 (by omega), Ly.outA_asm _ Ly.hD0 0 (by omega), Ly.outA_asm _ Ly.hD0 1 (by omega), Ly.outA_asm _ Ly.hD0 2 (by omega), Ly.outA_asm _ Ly.hD0 3 (by omega), Ly.outA_asm _ Ly.hD0 4 (by omega),
      Ly.off0, Ly.off0, Ly.off0, Ly.off0, Ly.off0]
    rfl⟩
  have hS0 : Kept (Ly.outS (Ly.asm Ly.D0) 0 = []) := ⟨by rw [Ly.outS_asm _ Ly.hD0 0 (by omega)]; rfl⟩
  have hcx := Kept.mk Ly.certx
  have kc := fun (w : World) (C : Array Value) (n c : Nat) => run_bytes_lit w C n c
  clear ht
  generalize Ly.asm Ly.D0 = l at *
  go_enter Tryd.func37, Tryd.ntmps37
  go_upto_region 4 with (first
    | (go_at_call 38; refine HA.out.mono ?_; rintro r w1 ⟨A1, n1, c1, rfl, ho1, hb1⟩; have o1 := Kept.mk ho1; have b1 := Kept.mk hb1; obtain rfl : n1 = 47 := (by have h1 := ho1.len; have h2 := hlen.out; omega); have z1 := hb1.size; clear ho1 hb1)
    | (go_at_call 41; refine (lOffsets_any A1 47 c1 l w1 o1.out.rd (by omega) (HT.out.below b1.out)).mono ?_; rintro r w2 ⟨M, rfl, hm, hb2⟩; rw [hA0.out M hm, hp0.out]; have b2 := Kept.mk (bl_next b1.out (hb2.alloc hb2.size (.cells #[.int .i64 5, .int .i64 11, .int .i64 17, .int .i64 23, .int .i64 29] 67))); have o2 := Kept.mk (OwnB.keep o1.out (hb2.alloc hb2.size (.cells #[.int .i64 5, .int .i64 11, .int .i64 17, .int .i64 23, .int .i64 29] 67))); have z2 := hb2.size;
        have m2 : Kept (∀ k, (w2.alloc (.cells #[.int .i64 5, .int .i64 11, .int .i64 17, .int .i64 23, .int .i64 29] 67)).cell? ⟨w2.heap.size, k, none⟩ = (#[.int .i64 5, .int .i64 11, .int .i64 17, .int .i64 23, .int .i64 29] : Array Value)[k]?) := ⟨fun k => World.cell?_alloc_mark w2 _ _ _ k⟩; clear hm hb2)
    | (go_at_call 42; refine (lParse_any A1 47 c1 l _ o2.out.rd (by omega) (HT.out.below b2.out)).mono ?_; rintro r w3 ⟨V, rfl, hf, hb3⟩; rw [hp0.out]; obtain ⟨Aa, na, ca, Ab, nb, cb, Ac, nc, cc, Ad, nd, cd, hV⟩ := hf.lit;
        obtain rfl : na = 0 := (by
          obtain ⟨A', n', c', h1, h2⟩ := hf 0 (by omega)
          have h3 : V 0 = .slice Aa na ca := (by have h4 : (Ly.ar4 V)[0]? = some (V 0) := rfl; rw [hV] at h4; exact (Option.some.inj h4).symm)
          rw [h3] at h1
          injection h1 with _ h5 _
          rw [hS0.out] at h2
          rw [h5]
          exact h2.len);
        rw [hV]; have b3 := Kept.mk hb3; clear hf hV hb3))
  have ca0 : ∀ k, w3.cell? ⟨w2.heap.size, k, none⟩ = (#[.int .i64 5, .int .i64 11, .int .i64 17, .int .i64 23, .int .i64 29] : Array Value)[k]? := fun k => (b3.out.cell (p := ⟨w2.heap.size, k, none⟩) (by show w2.heap.size < _; simp)).trans (m2.out k)
  have hz3 : w2.heap.size < w3.heap.size := by have := b3.out.size; simp at this; omega
  have B4 : Kept (Below w.heap.size w (w3.alloc (.cells #[.slice Aa 0 ca, .slice Ab nb cb, .slice Ac nc cc, .slice Ad nd cd] 65))) := ⟨(bl_next b2.out b3.out).alloc (by omega) _⟩
  have ca1 : ∀ k, (w3.alloc (.cells #[.slice Aa 0 ca, .slice Ab nb cb, .slice Ac nc cc, .slice Ad nd cd] 65)).cell? ⟨w2.heap.size, k, none⟩ = (#[.int .i64 5, .int .i64 11, .int .i64 17, .int .i64 23, .int .i64 29] : Array Value)[k]? := fun k => (World.cell?_alloc_lt w3 _ ⟨w2.heap.size, k, none⟩ hz3).trans (ca0 k)
  have cs1 : (w3.alloc (.cells #[.slice Aa 0 ca, .slice Ab nb cb, .slice Ac nc cc, .slice Ad nd cd] 65)).cell? ⟨w3.heap.size, 0, none⟩ = some (.slice Aa 0 ca) := World.cell?_alloc_mark w3 _ _ _ 0
  have hz4 : (w3.alloc (.cells #[.slice Aa 0 ca, .slice Ab nb cb, .slice Ac nc cc, .slice Ad nd cd] 65)).heap.size = w3.heap.size + 1 := by simp
  have y0 := ca1 0
  have y1 := ca1 1
  have y2 := ca1 2
  have y3 := ca1 3
  have y4 := ca1 4
  simp at y0 y1 y2 y3 y4
  clear ca0 ca1 hz4 m2 b3 o2 b2 o1 b1 HA hA0 hS0 hp0 hlen
  generalize w3.alloc (.cells #[.slice Aa 0 ca, .slice Ab nb cb, .slice Ac nc cc, .slice Ad nd cd] 65) = W4 at *
  have hx := Kept.mk ((RdB.litM W4 [120] (1, 2) (by simp)).more (B' := (W4.alloc (.cells #[.int .u8 120] 5 (1, 2))).heap.size) (by simp))
  have B5 := Kept.mk (B4.out.alloc B4.out.size (.cells #[.int .u8 120] 5 (1, 2)))
  have T5 : Kept (Tab (W4.alloc (.cells #[.int .u8 120] 5 (1, 2)))) := ⟨HT.out.below B5.out⟩
  have kc' : (convert 22 22 (.slice (some ⟨W4.heap.size, 0, none⟩) 1 1)).run Tryd.prog (W4.alloc (.cells #[.int .u8 120] 5)) = .ok (.slice (some ⟨W4.heap.size, 0, none⟩) 1 1) (W4.alloc (.cells #[.int .u8 120] 5 (1, 2))) := run_bytes_lit W4 _ 1 1
  clear kc
  have heq := fun W => eq5 5 11 17 23 29 W
  go_wp2_with (go_at_call 44; refine (lCertain_any _ 1 1 [120] (W4.alloc (.cells #[.int .u8 120] 5 (1, 2))) hx.out (by omega) T5.out).mono ?_; rintro r w5 ⟨rfl, hb5⟩; rw [hcx.out]; have B6 := Kept.mk (bl_next B5.out hb5); clear hb5)
  go_ret
  exact ⟨rfl, B6.out⟩
end Go.Proofs.YtknfkbgnfjfpeaaDoor
