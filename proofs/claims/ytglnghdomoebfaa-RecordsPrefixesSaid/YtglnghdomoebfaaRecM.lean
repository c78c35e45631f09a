/- Chapter 13: alive. -/
import Derived.Test.YtglnghdomoebfaaRecJ
import Derived.Test.YtglnghdomoebfaaRecL
namespace Go.Proofs.Ytglnghdomoebfaa
open Go.RowKit Go.Shelf

namespace Rc
def exT : List ByteArray := [sa, sx]
def exR : List RecV := [([⟨sa, sx⟩], [20])]
def exB : List UInt8 := [1, 1, 0, 1, 1, 20]
theorem srt_ex : Sy.Srt exT := by
  unfold exT Sy.Srt
  rw [List.pairwise_cons]
  refine ⟨fun y hy => ?_, List.pairwise_singleton _ _⟩
  rw [List.mem_singleton.1 hy, St.lt, St.tl, St.tl]; rfl
theorem idx_a : Sy.idx exT sa = some 0 := Sy.idx_srt srt_ex (k := 0) (by decide) rfl
theorem idx_x : Sy.idx exT sx = some 1 := Sy.idx_srt srt_ex (k := 1) (by decide) rfl
theorem encB_ex : encB exT exR = exB := by
  unfold encB exR
  rw [List.flatMap_cons, List.flatMap_nil]
  unfold recE
  simp only [strs_ex, List.flatMap_cons, List.flatMap_nil, symE, chE, idx_a, idx_x]
  simp only [List.length_cons, List.length_nil, Option.getD_some, Nat.zero_add, show (20 : Int).toNat = 20 from rfl]
  rw [Vi.enc_lt (by omega : 1 < 128), Vi.enc_lt (by omega : 0 < 128), Vi.enc_lt (by omega : 20 < 128)]
  rfl
theorem err_ex : err exT exR = 0 := by
  unfold exR err
  simp only [strs_ex, symErr, idx_a, idx_x]
  simp [chErr, err]
theorem enc_ex : enc exT exR = (exB, 0) := by rw [enc, if_pos err_ex, encB_ex]
theorem small_ex : ∀ r ∈ exR, r.1.length ≤ 1000000 ∧ r.2.length ≤ 1000000 := fun r hr => by rw [List.mem_singleton.1 hr]; decide
theorem dec_ex : (dec exT exB).2 = 0 ∧ (dec exT exB).1.length = 1 := by decide
end Rc
set_option maxHeartbeats 400000 in
theorem equal_any (A1 A2 : Option Addr) (n1 n2 c1 c2 : Nat) (l1 l2 : List UInt8) (w : World) (B1 B2 : Nat) (h1 : RdB w B1 A1 n1 c1 l1) (h2 : RdB w B2 A2 n2 c2 l2) :
    Calls Try.prog 23 #[.slice A1 n1 c1, .slice A2 n2 c2] w fun e w' => e = .returned (.bool (l1 == l2)) ∧ w = w' := by
  have k1 := run_bytes_str w B1 A1 n1 c1 l1 h1
  have k2 := run_bytes_str w B2 A2 n2 c2 l2 h2
  go_enter Try.func23, Try.ntmps23
  go_wp2
  go_ret
  exact ⟨rfl, rfl⟩
theorem equal_is (A1 A2 : Option Addr) (n1 n2 c1 c2 : Nat) (l1 l2 : List UInt8) (b : Bool) (w : World) (B1 B2 : Nat) (h1 : RdB w B1 A1 n1 c1 l1) (h2 : RdB w B2 A2 n2 c2 l2) (hb : (l1 == l2) = b) :
    Calls Try.prog 23 #[.slice A1 n1 c1, .slice A2 n2 c2] w fun e w' => e = .returned (.bool b) ∧ w = w' := by
  have h := equal_any A1 A2 n1 n2 c1 c2 l1 l2 w B1 B2 h1 h2
  rw [hb] at h; exact h
theorem RdR.one {w : World} {B g : Nat} {A1 A2 : Option Addr} {n1 c1 n2 c2 : Nat} {r : RecV} (hg : w.heap[g]? = some (.cells #[.slice A1 n1 c1, .slice A2 n2 c2] 72 (0, 0))) (hB : g < B) (hL : RdL w B A1 n1 c1 r.1) (hC : RdI w B A2 n2 c2 r.2) :
    RdR w B (some ⟨g, 0, none⟩) 1 1 [r] := by
  refine ⟨[(.slice A1 n1 c1, .slice A2 n2 c2)], ⟨Nat.le_refl _, by unfold maxLen; omega, rfl, fun _ => ⟨g, 0, rfl, hB, fun i u hu => ?_⟩⟩, rfl, fun i h h' => ?_⟩
  · rw [Nat.zero_add, cell_row w g i _ _ _ hg]
    simpa [hflat] using hu
  · have hi : i = 0 := by simpa using h
    subst hi
    exact ⟨A1, n1, c1, A2, n2, c2, rfl, hL, hC⟩
theorem ex_mem0 (w Wa Wb Wc : World) (hWa : Wa = w.alloc (.cells #[.string ⟨#[97]⟩, .string ⟨#[120]⟩] 9)) (hWb : Wb = Wa.alloc (.cells #[.string ⟨#[97]⟩, .string ⟨#[120]⟩] 57)) (hWc : Wc = Wb.alloc (.cells #[.int .i64 20] 3)) :
    let W2 := Wc.alloc (.cells #[.slice (some ⟨w.heap.size + 1, 0, none⟩) 1 1, .slice (some ⟨w.heap.size + 1 + 1, 0, none⟩) 1 1] 72)
    RdS W2 W2.heap.size (some ⟨w.heap.size, 0, none⟩) 2 2 Rc.exT ∧ RdR W2 W2.heap.size (some ⟨w.heap.size + 1 + 1 + 1, 0, none⟩) 1 1 Rc.exR := by
  intro W2
  have za : Wa.heap.size = w.heap.size + 1 := by rw [hWa]; simp
  have zb : Wb.heap.size = w.heap.size + 1 + 1 := by rw [hWb]; simp [za]
  have zc : Wc.heap.size = w.heap.size + 1 + 1 + 1 := by rw [hWc]; simp [zb]
  have z2 : W2.heap.size = w.heap.size + 1 + 1 + 1 + 1 := by show (Wc.alloc _).heap.size = _; simp [zc]
  have r0 : RdS Wa (w.heap.size + 1) (some ⟨w.heap.size, 0, none⟩) 2 2 Rc.exT := by rw [hWa]; exact RdS.lit w Rc.exT (by decide)
  have r1 : RdL Wb (Wa.heap.size + 1) (some ⟨Wa.heap.size, 0, none⟩) 1 1 [⟨Rc.sa, Rc.sx⟩] := by rw [hWb]; exact RdL.one Wa ⟨Rc.sa, Rc.sx⟩
  have r2 : RdI Wc (Wb.heap.size + 1) (some ⟨Wb.heap.size, 0, none⟩) 1 1 [20] := by rw [hWc]; exact RdI.one Wb 20
  have g3 : W2.heap[Wc.heap.size]? = some (.cells #[.slice (some ⟨w.heap.size + 1, 0, none⟩) 1 1, .slice (some ⟨w.heap.size + 1 + 1, 0, none⟩) 1 1] 72 (0, 0)) := heap_alloc_new Wc _
  have hb1 : Below Wa.heap.size Wa Wb := by rw [hWb]; exact (Below.refl _ _).alloc (Nat.le_refl _) _
  have hb2 : Below Wb.heap.size Wb Wc := by rw [hWc]; exact (Below.refl _ _).alloc (Nat.le_refl _) _
  have hb3 : Below Wc.heap.size Wc W2 := (Below.refl _ _).alloc (Nat.le_refl _) _
  rw [za] at r1
  rw [zb] at r2
  rw [zc] at g3
  have r0' : RdS W2 W2.heap.size (some ⟨w.heap.size, 0, none⟩) 2 2 Rc.exT := (((r0.below (hb1.mono (by omega))).below (hb2.mono (by omega))).below (hb3.mono (by omega))).more (by omega)
  have r1' : RdL W2 W2.heap.size (some ⟨w.heap.size + 1, 0, none⟩) 1 1 [⟨Rc.sa, Rc.sx⟩] := ((r1.below (hb2.mono (by omega))).below (hb3.mono (by omega))).more (by omega)
  have r2' : RdI W2 W2.heap.size (some ⟨w.heap.size + 1 + 1, 0, none⟩) 1 1 [20] := (r2.below (hb3.mono (by omega))).more (by omega)
  exact ⟨r0', RdR.one g3 (by omega) r1' r2'⟩
theorem ex_mem (w : World) :
    let W2 := (((w.alloc (.cells #[.string ⟨#[97]⟩, .string ⟨#[120]⟩] 9)).alloc (.cells #[.string ⟨#[97]⟩, .string ⟨#[120]⟩] 57)).alloc (.cells #[.int .i64 20] 3)).alloc (.cells #[.slice (some ⟨w.heap.size + 1, 0, none⟩) 1 1, .slice (some ⟨w.heap.size + 1 + 1, 0, none⟩) 1 1] 72)
    RdS W2 W2.heap.size (some ⟨w.heap.size, 0, none⟩) 2 2 Rc.exT ∧ RdR W2 W2.heap.size (some ⟨w.heap.size + 1 + 1 + 1, 0, none⟩) 1 1 Rc.exR :=
  ex_mem0 w _ _ _ rfl rfl rfl
set_option maxRecDepth 100000 in
set_option maxHeartbeats 4000000 in
theorem alive13_any (w : World) : Calls Try.prog 17 #[] w fun e w' => e = .returned (.bool true) ∧ Below w.heap.size w w' := by
  go_enter Try.func17, Try.ntmps17
  go_upto_region 3 with fail
  obtain ⟨W2, hW⟩ : ∃ W2, W2 = (((w.alloc (.cells #[.string ⟨#[97]⟩, .string ⟨#[120]⟩] 9)).alloc (.cells #[.string ⟨#[97]⟩, .string ⟨#[120]⟩] 57)).alloc (.cells #[.int .i64 20] 3)).alloc (.cells #[.slice (some ⟨w.heap.size + 1, 0, none⟩) 1 1, .slice (some ⟨w.heap.size + 1 + 1, 0, none⟩) 1 1] 72) := ⟨_, rfl⟩
  have hz : W2.heap.size = w.heap.size + 4 := by rw [hW]; simp
  have bW : Kept (Below w.heap.size w W2) := ⟨by rw [hW]; exact ((((Gr.refl w).alloc _).alloc _).alloc _).alloc _ |>.below⟩
  obtain ⟨rT, rV⟩ := ex_mem w
  rw [← hW] at rT rV
  rw [← hW]
  have zW : Kept (w.heap.size + 4 = W2.heap.size) := ⟨hz.symm⟩
  have VT := Kept.mk rT
  have V := Kept.mk rV
  clear hW hz rT rV
  go_wp2_with (first
    | (go_at_call 20; refine (encode_any _ _ 2 2 1 1 Rc.exT Rc.exR W2 VT.out Rc.srt_ex V.out (by omega) (by omega) Rc.small_ex (by rw [Rc.encB_ex]; decide)).mono ?_; rintro r w3 ⟨A3, n3, c3, rfl, ho, hb⟩; rw [Rc.enc_ex] at ho ⊢; have O3 := Kept.mk ho.rd; have B3 := Kept.mk hb; clear ho hb)
    | (go_at_call 24; refine (decode_any _ A3 2 2 n3 c3 Rc.exT Rc.exB w3 ((VT.out.below B3.out).more B3.out.size) O3.out (by have := O3.out.len; rw [this]; decide)).mono ?_; rintro r w4 ⟨A4, n4, c4, rfl, ho, hb⟩; have hn4 : (n4 : Int) = 1 := (by have h1 := ho.len; rw [Rc.dec_ex.2] at h1; omega); rw [Rc.dec_ex.1]; have B4 := Kept.mk (bl_next B3.out hb); have O4 := Kept.mk ((O3.out.below hb).more hb.size); clear ho hb)
    | (go_at_call 23; refine (equal_is _ _ _ _ _ _ Rc.exB Rc.exB true _ _ _ (O4.out.alloc (Nat.le_refl _) _) (RdB.lit w4 Rc.exB (by decide)) (by decide)).mono ?_; rintro r w5 ⟨rfl, hw⟩; have B5 : Kept (Below W2.heap.size W2 w5) := ⟨by rw [← hw]; exact B4.out.alloc B4.out.size _⟩; clear hw O3 O4 B4)
    | (go_at_call 44; refine (unused_ex _ _ 2 1 w5 ((VT.out.below B5.out).more B5.out.size) ((V.out.below B5.out).more B5.out.size)).mono ?_; rintro r w6 ⟨rfl, hb⟩; have B6 := Kept.mk (bl_next B5.out hb); clear hb)
    | (go_at_call 45; refine (total_ex _ 1 _ w6 ((V.out.below B6.out).more B6.out.size)).mono ?_; rintro r w7 ⟨rfl, hb⟩; have B7 := Kept.mk (bl_next B6.out hb); clear hb))
  go_ret
  exact ⟨rfl, bW.out.trans (B7.out.mono bW.out.size)⟩
end Go.Proofs.Ytglnghdomoebfaa
