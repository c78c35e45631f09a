/- Chapter 15: alive. -/
import Derived.Test.YthhcfocmaiacoaaPostQ
import Derived.Test.YthhcfocmaiacoaaPostB
import Derived.Test.YthhcfocmaiacoaaPostZ
namespace Go.Proofs.Ythhcfocmaiacoaa
open Go.RowKit Go.Shelf

namespace Ex
def s1 : ByteArray := ⟨#[49]⟩
def s2 : ByteArray := ⟨#[50]⟩
def sa : ByteArray := ⟨#[97]⟩
def sb : ByteArray := ⟨#[98]⟩
def xA : Lab := ⟨sa, s1⟩
def xB : Lab := ⟨sb, s2⟩
def M : List (List Lab) := [[xA], [xA, xB]]
def E : List EntV := [(xA, [0, 1]), (xB, [1])]
def T : List ByteArray := [s1, s2, sa, sb]
def B : List UInt8 := [2, 2, 0, 2, 0, 1, 3, 1, 1, 1]
theorem l12 : St.lt s1 s2 = true := by rw [St.lt, St.tl, St.tl]; rfl
theorem l1a : St.lt s1 sa = true := by rw [St.lt, St.tl, St.tl]; rfl
theorem l1b : St.lt s1 sb = true := by rw [St.lt, St.tl, St.tl]; rfl
theorem l2a : St.lt s2 sa = true := by rw [St.lt, St.tl, St.tl]; rfl
theorem l2b : St.lt s2 sb = true := by rw [St.lt, St.tl, St.tl]; rfl
theorem lab : St.lt sa sb = true := by rw [St.lt, St.tl, St.tl]; rfl
theorem srt_T : Sy.Srt T := by
  unfold T Sy.Srt
  refine List.pairwise_cons.2 ⟨fun y hy => ?_, List.pairwise_cons.2 ⟨fun y hy => ?_, List.pairwise_cons.2 ⟨fun y hy => ?_, List.pairwise_singleton _ _⟩⟩⟩
  · simp only [List.mem_cons, List.not_mem_nil, or_false] at hy
    rcases hy with rfl | rfl | rfl
    · exact l12
    · exact l1a
    · exact l1b
  · simp only [List.mem_cons, List.not_mem_nil, or_false] at hy
    rcases hy with rfl | rfl
    · exact l2a
    · exact l2b
  · rw [List.mem_singleton.1 hy]; exact lab
theorem i1 : Sy.idx T s1 = some 0 := Sy.idx_srt srt_T (k := 0) (by decide) rfl
theorem i2 : Sy.idx T s2 = some 1 := Sy.idx_srt srt_T (k := 1) (by decide) rfl
theorem ia : Sy.idx T sa = some 2 := Sy.idx_srt srt_T (k := 2) (by decide) rfl
theorem ib : Sy.idx T sb = some 3 := Sy.idx_srt srt_T (k := 3) (by decide) rfl
theorem srt_AB : Lb.Srt [xA, xB] := by
  unfold Lb.Srt
  exact List.pairwise_cons.2 ⟨fun y hy => by rw [List.mem_singleton.1 hy]; exact lab, List.pairwise_singleton _ _⟩
theorem psrt_AB : Lb.PSrt [xA, xB] := by
  unfold Lb.PSrt
  exact List.pairwise_cons.2 ⟨fun y hy => by rw [List.mem_singleton.1 hy]; exact Lb.plt_iff.2 (.inl lab), List.pairwise_singleton _ _⟩
theorem sets : Ps.Sets M := by
  refine ⟨fun m hm => ?_, by decide⟩
  unfold M at hm
  simp only [List.mem_cons, List.not_mem_nil, or_false] at hm
  rcases hm with rfl | rfl
  · refine ⟨List.pairwise_singleton _ _, fun x hx => ?_⟩
    rw [List.mem_singleton.1 hx]
    unfold maxLen
    exact ⟨by decide, by decide⟩
  · refine ⟨srt_AB, fun x hx => ?_⟩
    simp only [List.mem_cons, List.not_mem_nil, or_false] at hx
    unfold maxLen
    rcases hx with rfl | rfl
    · exact ⟨by decide, by decide⟩
    · exact ⟨by decide, by decide⟩
theorem ne : xA ≠ xB := by decide
theorem idx : Ps.Idx (Ps.prs M 0) E := by
  refine ⟨psrt_AB, fun x => ?_, fun e he => ?_⟩
  · simp [Ps.prs, M, E]
  · unfold E at he
    simp only [List.mem_cons, List.not_mem_nil, or_false] at he
    have h1 := ne
    have h2 := Ne.symm ne
    rcases he with rfl | rfl
    · simp [Ps.prs, M, Ps.ser, List.filter, h2]
    · simp [Ps.prs, M, Ps.ser, List.filter, h1]
theorem encB : Pe.encB T E = B := by
  unfold Pe.encB E
  simp only [List.flatMap_cons, List.flatMap_nil, Pe.entE, Pe.gap, Rc.symE, xA, xB, i1, i2, ia, ib]
  simp only [List.length_cons, List.length_nil, Option.getD_some, Nat.zero_add, Nat.reduceAdd, show ((0 : Int) - 0).toNat = 0 from rfl, show ((1 : Int) - 0).toNat = 1 from rfl]
  rw [Vi.enc_lt (by omega : 1 < 128), Vi.enc_lt (by omega : 0 < 128), Vi.enc_lt (by omega : 2 < 128), Vi.enc_lt (by omega : 3 < 128)]
  rfl
theorem okE : E.all (Pe.okE T) = true := by
  unfold E
  simp [Pe.okE, xA, xB, i1, i2, ia, ib]
theorem enc : Pe.enc T E = (B, 0) := by rw [Pe.enc, if_pos okE, encB]
theorem up : ∀ e ∈ E, e.2.length ≤ 1000000 ∧ Pe.Up 0 e.2 := fun e he => by
  unfold E at he
  simp only [List.mem_cons, List.not_mem_nil, or_false] at he
  rcases he with rfl | rfl <;> simp [Pe.Up]
theorem dec : Pe.dec T 2 B = (E, 0) := by
  have := Pe.dec_enc srt_T (T := T) (by decide) (bnd := 2) (by omega) (E := E) (by decide) psrt_AB (fun e he => by
    have hok := List.all_eq_true.1 okE e he
    unfold E at he
    simp only [List.mem_cons, List.not_mem_nil, or_false] at he
    rcases he with rfl | rfl
    · exact ⟨⟨hok, by simp [Pe.okS, Pe.Asc]⟩, by unfold Rc.mx; simp⟩
    · exact ⟨⟨hok, by simp [Pe.okS, Pe.Asc]⟩, by unfold Rc.mx; simp⟩)
  rw [encB] at this
  exact this
theorem findA : Ls.puni [] ((E.filter fun e => e.1 = xA).map (·.2)) = [0, 1] := by
  have h2 := Ne.symm ne
  have : (E.filter fun e => e.1 = xA) = [(xA, [0, 1])] := by simp [E, List.filter, h2]
  rw [this, Ls.puni_eq _ (by simp [Ls.S])]
  decide
theorem nameB : Ls.puni [] ((E.filter fun e => e.1.n = sb).map (·.2)) = [1] := by
  have h3 : sa ≠ sb := by decide
  have : (E.filter fun e => e.1.n = sb) = [(xB, [1])] := by simp [E, List.filter, xA, xB, h3]
  rw [this, Ls.puni_eq _ (by simp [Ls.S])]
  decide
end Ex
theorem equalP_any (A1 A2 : Option Addr) (n1 n2 c1 c2 : Nat) (l1 l2 : List UInt8) (w : World) (B1 B2 : Nat) (h1 : RdB w B1 A1 n1 c1 l1) (h2 : RdB w B2 A2 n2 c2 l2) :
    Calls Try.prog 23 #[.slice A1 n1 c1, .slice A2 n2 c2] w fun e w' => e = .returned (.bool (l1 == l2)) ∧ w = w' := by
  have k1 := run_bytes_str w B1 A1 n1 c1 l1 h1
  have k2 := run_bytes_str w B2 A2 n2 c2 l2 h2
  go_enter Try.func23, Try.ntmps23
  go_wp2
  go_ret
  exact ⟨rfl, rfl⟩
theorem equalP_is (A1 A2 : Option Addr) (n1 n2 c1 c2 : Nat) (l1 l2 : List UInt8) (b : Bool) (w : World) (B1 B2 : Nat) (h1 : RdB w B1 A1 n1 c1 l1) (h2 : RdB w B2 A2 n2 c2 l2) (hb : (l1 == l2) = b) :
    Calls Try.prog 23 #[.slice A1 n1 c1, .slice A2 n2 c2] w fun e w' => e = .returned (.bool b) ∧ w = w' := by
  have h := equalP_any A1 A2 n1 n2 c1 c2 l1 l2 w B1 B2 h1 h2
  rw [hb] at h; exact h
theorem equalI_is (A1 A2 : Option Addr) (n1 n2 c1 c2 : Nat) (l : List Int) (w : World) (B1 B2 : Nat) (h1 : RdI w B1 A1 n1 c1 l) (h2 : RdI w B2 A2 n2 c2 l) :
    Calls Try.prog 45 #[.slice A1 n1 c1, .slice A2 n2 c2] w fun e w' => e = .returned (.bool true) ∧ Below w.heap.size w w' :=
  (equalI_any A1 A2 n1 n2 c1 c2 l l w B1 B2 h1 h2).mono fun e w' ⟨h3, h4⟩ => ⟨by rw [h3]; simp, h4.below _⟩
theorem exM_mem (w Wa Wb : World) (hWa : Wa = w.alloc (.cells #[.string ⟨#[97]⟩, .string ⟨#[49]⟩] 67)) (hWb : Wb = Wa.alloc (.cells #[.string ⟨#[97]⟩, .string ⟨#[49]⟩, .string ⟨#[98]⟩, .string ⟨#[50]⟩] 67)) :
    RdLL (Wb.alloc (.cells #[.slice (some ⟨w.heap.size, 0, none⟩) 1 1, .slice (some ⟨w.heap.size + 1, 0, none⟩) 2 2] 69)) (Wb.alloc (.cells #[.slice (some ⟨w.heap.size, 0, none⟩) 1 1, .slice (some ⟨w.heap.size + 1, 0, none⟩) 2 2] 69)).heap.size (some ⟨w.heap.size + 1 + 1, 0, none⟩) 2 2 Ex.M := by
  have za : Wa.heap.size = w.heap.size + 1 := by rw [hWa]; simp
  have zb : Wb.heap.size = w.heap.size + 1 + 1 := by rw [hWb]; simp [za]
  have r0 : RdL Wa (w.heap.size + 1) (some ⟨w.heap.size, 0, none⟩) 1 1 [Ex.xA] := by rw [hWa]; exact RdL.lit w [Ex.xA] (0, 0) (by simp)
  have r1 : RdL Wb (Wa.heap.size + 1) (some ⟨Wa.heap.size, 0, none⟩) 2 2 [Ex.xA, Ex.xB] := by rw [hWb]; exact RdL.lit Wa [Ex.xA, Ex.xB] (0, 0) (by simp)
  rw [za] at r1
  have hb1 : Below Wa.heap.size Wa Wb := by rw [hWb]; exact (Below.refl _ _).alloc (Nat.le_refl _) _
  obtain ⟨W2, hW2⟩ : ∃ W2, W2 = Wb.alloc (.cells #[.slice (some ⟨w.heap.size, 0, none⟩) 1 1, .slice (some ⟨w.heap.size + 1, 0, none⟩) 2 2] 69) := ⟨_, rfl⟩
  have hb2 : Below Wb.heap.size Wb W2 := by rw [hW2]; exact (Below.refl _ _).alloc (Nat.le_refl _) _
  have z2 : W2.heap.size = w.heap.size + 1 + 1 + 1 := by rw [hW2]; simp [zb]
  have r0' : RdL W2 W2.heap.size (some ⟨w.heap.size, 0, none⟩) 1 1 [Ex.xA] := ((r0.below (hb1.mono (by omega))).below (hb2.mono (by omega))).more (by omega)
  have r1' : RdL W2 W2.heap.size (some ⟨w.heap.size + 1, 0, none⟩) 2 2 [Ex.xA, Ex.xB] := (r1.below (hb2.mono (by omega))).more (by omega)
  rw [← hW2]
  refine ⟨[.slice (some ⟨w.heap.size, 0, none⟩) 1 1, .slice (some ⟨w.heap.size + 1, 0, none⟩) 2 2], ⟨Nat.le_refl _, by unfold maxLen; omega, rfl, fun _ => ⟨_, 0, rfl, by omega, fun i u hu => ?_⟩⟩, rfl, fun i l hl => ?_⟩
  · rw [Nat.zero_add, hW2]
    have := World.cell?_alloc_mark Wb #[.slice (some ⟨w.heap.size, 0, none⟩) 1 1, .slice (some ⟨w.heap.size + 1, 0, none⟩) 2 2] 69 (0, 0) i
    rw [zb] at this
    rw [this]
    simpa using hu
  · match i, hl with
    | 0, hl =>
      simp [Ex.M] at hl
      subst hl
      exact ⟨_, _, _, rfl, r0'⟩
    | 1, hl =>
      simp [Ex.M] at hl
      subst hl
      exact ⟨_, _, _, rfl, r1'⟩
set_option maxRecDepth 100000 in
set_option maxHeartbeats 8000000 in
theorem alive15_any (w : World) : Calls Try.prog 30 #[] w fun e w' => e = .returned (.bool true) ∧ Below w.heap.size w w' := by
  go_enter Try.func30, Try.ntmps30
  go_upto_region 2 with fail
  obtain ⟨W1, hW⟩ : ∃ W1, W1 = (w.alloc (.cells #[.string ⟨#[97]⟩, .string ⟨#[49]⟩] 67)).alloc (.cells #[.string ⟨#[98]⟩, .string ⟨#[50]⟩] 67) := ⟨_, rfl⟩
  have tb : Gr w W1 ∧ W1.heap.size = w.heap.size + 2 ∧ W1.cell? ⟨w.heap.size, 0, none⟩ = some (.string ⟨#[97]⟩) ∧ W1.cell? ⟨w.heap.size, 1, none⟩ = some (.string ⟨#[49]⟩) ∧ W1.cell? ⟨w.heap.size + 1, 0, none⟩ = some (.string ⟨#[98]⟩) ∧ W1.cell? ⟨w.heap.size + 1, 1, none⟩ = some (.string ⟨#[50]⟩) := by
    rw [hW]; exact two_boxes w Ex.xA Ex.xB
  rw [← hW]
  clear hW
  obtain ⟨gW, hz, c0, c1, c2, c3⟩ := tb
  have hz1 : w.heap.size < W1.heap.size := by omega
  have hz2 : w.heap.size + 1 < W1.heap.size := by omega
  have HC : Kept (∀ W, Below W1.heap.size W1 W → W.cell? ⟨w.heap.size, 0, none⟩ = some (.string ⟨#[97]⟩) ∧ W.cell? ⟨w.heap.size, 1, none⟩ = some (.string ⟨#[49]⟩)) := ⟨fun W hW => ⟨(hW.cell (p := ⟨w.heap.size, 0, none⟩) hz1).trans c0, (hW.cell (p := ⟨w.heap.size, 1, none⟩) hz1).trans c1⟩⟩
  have GW := Kept.mk gW.below
  have BD := Kept.mk (build_any _ 2 2 Ex.M _ (exM_mem W1 _ _ rfl rfl) Ex.sets)
  have BW : Kept (Below W1.heap.size W1 (((W1.alloc (.cells #[.string ⟨#[97]⟩, .string ⟨#[49]⟩] 67)).alloc (.cells #[.string ⟨#[97]⟩, .string ⟨#[49]⟩, .string ⟨#[98]⟩, .string ⟨#[50]⟩] 67)).alloc (.cells #[.slice (some ⟨W1.heap.size, 0, none⟩) 1 1, .slice (some ⟨W1.heap.size + 1, 0, none⟩) 2 2] 69))) := ⟨(((Gr.refl W1).alloc _).alloc _ |>.alloc _).below⟩
  clear gW hz
  go_upto_region 6 with (first
    | (go_at_call 38; refine (decodeP_any _ A5 4 4 n5 c5 2 Ex.T Ex.B w5 (VT.out.below B5.out |>.more B5.out.size) O5.out.rd (by have := O5.out.len; rw [this]; decide) (by omega)).mono ?_; rintro r w6 ⟨A6, n6, c6, rfl, hr, hb⟩; rw [Ex.dec] at hr ⊢; have h6 : n6 = 2 := hr.len; subst h6; have B6 := Kept.mk (bl_next B5.out hb); have O6 := Kept.mk (O5.out.rd.below hb |>.more hb.size); clear hr hb)
    | (go_at_call 35; refine (encodeP_any _ A3 4 4 2 c3 Ex.T Ex.E _ (VT0.out.more (by simp)) Ex.srt_T (E4.out) (by omega) (by omega) Ex.up (by rw [Ex.encB]; decide)).mono ?_; rintro r w5 ⟨A5, n5, c5, rfl, ho, hb⟩; rw [Ex.enc] at ho ⊢; have O5 := Kept.mk ho; have B5 := Kept.mk hb; clear ho hb)
    | (go_at_call 33; refine BD.out.mono ?_; rintro r w3 ⟨A3, n3, c3, E3, rfl, hI, ho, hb⟩; obtain rfl := Ps.Idx.uniq hI Ex.idx; have h3 : n3 = 2 := ho.len; subst h3; have O3 := Kept.mk ho.rd; have B3 := Kept.mk (BW.out.trans (hb.mono BW.out.size)); have VT0 := Kept.mk (RdS.lit w3 Ex.T (by decide)); have E4 := Kept.mk (ho.rd.on ((Below.refl _ _).alloc (Nat.le_refl _) (Obj.cells (svs Ex.T).toArray 9))); have VT := Kept.mk (VT0.out.more (B' := (w3.alloc (Obj.cells (svs Ex.T).toArray 9)).heap.size) (by simp)); clear hI ho hb BD BW))
  have BB6 : Kept (Below W1.heap.size W1 w6) := ⟨(B3.out.alloc B3.out.size _).trans (B6.out.mono (by have := B3.out.size; simp; omega))⟩
  have E6 : Kept (RdEn w6 w6.heap.size A3 2 c3 Ex.E) := ⟨E4.out.on B6.out⟩
  go_wp2_with (first
    | (go_at_call 45; refine (equalI_is _ _ _ _ _ _ [1] _ _ _ (O10.out.rd.alloc (Nat.le_refl _) _) (RdI.lit w10 [1] (by decide))).mono ?_; rintro r w11 ⟨rfl, hb⟩; have B11 := Kept.mk ((B10.out.alloc B10.out.size _).trans (hb.mono (by have := B10.out.size; simp; omega))); clear hb)
    | (go_at_call 47; refine (named15_any A3 2 c3 Ex.E Ex.sb w9 E9.out (by omega) (by decide)).mono ?_; rintro r w10 ⟨A10, n10, c10, rfl, ho, hb⟩; rw [Ex.nameB] at ho; have O10 := Kept.mk ho; have B10 := Kept.mk (B9.out.trans (hb.mono B9.out.size)); clear ho hb)
    | (go_at_call 45; refine (equalI_is _ _ _ _ _ _ [0, 1] _ _ _ (O8.out.rd.alloc (Nat.le_refl _) _) (RdI.lit w8 [0, 1] (by decide))).mono ?_; rintro r w9 ⟨rfl, hb⟩; have B9 := Kept.mk ((B8.out.alloc B8.out.size _).trans (hb.mono (by have := B8.out.size; simp; omega))); have E9 := Kept.mk ((E8.out.on ((Below.refl _ _).alloc (Nat.le_refl _) _)).on hb); clear hb)
    | (go_at_call 46; refine (find15_any A3 2 c3 Ex.E Ex.xA w7 E7.out (by omega) (by decide)).mono ?_; rintro r w8 ⟨A8, n8, c8, rfl, ho, hb⟩; rw [Ex.findA] at ho; have O8 := Kept.mk ho; have B8 := Kept.mk (B7.out.trans (hb.mono B7.out.size)); have E8 := Kept.mk (E7.out.on hb); clear ho hb)
    | (go_at_call 23; refine (equalP_is _ _ _ _ _ _ Ex.B Ex.B true _ _ _ (O6.out.alloc (Nat.le_refl _) _) (RdB.lit w6 Ex.B (by decide)) (by decide)).mono ?_; rintro r w7 ⟨rfl, hw⟩; have B7 : Kept (Below W1.heap.size W1 w7) := ⟨by rw [← hw]; exact BB6.out.alloc BB6.out.size _⟩; have E7 : Kept (RdEn w7 w7.heap.size A3 2 c3 Ex.E) := ⟨by rw [← hw]; exact E6.out.on ((Below.refl _ _).alloc (Nat.le_refl _) _)⟩; obtain ⟨z0, z1⟩ := HC.out w7 B7.out; clear hw))
  go_ret
  exact ⟨rfl, GW.out.trans (B11.out.mono GW.out.size)⟩
end Go.Proofs.Ythhcfocmaiacoaa
