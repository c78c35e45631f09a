/- Chapter 13: the program's Decode. -/
import Derived.Test.YtglnghdomoebfaaRecF
namespace Go.Proofs.Ytglnghdomoebfaa
open Go.RowKit Go.Shelf

def Rc.dec (T : List ByteArray) (l : List UInt8) : List RecV × Int :=
  let r := Rc.recs T l 0 0
  if Wr.fin l r.2.1 r.2.2 ≠ 0 then ([], Wr.fin l r.2.1 r.2.2) else (r.1.map Rc.toRec, 0)
theorem RdR.nil (w : World) (B : Nat) : RdR w B none 0 0 [] := ⟨[], Rd.nil w B 2 0 none (by unfold maxLen; omega), rfl, fun i h => by simp at h⟩
theorem grown_below0 {B p : Nat} {w w1 w' : World} (h : Below B w w1) (hg : w1.grownBy w' (some p)) (hp : B ≤ p) (hp2 : p < w1.heap.size) : Below B w w' :=
  h.grown hg (by omega) (fun g e => by have := Option.some.inj e; omega)
set_option maxRecDepth 100000 in
set_option maxHeartbeats 4000000 in
theorem decode_any (TA A : Option Addr) (tn tc n c : Nat) (T : List ByteArray) (l : List UInt8) (w : World) (hT : RdS w w.heap.size TA tn tc T) (hv : RdB w w.heap.size A n c l) (hl : n ≤ 20000000) :
    Calls Try.prog 24 #[.slice TA tn tc, .slice A n c] w fun r w' => ∃ A2 n2 c2, r = .returned (.tuple #[.slice A2 n2 c2, .int .i64 (Rc.dec T l).2]) ∧ RdR w' w'.heap.size A2 n2 c2 (Rc.dec T l).1 ∧ Below w.heap.size w w' := by
  have hlc := hv.1
  have hcm := hv.2.1
  unfold maxLen at hcm
  have HN := Kept.mk hv.len
  have V := Kept.mk hv
  have VT := Kept.mk hT
  have hC : Rc.dec T l = (if Wr.fin l (Rc.recs T l 0 0).2.1 (Rc.recs T l 0 0).2.2 ≠ 0 then ([], Wr.fin l (Rc.recs T l 0 0).2.1 (Rc.recs T l 0 0).2.2) else ((Rc.recs T l 0 0).1.map Rc.toRec, 0)) := rfl
  have LR := Kept.mk (fun q p W (r : RR W q p TA tn tc T l) (d : Rdr W p l 0 0) => listRec_any q p 0 tn tc TA T l 0 W r d (by have := HN.out; omega))
  obtain ⟨M, hM⟩ : ∃ M, M = Rc.dec T l := ⟨_, rfl⟩
  rw [← hM]
  have HM := Kept.mk (hM.trans hC)
  clear hM hC
  generalize Rc.recs T l 0 0 = X at *
  obtain ⟨rs, a1, e1⟩ := X
  simp only [] at LR HM
  generalize hF : Wr.fin l a1 e1 = F at *
  have HF := Kept.mk hF
  clear hF hv hT
  have key : ∀ W1 p, w.heap.size ≤ p → p < W1.heap.size → Rdr W1 p l 0 0 → Below w.heap.size w W1 → RR (W1.alloc (.cells #[.pointer (some ⟨p, 0, none⟩), .slice TA tn tc, .int .i64 (n : Int)] 86)) W1.heap.size p TA tn tc T l := fun W1 p h1 h2 _ h4 =>
    ⟨by rw [← HN.out]; exact heap_alloc_new W1 _, h2, ((VT.out.below h4).more h1).alloc (by omega) _⟩
  have KEY := Kept.mk key
  clear key
  by_cases hf : F = 0
  · subst hf
    go_enter Try.func24, Try.ntmps24
    go_wp2_with (first
      | (go_at_call 50; refine (newReader_any A n c w.heap.size l w V.out (Nat.le_refl _) (by omega)).mono ?_; rintro r w1 ⟨p, rfl, hp1, hp2, hr1, hb1⟩; have D1 := Kept.mk (Rdr.box hr1 (.cells #[.pointer (some ⟨p, 0, none⟩), .slice TA tn tc, .int .i64 (n : Int)] 86)); have RR1 := Kept.mk (KEY.out w1 p hp1 hp2 hr1 hb1); have B1 := Kept.mk (hb1.alloc hb1.size (.cells #[.pointer (some ⟨p, 0, none⟩), .slice TA tn tc, .int .i64 (n : Int)] 86)); clear hr1 hb1)
      | (go_at_call 51; refine (LR.out _ p _ RR1.out D1.out).mono ?_; rintro r w2 ⟨A2, n2, c2, rfl, ho, hr, hg⟩; have O2 := Kept.mk ho.rd; have D2 := Kept.mk hr; have G2 := Kept.mk (grown_below0 B1.out hg hp1 D1.out.lt); obtain ⟨q0, q1, q2⟩ := (RR1.out.grown hg).cells; clear hr hg ho)
      | (go_at_call 53; refine (end_any p a1 l e1 _ D2.out).mono ?_; rintro r w3 ⟨hr3, rfl⟩; rw [HF.out] at hr3; subst hr3))
    go_ret2
    refine ⟨A2, n2, c2, ?_, ?_, G2.out⟩
    · rw [HM.out]; rfl
    · rw [HM.out]; exact O2.out
  · have hfb : (F == 0) = false := by simpa using hf
    have HM2 : Kept (M = ([], F)) := ⟨by rw [HM.out, if_pos hf]⟩
    go_enter Try.func24, Try.ntmps24
    go_wp2_with (first
      | (go_at_call 50; refine (newReader_any A n c w.heap.size l w V.out (Nat.le_refl _) (by omega)).mono ?_; rintro r w1 ⟨p, rfl, hp1, hp2, hr1, hb1⟩; have D1 := Kept.mk (Rdr.box hr1 (.cells #[.pointer (some ⟨p, 0, none⟩), .slice TA tn tc, .int .i64 (n : Int)] 86)); have RR1 := Kept.mk (KEY.out w1 p hp1 hp2 hr1 hb1); have B1 := Kept.mk (hb1.alloc hb1.size (.cells #[.pointer (some ⟨p, 0, none⟩), .slice TA tn tc, .int .i64 (n : Int)] 86)); clear hr1 hb1)
      | (go_at_call 51; refine (LR.out _ p _ RR1.out D1.out).mono ?_; rintro r w2 ⟨A2, n2, c2, rfl, ho, hr, hg⟩; have O2 := Kept.mk ho.rd; have D2 := Kept.mk hr; have G2 := Kept.mk (grown_below0 B1.out hg hp1 D1.out.lt); obtain ⟨q0, q1, q2⟩ := (RR1.out.grown hg).cells; clear hr hg ho)
      | (go_at_call 53; refine (end_any p a1 l e1 _ D2.out).mono ?_; rintro r w3 ⟨hr3, rfl⟩; rw [HF.out] at hr3; subst hr3))
    go_ret2
    refine ⟨none, 0, 0, ?_, ?_, G2.out⟩
    · rw [HM2.out]; rfl
    · rw [HM2.out]; exact RdR.nil _ _
end Go.Proofs.Ytglnghdomoebfaa
