/- Chapter 13: the law RecordsEncode. -/
import Derived.Test.YtglnghdomoebfaaRecM
import Derived.Test.YtglnghdomoebfaaRecN
import Derived.Test.YtglnghdomoebfaaRecT
import Derived.Test.YtglnghdomoebfaaRecU
import Derived.Test.YtglnghdomoebfaaRecV
namespace Go.Proofs.Ytglnghdomoebfaa
open Go.RowKit Go.Shelf

namespace Rc
theorem flat_le {α : Type} {f : α → List UInt8} {m : Nat} : ∀ {l : List α}, (∀ x ∈ l, (f x).length ≤ m) → (l.flatMap f).length ≤ l.length * m
  | [], _ => by simp
  | x :: l, h => by
    have h1 := h x (by simp)
    have h2 := flat_le (l := l) fun y hy => h y (by simp [hy])
    rw [List.flatMap_cons, List.length_append, List.length_cons, Nat.add_mul]; omega
theorem symE_le {T : List ByteArray} (hT : T.length ≤ 1000000) (s : ByteArray) : (symE T s).length ≤ 10 := by
  unfold symE
  refine Vi.enc_len _ ?_
  cases h : Sy.idx T s with
  | none => simp
  | some k => obtain ⟨hk, -⟩ := Sy.idx_some h; simp; omega
theorem recE_le {T : List ByteArray} (hT : T.length ≤ 1000000) {r : RecV} (h1 : r.1.length ≤ 200) (h2 : r.2.length ≤ 3000) (h3 : ∀ z ∈ r.2, z < 9223372036854775808) : (recE T r).length ≤ 34020 := by
  unfold recE
  have a1 := Vi.enc_len r.1.length (by omega)
  have a2 := Vi.enc_len r.2.length (by omega)
  have a3 := flat_le (f := symE T) (m := 10) (l := Lb.strs r.1) fun s _ => symE_le hT s
  have a4 := flat_le (f := chE) (m := 10) (l := r.2) fun z hz => Vi.enc_len _ (by have := h3 z hz; omega)
  rw [Lb.strs_length] at a3
  simp only [List.length_append]
  omega
theorem encB_le {T : List ByteArray} (hT : T.length ≤ 1000000) {n : Nat} {rs : List RecV} (hn : n = rs.length) (h : Short n rs) (hf : FitR rs) : (encB T rs).length ≤ 1000000000 := by
  have h1 := h.1
  have a1 := Vi.enc_len rs.length (by omega)
  have a2 := flat_le (f := recE T) (m := 34020) (l := rs) fun r hr => recE_le hT (h.2 r hr).1 (h.2 r hr).2 (hf r hr).2
  unfold encB
  rw [List.length_append]
  omega
theorem short_rec {n : Nat} {rs : List RecV} (h : Short n rs) : ∀ r ∈ rs, r.1.length ≤ 1000000 ∧ r.2.length ≤ 1000000 := fun r hr => by have := h.2 r hr; omega
end Rc
set_option maxRecDepth 100000 in
set_option maxHeartbeats 8000000 in
theorem law_rencode (A A1 : Option Addr) (n c n1 c1 : Nat) (L : List ByteArray) (rs : List RecV) (w : World) (hv : RdS w w.heap.size A n c L) (hf : Sy.Fit L) (hv1 : RdR w w.heap.size A1 n1 c1 rs) (hf1 : FitR rs) :
    Calls Try.prog 3 #[.slice A n c, .slice A1 n1 c1] w fun r w' => r = .returned (.bool true) ∧ Below w.heap.size w w' := by
  have V := Kept.mk hv
  have V1 := Kept.mk hv1
  have F := Kept.mk hf
  have F1 := Kept.mk hf1
  have HN := Kept.mk hv1.len
  clear hv hf hv1 hf1
  go_enter Try.func3, Try.ntmps3
  go_wp2_with (first
    | (go_at_call 23; refine (equal_is _ _ _ _ _ _ E.1 E.1 true _ _ _ P8.out O8.out (by simp)).mono ?_; rintro r w9 ⟨rfl, hw⟩; have B9 : Kept (Below w.heap.size w w9) := ⟨by rw [← hw]; exact B8.out⟩; clear hw)
    | (go_at_call 17; refine (alive13_any w7).mono ?_; rintro r w8 ⟨rfl, hb⟩; have B8 := Kept.mk (bl_next B7.out hb); have O8 := Kept.mk ((O7.out.below hb).more hb.size); have P8 := Kept.mk ((P7.out.below hb).more hb.size); clear hb)
    | (go_at_call 21; refine (refEncode13_any A4 A8 n4 c4 n8 c8 T rs w6b ((T4.out.below b46.out).more b46.out.size) R8.out (by omega) (by have h1 := R8.out.len; have h2 := HN.out; have h3 := (SH.out (by simp)).1; omega) (Rc.short_rec (SH.out (by simp))) (Rc.encB_le (by have := HT.out; omega) HN.out (SH.out (by simp)) F1.out)).mono ?_; rintro r w7 ⟨A7, n7, c7, rfl, ho, hb⟩; rw [← HE.out] at ho ⊢; have O7 := Kept.mk ho.rd; have P7 := Kept.mk ((P6.out.below hb).more hb.size); have B7 := Kept.mk (bl_next B6.out hb); clear ho hb)
    | (go_at_call 22; refine (reference_any A5 n5 c5 rs w6 ((R5.out.below b56.out).more b56.out.size) (by have h1 := R5.out.len; have h2 := HN.out; have h3 := (SH.out (by simp)).1; omega)).mono ?_; rintro r w6b ⟨A8, n8, c8, rfl, hr, hb⟩; have R8 := Kept.mk hr; have b46 := Kept.mk (bl_next b46a.out hb); have P6 := Kept.mk ((P6a.out.below hb).more hb.size); have B6 := Kept.mk (bl_next B6a.out hb); clear hr hb)
    | (go_at_call 20; refine (encode_any A4 A5 n4 c4 n5 c5 T rs w5 ((T4.out.below b45.out).more b45.out.size) TB.out.1 R5.out (by omega) (by have h1 := R5.out.len; have h2 := HN.out; have h3 := (SH.out (by simp)).1; omega) (Rc.short_rec (SH.out (by simp))) (Rc.encB_le (by have := HT.out; omega) HN.out (SH.out (by simp)) F1.out)).mono ?_; rintro r w6 ⟨A6, n6, c6, rfl, ho, hb⟩; obtain ⟨E, hE⟩ : ∃ E, E = Rc.enc T rs := ⟨_, rfl⟩; have HE := Kept.mk hE; rw [← hE] at ho ⊢; clear hE; have P6a := Kept.mk ho.rd; have b56 := Kept.mk hb; have b46a := Kept.mk (bl_next b45.out hb); have B6a := Kept.mk (bl_next B5.out hb); clear ho hb)
    | (go_at_call 19; refine (program_any A1 n1 c1 rs w4 ((V1.out.below B4.out).more B4.out.size) (by have h3 := (SH.out (by simp)).1; omega)).mono ?_; rintro r w5 ⟨A5, n5, c5, rfl, hr, hb⟩; have R5 := Kept.mk hr; have b45 := Kept.mk hb; have B5 := Kept.mk (bl_next B4.out hb); clear hr hb)
    | (go_at_call 18; refine (table_any A n c L w3 ((V.out.below B3.out).more B3.out.size) (by have := (H1.out (by simp)).1; omega)).mono ?_; rintro r w4 ⟨A4, n4, c4, T, rfl, ht, ho, hb⟩; have TB := Kept.mk ht; have T4 := Kept.mk ho.rd; have h4 : n4 ≤ 500 := (by have h1 := ho.len; have h2 := ht.len; have h4 := V.out.len; have h6 := (H1.out (by simp)).1; omega); have HT : Kept (T.length ≤ 500) := ⟨by have h1 := ho.len; omega⟩; have B4 := Kept.mk (bl_next B3.out hb); clear ht ho hb)
    | (go_at_call 17; refine (alive13_any w3).mono ?_; rintro r w8 ⟨rfl, hb⟩; have B9 := Kept.mk (bl_next B3.out hb); clear hb)
    | (go_at_call 16; refine (large13_any A1 n1 c1 rs w2 ((V1.out.below B2.out).more B2.out.size) F1.out).mono ?_; rintro r w3 ⟨v3, rfl, hv1, hv2, hb⟩; have SH := Kept.mk hv2; have B3 := Kept.mk (bl_next B2.out hb); clear hb hv2; rcases hv1 with rfl | rfl)
    | (go_at_call 17; refine (alive13_any w2).mono ?_; rintro r w8 ⟨rfl, hb⟩; have B9 := Kept.mk (bl_next B2.out hb); clear hb)
    | (go_at_call 15; refine (long_any A n c w1.heap.size L w1 ((V.out.below B1.out).more B1.out.size) (Nat.le_refl _) F.out).mono ?_; rintro r w2 ⟨v2, rfl, hv1, hv2, hg⟩; have B2 := Kept.mk (bl_next B1.out hg.below); clear hg hv2; rcases hv1 with rfl | rfl)
    | (go_at_call 17; refine (alive13_any w1).mono ?_; rintro r w8 ⟨rfl, hb⟩; have B9 := Kept.mk (bl_next B1.out hb); clear hb)
    | (go_at_call 14; refine (large10_any A n c w.heap.size L w V.out (Nat.le_refl _) F.out).mono ?_; rintro r w1 ⟨v, rfl, hv1, hv2, hg⟩; have H1 := Kept.mk hv2; have B1 := Kept.mk hg.below; clear hg hv2; rcases hv1 with rfl | rfl))
  all_goals go_ret
  all_goals first | exact ⟨rfl, B9.out⟩ | exact ⟨by simp, B9.out⟩
end Go.Proofs.Ytglnghdomoebfaa
