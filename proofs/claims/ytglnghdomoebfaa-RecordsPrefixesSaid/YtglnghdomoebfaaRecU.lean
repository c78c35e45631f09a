/- Chapter 13: the laws' copies of lists of records. (Printed by gen_recu.py.) -/
import Derived.Test.YtglnghdomoebfaaRecI
namespace Go.Proofs.Ytglnghdomoebfaa
open Go.RowKit Go.Shelf

theorem info_program : (Try.prog.info? 72).map (fun i => (i.zero, i.size, i.bytes)) = some (some (.agg #[.slice none 0 0, .slice none 0 0]), 2, 48) := by kernel_rfl
theorem Rd.rec_program (w : World) (h1 h2 : Value) : Rd (w.alloc (.cells #[h1, h2] 72)) (w.heap.size + 1) 2 (some ⟨w.heap.size, 0, none⟩) 1 1 [h1, h2] :=
  ⟨Nat.le_refl _, by unfold maxLen; omega, rfl, fun _ => ⟨_, 0, rfl, by omega, fun i u hu => by
    rw [Nat.zero_add]
    exact (World.cell?_alloc_mark w _ _ _ i).trans (by simpa using hu)⟩⟩
set_option maxRecDepth 100000 in
set_option maxHeartbeats 4000000 in
theorem program_any (A : Option Addr) (n c : Nat) (rs : List RecV) (w : World) (hv : RdR w w.heap.size A n c rs) (hn : n ≤ 1000000) :
    Calls Try.prog 19 #[.slice A n c] w fun e w' => ∃ A2 n2 c2, e = .returned (.slice A2 n2 c2) ∧ RdR w' w'.heap.size A2 n2 c2 rs ∧ Below w.heap.size w w' := by
  obtain ⟨hlc, hcm⟩ := hv.cap
  unfold maxLen at hcm
  have V := Kept.mk hv
  have HN := Kept.mk hv.len
  obtain ⟨hs, h1, h2, h3⟩ := hv
  have HH := Kept.mk h1
  have H2 := Kept.mk h2
  have H3 := Kept.mk h3
  clear h1 h2 h3
  obtain ⟨i0, hi0, hz0, hz1, hz2⟩ := info_parts info_program
  go_enter Try.func19, Try.ntmps19
  go_wp2
  go_loopw [3, 8] (fun o i wr => ∃ k : Nat, k ≤ n ∧ i = .int .i64 k ∧ ∃ A2 n2 c2, o = .slice A2 n2 c2 ∧ wr.ownsRow w.heap.size 72 2 (.slice A2 n2 c2) n2 (hflat (hs.take k)) ∧ Below w.heap.size w wr) (fun _ i _ => n - (intOf i).toNat)
  case atStart => exact ⟨0, by omega, rfl, none, 0, 0, rfl, ⟨rfl, .inl ⟨rfl, rfl⟩⟩, Below.refl _ _⟩
  case round =>
    obtain ⟨k, hk, rfl, A2, n2, c2, rfl, ho, hb⟩ := hrel
    by_cases hlt : k < n
    · have hkl : k < hs.length := by have := H2.out; have := HN.out; omega
      obtain ⟨A3, n3, c3, A4, n4, c4, e, hL, hC⟩ := H3.out k hkl (by have := HN.out; omega)
      obtain ⟨b, off, rfl, hbb, hc⟩ := HH.out.2.2.2 (by omega)
      obtain ⟨g1, g2⟩ := hflat_get hs k hkl
      have r0 : wr.cell? ⟨b, off + k * 2, none⟩ = some (.slice A3 n3 c3) := (hb.cell (p := ⟨b, _, none⟩) (by show b < _; omega)).trans (hc _ _ (by rw [g1, e]))
      have r1 : wr.cell? ⟨b, off + k * 2 + 1, none⟩ = some (.slice A4 n4 c4) := (hb.cell (p := ⟨b, _, none⟩) (by show b < _; omega)).trans (by rw [Nat.add_assoc]; exact hc _ _ (by rw [g2, e]))
      have hst : Kept (hflat (hs.take k) ++ [.slice A3 n3 c3, .slice A4 n4 c4] = hflat (hs.take (k + 1))) := ⟨by
        rw [List.take_succ_eq_append_getElem hkl, hflat_app, e]; rfl⟩
      have hn2 : n2 ≤ 1000000 := by
        have h4 := ho.1
        rw [hflat_len, List.length_take] at h4
        omega
      have hn2k : Kept (n2 = k) := ⟨by
        have h4 := ho.1
        rw [hflat_len, List.length_take] at h4
        omega⟩
      have hzb := hb.size
      have OO : Kept ((wr.alloc (.cells #[.slice A3 n3 c3, .slice A4 n4 c4] 49)).ownsRow w.heap.size 72 2 (.slice A2 n2 c2) n2 (hflat (hs.take k))) := ⟨World.ownsRow.alloc ho _⟩
      have BB := Kept.mk (hb.alloc hzb (.cells #[.slice A3 n3 c3, .slice A4 n4 c4] 49))
      have XX : Kept ((wr.alloc (.cells #[.slice A3 n3 c3, .slice A4 n4 c4] 49)).heap[wr.heap.size]? = some (.cells #[.slice A3 n3 c3, .slice A4 n4 c4] 49 (0, 0))) := ⟨heap_alloc_new wr _⟩
      clear ho hb hL hC hc e g1 g2
      go_upto_region 5 with fail
      generalize wr.alloc (.cells #[.slice A3 n3 c3, .slice A4 n4 c4] 49) = wq at *
      generalize wr.heap.size = G at *
      have y0 := cell_row wq G 0 _ _ _ XX.out
      have y1 := cell_row wq G 1 _ _ _ XX.out
      have hzq := BB.out.size
      clear r0 r1
      go_wp2_with (at_builtin; refine wpList_app _ rfl (.tmp 12) (.tmp 14) _ rfl w.heap.size 72 i0 (.agg #[.slice none 0 0, .slice none 0 0]) 2 48 Try.underlying28 hi0 hz0 hz1 hz2 rfl (by decide) A2 n2 c2 (hflat (hs.take k)) rfl (World.ownsRow.alloc OO.out _) (wq.heap.size + 1) _ _ _ [.slice A3 n3 c3, .slice A4 n4 c4] rfl (Rd.rec_program wq _ _) (by intro u hu; simp at hu; rcases hu with rfl | rfl <;> rfl) (by unfold maxLen; omega) (by omega) (by simp; omega) ?_; intro A5 c5 w5 hown5 hgrow5 hat5; have P5 : Kept (w5.ownsRow w.heap.size 72 2 (.slice A5 (n2 + 1) c5) (n2 + 1) (hflat (hs.take (k + 1)))) := ⟨by rw [← hst.out]; exact hown5⟩; have B5 : Kept (Below w.heap.size w w5) := ⟨(BB.out.alloc BB.out.size _).grown hgrow5 (by simp; omega) (fun g e => (own_lt OO.out g e).1)⟩; clear hown5 hgrow5 hat5)
      go_roundw
      case rel => exact ⟨k + 1, by omega, by go_num, A5, n2 + 1, c5, rfl, P5.out, B5.out⟩
      case measure => simp [intOf]; omega
    · have ht : hs.take k = hs := List.take_of_length_le (by have := H2.out; have := HN.out; omega)
      rw [ht] at ho
      have hR : Kept (RdR wr wr.heap.size A2 n2 c2 rs) := ⟨⟨hs, Rd.of_own ho, H2.out, fun i h h' => by
        obtain ⟨A3, n3, c3, A4, n4, c4, e, hL, hC⟩ := H3.out i h h'
        exact ⟨A3, n3, c3, A4, n4, c4, e, (hL.below hb).more hb.size, (hC.below hb).more hb.size⟩⟩⟩
      have B := Kept.mk hb
      clear ho hb
      go_wp2
      go_ret
      exact ⟨A2, n2, c2, rfl, hR.out, B.out⟩
theorem info_reference : (Try.prog.info? 80).map (fun i => (i.zero, i.size, i.bytes)) = some (some (.agg #[.slice none 0 0, .slice none 0 0]), 2, 48) := by kernel_rfl
theorem Rd.rec_reference (w : World) (h1 h2 : Value) : Rd (w.alloc (.cells #[h1, h2] 80)) (w.heap.size + 1) 2 (some ⟨w.heap.size, 0, none⟩) 1 1 [h1, h2] :=
  ⟨Nat.le_refl _, by unfold maxLen; omega, rfl, fun _ => ⟨_, 0, rfl, by omega, fun i u hu => by
    rw [Nat.zero_add]
    exact (World.cell?_alloc_mark w _ _ _ i).trans (by simpa using hu)⟩⟩
set_option maxRecDepth 100000 in
set_option maxHeartbeats 4000000 in
theorem reference_any (A : Option Addr) (n c : Nat) (rs : List RecV) (w : World) (hv : RdR w w.heap.size A n c rs) (hn : n ≤ 1000000) :
    Calls Try.prog 22 #[.slice A n c] w fun e w' => ∃ A2 n2 c2, e = .returned (.slice A2 n2 c2) ∧ RdR w' w'.heap.size A2 n2 c2 rs ∧ Below w.heap.size w w' := by
  obtain ⟨hlc, hcm⟩ := hv.cap
  unfold maxLen at hcm
  have V := Kept.mk hv
  have HN := Kept.mk hv.len
  obtain ⟨hs, h1, h2, h3⟩ := hv
  have HH := Kept.mk h1
  have H2 := Kept.mk h2
  have H3 := Kept.mk h3
  clear h1 h2 h3
  obtain ⟨i0, hi0, hz0, hz1, hz2⟩ := info_parts info_reference
  go_enter Try.func22, Try.ntmps22
  go_wp2
  go_loopw [3, 8] (fun o i wr => ∃ k : Nat, k ≤ n ∧ i = .int .i64 k ∧ ∃ A2 n2 c2, o = .slice A2 n2 c2 ∧ wr.ownsRow w.heap.size 80 2 (.slice A2 n2 c2) n2 (hflat (hs.take k)) ∧ Below w.heap.size w wr) (fun _ i _ => n - (intOf i).toNat)
  case atStart => exact ⟨0, by omega, rfl, none, 0, 0, rfl, ⟨rfl, .inl ⟨rfl, rfl⟩⟩, Below.refl _ _⟩
  case round =>
    obtain ⟨k, hk, rfl, A2, n2, c2, rfl, ho, hb⟩ := hrel
    by_cases hlt : k < n
    · have hkl : k < hs.length := by have := H2.out; have := HN.out; omega
      obtain ⟨A3, n3, c3, A4, n4, c4, e, hL, hC⟩ := H3.out k hkl (by have := HN.out; omega)
      obtain ⟨b, off, rfl, hbb, hc⟩ := HH.out.2.2.2 (by omega)
      obtain ⟨g1, g2⟩ := hflat_get hs k hkl
      have r0 : wr.cell? ⟨b, off + k * 2, none⟩ = some (.slice A3 n3 c3) := (hb.cell (p := ⟨b, _, none⟩) (by show b < _; omega)).trans (hc _ _ (by rw [g1, e]))
      have r1 : wr.cell? ⟨b, off + k * 2 + 1, none⟩ = some (.slice A4 n4 c4) := (hb.cell (p := ⟨b, _, none⟩) (by show b < _; omega)).trans (by rw [Nat.add_assoc]; exact hc _ _ (by rw [g2, e]))
      have hst : Kept (hflat (hs.take k) ++ [.slice A3 n3 c3, .slice A4 n4 c4] = hflat (hs.take (k + 1))) := ⟨by
        rw [List.take_succ_eq_append_getElem hkl, hflat_app, e]; rfl⟩
      have hn2 : n2 ≤ 1000000 := by
        have h4 := ho.1
        rw [hflat_len, List.length_take] at h4
        omega
      have hn2k : Kept (n2 = k) := ⟨by
        have h4 := ho.1
        rw [hflat_len, List.length_take] at h4
        omega⟩
      have hzb := hb.size
      have OO : Kept ((wr.alloc (.cells #[.slice A3 n3 c3, .slice A4 n4 c4] 72)).ownsRow w.heap.size 80 2 (.slice A2 n2 c2) n2 (hflat (hs.take k))) := ⟨World.ownsRow.alloc ho _⟩
      have BB := Kept.mk (hb.alloc hzb (.cells #[.slice A3 n3 c3, .slice A4 n4 c4] 72))
      have XX : Kept ((wr.alloc (.cells #[.slice A3 n3 c3, .slice A4 n4 c4] 72)).heap[wr.heap.size]? = some (.cells #[.slice A3 n3 c3, .slice A4 n4 c4] 72 (0, 0))) := ⟨heap_alloc_new wr _⟩
      clear ho hb hL hC hc e g1 g2
      go_upto_region 5 with fail
      generalize wr.alloc (.cells #[.slice A3 n3 c3, .slice A4 n4 c4] 72) = wq at *
      generalize wr.heap.size = G at *
      have y0 := cell_row wq G 0 _ _ _ XX.out
      have y1 := cell_row wq G 1 _ _ _ XX.out
      have hzq := BB.out.size
      clear r0 r1
      go_wp2_with (at_builtin; refine wpList_app _ rfl (.tmp 12) (.tmp 14) _ rfl w.heap.size 80 i0 (.agg #[.slice none 0 0, .slice none 0 0]) 2 48 Try.underlying36 hi0 hz0 hz1 hz2 rfl (by decide) A2 n2 c2 (hflat (hs.take k)) rfl (World.ownsRow.alloc OO.out _) (wq.heap.size + 1) _ _ _ [.slice A3 n3 c3, .slice A4 n4 c4] rfl (Rd.rec_reference wq _ _) (by intro u hu; simp at hu; rcases hu with rfl | rfl <;> rfl) (by unfold maxLen; omega) (by omega) (by simp; omega) ?_; intro A5 c5 w5 hown5 hgrow5 hat5; have P5 : Kept (w5.ownsRow w.heap.size 80 2 (.slice A5 (n2 + 1) c5) (n2 + 1) (hflat (hs.take (k + 1)))) := ⟨by rw [← hst.out]; exact hown5⟩; have B5 : Kept (Below w.heap.size w w5) := ⟨(BB.out.alloc BB.out.size _).grown hgrow5 (by simp; omega) (fun g e => (own_lt OO.out g e).1)⟩; clear hown5 hgrow5 hat5)
      go_roundw
      case rel => exact ⟨k + 1, by omega, by go_num, A5, n2 + 1, c5, rfl, P5.out, B5.out⟩
      case measure => simp [intOf]; omega
    · have ht : hs.take k = hs := List.take_of_length_le (by have := H2.out; have := HN.out; omega)
      rw [ht] at ho
      have hR : Kept (RdR wr wr.heap.size A2 n2 c2 rs) := ⟨⟨hs, Rd.of_own ho, H2.out, fun i h h' => by
        obtain ⟨A3, n3, c3, A4, n4, c4, e, hL, hC⟩ := H3.out i h h'
        exact ⟨A3, n3, c3, A4, n4, c4, e, (hL.below hb).more hb.size, (hC.below hb).more hb.size⟩⟩⟩
      have B := Kept.mk hb
      clear ho hb
      go_wp2
      go_ret
      exact ⟨A2, n2, c2, rfl, hR.out, B.out⟩
end Go.Proofs.Ytglnghdomoebfaa
