/- Chapter 11: the strings of labels; how large a list is. -/
import Derived.Test.YtglnghdomoebfaaLabD
import Derived.Deep.RegionHeld3
namespace Go.Proofs.Ytglnghdomoebfaa
open Go.RowKit Go.Shelf

theorem step_appS {w : World} {ops : Array Oper} {o : Oper} {a : Act} {K : Act → World → Prop} {Q : Exit → Act → World → Prop} {E : Prop} (hgd : o.guard = none) (s x : Operand)
    (ho : o.op = .call { callee := .builtin .append, args := #[s, x], argTypes := #[22, 22] })
    (base : Nat) (A : Option Addr) (n c : Nat) (l : List ByteArray) (hs : a.eval s = .slice A n c) (hown : OwnS w base A n c l)
    (B : Nat) (S : Option Addr) (m d : Nat) (k : List ByteArray) (hx : a.eval x = .slice S m d) (hr : RdS w B S m d k)
    (hlen : n + m ≤ 8796093022208) (hbase : base ≤ w.heap.size)
    (h : ∀ A2 c2 w', OwnS w' base A2 (n + m) c2 (l ++ k) → w.grownBy w' (ab A) → (ab A2 = ab A ∨ ab A2 = some w.heap.size) → K (a.put o.dst (.slice A2 (n + m) c2)) w') :
    if Region.wanted o (yielded ops a.tmps) = true then Oper.wp Try.prog o a w K Q else E := by
  have hw : Region.wanted o (yielded ops a.tmps) = true := by simp [Region.wanted, hgd]
  rw [if_pos hw]
  obtain ⟨i0, hi0, hz0, hz1, hz2⟩ := info_parts infoS
  refine wp_app w s x _ ho base 9 i0 (.string ByteArray.empty) 1 16 Try.underlying22 hi0 hz0 hz1 hz2 rfl (by decide) A n c (svs l) hs hown B S m d (svs k) hx hr (svs_one k) (by unfold maxLen; omega) (by omega) hbase ?_
  rw [← svs_append]
  exact h
theorem OwnS.nil (w : World) (base : Nat) : OwnS w base none 0 0 [] := ⟨rfl, .inl ⟨rfl, rfl⟩⟩
theorem RdS.two (w : World) (x y : ByteArray) : RdS (w.alloc (.cells #[.string x, .string y] 9)) (w.heap.size + 1) (some ⟨w.heap.size, 0, none⟩) 2 2 [x, y] := RdS.lit w [x, y] (by simp)
theorem ownS_grown_below {w w' : World} {base n c : Nat} {A : Option Addr} {l : List ByteArray} (h : OwnS w base A n c l) (hb : base ≤ w.heap.size) (hg : w.grownBy w' (ab A)) : Below base w w' :=
  (Below.refl base w).grown hg hb fun g e => (own_lt h g e).1
theorem below_alloc_grown {base : Nat} {w w' : World} {o : Obj} {row : Option Nat} (hb : base ≤ w.heap.size) (hg : (w.alloc o).grownBy w' row) (hr : ∀ g, row = some g → base ≤ g) : Below base w w' :=
  ((Below.refl base w).alloc hb o).grown hg (by simp; omega) hr
set_option maxRecDepth 100000 in
set_option maxHeartbeats 2000000 in
theorem refStrings_any (A : Option Addr) (n c : Nat) (l : List Lab) (w : World) (hv : RdL w w.heap.size A n c l) (hcap : n ≤ 1000000000000) :
    Calls Try.prog 27 #[.slice A n c] w fun e w' => ∃ A2 n2 c2, e = .returned (.slice A2 n2 c2) ∧ OwnS w' w.heap.size A2 n2 c2 (Lb.strs l) ∧ Below w.heap.size w w' := by
  have hlc := hv.1
  have hcm := hv.2.1
  unfold maxLen at hcm
  have hn := Kept.mk hv.len
  have V := Kept.mk hv
  clear hv
  go_enter Try.func27, Try.ntmps27
  go_wp2
  go_loopw [3, 4] (fun o i wr => ∃ k : Nat, k ≤ n ∧ i = .int .i64 k ∧ ∃ A2 n2 c2, o = .slice A2 n2 c2 ∧ OwnS wr w.heap.size A2 n2 c2 (Lb.strs (l.take k)) ∧ Below w.heap.size w wr) (fun _ i _ => n - (intOf i).toNat)
  case atStart => exact ⟨0, by omega, rfl, none, 0, 0, rfl, by simpa [Lb.strs] using OwnS.nil w w.heap.size, Below.refl _ _⟩
  case round =>
    obtain ⟨k, hk, rfl, A2, n2, c2, rfl, ho, hb⟩ := hrel
    by_cases hlt : k < n
    · have hkl : k < l.length := by rw [← hn.out]; exact hlt
      obtain ⟨b, off, rfl, hc⟩ := V.out.cells (Nat.le_refl _) hkl
      have hn2 : n2 ≤ 2000000000000 := by
        have h1 := ho.len
        rw [Lb.strs_length, List.length_take] at h1; omega
      have hst := Kept.mk (Lb.strs_take l k hkl)
      have hz := hb.size
      have HC := Kept.mk hc
      obtain ⟨c0, c1⟩ := hc wr hb
      have d0 := fun o => (HC.out (wr.alloc o) (hb.alloc hz o)).1
      have d1 := fun o => (HC.out (wr.alloc o) (hb.alloc hz o)).2
      have O := Kept.mk ho
      have HB := Kept.mk hb
      clear hc ho hb
      generalize l[k].n = xn at *
      generalize l[k].v = xv at *
      have HA : Kept (Below w.heap.size w (wr.alloc (.cells #[.string xn, .string xv] 9))) := ⟨HB.out.alloc hz _⟩
      go_wp2_with fail
      go_region_held3 (fun w' => w'.cell? ⟨b, off + k * 2, none⟩ = some (.string xn) ∧ w'.cell? ⟨b, off + k * 2 + 1, none⟩ = some (.string xv)) (first | exact ⟨c0, c1⟩ | exact ⟨d0 _, d1 _⟩ | exact k9)
        ((refine step_appS ?g1 (.tmp 11) (.tmp 22) ?g2 w.heap.size A2 n2 c2 (Lb.strs (l.take k)) ?g3 ?g4 (wr.heap.size + 1) (some ⟨wr.heap.size, 0, none⟩) 2 2 [xn, xv] ?g5 ?g6 ?g7 ?g8 ?_;
          (case g1 => rfl);
          (case g2 => rfl);
          (case g3 => rfl);
          (case g5 => rfl);
          (case g4 => exact World.ownsRow.alloc O.out _);
          (case g6 => exact RdS.two _ xn xv);
          (case g7 => omega);
          (case g8 => (simp; omega));
          intro A3 c3 w3 hown hgrow hat;
          have hb3 : Below w.heap.size w w3 := HA.out.drew.grown hgrow (by show _ ≤ (World.alloc _ _).heap.size; simp; omega) fun g e => (own_lt O.out g e).1;
          have O3 := Kept.mk hown;
          have B3 := Kept.mk hb3;
          have k9 : w3.cell? ⟨b, off + k * 2, none⟩ = some (.string xn) ∧ w3.cell? ⟨b, off + k * 2 + 1, none⟩ = some (.string xv) := HC.out w3 hb3;
          clear hown hgrow hb3))
      go_wp2
      go_roundw
      case rel => exact ⟨k + 1, by omega, by go_num, A3, _, c3, rfl, by rw [hst.out]; exact O3.out, B3.out⟩
      case measure => simp [intOf]; omega
    · obtain rfl : k = n := by omega
      have O := Kept.mk ho
      have HB := Kept.mk hb
      have ht : l.take k = l := List.take_of_length_le (by have := hn.out; omega)
      clear ho hb
      go_wp2
      go_ret
      exact ⟨A2, n2, c2, rfl, by rw [← ht]; exact O.out, HB.out⟩
end Go.Proofs.Ytglnghdomoebfaa
