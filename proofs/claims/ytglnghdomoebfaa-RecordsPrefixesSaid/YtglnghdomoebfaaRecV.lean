/- Chapter 13: how large lists of records are. -/
import Derived.Test.YtglnghdomoebfaaRecI
namespace Go.Proofs.Ytglnghdomoebfaa
open Go.RowKit Go.Shelf

def FitR (rs : List RecV) : Prop := ∀ r ∈ rs, Lb.Fit r.1 ∧ ∀ z ∈ r.2, z < 9223372036854775808
/-- the number that law13.Large returns is 0 only for short lists -/
def Short (n : Nat) (rs : List RecV) : Prop := n ≤ 300 ∧ ∀ r ∈ rs, r.1.length ≤ 200 ∧ r.2.length ≤ 3000
theorem min_int (a b : Int) : (if b < a then b else a) = min a b := by omega
set_option maxRecDepth 100000 in
set_option maxHeartbeats 8000000 in
theorem large13_any (A : Option Addr) (n c : Nat) (rs : List RecV) (w : World) (hv : RdR w w.heap.size A n c rs) (hf : FitR rs) :
    Calls Try.prog 16 #[.slice A n c] w fun e w' => ∃ v : Int, e = .returned (.int .i64 v) ∧ (v = 0 ∨ v = 1) ∧ (v = 0 → Short n rs) ∧ Below w.heap.size w w' := by
  obtain ⟨hlc, hcm⟩ := hv.cap
  unfold maxLen at hcm
  have hn := Kept.mk hv.len
  have V := Kept.mk hv
  have F := Kept.mk hf
  clear hv hf
  go_enter Try.func16, Try.ntmps16
  go_wp2
  go_loopw [3, 4, 9] (fun s o i wr => ∃ k a : Nat, k ≤ n ∧ a ≤ 3000 ∧ i = .int .i64 k ∧ s = .int .i64 a ∧ ∃ A2 n2 c2 l, o = .slice A2 n2 c2 ∧ OwnL wr w.heap.size A2 n2 c2 l ∧ Lb.Fit l ∧ n2 ≤ 200 * k ∧ Kept (k ≤ a ∧ (0 < k → n ≤ 300) ∧ ∀ r ∈ rs.take k, r.1.length ≤ 200 ∧ r.2.length ≤ 3000) ∧ Below w.heap.size w wr) (fun _ _ i _ => n - (intOf i).toNat)
  case atStart => exact ⟨0, 0, by omega, by omega, rfl, rfl, none, 0, 0, [], rfl, OwnL.nil _ _, fun x hx => by simp at hx, by omega, ⟨by omega, fun h => by omega, by simp⟩, Below.refl _ _⟩
  case round =>
    obtain ⟨k, a, hk, ha, rfl, rfl, A2, n2, c2, l, rfl, ho, hfl, hn2, hd, hb⟩ := hrel
    by_cases hlt : k < n
    · have hkl : k < rs.length := by rw [← hn.out]; exact hlt
      obtain ⟨b, off, A3, n3, c3, A4, n4, c4, rfl, hL, hC, hc⟩ := V.out.cells (Nat.le_refl _) hkl
      obtain ⟨r0, r1⟩ := hc wr hb
      have hl3 := hL.len
      have hl4 := hC.len
      have hc3 := hL.1
      have hm3 := hL.2.1
      have hc4 := hC.1
      have hm4 := hC.2.1
      unfold maxLen at hm3 hm4
      have hzb := hb.size
      have hd1 := hd.out.1
      have hfk := (F.out _ (List.getElem_mem hkl)).1
      have hnext : n ≤ 300 → n3 ≤ 200 → n4 ≤ 3000 → Kept (k + 1 ≤ a + (1 + n4) ∧ (0 < k + 1 → n ≤ 300) ∧ ∀ r ∈ rs.take (k + 1), r.1.length ≤ 200 ∧ r.2.length ≤ 3000) := fun g1 g2 g3 => ⟨by omega, fun _ => g1, by
        rw [List.take_succ_eq_append_getElem hkl]
        intro r hr
        rcases List.mem_append.1 hr with hr | hr
        · exact hd.out.2.2 r hr
        · rw [List.mem_singleton.1 hr]; omega⟩
      have HNX := Kept.mk hnext
      have FL : Kept (Lb.Fit (l ++ rs[k].1)) := ⟨fun x hx => by
        rcases List.mem_append.1 hx with hx | hx
        · exact hfl x hx
        · exact hfk x hx⟩
      have OO : Kept (OwnL (wr.alloc (.cells #[.slice A3 n3 c3, .slice A4 n4 c4] 49)) w.heap.size A2 n2 c2 l) := ⟨World.ownsRow.alloc ho _⟩
      have BB := Kept.mk (hb.alloc hzb (.cells #[.slice A3 n3 c3, .slice A4 n4 c4] 49))
      have RL := Kept.mk ((hL.below BB.out).more BB.out.size)
      clear ho hb hL hC hc hl3 hl4 hnext hd hfk hfl
      generalize rs[k] = rk at *
      obtain ⟨L, C⟩ := rk
      simp only [] at RL FL
      rcases Nat.lt_or_ge 3000 n4 with hx | hx
      · have hx' : (3000 : Int) < (n4 : Int) := by omega
        have ha2 : (3000 : Int) < (a : Int) + 3001 := by omega
        have hw1 : IntKind.i64.wrap (1 + 3000) = 3001 := by rw [IntKind.wrap_i64]; rfl
        have ha0 : (0 : Int) ≤ (a : Int) := by omega
        have ha1 : (a : Int) ≤ 3000 := by omega
        generalize (a : Int) = ai at *
        clear hx
        go_wp2
        go_ret
        exact ⟨1, rfl, .inr rfl, (fun h => by cases h), BB.out⟩
      · have hx' : ¬ (3000 : Int) < (n4 : Int) := by omega
        by_cases h1 : 3000 < a + (1 + n4)
        · have h1' : (3000 : Int) < (a : Int) + (1 + (n4 : Int)) := by omega
          clear h1
          go_wp2
          go_ret
          exact ⟨1, rfl, .inr rfl, (fun h => by cases h), BB.out⟩
        · have h1' : ¬ (3000 : Int) < (a : Int) + (1 + (n4 : Int)) := by omega
          by_cases h2 : 300 < n
          · have h2' : (300 : Int) < (n : Int) := by omega
            clear h1 h2
            go_wp2
            go_ret
            exact ⟨1, rfl, .inr rfl, (fun h => by cases h), BB.out⟩
          · have h2' : ¬ (300 : Int) < (n : Int) := by omega
            by_cases h3 : 200 < n3
            · have h3' : (200 : Int) < (n3 : Int) := by omega
              clear h1 h2 h3
              go_wp2
              go_ret
              exact ⟨1, rfl, .inr rfl, (fun h => by cases h), BB.out⟩
            · have h3' : ¬ (200 : Int) < (n3 : Int) := by omega
              have hd2 := HNX.out (by omega) (by omega) (by omega)
              have hbnd : Kept (a + (1 + n4) ≤ 3000 ∧ n2 + n3 ≤ 200 * (k + 1)) := ⟨by omega, by omega⟩
              have hk3 : k ≤ 3000 := by omega
              have hn6 : n2 ≤ 600000 := by omega
              have hn7 : n3 ≤ 200 := by omega
              clear h1 h2 h3
              go_wp2_with (at_builtin; refine wpList_appL rfl (.tmp 33) (.tmp 35) rfl w.heap.size A2 n2 c2 l rfl OO.out _ _ _ _ L rfl RL.out (by omega) BB.out.size ?_; intro A5 c5 w5 hown5 hgrow5 hat5; have O5 := Kept.mk hown5; have B5 : Kept (Below w.heap.size w w5) := ⟨BB.out.grown hgrow5 BB.out.size (fun g e => (own_lt OO.out g e).1)⟩; clear hown5 hgrow5 hat5)
              go_roundw
              case rel => exact ⟨k + 1, a + (1 + n4), by omega, hbnd.out.1, by go_num, by go_num, A5, n2 + n3, c5, l ++ L, rfl, O5.out, FL.out, hbnd.out.2, hd2, B5.out⟩
              case measure => simp [intOf]; omega
    · have ht : rs.take k = rs := List.take_of_length_le (by have := hn.out; omega)
      have hr : Kept (Short n rs) := ⟨by
        by_cases h0 : n = 0
        · omega
        · exact hd.out.2.1 (by omega), by rw [← ht]; exact hd.out.2.2⟩
      have O := Kept.mk ho
      have FL := Kept.mk hfl
      have B := Kept.mk hb
      clear ho hb hd hfl
      go_wp2_with (go_at_call 28; refine (large11_any A2 n2 c2 l wr O.out.rd FL.out).mono ?_; rintro e w2 ⟨v, rfl, hv1, hv2, hg⟩; have G := Kept.mk (bl_next B.out hg); have HV := Kept.mk hv1; clear hg hv1 hv2)
      go_ret
      exact ⟨v, rfl, HV.out, fun _ => hr.out, G.out⟩
end Go.Proofs.Ytglnghdomoebfaa
