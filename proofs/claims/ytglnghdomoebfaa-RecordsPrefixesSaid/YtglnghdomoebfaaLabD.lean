/- Chapter 11: looking up a label; the strings of labels; how large a list is. -/
import Derived.Test.YtglnghdomoebfaaLabC
import Derived.Test.YtglnghdomoebfaaMemS
namespace Go.Proofs.Ytglnghdomoebfaa
open Go.RowKit Go.Shelf

set_option maxRecDepth 100000 in
set_option maxHeartbeats 2000000 in
theorem lget_any (A : Option Addr) (n c : Nat) (l : List Lab) (x : ByteArray) (w : World) (hv : RdL w w.heap.size A n c l) :
    Calls Try.prog 38 #[.slice A n c, .string x] w fun e w' => e = .returned (.tuple #[.string ((Lb.get l x).getD ByteArray.empty), .bool (Lb.get l x).isSome]) ∧ Gr w w' := by
  have hlc := hv.1
  have hcm := hv.2.1
  unfold maxLen at hcm
  have hn := Kept.mk hv.len
  have V := Kept.mk hv
  clear hv
  obtain ⟨r, hr⟩ : ∃ r, r = Lb.get l x := ⟨_, rfl⟩
  rw [← hr]
  have HR := Kept.mk hr
  clear hr
  go_enter Try.func38, Try.ntmps38
  go_wp2
  go_loopw [10] (fun i wr => ∃ k : Nat, k ≤ n ∧ i = .int .i64 k ∧ Kept (∀ j (hj : j < l.length), j < k → l[j].n ≠ x) ∧ Gr w wr) (fun i _ => n - (intOf i).toNat)
  case atStart => exact ⟨0, by omega, rfl, ⟨fun j _ hj => by omega⟩, Gr.refl w⟩
  case round =>
    obtain ⟨k, hk, rfl, hd, gr⟩ := hrel
    by_cases hlt : k < n
    · have hkl : k < l.length := by rw [← hn.out]; exact hlt
      obtain ⟨b, off, rfl, hc⟩ := V.out.cells (Nat.le_refl _) hkl
      obtain ⟨c0, c1⟩ := hc wr gr.below
      clear hc
      have hq := St.eq_iff l[k].n x
      by_cases hx : l[k].n = x
      · rw [decide_eq_true hx] at hq
        have hr : Kept (r = some l[k].v) := ⟨HR.out.trans (Lb.get_at l x k hkl hd.out hx)⟩
        clear hx
        have G := Kept.mk gr
        clear gr
        generalize l[k].n = y at *
        generalize l[k].v = z at *
        go_wp2
        go_ret2
        exact ⟨by rw [hr.out]; rfl, G.out.alloc _⟩
      · rw [decide_eq_false hx] at hq
        have hd2 : Kept (∀ j (hj : j < l.length), j < k + 1 → l[j].n ≠ x) := ⟨fun j hj hjk => by
          by_cases e : j = k
          · subst e; exact hx
          · exact hd.out j hj (by omega)⟩
        clear hx
        have G := Kept.mk gr
        clear gr
        generalize l[k].n = y at *
        generalize l[k].v = z at *
        go_wp2
        go_roundw
        case rel => exact ⟨k + 1, by omega, by go_num, hd2, G.out.alloc _⟩
        case measure => simp [intOf]; omega
    · have hr : Kept (r = none) := ⟨HR.out.trans (Lb.get_none l x fun j hj => hd.out j hj (by have := hn.out; omega))⟩
      have G := Kept.mk gr
      clear gr
      go_wp2
      go_ret2
      exact ⟨by rw [hr.out]; rfl, G.out⟩
set_option maxRecDepth 100000 in
set_option maxHeartbeats 2000000 in
theorem refGet_any (A : Option Addr) (n c : Nat) (l : List Lab) (x : ByteArray) (w : World) (hv : RdL w w.heap.size A n c l) :
    Calls Try.prog 39 #[.slice A n c, .string x] w fun e w' => e = .returned (.tuple #[.string ((Lb.get l x).getD ByteArray.empty), .bool (Lb.get l x).isSome]) ∧ Gr w w' := by
  have hlc := hv.1
  have hcm := hv.2.1
  unfold maxLen at hcm
  have hn := Kept.mk hv.len
  have V := Kept.mk hv
  clear hv
  obtain ⟨r, hr⟩ : ∃ r, r = Lb.get l x := ⟨_, rfl⟩
  rw [← hr]
  have HR := Kept.mk hr
  clear hr
  go_enter Try.func39, Try.ntmps39
  go_wp2
  go_loopw [6] (fun i wr => ∃ k : Nat, k ≤ n ∧ i = .int .i64 k ∧ Kept (∀ j (hj : j < l.length), j < k → l[j].n ≠ x) ∧ Gr w wr) (fun i _ => n - (intOf i).toNat)
  case atStart => exact ⟨0, by omega, rfl, ⟨fun j _ hj => by omega⟩, Gr.refl w⟩
  case round =>
    obtain ⟨k, hk, rfl, hd, gr⟩ := hrel
    by_cases hlt : k < n
    · have hkl : k < l.length := by rw [← hn.out]; exact hlt
      obtain ⟨b, off, rfl, hc⟩ := V.out.cells (Nat.le_refl _) hkl
      obtain ⟨c0, c1⟩ := hc wr gr.below
      clear hc
      have hq := St.eq_iff l[k].n x
      by_cases hx : l[k].n = x
      · rw [decide_eq_true hx] at hq
        have hr : Kept (r = some l[k].v) := ⟨HR.out.trans (Lb.get_at l x k hkl hd.out hx)⟩
        clear hx
        have G := Kept.mk gr
        clear gr
        generalize l[k].n = y at *
        generalize l[k].v = z at *
        go_wp2
        go_ret2
        exact ⟨by rw [hr.out]; rfl, G.out⟩
      · rw [decide_eq_false hx] at hq
        have hd2 : Kept (∀ j (hj : j < l.length), j < k + 1 → l[j].n ≠ x) := ⟨fun j hj hjk => by
          by_cases e : j = k
          · subst e; exact hx
          · exact hd.out j hj (by omega)⟩
        clear hx
        have G := Kept.mk gr
        clear gr
        generalize l[k].n = y at *
        generalize l[k].v = z at *
        go_wp2
        go_roundw
        case rel => exact ⟨k + 1, by omega, by go_num, hd2, G.out⟩
        case measure => simp [intOf]; omega
    · have hr : Kept (r = none) := ⟨HR.out.trans (Lb.get_none l x fun j hj => hd.out j hj (by have := hn.out; omega))⟩
      have G := Kept.mk gr
      clear gr
      go_wp2
      go_ret2
      exact ⟨by rw [hr.out]; rfl, G.out⟩
end Go.Proofs.Ytglnghdomoebfaa
