/- Chapter 13: the program's reader of records: strings of the table, labels, lengths. -/
import Derived.Test.YtglnghdomoebfaaRecA
import Derived.Laws.EntriesVeiled
namespace Go.Proofs.Ytglnghdomoebfaa
open Go.RowKit Go.Shelf

set_option maxRecDepth 100000 in
set_option maxHeartbeats 4000000 in
theorem symbol_any (q p a tn tc : Nat) (TA : Option Addr) (T : List ByteArray) (l : List UInt8) (e : Int) (w : World) (hR : RR w q p TA tn tc T l) (h : Rdr w p l a e) :
    Calls Try.prog 93 #[.pointer (some ⟨q, 0, none⟩)] w fun r w' => r = .returned (.string (Rc.sym T l a e).1) ∧ Rdr w' p l (Rc.sym T l a e).2.1 (Rc.sym T l a e).2.2 ∧ w.grownBy w' (some p) := by
  obtain ⟨q0, q1, q2⟩ := hR.cells
  have U := Kept.mk (uint_any p a 18446744073709551615 l e w h)
  have HR := Kept.mk hR
  have hle := Wr.uint_le l a Rc.mx e
  have hC : Rc.sym T l a e = (let r := Wr.uint l a e Rc.mx; if r.2.2 ≠ 0 then (ByteArray.empty, r.2.1, r.2.2) else if T.length ≤ r.1 then (ByteArray.empty, r.2.1, 14) else (T.getD r.1 ByteArray.empty, r.2.1, 0)) := rfl
  have htl := hR.2.2.len
  have htm := hR.2.2.2.1
  have htc := hR.2.2.1
  unfold maxLen at htm
  unfold Rc.mx at hC hle
  generalize Wr.uint l a e 18446744073709551615 = X at *
  obtain ⟨x, a1, e1⟩ := X
  simp only [] at hC hle U
  have hwu : IntKind.u64.wrap (tn : Int) = (tn : Int) := by simp [IntKind.wrap, IntKind.bits, IntKind.signed]; omega
  have HT := Kept.mk htl
  clear h hR htl
  by_cases he1 : e1 = 0
  · subst he1
    rw [if_neg (by simp)] at hC
    by_cases hx : T.length ≤ x
    · rw [if_pos hx] at hC
      rw [hC]
      have hgt : (tn : Int) ≤ (x : Int) := by have := HT.out; omega
      have hgt2 : tn ≤ x := by omega
      clear hC hx
      go_enter Try.func93, Try.ntmps93
      go_wp2_with (first
        | (go_at_call 91; refine U.out.mono ?_; rintro r w2 ⟨rfl, hr, hg⟩; have R2 := Kept.mk hr; have G2 := Kept.mk hg; obtain ⟨s0, s1, s2⟩ := (HR.out.grown hg).cells; clear hr hg)
        | (go_at_call 78; refine (fail_any p a1 l 0 14 _ R2.out).mono ?_; rintro r w3 ⟨rfl, hr, hg⟩; rw [if_pos rfl] at hr; have R3 := Kept.mk hr; have G3 := Kept.mk hg; obtain ⟨t0, t1, t2⟩ := ((HR.out.grown G2.out).grown hg).cells; clear hr hg R2)
        | (go_at_call 73; refine (err_any p a1 l 14 _ R3.out).mono ?_; rintro r w9 ⟨rfl, rfl⟩)
        | (go_at_call 73; refine (err_any p a1 l 0 _ R2.out).mono ?_; rintro r w9 ⟨rfl, rfl⟩))
      go_ret
      exact ⟨rfl, R3.out, G2.out.trans G3.out⟩
    · rw [if_neg hx] at hC
      have hxl : x < T.length := by omega
      rw [show T.getD x ByteArray.empty = T[x] by simp [List.getD, hxl]] at hC
      rw [hC]
      have hgt : (x : Int) < (tn : Int) := by have := HT.out; omega
      have hgt2 : ¬ tn ≤ x := by omega
      have hgt3 : x < tn := by omega
      obtain ⟨b, off, rfl, hbp, hcell⟩ := HR.out.2.2.at_ hxl
      have CC : Kept (∀ W, w.grownBy W (some p) → W.cell? ⟨b, off + x, none⟩ = some (.string T[x])) := ⟨fun W hg => by
        obtain ⟨b', off', e', -, hc'⟩ := ((HR.out.grown hg).2.2).at_ hxl
        simp only [Option.some.injEq, Addr.mk.injEq, and_true] at e'
        obtain ⟨rfl, rfl⟩ := e'
        exact hc'⟩
      generalize T[x] = s at *
      clear hC hx hcell
      go_enter Try.func93, Try.ntmps93
      go_wp2_with (first
        | (go_at_call 91; refine U.out.mono ?_; rintro r w2 ⟨rfl, hr, hg⟩; have R2 := Kept.mk hr; have G2 := Kept.mk hg; obtain ⟨s0, s1, s2⟩ := (HR.out.grown hg).cells; clear hr hg; have cc := CC.out w2 G2.out)
        | (go_at_call 73; refine (err_any p a1 l 0 _ R2.out).mono ?_; rintro r w9 ⟨rfl, rfl⟩))
      go_ret
      exact ⟨rfl, R2.out, G2.out⟩
  · rw [if_pos he1] at hC
    rw [hC]
    have heb : (e1 == 0) = false := by simpa using he1
    clear hC
    go_enter Try.func93, Try.ntmps93
    go_wp2_with (first
      | (go_at_call 91; refine U.out.mono ?_; rintro r w2 ⟨rfl, hr, hg⟩; have R2 := Kept.mk hr; have G2 := Kept.mk hg; obtain ⟨s0, s1, s2⟩ := (HR.out.grown hg).cells; clear hr hg)
      | (go_at_call 73; refine (err_any p a1 l e1 _ R2.out).mono ?_; rintro r w9 ⟨rfl, rfl⟩))
    go_ret
    exact ⟨rfl, R2.out, G2.out⟩
set_option maxRecDepth 100000 in
set_option maxHeartbeats 4000000 in
theorem length_any (q p a tn tc : Nat) (TA : Option Addr) (T : List ByteArray) (l : List UInt8) (e : Int) (w : World) (hR : RR w q p TA tn tc T l) (h : Rdr w p l a e) :
    Calls Try.prog 77 #[.pointer (some ⟨q, 0, none⟩)] w fun r w' => ∃ v : Int, r = .returned (.int .i64 v) ∧ ((Rc.len l a e).2.2 = 0 → v = ((Rc.len l a e).1 : Int)) ∧ Rdr w' p l (Rc.len l a e).2.1 (Rc.len l a e).2.2 ∧ w.grownBy w' (some p) := by
  obtain ⟨q0, q1, q2⟩ := hR.cells
  have U := Kept.mk (uint_any p a 18446744073709551615 l e w h)
  have HR := Kept.mk hR
  have hle := Wr.uint_le l a Rc.mx e
  have hz := Wr.uint_zero l a Rc.mx e
  have hC : Rc.len l a e = (let r := Wr.uint l a e Rc.mx; if r.1 < 1 ∨ 2147483647 < r.1 then (r.1, r.2.1, if r.2.2 = 0 then 23 else r.2.2) else r) := rfl
  unfold Rc.mx at hC hle hz
  generalize Wr.uint l a e 18446744073709551615 = X at *
  obtain ⟨x, a1, e1⟩ := X
  simp only [] at hC hle hz U
  clear h hR
  by_cases hx : x < 1 ∨ 2147483647 < x
  · rw [if_pos hx] at hC
    rw [hC]
    have hne : Kept (¬ (if e1 = 0 then (23 : Int) else e1) = 0) := ⟨by split <;> omega⟩
    have F := Kept.mk (fun w2 (hr : Rdr w2 p l a1 e1) => fail_any p a1 l e1 23 w2 hr)
    generalize (if e1 = 0 then (23 : Int) else e1) = e2 at *
    rcases Nat.lt_or_ge x 1 with h1 | h1
    · have h1' : (x : Int) < 1 := by omega
      clear hC hx hz
      go_enter Try.func77, Try.ntmps77
      go_wp2_with (first
        | (go_at_call 91; refine U.out.mono ?_; rintro r w2 ⟨rfl, hr, hg⟩; have R2 := Kept.mk hr; have G2 := Kept.mk hg; obtain ⟨s0, s1, s2⟩ := (HR.out.grown hg).cells; clear hr hg)
        | (go_at_call 78; refine (F.out _ R2.out).mono ?_; rintro r w3 ⟨rfl, hr, hg⟩; have R3 := Kept.mk hr; have G3 := Kept.mk hg; clear hr hg))
      go_ret
      exact ⟨_, rfl, fun h => absurd h hne.out, R3.out, G2.out.trans G3.out⟩
    · have h1' : ¬ (x : Int) < 1 := by omega
      have h2' : (2147483647 : Int) < (x : Int) := by omega
      clear hC hx hz
      go_enter Try.func77, Try.ntmps77
      go_wp2_with (first
        | (go_at_call 91; refine U.out.mono ?_; rintro r w2 ⟨rfl, hr, hg⟩; have R2 := Kept.mk hr; have G2 := Kept.mk hg; obtain ⟨s0, s1, s2⟩ := (HR.out.grown hg).cells; clear hr hg)
        | (go_at_call 78; refine (F.out _ R2.out).mono ?_; rintro r w3 ⟨rfl, hr, hg⟩; have R3 := Kept.mk hr; have G3 := Kept.mk hg; clear hr hg))
      go_ret
      exact ⟨_, rfl, fun h => absurd h hne.out, R3.out, G2.out.trans G3.out⟩
  · rw [if_neg hx] at hC
    rw [hC]
    have h1' : ¬ (x : Int) < 1 := by omega
    have h2' : ¬ (2147483647 : Int) < (x : Int) := by omega
    have h3' : (x : Int) ≤ 2147483647 := by omega
    clear hC hx hz
    go_enter Try.func77, Try.ntmps77
    go_wp2_with (go_at_call 91; refine U.out.mono ?_; rintro r w2 ⟨rfl, hr, hg⟩; have R2 := Kept.mk hr; have G2 := Kept.mk hg; obtain ⟨s0, s1, s2⟩ := (HR.out.grown hg).cells; clear hr hg)
    go_ret
    exact ⟨_, rfl, fun _ => by go_num, R2.out, G2.out⟩
end Go.Proofs.Ytglnghdomoebfaa
