/- The reader's Section. -/
import Derived.Test.YtknfkbgnfjfpeaaDoorWireH
namespace Go.Proofs.YtknfkbgnfjfpeaaDoor
open Go.RowKit Go.Shelf

def Wr.section1 (l : List UInt8) (a : Nat) (id : UInt8) : List UInt8 × Int × Int :=
  if h : a < l.length then
    if l[a] ≠ id then ([], 0, 11)
    else
      let r := Vi.get l ((a : Int) + 1)
      if r.2.2 ≠ 0 then ([], 0, (r.2.2 : Int))
      else if (l.length : Int) - r.2.1 - 4 < (r.1 : Int) then ([], 0, 3)
      else if Crc.chk ((l.drop a).take (r.2.1.toNat + r.1 + 4 - a)) = false then ([], 0, 12)
      else ((l.drop r.2.1.toNat).take r.1, r.2.1 + (r.1 : Int) + 4, 0)
  else ([], 0, 3)
def SecPost (w : World) (s : List UInt8 × Int × Int) (r : Ending) (w' : World) : Prop :=
  (s.2.2 ≠ 0 ∧ r = .returned (.tuple #[.slice none 0 0, .int .i64 s.2.1, .int .i64 s.2.2]) ∧ Quiet w w') ∨ (s.2.2 = 0 ∧ ∃ A3 n3 c3, r = .returned (.tuple #[.slice A3 n3 c3, .int .i64 s.2.1, .int .i64 0]) ∧ OwnB w' w.heap.size A3 n3 c3 s.1 ∧ Below w.heap.size w w')
theorem SecPost.bad {w w' : World} {tt er : Int} (h : er ≠ 0) (q : Quiet w w') : SecPost w ([], tt, er) (.returned (.tuple #[.slice none 0 0, .int .i64 tt, .int .i64 er])) w' := .inl ⟨h, rfl, q⟩

set_option maxRecDepth 100000 in
set_option maxHeartbeats 4000000 in
theorem section1_any (p a bx bi : Nat) (l : List UInt8) (e : Int) (id : UInt8) (w : World) (h : Rdr w p l a e) (hb : w.cell? ⟨bx, 0, none⟩ = some (.pointer (some ⟨p, 0, none⟩))) (hi : w.cell? ⟨bi, 0, none⟩ = some (.int .u8 (id.toNat : Int))) (ht : Tab w) :
    Calls Tryd.prog 52 #[.int .i64 (a : Int), .pointer (some ⟨bx, 0, none⟩), .pointer (some ⟨bi, 0, none⟩)] w (SecPost w (Wr.section1 l a id)) := by
  have hlen := h.len
  have HL := Kept.mk (fun (W : World) (hW : Rdr W p l a e) (t : Int) (h0 : 0 ≤ t) (h1 : t ≤ 9223372036854775807) => left_any p a l e t W hW h0 h1)
  have hp := h.lt
  obtain ⟨A, n, c, k0, k1, k2, f1, f2, hr, h3, h4, h5, h6⟩ := h.cells
  have hl := Kept.mk hr.len
  have HG := Kept.mk (fun (W : World) (hW : RdB W p A n c l) => get_any A n c p l ((a : Int) + 1) W hW (by omega) (by omega))
  have HR := Kept.mk hr
  have H := Kept.mk h
  have HT := Kept.mk ht
  have e1 : Kept ((l.length : Int) - (a : Int) = (n : Int) - (a : Int)) := ⟨by rw [← hl.out]⟩
  clear ht
  by_cases ha : a < l.length
  · have h7 : (a : Int) < (n : Int) := by have := hl.out; omega
    have h8 : (1 : Int) ≤ (n : Int) - (a : Int) := by omega
    obtain ⟨b, off, rfl, hbp, hcell⟩ := hr.at_ ha
    clear h hr
    by_cases hid : l[a] = id
    · have hid' : Kept (l[a] = id) := ⟨hid⟩
      rw [hid] at hcell
      clear hid
      obtain ⟨r, hr⟩ : ∃ r, Vi.get l ((a : Int) + 1) = r := ⟨_, rfl⟩
      have hto := fun x t (hh : r = (x, t, 0)) => Vi.get_to (a := a + 1) (by rw [Int.natCast_add]; exact hr.trans hh)
      rw [hr] at HG
      have hsec : Kept (Wr.section1 l a id = if r.2.2 ≠ 0 then ([], 0, (r.2.2 : Int)) else if (l.length : Int) - r.2.1 - 4 < (r.1 : Int) then ([], 0, 3) else if Crc.chk ((l.drop a).take (r.2.1.toNat + r.1 + 4 - a)) = false then ([], 0, 12) else ((l.drop r.2.1.toNat).take r.1, r.2.1 + (r.1 : Int) + 4, 0)) := ⟨by
        unfold Wr.section1; rw [dif_pos ha, if_neg (by simpa using hid'.out), hr]⟩
      rw [hsec.out]
      clear hr
      obtain ⟨x, t, er⟩ := r
      unfold getV at HG
      simp only at HG ⊢
      by_cases h0 : er = 0
      · subst h0
        rw [if_neg (by simp)]
        obtain ⟨ht1, ht2⟩ := hto x t rfl
        obtain ⟨tn, rfl⟩ := Int.eq_ofNat_of_zero_le (show 0 ≤ t by omega)
        have ht3 : (tn : Int) ≤ (n : Int) := by have := hl.out; omega
        have ht4 : (a : Int) + 1 < (tn : Int) := by omega
        have e3 : Kept ((l.length : Int) - (tn : Int) = (n : Int) - (tn : Int)) := ⟨by rw [← hl.out]⟩
        clear hto ht2 ht1
        simp only [Int.toNat_natCast]
        by_cases hfar : (n : Int) - (tn : Int) - 4 < (x : Int)
        · rw [if_pos (by rw [e3.out]; exact hfar)]
          by_cases hneg : (n : Int) - (tn : Int) - 4 < 0
          · go_enter Tryd.func52, Tryd.ntmps52
            go_wp2_with (go_at_call 53; refine (HL.out _ (by exact H.out) _ (by omega) (by omega)).mono ?_; rintro r w1 ⟨rfl, rfl⟩; rw [e1.out])
            go_quiet (fail)
            go_wp2_with (first
              | (go_at_call 54; refine (HG.out _ (by exact HR.out)).mono ?_; rintro r w1 ⟨rfl, rfl⟩)
              | (go_at_call 53; refine (HL.out _ (by exact H.out) _ (by omega) (by omega)).mono ?_; rintro r w1 ⟨rfl, rfl⟩; rw [e3.out]))
            go_ret3
            exact SecPost.bad (by decide) ⟨_, rfl⟩
          · have hneg' : 0 ≤ (n : Int) - (tn : Int) - 4 := by omega
            clear hneg
            go_enter Tryd.func52, Tryd.ntmps52
            go_wp2_with (go_at_call 53; refine (HL.out _ (by exact H.out) _ (by omega) (by omega)).mono ?_; rintro r w1 ⟨rfl, rfl⟩; rw [e1.out])
            go_quiet (fail)
            go_wp2_with (first
              | (go_at_call 54; refine (HG.out _ (by exact HR.out)).mono ?_; rintro r w1 ⟨rfl, rfl⟩)
              | (go_at_call 53; refine (HL.out _ (by exact H.out) _ (by omega) (by omega)).mono ?_; rintro r w1 ⟨rfl, rfl⟩; rw [e3.out]))
            go_ret3
            exact SecPost.bad (by decide) ⟨_, rfl⟩
        · rw [if_neg (by rw [e3.out]; exact hfar)]
          have hnear : (x : Int) ≤ (n : Int) - (tn : Int) - 4 := by omega
          have hneg' : 0 ≤ (n : Int) - (tn : Int) - 4 := by omega
          have e2 : ((tn : Int) + (x : Int) + 4).toNat = tn + x + 4 := by omega
          have e4 : ((tn : Int) + (x : Int)).toNat = tn + x := by omega
          have i1 : (a : Int) ≤ (tn : Int) + (x : Int) + 4 := by omega
          have i2 : (tn : Int) + (x : Int) + 4 ≤ (n : Int) := by omega
          have i3 : (tn : Int) + (x : Int) + 4 ≤ (c : Int) := by omega
          have i4 : (a : Int) < (c : Int) := by omega
          have i5 : (tn : Int) < (c : Int) := by omega
          have i6 : (tn : Int) + (x : Int) ≤ (n : Int) := by omega
          have i7 : (tn : Int) + (x : Int) ≤ (c : Int) := by omega
          have c1 := HR.out.cut (a := a) (k := tn + x + 4 - a) (by omega)
          have c2 := HR.out.cut (a := tn) (k := x) (by omega)
          rw [if_neg (by omega)] at c1 c2
          simp only [Option.map_some, add_plain] at c1 c2
          have hpl : p ≤ w.heap.size := by omega
          obtain ⟨ck, hck⟩ : ∃ b, Crc.chk ((l.drop a).take (tn + x + 4 - a)) = b := ⟨_, rfl⟩
          rw [hck]
          have HC := Kept.mk (fun (W : World) (hW : RdB W p (some ⟨b, off + a, none⟩) (tn + x + 4 - a) (c - a) ((l.drop a).take (tn + x + 4 - a))) (hT : Tab W) => check_any _ _ _ _ W p hW hT)
          rw [hck] at HC
          have C1 := Kept.mk c1
          have C2 := Kept.mk c2
          clear c1 c2 hck hfar
          cases ck with
          | false =>
            rw [if_pos rfl]
            go_enter Tryd.func52, Tryd.ntmps52
            go_wp2_with (go_at_call 53; refine (HL.out _ (by exact H.out) _ (by omega) (by omega)).mono ?_; rintro r w1 ⟨rfl, rfl⟩; rw [e1.out])
            go_quiet (fail)
            go_wp2_with (first
              | (go_at_call 54; refine (HG.out _ (by exact HR.out)).mono ?_; rintro r w1 ⟨rfl, rfl⟩)
              | (go_at_call 53; refine (HL.out _ (by exact H.out) _ (by omega) (by omega)).mono ?_; rintro r w1 ⟨rfl, rfl⟩; rw [e3.out])
              | (go_at_call 55; refine (HC.out _ (by exact C1.out) (by exact HT.out)).mono ?_; rintro r w1 ⟨rfl, rfl⟩))
            go_ret3
            exact SecPost.bad (by decide) ⟨_, rfl⟩
          | true =>
            rw [if_neg (by simp)]
            go_enter Tryd.func52, Tryd.ntmps52
            go_wp2_with (go_at_call 53; refine (HL.out _ (by exact H.out) _ (by omega) (by omega)).mono ?_; rintro r w1 ⟨rfl, rfl⟩; rw [e1.out])
            go_quiet (fail)
            go_wp2_with (first
              | (go_at_call 54; refine (HG.out _ (by exact HR.out)).mono ?_; rintro r w1 ⟨rfl, rfl⟩)
              | (go_at_call 53; refine (HL.out _ (by exact H.out) _ (by omega) (by omega)).mono ?_; rintro r w1 ⟨rfl, rfl⟩; rw [e3.out])
              | (go_at_call 55; refine (HC.out _ (by exact C1.out) (by exact HT.out)).mono ?_; rintro r w1 ⟨rfl, rfl⟩)
              | (go_at_call 50; refine (sclone_any _ _ _ p ((l.drop tn).take x) _ (by exact C2.out) (by exact hpl) (by omega)).mono ?_; rintro r w1 ⟨A3, c3, rfl, ho, hbl⟩))
            go_ret3
            exact .inr ⟨rfl, A3, x, c3, rfl, ho, (Quiet.below ⟨_, rfl⟩ _).trans hbl⟩
      · have h0' : ((er : Int) == 0) = false := by simp; omega
        have h0'' : ((er : Int) != 0) = true := by simp; omega
        have h0n : Kept ((er : Int) ≠ 0) := ⟨by omega⟩
        rw [if_pos (by simpa using h0)]
        clear h0 hto
        go_enter Tryd.func52, Tryd.ntmps52
        go_wp2_with (go_at_call 53; refine (HL.out _ (by exact H.out) _ (by omega) (by omega)).mono ?_; rintro r w1 ⟨rfl, rfl⟩; rw [e1.out])
        go_quiet (fail)
        go_wp2_with (first
          | (go_at_call 54; refine (HG.out _ (by exact HR.out)).mono ?_; rintro r w1 ⟨rfl, rfl⟩))
        go_ret3
        exact SecPost.bad h0n.out ⟨_, rfl⟩
    · have hsec : Kept (Wr.section1 l a id = ([], 0, 11)) := ⟨by unfold Wr.section1; rw [dif_pos ha, if_pos (by simpa using hid)]⟩
      rw [hsec.out]
      have hne : l[a].toNat ≠ id.toNat := fun h => hid (UInt8.toNat_inj.1 h)
      generalize l[a].toNat = v at *
      generalize id.toNat = v' at *
      have hnb : ((v : Int) == (v' : Int)) = false := by simp; omega
      have hnb' : ((v : Int) != (v' : Int)) = true := by simp; omega
      clear hid hne
      go_enter Tryd.func52, Tryd.ntmps52
      go_wp2_with (go_at_call 53; refine (HL.out _ (by exact H.out) _ (by omega) (by omega)).mono ?_; rintro r w1 ⟨rfl, rfl⟩; rw [e1.out])
      go_quiet (fail)
      go_wp2_with fail
      go_ret3
      exact SecPost.bad (by decide) ⟨_, rfl⟩
  · have hsec : Kept (Wr.section1 l a id = ([], 0, 3)) := ⟨by unfold Wr.section1; rw [dif_neg ha]⟩
    rw [hsec.out]
    have e2 : Kept ((n : Int) - (a : Int) = 0) := ⟨by have := hl.out; omega⟩
    clear h hr
    go_enter Tryd.func52, Tryd.ntmps52
    go_wp2_with (go_at_call 53; refine (HL.out _ (by exact H.out) _ (by omega) (by omega)).mono ?_; rintro r w1 ⟨rfl, rfl⟩; rw [e1.out, e2.out])
    go_ret3
    exact SecPost.bad (by decide) ⟨0, rfl⟩
end Go.Proofs.YtknfkbgnfjfpeaaDoor
