/- wire.read at its four types, over whatever closure; NewReader. (Printed by gen_wired.py.) -/
import Derived.Test.YtknfkbgnfjfpeaaDoorWireC
namespace Go.Proofs.YtknfkbgnfjfpeaaDoor
open Go.RowKit Go.Shelf

set_option maxHeartbeats 1000000 in
theorem newReader_any (A : Option Addr) (n c B : Nat) (l : List UInt8) (w : World) (hv : RdB w B A n c l) (hB : B ≤ w.heap.size) (hn : n ≤ 140737488354000) :
    Calls Tryd.prog 23 #[.slice A n c] w fun r w' => ∃ p, r = .returned (.pointer (some ⟨p, 0, none⟩)) ∧ w.heap.size ≤ p ∧ p < w'.heap.size ∧ Rdr w' p l 0 0 ∧ Below w.heap.size w w' := by
  have Hv := Kept.mk hv
  have hlc := hv.1
  clear hv
  go_enter Tryd.func23, Tryd.ntmps23
  go_wp2_with (go_at_call 50; refine (sclone_any _ _ _ B l _ Hv.out hB (by omega)).mono ?_; rintro e w1 ⟨A1, c1, rfl, ho, hb⟩)
  go_ret
  have hz := hb.size
  exact ⟨w1.heap.size, rfl, hz, by simp, ⟨A1, n, c1, heap_alloc_new w1 _, ho.rd.alloc (Nat.le_refl _) _, hn, Nat.zero_le _⟩, hb.alloc hz _⟩

set_option maxHeartbeats 1000000 in
theorem readByte_err (p at_ : Nat) (l : List UInt8) (e : Int) (F : Value) (w : World) (h : Rdr w p l at_ e) (he : e ≠ 0) :
    Calls Tryd.prog 64 #[.pointer (some ⟨p, 0, none⟩), F] w fun r w' => r = .returned (.int .u8 0) ∧ w = w' := by
  have H := Kept.mk h
  have heb : (e == 0) = false := by simpa using he
  have hen : (e != 0) = true := by simpa using he
  clear h he
  go_enter Tryd.func64, Tryd.ntmps64
  go_wp2_with (go_at_call 25; refine (err_any _ _ _ _ _ H.out).mono ?_; rintro r w1 ⟨rfl, rfl⟩)
  go_ret
  exact ⟨rfl, rfl⟩
set_option maxHeartbeats 1000000 in
theorem readByte_bad (p at_ fid : Nat) (l : List UInt8) (tt er : Int) (c1 : Value) (w : World) (R : World → Prop) (h : Rdr w p l at_ 0) (he : er ≠ 0)
    (hent : ∀ args w, (callFunc fid args).run Tryd.prog w = .ok (.enter fid args) w)
    (hf : Calls Tryd.prog fid #[.int .i64 (at_ : Int), c1] w fun r w' => (∃ V, r = .returned (.tuple #[V, .int .i64 tt, .int .i64 er])) ∧ R w') (hR : ∀ w', R w' → Rdr w' p l at_ 0) :
    Calls Tryd.prog 64 #[.pointer (some ⟨p, 0, none⟩), .func (.func fid) #[] #[c1]] w fun r w' => r = .returned (.int .u8 0) ∧ ∃ w1, R w1 ∧ w' = w1.setCell ⟨p, 2, none⟩ (.int .i64 er) := by
  obtain ⟨A, n, c, k0, k1, k2, f1, f2, hr, h3, h4, h5, h6⟩ := h.cells
  have H := Kept.mk h
  have HF := Kept.mk hf
  have HR := Kept.mk hR
  have heb : (er == 0) = false := by simpa using he
  have hen : (er != 0) = true := by simpa using he
  clear h he hr hf hR
  go_enter Tryd.func64, Tryd.ntmps64
  go_wp2_with (go_at_call 25; refine (err_any _ _ _ _ _ H.out).mono ?_; rintro r w1 ⟨rfl, rfl⟩)
  refine HF.out.mono ?_
  rintro r w1 ⟨⟨V, rfl⟩, hw1⟩
  obtain ⟨A', n', c', j0, j1, j2, g1, g2, -⟩ := (HR.out _ hw1).cells
  have HW := Kept.mk hw1
  clear k0 k1 k2 f1 f2 hw1
  go_wp2
  go_ret
  exact ⟨rfl, w1, HW.out, rfl⟩
set_option maxHeartbeats 1000000 in
theorem readByte_ok (p at_ fid : Nat) (l : List UInt8) (tt : Int) (c1 : Value) (w : World) (R : Value → World → Prop) (h : Rdr w p l at_ 0)
    (hent : ∀ args w, (callFunc fid args).run Tryd.prog w = .ok (.enter fid args) w)
    (hf : Calls Tryd.prog fid #[.int .i64 (at_ : Int), c1] w fun r w' => ∃ V, r = .returned (.tuple #[V, .int .i64 tt, .int .i64 0]) ∧ R V w') (hR : ∀ V w', R V w' → Rdr w' p l at_ 0) :
    Calls Tryd.prog 64 #[.pointer (some ⟨p, 0, none⟩), .func (.func fid) #[] #[c1]] w fun r w' => ∃ V, r = .returned V ∧ ∃ w1, R V w1 ∧ w' = w1.setCell ⟨p, 1, none⟩ (.int .i64 tt) := by
  obtain ⟨A, n, c, k0, k1, k2, f1, f2, hr, h3, h4, h5, h6⟩ := h.cells
  have H := Kept.mk h
  have HF := Kept.mk hf
  have HR := Kept.mk hR
  clear h hr hf hR
  go_enter Tryd.func64, Tryd.ntmps64
  go_wp2_with (go_at_call 25; refine (err_any _ _ _ _ _ H.out).mono ?_; rintro r w1 ⟨rfl, rfl⟩)
  refine HF.out.mono ?_
  rintro r w1 ⟨V, rfl, hw1⟩
  obtain ⟨A', n', c', j0, j1, j2, g1, g2, -⟩ := (HR.out _ _ hw1).cells
  have HW := Kept.mk hw1
  clear k0 k1 k2 f1 f2 hw1
  go_wp2
  go_ret
  exact ⟨V, rfl, w1, HW.out, rfl⟩

set_option maxHeartbeats 1000000 in
theorem readUint_err (p at_ : Nat) (l : List UInt8) (e : Int) (F : Value) (w : World) (h : Rdr w p l at_ e) (he : e ≠ 0) :
    Calls Tryd.prog 66 #[.pointer (some ⟨p, 0, none⟩), F] w fun r w' => r = .returned (.int .u64 0) ∧ w = w' := by
  have H := Kept.mk h
  have heb : (e == 0) = false := by simpa using he
  have hen : (e != 0) = true := by simpa using he
  clear h he
  go_enter Tryd.func66, Tryd.ntmps66
  go_wp2_with (go_at_call 25; refine (err_any _ _ _ _ _ H.out).mono ?_; rintro r w1 ⟨rfl, rfl⟩)
  go_ret
  exact ⟨rfl, rfl⟩
set_option maxHeartbeats 1000000 in
theorem readUint_bad (p at_ fid : Nat) (l : List UInt8) (tt er : Int) (c1 c2 : Value) (w : World) (R : World → Prop) (h : Rdr w p l at_ 0) (he : er ≠ 0)
    (hent : ∀ args w, (callFunc fid args).run Tryd.prog w = .ok (.enter fid args) w)
    (hf : Calls Tryd.prog fid #[.int .i64 (at_ : Int), c1, c2] w fun r w' => (∃ V, r = .returned (.tuple #[V, .int .i64 tt, .int .i64 er])) ∧ R w') (hR : ∀ w', R w' → Rdr w' p l at_ 0) :
    Calls Tryd.prog 66 #[.pointer (some ⟨p, 0, none⟩), .func (.func fid) #[] #[c1, c2]] w fun r w' => r = .returned (.int .u64 0) ∧ ∃ w1, R w1 ∧ w' = w1.setCell ⟨p, 2, none⟩ (.int .i64 er) := by
  obtain ⟨A, n, c, k0, k1, k2, f1, f2, hr, h3, h4, h5, h6⟩ := h.cells
  have H := Kept.mk h
  have HF := Kept.mk hf
  have HR := Kept.mk hR
  have heb : (er == 0) = false := by simpa using he
  have hen : (er != 0) = true := by simpa using he
  clear h he hr hf hR
  go_enter Tryd.func66, Tryd.ntmps66
  go_wp2_with (go_at_call 25; refine (err_any _ _ _ _ _ H.out).mono ?_; rintro r w1 ⟨rfl, rfl⟩)
  refine HF.out.mono ?_
  rintro r w1 ⟨⟨V, rfl⟩, hw1⟩
  obtain ⟨A', n', c', j0, j1, j2, g1, g2, -⟩ := (HR.out _ hw1).cells
  have HW := Kept.mk hw1
  clear k0 k1 k2 f1 f2 hw1
  go_wp2
  go_ret
  exact ⟨rfl, w1, HW.out, rfl⟩
set_option maxHeartbeats 1000000 in
theorem readUint_ok (p at_ fid : Nat) (l : List UInt8) (tt : Int) (c1 c2 : Value) (w : World) (R : Value → World → Prop) (h : Rdr w p l at_ 0)
    (hent : ∀ args w, (callFunc fid args).run Tryd.prog w = .ok (.enter fid args) w)
    (hf : Calls Tryd.prog fid #[.int .i64 (at_ : Int), c1, c2] w fun r w' => ∃ V, r = .returned (.tuple #[V, .int .i64 tt, .int .i64 0]) ∧ R V w') (hR : ∀ V w', R V w' → Rdr w' p l at_ 0) :
    Calls Tryd.prog 66 #[.pointer (some ⟨p, 0, none⟩), .func (.func fid) #[] #[c1, c2]] w fun r w' => ∃ V, r = .returned V ∧ ∃ w1, R V w1 ∧ w' = w1.setCell ⟨p, 1, none⟩ (.int .i64 tt) := by
  obtain ⟨A, n, c, k0, k1, k2, f1, f2, hr, h3, h4, h5, h6⟩ := h.cells
  have H := Kept.mk h
  have HF := Kept.mk hf
  have HR := Kept.mk hR
  clear h hr hf hR
  go_enter Tryd.func66, Tryd.ntmps66
  go_wp2_with (go_at_call 25; refine (err_any _ _ _ _ _ H.out).mono ?_; rintro r w1 ⟨rfl, rfl⟩)
  refine HF.out.mono ?_
  rintro r w1 ⟨V, rfl, hw1⟩
  obtain ⟨A', n', c', j0, j1, j2, g1, g2, -⟩ := (HR.out _ _ hw1).cells
  have HW := Kept.mk hw1
  clear k0 k1 k2 f1 f2 hw1
  go_wp2
  go_ret
  exact ⟨V, rfl, w1, HW.out, rfl⟩

set_option maxHeartbeats 1000000 in
theorem readTake_err (p at_ : Nat) (l : List UInt8) (e : Int) (F : Value) (w : World) (h : Rdr w p l at_ e) (he : e ≠ 0) :
    Calls Tryd.prog 51 #[.pointer (some ⟨p, 0, none⟩), F] w fun r w' => r = .returned (.slice none 0 0) ∧ w = w' := by
  have H := Kept.mk h
  have heb : (e == 0) = false := by simpa using he
  have hen : (e != 0) = true := by simpa using he
  clear h he
  go_enter Tryd.func51, Tryd.ntmps51
  go_wp2_with (go_at_call 25; refine (err_any _ _ _ _ _ H.out).mono ?_; rintro r w1 ⟨rfl, rfl⟩)
  go_ret
  exact ⟨rfl, rfl⟩
set_option maxHeartbeats 1000000 in
theorem readTake_bad (p at_ fid : Nat) (l : List UInt8) (tt er : Int) (c1 c2 : Value) (w : World) (R : World → Prop) (h : Rdr w p l at_ 0) (he : er ≠ 0)
    (hent : ∀ args w, (callFunc fid args).run Tryd.prog w = .ok (.enter fid args) w)
    (hf : Calls Tryd.prog fid #[.int .i64 (at_ : Int), c1, c2] w fun r w' => (∃ V, r = .returned (.tuple #[V, .int .i64 tt, .int .i64 er])) ∧ R w') (hR : ∀ w', R w' → Rdr w' p l at_ 0) :
    Calls Tryd.prog 51 #[.pointer (some ⟨p, 0, none⟩), .func (.func fid) #[] #[c1, c2]] w fun r w' => r = .returned (.slice none 0 0) ∧ ∃ w1, R w1 ∧ w' = w1.setCell ⟨p, 2, none⟩ (.int .i64 er) := by
  obtain ⟨A, n, c, k0, k1, k2, f1, f2, hr, h3, h4, h5, h6⟩ := h.cells
  have H := Kept.mk h
  have HF := Kept.mk hf
  have HR := Kept.mk hR
  have heb : (er == 0) = false := by simpa using he
  have hen : (er != 0) = true := by simpa using he
  clear h he hr hf hR
  go_enter Tryd.func51, Tryd.ntmps51
  go_wp2_with (go_at_call 25; refine (err_any _ _ _ _ _ H.out).mono ?_; rintro r w1 ⟨rfl, rfl⟩)
  refine HF.out.mono ?_
  rintro r w1 ⟨⟨V, rfl⟩, hw1⟩
  obtain ⟨A', n', c', j0, j1, j2, g1, g2, -⟩ := (HR.out _ hw1).cells
  have HW := Kept.mk hw1
  clear k0 k1 k2 f1 f2 hw1
  go_wp2
  go_ret
  exact ⟨rfl, w1, HW.out, rfl⟩
set_option maxHeartbeats 1000000 in
theorem readTake_ok (p at_ fid : Nat) (l : List UInt8) (tt : Int) (c1 c2 : Value) (w : World) (R : Value → World → Prop) (h : Rdr w p l at_ 0)
    (hent : ∀ args w, (callFunc fid args).run Tryd.prog w = .ok (.enter fid args) w)
    (hf : Calls Tryd.prog fid #[.int .i64 (at_ : Int), c1, c2] w fun r w' => ∃ V, r = .returned (.tuple #[V, .int .i64 tt, .int .i64 0]) ∧ R V w') (hR : ∀ V w', R V w' → Rdr w' p l at_ 0) :
    Calls Tryd.prog 51 #[.pointer (some ⟨p, 0, none⟩), .func (.func fid) #[] #[c1, c2]] w fun r w' => ∃ V, r = .returned V ∧ ∃ w1, R V w1 ∧ w' = w1.setCell ⟨p, 1, none⟩ (.int .i64 tt) := by
  obtain ⟨A, n, c, k0, k1, k2, f1, f2, hr, h3, h4, h5, h6⟩ := h.cells
  have H := Kept.mk h
  have HF := Kept.mk hf
  have HR := Kept.mk hR
  clear h hr hf hR
  go_enter Tryd.func51, Tryd.ntmps51
  go_wp2_with (go_at_call 25; refine (err_any _ _ _ _ _ H.out).mono ?_; rintro r w1 ⟨rfl, rfl⟩)
  refine HF.out.mono ?_
  rintro r w1 ⟨V, rfl, hw1⟩
  obtain ⟨A', n', c', j0, j1, j2, g1, g2, -⟩ := (HR.out _ _ hw1).cells
  have HW := Kept.mk hw1
  clear k0 k1 k2 f1 f2 hw1
  go_wp2
  go_ret
  exact ⟨V, rfl, w1, HW.out, rfl⟩

set_option maxHeartbeats 1000000 in
theorem readString_err (p at_ : Nat) (l : List UInt8) (e : Int) (F : Value) (w : World) (h : Rdr w p l at_ e) (he : e ≠ 0) :
    Calls Tryd.prog 56 #[.pointer (some ⟨p, 0, none⟩), F] w fun r w' => r = .returned (.string ⟨#[]⟩) ∧ w = w' := by
  have H := Kept.mk h
  have heb : (e == 0) = false := by simpa using he
  have hen : (e != 0) = true := by simpa using he
  clear h he
  go_enter Tryd.func56, Tryd.ntmps56
  go_wp2_with (go_at_call 25; refine (err_any _ _ _ _ _ H.out).mono ?_; rintro r w1 ⟨rfl, rfl⟩)
  go_ret
  exact ⟨rfl, rfl⟩
set_option maxHeartbeats 1000000 in
theorem readString_bad (p at_ fid : Nat) (l : List UInt8) (tt er : Int) (c1 c2 : Value) (w : World) (R : World → Prop) (h : Rdr w p l at_ 0) (he : er ≠ 0)
    (hent : ∀ args w, (callFunc fid args).run Tryd.prog w = .ok (.enter fid args) w)
    (hf : Calls Tryd.prog fid #[.int .i64 (at_ : Int), c1, c2] w fun r w' => (∃ V, r = .returned (.tuple #[V, .int .i64 tt, .int .i64 er])) ∧ R w') (hR : ∀ w', R w' → Rdr w' p l at_ 0) :
    Calls Tryd.prog 56 #[.pointer (some ⟨p, 0, none⟩), .func (.func fid) #[] #[c1, c2]] w fun r w' => r = .returned (.string ⟨#[]⟩) ∧ ∃ w1, R w1 ∧ w' = w1.setCell ⟨p, 2, none⟩ (.int .i64 er) := by
  obtain ⟨A, n, c, k0, k1, k2, f1, f2, hr, h3, h4, h5, h6⟩ := h.cells
  have H := Kept.mk h
  have HF := Kept.mk hf
  have HR := Kept.mk hR
  have heb : (er == 0) = false := by simpa using he
  have hen : (er != 0) = true := by simpa using he
  clear h he hr hf hR
  go_enter Tryd.func56, Tryd.ntmps56
  go_wp2_with (go_at_call 25; refine (err_any _ _ _ _ _ H.out).mono ?_; rintro r w1 ⟨rfl, rfl⟩)
  refine HF.out.mono ?_
  rintro r w1 ⟨⟨V, rfl⟩, hw1⟩
  obtain ⟨A', n', c', j0, j1, j2, g1, g2, -⟩ := (HR.out _ hw1).cells
  have HW := Kept.mk hw1
  clear k0 k1 k2 f1 f2 hw1
  go_wp2
  go_ret
  exact ⟨rfl, w1, HW.out, rfl⟩
set_option maxHeartbeats 1000000 in
theorem readString_ok (p at_ fid : Nat) (l : List UInt8) (tt : Int) (c1 c2 : Value) (w : World) (R : Value → World → Prop) (h : Rdr w p l at_ 0)
    (hent : ∀ args w, (callFunc fid args).run Tryd.prog w = .ok (.enter fid args) w)
    (hf : Calls Tryd.prog fid #[.int .i64 (at_ : Int), c1, c2] w fun r w' => ∃ V, r = .returned (.tuple #[V, .int .i64 tt, .int .i64 0]) ∧ R V w') (hR : ∀ V w', R V w' → Rdr w' p l at_ 0) :
    Calls Tryd.prog 56 #[.pointer (some ⟨p, 0, none⟩), .func (.func fid) #[] #[c1, c2]] w fun r w' => ∃ V, r = .returned V ∧ ∃ w1, R V w1 ∧ w' = w1.setCell ⟨p, 1, none⟩ (.int .i64 tt) := by
  obtain ⟨A, n, c, k0, k1, k2, f1, f2, hr, h3, h4, h5, h6⟩ := h.cells
  have H := Kept.mk h
  have HF := Kept.mk hf
  have HR := Kept.mk hR
  clear h hr hf hR
  go_enter Tryd.func56, Tryd.ntmps56
  go_wp2_with (go_at_call 25; refine (err_any _ _ _ _ _ H.out).mono ?_; rintro r w1 ⟨rfl, rfl⟩)
  refine HF.out.mono ?_
  rintro r w1 ⟨V, rfl, hw1⟩
  obtain ⟨A', n', c', j0, j1, j2, g1, g2, -⟩ := (HR.out _ _ hw1).cells
  have HW := Kept.mk hw1
  clear k0 k1 k2 f1 f2 hw1
  go_wp2
  go_ret
  exact ⟨V, rfl, w1, HW.out, rfl⟩
end Go.Proofs.YtknfkbgnfjfpeaaDoor
