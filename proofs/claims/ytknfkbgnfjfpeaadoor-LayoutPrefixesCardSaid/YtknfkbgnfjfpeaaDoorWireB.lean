/- wire.AppendSection; the reference's Bytes and Frame. -/
import Derived.Test.YtknfkbgnfjfpeaaDoorWireA
namespace Go.Proofs.YtknfkbgnfjfpeaaDoor
open Go.RowKit Go.Shelf

theorem Crc.app_len' (l : List UInt8) : (Crc.app l).length = l.length + 4 := by simp [Crc.app, Crc.four]
theorem Wr.frame_len (id : UInt8) (d : List UInt8) (h : d.length ≤ 140737488355328) : (Wr.frame id d).length ≤ d.length + 15 := by
  have := Wr.str_len d h
  unfold Wr.frame
  rw [Crc.app_len', List.length_cons]
  omega

set_option maxRecDepth 100000 in
set_option maxHeartbeats 2000000 in
theorem appendSection_any (A Sd : Option Addr) (n c nd cd base B : Nat) (l d : List UInt8) (id : UInt8) (w : World) (ho : OwnB w base A n c l) (hd : RdB w B Sd nd cd d) (hBd : B ≤ w.heap.size) (ht : Tab w) (hB : base ≤ w.heap.size) (hn : n + nd ≤ 140737488353000) :
    Calls Tryd.prog 18 #[.slice A n c, .agg #[.int .u8 (id.toNat : Int), .slice Sd nd cd]] w fun e w' => ∃ A3 n3 c3, e = .returned (.slice A3 n3 c3) ∧ OwnB w' base A3 n3 c3 (l ++ Wr.frame id d) ∧ Below base w w' := by
  have Ho := Kept.mk ho
  have hdl := Kept.mk hd.len
  have hlc := hd.1
  have hcm := hd.2.1
  unfold maxLen at hcm
  have bx : Below w.heap.size w (w.alloc (.cells #[.int .u8 (id.toNat : Int), .slice Sd nd cd] 28)) := (Below.refl _ w).alloc (Nat.le_refl _) _
  have bx2 : Below w.heap.size w ((w.alloc (.cells #[.int .u8 (id.toNat : Int), .slice Sd nd cd] 28)).alloc (.cells #[.int .u8 (id.toNat : Int)] 5)) := bx.alloc (by simp) _
  have kc := run_bytes_str _ B Sd nd cd d (hd.below (bx2.mono hBd))
  have lo := OwnB.lit1 (w.alloc (.cells #[.int .u8 (id.toNat : Int), .slice Sd nd cd] 28)) (.int .u8 (id.toNat : Int)) id rfl
  rw [World.size_alloc] at lo
  have LO := Kept.mk lo
  have BX2 := Kept.mk bx2
  have hfr : Kept (Wr.frame id d = Crc.app ([id] ++ Wr.str d)) := ⟨rfl⟩
  have hfl := Kept.mk (Wr.frame_len id d (by have := hdl.out; omega))
  have hsl := Kept.mk (Wr.str_len d (by have := hdl.out; omega))
  have hsz : (⟨d.toArray⟩ : ByteArray).size = nd := by rw [hdl.out]; simp [ByteArray.size]
  have hsz' := Kept.mk hsz
  have hdd : Kept ((⟨d.toArray⟩ : ByteArray).data.toList = d) := ⟨by simp⟩
  have hg := ht.lt
  have HT := Kept.mk ht
  have ho2 : Kept (∀ W, Below w.heap.size w W → OwnB W base A n c l) := ⟨fun W h => OwnB.keep Ho.out h⟩
  clear ho hd bx bx2 lo ht hsz
  generalize (⟨d.toArray⟩ : ByteArray) = S at *
  go_enter Tryd.func18, Tryd.ntmps18
  go_wp2_with (first
    | (go_at_call 16; refine (appendBytes_any _ _ _ (w.heap.size + 1) [id] S _ LO.out (by simp) (by have := hsz'.out; omega)).mono ?_; rintro e w1 ⟨A1, n1, c1, rfl, ho1, hb1⟩; rw [hdd.out] at ho1; have b1 : Below w.heap.size w w1 := BX2.out.trans (hb1.mono (by omega)); have hn1 := Kept.mk ho1.len; have R1 := Kept.mk ho1.rd; have T1 : Kept (Tab w1) := ⟨HT.out.below b1⟩; clear ho1 hb1)
    | (go_at_call 47; refine (append_any _ _ _ ([id] ++ Wr.str d) _ _ R1.out T1.out (Nat.le_refl _) (by have h1 := hsl.out; have h2 := hdl.out; simp; omega)).mono ?_; rintro e w2 ⟨A2, n2, c2, rfl, ho2', hb2⟩; have b2 := bl_next b1 hb2; have hn2 : n2 ≤ nd + 15 := (by have h1 := ho2'.len; have h2 := hfl.out; have h3 := hdl.out; rw [← hfr.out] at h1; omega); have R2 := Kept.mk ho2'.rd; have O2 := Kept.mk (ho2.out _ b2); have z2 := b2.size; clear ho2' hb2)
    | (at_builtin; refine wpList_appB rfl (.tmp 5) (.tmp 13) rfl base _ _ _ _ rfl O2.out _ _ _ _ _ rfl R2.out (by omega) (by omega) ?_; intro A4 c4 w4 hown4 hgrow4 hat4))
  go_ret
  refine ⟨A4, _, c4, rfl, ?_, (b2.mono hB).trans (own_grown_below O2.out (by omega) hgrow4)⟩
  rw [hfr.out]
  exact hown4

set_option maxRecDepth 100000 in
set_option maxHeartbeats 1000000 in
theorem refBytes_any (s : ByteArray) (w : World) (hn : s.size ≤ 140737488353000) :
    Calls Tryd.prog 20 #[.string s] w fun e w' => ∃ A3 n3 c3, e = .returned (.slice A3 n3 c3) ∧ OwnB w' w.heap.size A3 n3 c3 (Wr.str s.data.toList) ∧ Below w.heap.size w w' := by
  have hel := Kept.mk (Vi.enc_len s.size (by omega))
  have hst : Kept (Wr.str s.data.toList = Vi.enc s.size ++ s.data.toList) := ⟨by unfold Wr.str; simp⟩
  go_enter Tryd.func20, Tryd.ntmps20
  go_wp2_with (first
    | (go_at_call 48; refine (refEncode_any s.size _ (by omega)).mono ?_; rintro e w1 ⟨A1, n1, c1, rfl, ho1, b1⟩; have hn1 : n1 ≤ 10 := (by have h1 := ho1.len; have h2 := hel.out; omega); have O1 := Kept.mk ho1; have z1 := b1.size; clear ho1)
    | (at_builtin; refine wpList_appS rfl (.tmp 6) (.tmp 7) rfl w.heap.size _ _ _ _ rfl O1.out s rfl (by omega) (by omega) ?_; intro A4 c4 w4 hown4 hgrow4))
  go_ret
  refine ⟨A4, _, c4, rfl, ?_, b1.trans (own_grown_below O1.out (by omega) hgrow4)⟩
  rw [hst.out]
  exact hown4

set_option maxRecDepth 100000 in
set_option maxHeartbeats 1000000 in
theorem refFrame_any (Sd : Option Addr) (nd cd B : Nat) (d : List UInt8) (id : UInt8) (w : World) (hd : RdB w B Sd nd cd d) (hBd : B ≤ w.heap.size) (hn : nd ≤ 140737488353000) :
    Calls Tryd.prog 21 #[.int .u8 (id.toNat : Int), .slice Sd nd cd] w fun e w' => ∃ A3 n3 c3, e = .returned (.slice A3 n3 c3) ∧ OwnB w' w.heap.size A3 n3 c3 (Wr.frame id d) ∧ Below w.heap.size w w' := by
  have hdl := Kept.mk hd.len
  have hlc := hd.1
  have hcm := hd.2.1
  unfold maxLen at hcm
  have bx : Below w.heap.size w (w.alloc (.cells #[.int .u8 (id.toNat : Int)] 5)) := (Below.refl _ w).alloc (Nat.le_refl _) _
  have kc := run_bytes_str _ B Sd nd cd d (hd.below (bx.mono hBd))
  have LO := Kept.mk (OwnB.lit1 w (.int .u8 (id.toNat : Int)) id rfl)
  have BX := Kept.mk bx
  have hfr : Kept (Wr.frame id d = Crc.app ([id] ++ Wr.str d)) := ⟨rfl⟩
  have hsl := Kept.mk (Wr.str_len d (by have := hdl.out; omega))
  have hsz : (⟨d.toArray⟩ : ByteArray).size = nd := by rw [hdl.out]; simp [ByteArray.size]
  have hsz' := Kept.mk hsz
  have hdd : Kept ((⟨d.toArray⟩ : ByteArray).data.toList = d) := ⟨by simp⟩
  clear hd bx hsz
  generalize (⟨d.toArray⟩ : ByteArray) = S at *
  go_enter Tryd.func21, Tryd.ntmps21
  go_wp2_with (first
    | (go_at_call 20; refine (refBytes_any S _ (by have := hsz'.out; omega)).mono ?_; rintro e w1 ⟨A1, n1, c1, rfl, ho1, hb1⟩; rw [hdd.out] at ho1; have hb1' : Below (w.heap.size + 1) (w.alloc (.cells #[.int .u8 (id.toNat : Int)] 5)) w1 := (by simpa using hb1); have b1 : Below w.heap.size w w1 := BX.out.trans (hb1'.mono (by omega)); have hn1 : n1 ≤ nd + 10 := (by have h1 := ho1.len; have h2 := hsl.out; have h3 := hdl.out; omega); have R1 := Kept.mk ho1.rd; have O1 := Kept.mk (OwnB.keep LO.out hb1); have z1 := b1.size; clear ho1 hb1 hb1')
    | (at_builtin; refine wpList_appB rfl (.tmp 6) (.tmp 9) rfl w.heap.size _ _ _ _ rfl O1.out _ _ _ _ _ rfl R1.out (by omega) (by omega) ?_; intro A2 c2 w2 hown2 hgrow2 hat2; have b2 := b1.trans (own_grown_below O1.out z1 hgrow2); have R2 := Kept.mk hown2.rd; clear hown2)
    | (go_at_call 49; refine (refappend_any _ _ _ ([id] ++ Wr.str d) _ _ R2.out (Nat.le_refl _) (by have h1 := hsl.out; have h2 := hdl.out; simp; omega)).mono ?_; rintro e w3 ⟨A3, n3, c3, rfl, ho3, hb3⟩))
  go_ret
  refine ⟨A3, n3, c3, rfl, ?_, bl_next b2 hb3⟩
  rw [hfr.out]
  exact ho3.base b2.size
end Go.Proofs.YtknfkbgnfjfpeaaDoor
