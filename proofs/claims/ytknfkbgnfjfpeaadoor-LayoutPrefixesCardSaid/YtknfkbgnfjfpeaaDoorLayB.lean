/- Append to a slice that is full and not the call's own (a literal); AppendSection onto it. -/
import Derived.Test.YtknfkbgnfjfpeaaDoorLayA
import Derived.Lib.SmallJoins
namespace Go.Proofs.YtknfkbgnfjfpeaaDoor
open Go.RowKit Go.Shelf

theorem run_appB_full (w : World) (ty : TypeId) (base B B2 : Nat) (A : Option Addr) (n c : Nat) (l : List UInt8) (hv : RdB w B A n c l) (S : Option Addr) (m d : Nat) (k : List UInt8) (hr : RdB w B2 S m d k)
    (hn : 0 < n) (hc : c < n + m) (hlen : n + m ≤ 140737488355328) (hb : base ≤ w.heap.size) :
    ∃ c2 w', (Builtin.append_ #[22, 22] ty #[.slice A n c, .slice S m d]).run Tryd.prog w = .ok (.slice (some ⟨w.heap.size, 0, none⟩) (n + m) c2) w' ∧ OwnB w' base (some ⟨w.heap.size, 0, none⟩) (n + m) c2 (l ++ k) ∧ Below w.heap.size w w' := by
  obtain ⟨i0, hi0, hz0, hz1, hz2⟩ := info_parts infoB
  have hnc := hv.1
  obtain ⟨b, off, rfl, _, hcl⟩ := hv.2.2.2 hn
  obtain ⟨b2, off2, rfl, _, hcl2⟩ := hr.2.2.2 (by omega)
  have h1 := hv.2.2.1
  have h2 := hr.2.2.1
  rw [Nat.mul_one] at h1 h2
  have hrun := run_append_grow (P := Tryd.prog) w 22 ty 5 i0 (.int .u8 0) Tryd.underlying22 hi0 hz0 ⟨b, off, none⟩ n c (bvs l) (by rw [hz1, Nat.mul_one]; exact h1) (fun j v hj => by rw [add_plain]; exact hcl j v hj)
    ⟨b2, off2, none⟩ m d (bvs k) (by rw [hz1, Nat.mul_one]; exact h2) (fun j v hj => by rw [add_plain]; exact hcl2 j v hj) (by omega) (by omega) (growslice_fits (by omega) (by rw [hz2]; omega))
  have hge := grownCap_ge w (n + m) c 5
  have hle := grownCap_le_maxLen w (n + m) c 5 (by unfold maxLen; omega)
  refine ⟨_, _, hrun, ⟨by rw [bvs_length, List.length_append, Nat.mul_one, ← bvs_length l, ← bvs_length k, h1, h2], .inr ⟨w.heap.size, _, _, rfl, hb, heap_alloc_new w.drew _, hge, hle, ?_, ?_⟩⟩, ((Below.refl _ w).drew).alloc (Nat.le_refl _) _⟩
  · simp only [Array.size_append, List.size_toArray, size_zeroCells, h1, h2]
    simp [Value.cells]
    omega
  · simp only [Array.toList_append, List.append_assoc]
    rw [← List.append_assoc, ← bvs_append, Nat.mul_one, show n + m = (bvs (l ++ k)).length by rw [bvs_length, List.length_append, ← bvs_length l, ← bvs_length k, h1, h2]]
    exact List.take_left
/-- bytes that may be appended to: the call's own, or full -/
def Up (w : World) (base : Nat) (A : Option Addr) (n c : Nat) (l : List UInt8) : Prop := OwnB w base A n c l ∨ (0 < n ∧ c = n ∧ RdB w w.heap.size A n c l)
theorem Up.rd {w : World} {base n c : Nat} {A : Option Addr} {l : List UInt8} (h : Up w base A n c l) : RdB w w.heap.size A n c l := by
  rcases h with h | h
  · exact h.rd
  · exact h.2.2
theorem Up.len {w : World} {base n c : Nat} {A : Option Addr} {l : List UInt8} (h : Up w base A n c l) : n = l.length := h.rd.len
theorem Up.keep {w w' : World} {base n c : Nat} {A : Option Addr} {l : List UInt8} (h : Up w base A n c l) (hb : Below w.heap.size w w') : Up w' base A n c l := by
  rcases h with h | h
  · exact .inl (OwnB.keep h hb)
  · exact .inr ⟨h.1, h.2.1, (h.2.2.below hb).more hb.size⟩
theorem wpList_appU {w : World} {ops : Array Oper} {rest : List Oper} {o : Oper} {a : Act} {Q : Exit → Act → World → Prop} (hgd : Region.wanted o (yielded ops a.tmps) = true) (s x : Operand)
    (ho : o.op = .call { callee := .builtin .append, args := #[s, x], argTypes := #[22, 22] })
    (base : Nat) (A : Option Addr) (n c : Nat) (l : List UInt8) (hs : a.eval s = .slice A n c) (hown : Up w base A n c l)
    (B : Nat) (S : Option Addr) (m d : Nat) (k : List UInt8) (hx : a.eval x = .slice S m d) (hr : RdB w B S m d k) (hm : 0 < m)
    (hlen : n + m ≤ 140737488355328) (hbase : base ≤ w.heap.size)
    (h : ∀ A2 c2 w', OwnB w' base A2 (n + m) c2 (l ++ k) → Below base w w' → wpList Tryd.prog ops Q rest (a.put o.dst (.slice A2 (n + m) c2)) w') : wpList Tryd.prog ops Q (o :: rest) a w := by
  rcases hown with hown | ⟨hn, hc, hv⟩
  · exact wpList_appB hgd s x ho base A n c l hs hown B S m d k hx hr hlen hbase fun A2 c2 w' h1 h2 _ => h A2 c2 w' h1 (own_grown_below hown hbase h2)
  · obtain ⟨c2, w', hrun, h1, h2⟩ := run_appB_full w o.type base w.heap.size B A n c l hv S m d k hr hn (by omega) hlen hbase
    refine wpList_step fun K hK => ?_
    rw [if_pos hgd]
    unfold Oper.wp execOp
    simp only [ho, resolve, invoke, builtin, Sem.run_bind, Sem.run_pure, Result.andThen_ok, List.map_toArray, List.map_cons, List.map_nil, hs, hx, hrun]
    exact hK _ _ (h _ c2 w' h1 (h2.mono hbase))

set_option maxRecDepth 100000 in
set_option maxHeartbeats 2000000 in
theorem appendSectionU_any (A Sd : Option Addr) (n c nd cd base B : Nat) (l d : List UInt8) (id : UInt8) (w : World) (ho : Up w base A n c l) (hd : RdB w B Sd nd cd d) (hBd : B ≤ w.heap.size) (ht : Tab w) (hB : base ≤ w.heap.size) (hn : n + nd ≤ 140737488353000) :
    Calls Tryd.prog 18 #[.slice A n c, .agg #[.int .u8 (id.toNat : Int), .slice Sd nd cd]] w fun e w' => ∃ A3 n3 c3, e = .returned (.slice A3 n3 c3) ∧ OwnB w' base A3 n3 c3 (l ++ Wr.frame id d) ∧ Below base w w' := by
  have Ho := Kept.mk ho
  have hdl := Kept.mk hd.len
  have hlc := hd.1
  have hcm := hd.2.1
  unfold maxLen at hcm
  have bx : Below w.heap.size w (w.alloc (.cells #[.int .u8 (id.toNat : Int), .slice Sd nd cd] 28)) := (Below.refl _ w).alloc (Nat.le_refl _) _
  have bx2 : Below w.heap.size w ((w.alloc (.cells #[.int .u8 (id.toNat : Int), .slice Sd nd cd] 28)).alloc (.cells #[.int .u8 (id.toNat : Int)] 5)) := bx.alloc (by simp) _
  have kc := run_bytes_str _ B Sd nd cd d (hd.below (bx2.mono hBd))
  have lo := OwnB.lit1 (w.alloc (.cells #[.int .u8 (id.toNat : Int), .slice Sd nd cd] 28)) (.int .u8 (id.toNat : Int)) id rfl
  rw [World.size_alloc] at lo
  have LO := Kept.mk lo
  have BX2 := Kept.mk bx2
  have hfr : Kept (Wr.frame id d = Crc.app ([id] ++ Wr.str d)) := ⟨rfl⟩
  have hfl := Kept.mk (Wr.frame_len id d (by have := hdl.out; omega))
  have hfe := Kept.mk (Wr.frame_len_eq id d)
  have hsl := Kept.mk (Wr.str_len d (by have := hdl.out; omega))
  have hsz : (⟨d.toArray⟩ : ByteArray).size = nd := by rw [hdl.out]; simp [ByteArray.size]
  have hsz' := Kept.mk hsz
  have hdd : Kept ((⟨d.toArray⟩ : ByteArray).data.toList = d) := ⟨by simp⟩
  have hg := ht.lt
  have HT := Kept.mk ht
  have ho2 : Kept (∀ W, Below w.heap.size w W → Up W base A n c l) := ⟨fun W h => Up.keep Ho.out h⟩
  clear ho hd bx bx2 lo ht hsz
  generalize (⟨d.toArray⟩ : ByteArray) = S at *
  go_enter Tryd.func18, Tryd.ntmps18
  go_wp2_with (first
    | (go_at_call 16; refine (appendBytes_any _ _ _ (w.heap.size + 1) [id] S _ LO.out (by simp) (by have := hsz'.out; omega)).mono ?_; rintro e w1 ⟨A1, n1, c1, rfl, ho1, hb1⟩; rw [hdd.out] at ho1; have b1 : Below w.heap.size w w1 := BX2.out.trans (hb1.mono (by omega)); have hn1 := Kept.mk ho1.len; have R1 := Kept.mk ho1.rd; have T1 : Kept (Tab w1) := ⟨HT.out.below b1⟩; clear ho1 hb1)
    | (go_at_call 47; refine (append_any _ _ _ ([id] ++ Wr.str d) _ _ R1.out T1.out (Nat.le_refl _) (by have h1 := hsl.out; have h2 := hdl.out; simp; omega)).mono ?_; rintro e w2 ⟨A2, n2, c2, rfl, ho2', hb2⟩; have b2 := bl_next b1 hb2; have hn2 : n2 ≤ nd + 15 := (by have h1 := ho2'.len; have h2 := hfl.out; have h3 := hdl.out; rw [← hfr.out] at h1; omega); have hn2p : 0 < n2 := (by have h1 := ho2'.len; have h2 := hfe.out; rw [← hfr.out] at h1; omega); have R2 := Kept.mk ho2'.rd; have O2 := Kept.mk (ho2.out _ b2); have z2 := b2.size; clear ho2' hb2)
    | (at_builtin; refine wpList_appU rfl (.tmp 5) (.tmp 13) rfl base _ _ _ _ rfl O2.out _ _ _ _ _ rfl R2.out hn2p (by omega) (by omega) ?_; intro A4 c4 w4 hown4 hgrow4))
  go_ret
  refine ⟨A4, _, c4, rfl, ?_, (b2.mono hB).trans hgrow4⟩
  rw [hfr.out]
  exact hown4
end Go.Proofs.YtknfkbgnfjfpeaaDoor
