/- Slices of bytes. -/
import Derived.Test.YthhcfocmaiacoaaMem
import Derived.Lib.SlBytesConst
namespace Go.Proofs.Ythhcfocmaiacoaa
open Go.RowKit

/-- a byte -/
def bv (c : UInt8) : Value := .int .u8 (c.toNat : Int)
def bvs (l : List UInt8) : List Value := l.map bv
theorem bvs_length (l : List UInt8) : (bvs l).length = l.length := by simp [bvs]
theorem bvs_one (l : List UInt8) : ∀ u ∈ bvs l, u.oneCell' = true := by
  intro u hu
  obtain ⟨c, _, rfl⟩ := List.mem_map.1 hu
  rfl
theorem bvs_append (a b : List UInt8) : bvs (a ++ b) = bvs a ++ bvs b := by simp [bvs]
theorem bvs_inj {a b : List UInt8} (h : bvs a = bvs b) : a = b := by
  refine List.map_inj_right (fun x y hxy => ?_) |>.1 h
  unfold bv at hxy
  injection hxy with _ h2
  exact UInt8.toNat_inj.1 (by omega)
/-- a slice of bytes that reads as a list -/
def RdB (w : World) (B : Nat) (A : Option Addr) (n c : Nat) (l : List UInt8) : Prop := Rd w B 1 A n c (bvs l)
theorem RdB.len {w : World} {B n c : Nat} {A : Option Addr} {l : List UInt8} (h : RdB w B A n c l) : n = l.length := by have := h.2.2.1; rw [bvs_length] at this; omega
section
variable {w w' : World} {B n c : Nat} {A : Option Addr} {l : List UInt8}
theorem RdB.below (h : RdB w B A n c l) (hb : Below B w w') : RdB w' B A n c l := Rd.below h hb
theorem RdB.more {B' : Nat} (h : RdB w B A n c l) (hB : B ≤ B') : RdB w B' A n c l := Rd.more h hB
theorem RdB.alloc (h : RdB w B A n c l) (hB : B ≤ w.heap.size) (o : Obj) : RdB (w.alloc o) B A n c l := Rd.alloc h hB o
theorem RdB.drew (h : RdB w B A n c l) : RdB w.drew B A n c l := h
theorem RdB.drewN (h : RdB w B A n c l) (k : Nat) : RdB (w.drewN k) B A n c l := h
theorem RdB.setCell (h : RdB w B A n c l) {p : Addr} (hB : B ≤ p.block) (u : Value) : RdB (w.setCell p u) B A n c l := Rd.setCell h hB u
theorem RdB.grown (h : RdB w B A n c l) {row : Option Nat} (hg : w.grownBy w' row) (hB : B ≤ w.heap.size) (hr : ∀ g, row = some g → B ≤ g) : RdB w' B A n c l := Rd.grown h hg hB hr
theorem RdB.take (h : RdB w B A n c l) {k : Nat} (hk : k ≤ n) : RdB w B A k c (l.take k) := by
  have := Rd.take (k := k) h hk
  rwa [Nat.mul_one, bvs, ← List.map_take] at this
theorem RdB.drop (h : RdB w B A n c l) {k : Nat} (hk : k ≤ n) : RdB w B (if c = k then A else A.map (·.add k)) (n - k) (c - k) (l.drop k) := by
  have := Rd.drop (k := k) h hk
  rwa [Nat.mul_one, bvs, ← List.map_drop] at this
end
theorem RdB.at_ {w : World} {B n c k : Nat} {A : Option Addr} {l : List UInt8} (h : RdB w B A n c l) (hk : k < l.length) : ∃ b off, A = some ⟨b, off, none⟩ ∧ b < B ∧ w.cell? ⟨b, off + k, none⟩ = some (.int .u8 (l[k].toNat : Int)) := by
  obtain ⟨b, off, u, e, hb, hu, hc⟩ := Rd.at_ h (show k < n by rw [h.len]; exact hk)
  refine ⟨b, off, e, hb, ?_⟩
  rw [hc]
  simp [bvs, hk] at hu
  rw [← hu]; rfl
/-- a row of bytes of the call's own -/
def OwnB (w : World) (base : Nat) (A : Option Addr) (n c : Nat) (l : List UInt8) : Prop := w.ownsRow base 5 1 (.slice A n c) n (bvs l)
theorem OwnB.rd {w : World} {base n c : Nat} {A : Option Addr} {l : List UInt8} (h : OwnB w base A n c l) : RdB w w.heap.size A n c l := Rd.of_own h
theorem OwnB.len {w : World} {base n c : Nat} {A : Option Addr} {l : List UInt8} (h : OwnB w base A n c l) : n = l.length := h.rd.len
theorem infoB : (Try.prog.info? 5).map (fun i => (i.zero, i.size, i.bytes)) = some (some (.int .u8 0), 1, 1) := by kernel_rfl
theorem wpList_appB {w : World} {ops : Array Oper} {rest : List Oper} {o : Oper} {a : Act} {Q : Exit → Act → World → Prop} (hgd : Region.wanted o (yielded ops a.tmps) = true) (s x : Operand)
    (ho : o.op = .call { callee := .builtin .append, args := #[s, x], argTypes := #[30, 30] })
    (base : Nat) (A : Option Addr) (n c : Nat) (l : List UInt8) (hs : a.eval s = .slice A n c) (hown : OwnB w base A n c l)
    (B : Nat) (S : Option Addr) (m d : Nat) (k : List UInt8) (hx : a.eval x = .slice S m d) (hr : RdB w B S m d k)
    (hlen : n + m ≤ 140737488355328) (hbase : base ≤ w.heap.size)
    (h : ∀ A2 c2 w', OwnB w' base A2 (n + m) c2 (l ++ k) → w.grownBy w' (ab A) → (ab A2 = ab A ∨ ab A2 = some w.heap.size) → wpList Try.prog ops Q rest (a.put o.dst (.slice A2 (n + m) c2)) w') : wpList Try.prog ops Q (o :: rest) a w := by
  obtain ⟨i0, hi0, hz0, hz1, hz2⟩ := info_parts infoB
  refine wpList_app w hgd s x _ ho base 5 i0 (.int .u8 0) 1 1 Try.underlying30 hi0 hz0 hz1 hz2 rfl (by decide) A n c (bvs l) hs hown B S m d (bvs k) hx hr (bvs_one k) (by unfold maxLen; omega) (by omega) hbase ?_
  rw [← bvs_append]
  exact h
/-- an empty row, just made -/
theorem OwnB.made (w : World) (base : Nat) (h : base ≤ w.heap.size) : OwnB (w.alloc (.cells #[] 5)) base (some ⟨w.heap.size, 0, none⟩) 0 0 [] := World.ownsRow_made w #[] 0 h (by simp) rfl
/-- one byte, just laid -/
theorem RdB.one (w : World) (c : UInt8) : RdB (w.alloc (.cells #[.int .u8 (c.toNat : Int)] 5)) (w.heap.size + 1) (some ⟨w.heap.size, 0, none⟩) 1 1 [c] :=
  ⟨Nat.le_refl _, by unfold maxLen; omega, rfl, fun _ => ⟨_, 0, rfl, by omega, fun i u hu => by
    match i, hu with
    | 0, hu =>
      simp [bvs] at hu
      subst hu
      exact World.cell?_alloc_mark w _ _ _ 0⟩⟩
/-- bytes in a new block -/
theorem RdB.lit (w : World) (l : List UInt8) (h : l.length ≤ 9223372036854775807) : RdB (w.alloc (.cells (bvs l).toArray 5)) (w.heap.size + 1) (some ⟨w.heap.size, 0, none⟩) l.length l.length l :=
  ⟨Nat.le_refl _, by unfold maxLen; omega, by simp [bvs], fun _ => ⟨_, 0, rfl, by omega, fun i u hu => by
    rw [Nat.zero_add]
    exact (World.cell?_alloc_mark w _ _ _ i).trans (by simpa using hu)⟩⟩
theorem RdB.litM (w : World) (l : List UInt8) (fr : Nat × Nat) (h : l.length ≤ 9223372036854775807) : RdB (w.alloc (.cells (bvs l).toArray 5 fr)) (w.heap.size + 1) (some ⟨w.heap.size, 0, none⟩) l.length l.length l :=
  ⟨Nat.le_refl _, by unfold maxLen; omega, by simp [bvs], fun _ => ⟨_, 0, rfl, by omega, fun i u hu => by
    rw [Nat.zero_add]
    exact (World.cell?_alloc_mark w _ _ _ i).trans (by simpa using hu)⟩⟩
theorem OwnB.at_ {w : World} {base g n c k : Nat} {l : List UInt8} (h : OwnB w base (some ⟨g, 0, none⟩) n c l) (hk : k < l.length) :
    w.cell? ⟨g, k, none⟩ = some (.int .u8 (l[k].toNat : Int)) ∧ w.frozen? ⟨g, k, none⟩ = false := by
  have hn := h.len
  refine ⟨?_, World.ownsRow.frozenAt h k⟩
  rw [World.ownsRow.cellAt h k (by omega)]
  simp [bvs, bv, hk]
theorem OwnB.set {w : World} {base g n c : Nat} {l : List UInt8} (h : OwnB w base (some ⟨g, 0, none⟩) n c l) (k : Nat) (x : UInt8) :
    OwnB (w.setCell ⟨g, k, none⟩ (.int .u8 (x.toNat : Int))) base (some ⟨g, 0, none⟩) n c (l.set k x) := by
  have := World.ownsRow.stored h k (.int .u8 (x.toNat : Int))
  unfold OwnB
  have e : bvs (l.set k x) = (bvs l).set k (.int .u8 (x.toNat : Int)) := by simp [bvs, bv, List.map_set]
  rw [e]
  exact this.1
theorem OwnB.pos {w : World} {base n c : Nat} {A : Option Addr} {l : List UInt8} (h : OwnB w base A n c l) (hn : 0 < n) : ∃ g, A = some ⟨g, 0, none⟩ ∧ base ≤ g ∧ g < w.heap.size := own_pos h hn
theorem run_bytes_lit (w : World) (C : Array Value) (n c : Nat) : (convert 30 30 (.slice (some ⟨w.heap.size, 0, none⟩) n c)).run Try.prog (w.alloc (.cells C 5)) = .ok (.slice (some ⟨w.heap.size, 0, none⟩) n c) (w.alloc (.cells C 5 (C.size, C.size + 1))) :=
  Lib.run_convert_bytes_const (P := Try.prog) w 30 5 C n c Try.underlying30 Try.underlying5
theorem run_bytes_str (w : World) (B : Nat) (A : Option Addr) (n c : Nat) (l : List UInt8) (h : RdB w B A n c l) :
    (convert 30 9 (.slice A n c)).run Try.prog w = .ok (.string ⟨l.toArray⟩) w := by
  obtain rfl := h.len
  by_cases hl : l = []
  · subst hl
    cases A with
    | none => exact run_convert_bytes_nil (P := Try.prog) w 30 5 Try.underlying30 Try.underlying5 0 c 9 Try.underlying9
    | some a => exact run_convert_bytes_back (P := Try.prog) w 30 9 5 a c [] Try.underlying30 Try.underlying5 Try.underlying9 (fun j hj => by simp at hj)
  · have hp : 0 < l.length := List.length_pos_iff.2 hl
    obtain ⟨b, off, rfl, hb, hc⟩ := h.2.2.2 hp
    refine run_convert_bytes_back (P := Try.prog) w 30 9 5 ⟨b, off, none⟩ c l Try.underlying30 Try.underlying5 Try.underlying9 (fun j hj => ?_)
    rw [add_plain]
    exact hc j _ (by simp [bvs, hj]; rfl)
end Go.Proofs.Ythhcfocmaiacoaa
