/- Slices of strings. -/
import Derived.Test.YthhcfocmaiacoaaMem
namespace Go.Proofs.Ythhcfocmaiacoaa
open Go.RowKit

/-- a string -/
def sv (c : ByteArray) : Value := .string c
def svs (l : List ByteArray) : List Value := l.map sv
theorem svs_length (l : List ByteArray) : (svs l).length = l.length := by simp [svs]
theorem svs_one (l : List ByteArray) : ∀ u ∈ svs l, u.oneCell' = true := by
  intro u hu
  obtain ⟨c, _, rfl⟩ := List.mem_map.1 hu
  rfl
theorem svs_append (a b : List ByteArray) : svs (a ++ b) = svs a ++ svs b := by simp [svs]
theorem svs_inj {a b : List ByteArray} (h : svs a = svs b) : a = b := by
  refine List.map_inj_right (fun x y hxy => ?_) |>.1 h
  simpa [sv] using hxy
/-- a slice of strings that reads as a list -/
def RdS (w : World) (B : Nat) (A : Option Addr) (n c : Nat) (l : List ByteArray) : Prop := Rd w B 1 A n c (svs l)
theorem RdS.len {w : World} {B n c : Nat} {A : Option Addr} {l : List ByteArray} (h : RdS w B A n c l) : n = l.length := by have := h.2.2.1; rw [svs_length] at this; omega
section
variable {w w' : World} {B n c : Nat} {A : Option Addr} {l : List ByteArray}
theorem RdS.below (h : RdS w B A n c l) (hb : Below B w w') : RdS w' B A n c l := Rd.below h hb
theorem RdS.more {B' : Nat} (h : RdS w B A n c l) (hB : B ≤ B') : RdS w B' A n c l := Rd.more h hB
theorem RdS.alloc (h : RdS w B A n c l) (hB : B ≤ w.heap.size) (o : Obj) : RdS (w.alloc o) B A n c l := Rd.alloc h hB o
theorem RdS.drew (h : RdS w B A n c l) : RdS w.drew B A n c l := h
theorem RdS.drewN (h : RdS w B A n c l) (k : Nat) : RdS (w.drewN k) B A n c l := h
theorem RdS.setCell (h : RdS w B A n c l) {p : Addr} (hB : B ≤ p.block) (u : Value) : RdS (w.setCell p u) B A n c l := Rd.setCell h hB u
theorem RdS.grown (h : RdS w B A n c l) {row : Option Nat} (hg : w.grownBy w' row) (hB : B ≤ w.heap.size) (hr : ∀ g, row = some g → B ≤ g) : RdS w' B A n c l := Rd.grown h hg hB hr
theorem RdS.take (h : RdS w B A n c l) {k : Nat} (hk : k ≤ n) : RdS w B A k c (l.take k) := by
  have := Rd.take (k := k) h hk
  rwa [Nat.mul_one, svs, ← List.map_take] at this
theorem RdS.drop (h : RdS w B A n c l) {k : Nat} (hk : k ≤ n) : RdS w B (if c = k then A else A.map (·.add k)) (n - k) (c - k) (l.drop k) := by
  have := Rd.drop (k := k) h hk
  rwa [Nat.mul_one, svs, ← List.map_drop] at this
end
theorem RdS.at_ {w : World} {B n c k : Nat} {A : Option Addr} {l : List ByteArray} (h : RdS w B A n c l) (hk : k < l.length) : ∃ b off, A = some ⟨b, off, none⟩ ∧ b < B ∧ w.cell? ⟨b, off + k, none⟩ = some (.string l[k]) := by
  obtain ⟨b, off, u, e, hb, hu, hc⟩ := Rd.at_ h (show k < n by rw [h.len]; exact hk)
  refine ⟨b, off, e, hb, ?_⟩
  rw [hc]
  simp [svs, hk] at hu
  rw [← hu]; rfl
/-- a row of strings of the call's own -/
def OwnS (w : World) (base : Nat) (A : Option Addr) (n c : Nat) (l : List ByteArray) : Prop := w.ownsRow base 9 1 (.slice A n c) n (svs l)
theorem OwnS.rd {w : World} {base n c : Nat} {A : Option Addr} {l : List ByteArray} (h : OwnS w base A n c l) : RdS w w.heap.size A n c l := Rd.of_own h
theorem OwnS.len {w : World} {base n c : Nat} {A : Option Addr} {l : List ByteArray} (h : OwnS w base A n c l) : n = l.length := h.rd.len
theorem infoS : (Try.prog.info? 9).map (fun i => (i.zero, i.size, i.bytes)) = some (some (.string ByteArray.empty), 1, 16) := by kernel_rfl
theorem wpList_appS {w : World} {ops : Array Oper} {rest : List Oper} {o : Oper} {a : Act} {Q : Exit → Act → World → Prop} (hgd : Region.wanted o (yielded ops a.tmps) = true) (s x : Operand)
    (ho : o.op = .call { callee := .builtin .append, args := #[s, x], argTypes := #[22, 22] })
    (base : Nat) (A : Option Addr) (n c : Nat) (l : List ByteArray) (hs : a.eval s = .slice A n c) (hown : OwnS w base A n c l)
    (B : Nat) (S : Option Addr) (m d : Nat) (k : List ByteArray) (hx : a.eval x = .slice S m d) (hr : RdS w B S m d k)
    (hlen : n + m ≤ 8796093022208) (hbase : base ≤ w.heap.size)
    (h : ∀ A2 c2 w', OwnS w' base A2 (n + m) c2 (l ++ k) → w.grownBy w' (ab A) → (ab A2 = ab A ∨ ab A2 = some w.heap.size) → wpList Try.prog ops Q rest (a.put o.dst (.slice A2 (n + m) c2)) w') : wpList Try.prog ops Q (o :: rest) a w := by
  obtain ⟨i0, hi0, hz0, hz1, hz2⟩ := info_parts infoS
  refine wpList_app w hgd s x _ ho base 9 i0 (.string ByteArray.empty) 1 16 Try.underlying22 hi0 hz0 hz1 hz2 rfl (by decide) A n c (svs l) hs hown B S m d (svs k) hx hr (svs_one k) (by unfold maxLen; omega) (by omega) hbase ?_
  rw [← svs_append]
  exact h
/-- an empty row, just made -/
theorem OwnS.made (w : World) (base : Nat) (h : base ≤ w.heap.size) : OwnS (w.alloc (.cells #[] 9)) base (some ⟨w.heap.size, 0, none⟩) 0 0 [] := World.ownsRow_made w #[] 0 h (by simp) rfl
/-- one byte, just laid -/
theorem RdS.one (w : World) (c : ByteArray) : RdS (w.alloc (.cells #[.string c] 9)) (w.heap.size + 1) (some ⟨w.heap.size, 0, none⟩) 1 1 [c] :=
  ⟨Nat.le_refl _, by unfold maxLen; omega, rfl, fun _ => ⟨_, 0, rfl, by omega, fun i u hu => by
    match i, hu with
    | 0, hu =>
      simp [svs] at hu
      subst hu
      exact World.cell?_alloc_mark w _ _ _ 0⟩⟩
/-- strings in a new block -/
theorem RdS.lit (w : World) (l : List ByteArray) (h : l.length ≤ 9223372036854775807) : RdS (w.alloc (.cells (svs l).toArray 9)) (w.heap.size + 1) (some ⟨w.heap.size, 0, none⟩) l.length l.length l :=
  ⟨Nat.le_refl _, by unfold maxLen; omega, by simp [svs], fun _ => ⟨_, 0, rfl, by omega, fun i u hu => by
    rw [Nat.zero_add]
    exact (World.cell?_alloc_mark w _ _ _ i).trans (by simpa using hu)⟩⟩
theorem RdS.litM (w : World) (l : List ByteArray) (fr : Nat × Nat) (h : l.length ≤ 9223372036854775807) : RdS (w.alloc (.cells (svs l).toArray 9 fr)) (w.heap.size + 1) (some ⟨w.heap.size, 0, none⟩) l.length l.length l :=
  ⟨Nat.le_refl _, by unfold maxLen; omega, by simp [svs], fun _ => ⟨_, 0, rfl, by omega, fun i u hu => by
    rw [Nat.zero_add]
    exact (World.cell?_alloc_mark w _ _ _ i).trans (by simpa using hu)⟩⟩
theorem OwnS.at_ {w : World} {base g n c k : Nat} {l : List ByteArray} (h : OwnS w base (some ⟨g, 0, none⟩) n c l) (hk : k < l.length) :
    w.cell? ⟨g, k, none⟩ = some (.string l[k]) ∧ w.frozen? ⟨g, k, none⟩ = false := by
  have hn := h.len
  refine ⟨?_, World.ownsRow.frozenAt h k⟩
  rw [World.ownsRow.cellAt h k (by omega)]
  simp [svs, sv, hk]
theorem OwnS.set {w : World} {base g n c : Nat} {l : List ByteArray} (h : OwnS w base (some ⟨g, 0, none⟩) n c l) (k : Nat) (x : ByteArray) :
    OwnS (w.setCell ⟨g, k, none⟩ (.string x)) base (some ⟨g, 0, none⟩) n c (l.set k x) := by
  have := World.ownsRow.stored h k (.string x)
  unfold OwnS
  have e : svs (l.set k x) = (svs l).set k (.string x) := by simp [svs, sv, List.map_set]
  rw [e]
  exact this.1
theorem OwnS.pos {w : World} {base n c : Nat} {A : Option Addr} {l : List ByteArray} (h : OwnS w base A n c l) (hn : 0 < n) : ∃ g, A = some ⟨g, 0, none⟩ ∧ base ≤ g ∧ g < w.heap.size := own_pos h hn
end Go.Proofs.Ythhcfocmaiacoaa
