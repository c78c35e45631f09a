/- Slices of ints. -/
import Derived.Test.YthhcfocmaiacoaaMem
namespace Go.Proofs.Ythhcfocmaiacoaa
open Go.RowKit

/-- an int -/
def iv (c : Int) : Value := .int .i64 c
def ivs (l : List Int) : List Value := l.map iv
theorem ivs_length (l : List Int) : (ivs l).length = l.length := by simp [ivs]
theorem ivs_one (l : List Int) : ∀ u ∈ ivs l, u.oneCell' = true := by
  intro u hu
  obtain ⟨c, _, rfl⟩ := List.mem_map.1 hu
  rfl
theorem ivs_append (a b : List Int) : ivs (a ++ b) = ivs a ++ ivs b := by simp [ivs]
theorem ivs_inj {a b : List Int} (h : ivs a = ivs b) : a = b := by
  refine List.map_inj_right (fun x y hxy => ?_) |>.1 h
  simpa [iv] using hxy
/-- a slice of bytes that reads as a list -/
def RdI (w : World) (B : Nat) (A : Option Addr) (n c : Nat) (l : List Int) : Prop := Rd w B 1 A n c (ivs l)
theorem RdI.len {w : World} {B n c : Nat} {A : Option Addr} {l : List Int} (h : RdI w B A n c l) : n = l.length := by have := h.2.2.1; rw [ivs_length] at this; omega
section
variable {w w' : World} {B n c : Nat} {A : Option Addr} {l : List Int}
theorem RdI.below (h : RdI w B A n c l) (hb : Below B w w') : RdI w' B A n c l := Rd.below h hb
theorem RdI.more {B' : Nat} (h : RdI w B A n c l) (hB : B ≤ B') : RdI w B' A n c l := Rd.more h hB
theorem RdI.alloc (h : RdI w B A n c l) (hB : B ≤ w.heap.size) (o : Obj) : RdI (w.alloc o) B A n c l := Rd.alloc h hB o
theorem RdI.drew (h : RdI w B A n c l) : RdI w.drew B A n c l := h
theorem RdI.drewN (h : RdI w B A n c l) (k : Nat) : RdI (w.drewN k) B A n c l := h
theorem RdI.setCell (h : RdI w B A n c l) {p : Addr} (hB : B ≤ p.block) (u : Value) : RdI (w.setCell p u) B A n c l := Rd.setCell h hB u
theorem RdI.grown (h : RdI w B A n c l) {row : Option Nat} (hg : w.grownBy w' row) (hB : B ≤ w.heap.size) (hr : ∀ g, row = some g → B ≤ g) : RdI w' B A n c l := Rd.grown h hg hB hr
theorem RdI.take (h : RdI w B A n c l) {k : Nat} (hk : k ≤ n) : RdI w B A k c (l.take k) := by
  have := Rd.take (k := k) h hk
  rwa [Nat.mul_one, ivs, ← List.map_take] at this
theorem RdI.drop (h : RdI w B A n c l) {k : Nat} (hk : k ≤ n) : RdI w B (if c = k then A else A.map (·.add k)) (n - k) (c - k) (l.drop k) := by
  have := Rd.drop (k := k) h hk
  rwa [Nat.mul_one, ivs, ← List.map_drop] at this
end
theorem RdI.at_ {w : World} {B n c k : Nat} {A : Option Addr} {l : List Int} (h : RdI w B A n c l) (hk : k < l.length) : ∃ b off, A = some ⟨b, off, none⟩ ∧ b < B ∧ w.cell? ⟨b, off + k, none⟩ = some (.int .i64 l[k]) := by
  obtain ⟨b, off, u, e, hb, hu, hc⟩ := Rd.at_ h (show k < n by rw [h.len]; exact hk)
  refine ⟨b, off, e, hb, ?_⟩
  rw [hc]
  simp [ivs, hk] at hu
  rw [← hu]; rfl
/-- a row of bytes of the call's own -/
def OwnI (w : World) (base : Nat) (A : Option Addr) (n c : Nat) (l : List Int) : Prop := w.ownsRow base 3 1 (.slice A n c) n (ivs l)
theorem OwnI.rd {w : World} {base n c : Nat} {A : Option Addr} {l : List Int} (h : OwnI w base A n c l) : RdI w w.heap.size A n c l := Rd.of_own h
theorem OwnI.len {w : World} {base n c : Nat} {A : Option Addr} {l : List Int} (h : OwnI w base A n c l) : n = l.length := h.rd.len
theorem infoI : (Try.prog.info? 3).map (fun i => (i.zero, i.size, i.bytes)) = some (some (.int .i64 0), 1, 8) := by kernel_rfl
theorem wpList_appI {w : World} {ops : Array Oper} {rest : List Oper} {o : Oper} {a : Act} {Q : Exit → Act → World → Prop} (hgd : Region.wanted o (yielded ops a.tmps) = true) (s x : Operand)
    (ho : o.op = .call { callee := .builtin .append, args := #[s, x], argTypes := #[70, 70] })
    (base : Nat) (A : Option Addr) (n c : Nat) (l : List Int) (hs : a.eval s = .slice A n c) (hown : OwnI w base A n c l)
    (B : Nat) (S : Option Addr) (m d : Nat) (k : List Int) (hx : a.eval x = .slice S m d) (hr : RdI w B S m d k)
    (hlen : n + m ≤ 17592186044416) (hbase : base ≤ w.heap.size)
    (h : ∀ A2 c2 w', OwnI w' base A2 (n + m) c2 (l ++ k) → w.grownBy w' (ab A) → (ab A2 = ab A ∨ ab A2 = some w.heap.size) → wpList Try.prog ops Q rest (a.put o.dst (.slice A2 (n + m) c2)) w') : wpList Try.prog ops Q (o :: rest) a w := by
  obtain ⟨i0, hi0, hz0, hz1, hz2⟩ := info_parts infoI
  refine wpList_app w hgd s x _ ho base 3 i0 (.int .i64 0) 1 8 Try.underlying70 hi0 hz0 hz1 hz2 rfl (by decide) A n c (ivs l) hs hown B S m d (ivs k) hx hr (ivs_one k) (by unfold maxLen; omega) (by omega) hbase ?_
  rw [← ivs_append]
  exact h
/-- an empty row, just made -/
theorem OwnI.made (w : World) (base : Nat) (h : base ≤ w.heap.size) : OwnI (w.alloc (.cells #[] 3)) base (some ⟨w.heap.size, 0, none⟩) 0 0 [] := World.ownsRow_made w #[] 0 h (by simp) rfl
/-- one byte, just laid -/
theorem RdI.one (w : World) (c : Int) : RdI (w.alloc (.cells #[.int .i64 c] 3)) (w.heap.size + 1) (some ⟨w.heap.size, 0, none⟩) 1 1 [c] :=
  ⟨Nat.le_refl _, by unfold maxLen; omega, rfl, fun _ => ⟨_, 0, rfl, by omega, fun i u hu => by
    match i, hu with
    | 0, hu =>
      simp [ivs] at hu
      subst hu
      exact World.cell?_alloc_mark w _ _ _ 0⟩⟩
/-- bytes in a new block -/
theorem RdI.lit (w : World) (l : List Int) (h : l.length ≤ 9223372036854775807) : RdI (w.alloc (.cells (ivs l).toArray 3)) (w.heap.size + 1) (some ⟨w.heap.size, 0, none⟩) l.length l.length l :=
  ⟨Nat.le_refl _, by unfold maxLen; omega, by simp [ivs], fun _ => ⟨_, 0, rfl, by omega, fun i u hu => by
    rw [Nat.zero_add]
    exact (World.cell?_alloc_mark w _ _ _ i).trans (by simpa using hu)⟩⟩
theorem RdI.litM (w : World) (l : List Int) (fr : Nat × Nat) (h : l.length ≤ 9223372036854775807) : RdI (w.alloc (.cells (ivs l).toArray 3 fr)) (w.heap.size + 1) (some ⟨w.heap.size, 0, none⟩) l.length l.length l :=
  ⟨Nat.le_refl _, by unfold maxLen; omega, by simp [ivs], fun _ => ⟨_, 0, rfl, by omega, fun i u hu => by
    rw [Nat.zero_add]
    exact (World.cell?_alloc_mark w _ _ _ i).trans (by simpa using hu)⟩⟩
theorem OwnI.at_ {w : World} {base g n c k : Nat} {l : List Int} (h : OwnI w base (some ⟨g, 0, none⟩) n c l) (hk : k < l.length) :
    w.cell? ⟨g, k, none⟩ = some (.int .i64 l[k]) ∧ w.frozen? ⟨g, k, none⟩ = false := by
  have hn := h.len
  refine ⟨?_, World.ownsRow.frozenAt h k⟩
  rw [World.ownsRow.cellAt h k (by omega)]
  simp [ivs, iv, hk]
theorem OwnI.set {w : World} {base g n c : Nat} {l : List Int} (h : OwnI w base (some ⟨g, 0, none⟩) n c l) (k : Nat) (x : Int) :
    OwnI (w.setCell ⟨g, k, none⟩ (.int .i64 x)) base (some ⟨g, 0, none⟩) n c (l.set k x) := by
  have := World.ownsRow.stored h k (.int .i64 x)
  unfold OwnI
  have e : ivs (l.set k x) = (ivs l).set k (.int .i64 x) := by simp [ivs, iv, List.map_set]
  rw [e]
  exact this.1
theorem OwnI.pos {w : World} {base n c : Nat} {A : Option Addr} {l : List Int} (h : OwnI w base A n c l) (hn : 0 < n) : ∃ g, A = some ⟨g, 0, none⟩ ∧ base ≤ g ∧ g < w.heap.size := own_pos h hn
end Go.Proofs.Ythhcfocmaiacoaa
