/- Words for memory: a slice that reads as a list; a row of the call's own; append, for whatever source. -/
import Derived.Test.YthhcfocmaiacoaaRows
import Derived.WalkKit
import Derived.WalkSpells
import Derived.WalkLawsBesides
import Derived.Maps.AppendAt
import Derived.Deep.Draws
import Derived.Deep.AppendLies
namespace Go.Proofs.Ythhcfocmaiacoaa
open Go.RowKit

theorem ret_int {k : IntKind} {a b : Int} (h : a = b) : Ending.returned (.int k a) = .returned (.int k b) := by rw [h]
theorem ret_bool {a b : Bool} (h : a = b) : Ending.returned (.bool a) = .returned (.bool b) := by rw [h]
/-- a fact behind a name that no unfolding opens -/
structure Kept (p : Prop) : Prop where
  out : p
theorem hide {p : Prop} (h : p) : Hid p := h
theorem add_plain (b off k : Nat) : (⟨b, off, none⟩ : Addr).add k = ⟨b, off + k, none⟩ := by
  unfold Addr.add; split
  · next h => subst h; rfl
  · rfl
theorem bcell {W w1 : World} {B : Nat} (hb : Below B W w1) : (∀ b o, b < B → w1.cell? ⟨b, o, none⟩ = W.cell? ⟨b, o, none⟩) ∧ (∀ b o, b < B → w1.frozen? ⟨b, o, none⟩ = W.frozen? ⟨b, o, none⟩) :=
  ⟨fun b o h => hb.cell (p := ⟨b, o, none⟩) h, fun b o h => hb.frozen (p := ⟨b, o, none⟩) h⟩
theorem below_drew_of {B : Nat} {w w1 : World} (h : Below B w.drew w1) : Below B w w1 := ((Below.refl B w).drew).trans h
theorem below_drewN {B : Nat} {a w : World} (h : Below B a w) (n : Nat) : Below B a (w.drewN n) := ⟨h.os, h.tape, h.output, h.size, h.block⟩

/-- The slice value '.slice A n c' of elements of sz cells reads as the cells xs, and lies below block B. -/
def Rd (w : World) (B sz : Nat) (A : Option Addr) (n c : Nat) (xs : List Value) : Prop :=
  n ≤ c ∧ c ≤ maxLen ∧ xs.length = n * sz ∧ (0 < n → ∃ b off, A = some ⟨b, off, none⟩ ∧ b < B ∧ ∀ i u, xs[i]? = some u → w.cell? ⟨b, off + i, none⟩ = some u)

section
variable {w w' : World} {B B' sz n c : Nat} {A : Option Addr} {xs : List Value}
theorem Rd.nil (w : World) (B sz c : Nat) (A : Option Addr) (hc : c ≤ maxLen) : Rd w B sz A 0 c [] := ⟨Nat.zero_le _, hc, by simp, fun h => absurd h (by omega)⟩
theorem Rd.keep (h : Rd w B sz A n c xs) (hk : ∀ b o, b < B → w'.cell? ⟨b, o, none⟩ = w.cell? ⟨b, o, none⟩) (hB : B ≤ B') : Rd w' B' sz A n c xs :=
  ⟨h.1, h.2.1, h.2.2.1, fun hn => by
    obtain ⟨b, off, e, hb, hc⟩ := h.2.2.2 hn
    exact ⟨b, off, e, by omega, fun i u hu => (hk _ _ hb).trans (hc i u hu)⟩⟩
theorem Rd.more (h : Rd w B sz A n c xs) (hB : B ≤ B') : Rd w B' sz A n c xs := h.keep (fun _ _ _ => rfl) hB
theorem Rd.below (h : Rd w B sz A n c xs) (hb : Below B w w') : Rd w' B sz A n c xs := h.keep (fun b o hp => hb.cell (p := ⟨b, o, none⟩) hp) (Nat.le_refl _)
theorem Rd.alloc (h : Rd w B sz A n c xs) (hB : B ≤ w.heap.size) (o : Obj) : Rd (w.alloc o) B sz A n c xs := h.keep (fun b k hp => World.cell?_alloc_lt w o ⟨b, k, none⟩ (by show b < _; omega)) (Nat.le_refl _)
theorem Rd.drew (h : Rd w B sz A n c xs) : Rd w.drew B sz A n c xs := h
theorem Rd.drewN (h : Rd w B sz A n c xs) (k : Nat) : Rd (w.drewN k) B sz A n c xs := h
theorem Rd.setCell (h : Rd w B sz A n c xs) {p : Addr} (hB : B ≤ p.block) (u : Value) : Rd (w.setCell p u) B sz A n c xs :=
  h.keep (fun b k hp => World.cell?_setCell_other w p ⟨b, k, none⟩ u (fun e => by subst e; simp at hB; omega)) (Nat.le_refl _)
theorem Rd.grown (h : Rd w B sz A n c xs) {row : Option Nat} (hg : w.grownBy w' row) (hB : B ≤ w.heap.size) (hr : ∀ g, row = some g → B ≤ g) : Rd w' B sz A n c xs :=
  h.keep (fun b k hp => World.cell?_of_block (hg.block b (by omega) (fun e => by have := hr _ e.symm; omega))) (Nat.le_refl _)
/-- the end of a cut: as the walk spells it -/
theorem Rd.drop (h : Rd w B sz A n c xs) {k : Nat} (hk : k ≤ n) :
    Rd w B sz (if c = k then A else A.map (·.add (k * sz))) (n - k) (c - k) (xs.drop (k * sz)) := by
  refine ⟨by have := h.1; omega, by have := h.2.1; omega, by rw [List.length_drop, h.2.2.1, Nat.sub_mul], fun hn => ?_⟩
  obtain ⟨b, off, rfl, hb, hcell⟩ := h.2.2.2 (by omega)
  have := h.1
  rw [if_neg (by omega)]
  refine ⟨b, off + k * sz, by simp [add_plain], hb, fun i u hu => ?_⟩
  rw [Nat.add_assoc]
  exact hcell _ u (by rw [← hu, List.getElem?_drop])
theorem Rd.take (h : Rd w B sz A n c xs) {k : Nat} (hk : k ≤ n) : Rd w B sz A k c (xs.take (k * sz)) := by
  refine ⟨by have := h.1; omega, h.2.1, ?_, fun hn => ?_⟩
  · rw [List.length_take, h.2.2.1]; exact Nat.min_eq_left (Nat.mul_le_mul_right _ hk)
  · obtain ⟨b, off, e, hb, hcell⟩ := h.2.2.2 (by omega)
    refine ⟨b, off, e, hb, fun i u hu => hcell i u ?_⟩
    rw [List.getElem?_take] at hu
    split at hu
    · exact hu
    · cases hu
theorem Rd.of_own {base : Nat} {e : TypeId} (h : w.ownsRow base e sz (.slice A n c) n xs) : Rd w w.heap.size sz A n c xs := by
  rcases h.2 with ⟨hv, hn⟩ | ⟨g, cap, cur, hv, hb, hg, hnc, hcm, hcs, hx⟩
  · injection hv with h1 h2 h3
    subst h1; subst h2; subst h3
    exact ⟨Nat.le_refl _, by unfold maxLen; omega, h.1, fun hh => absurd hh (by omega)⟩
  · injection hv with h1 h2 h3
    subst h1; subst h3
    refine ⟨hnc, hcm, h.1, fun _ => ⟨g, 0, rfl, (Array.getElem?_eq_some_iff.1 hg).1, fun i u hu => ?_⟩⟩
    have := h.cells (g := g) rfl i u hu
    rwa [add_plain] at this
theorem Rd.at_ {k : Nat} (h : Rd w B 1 A n c xs) (hk : k < n) : ∃ b off u, A = some ⟨b, off, none⟩ ∧ b < B ∧ xs[k]? = some u ∧ w.cell? ⟨b, off + k, none⟩ = some u := by
  obtain ⟨b, off, e, hb, hc⟩ := h.2.2.2 (by omega)
  have hl : k < xs.length := by have := h.2.2.1; omega
  exact ⟨b, off, xs[k], e, hb, List.getElem?_eq_getElem hl, hc k _ (List.getElem?_eq_getElem hl)⟩
end

/-- the block of an address -/
def ab (A : Option Addr) : Option Nat := A.map (·.block)
theorem own_block (A : Option Addr) (n c : Nat) : (Value.slice A n c).ownBlock = ab A := by cases A <;> rfl

section
variable {w w' : World} {base n c : Nat} {A : Option Addr} {xs : List Value} {e : TypeId} {sz : Nat}
theorem own_form {v : Value} (h : w.ownsRow base e sz v n xs) : ∃ A c, v = .slice A n c ∧ (ab A = none ∨ ∃ g, ab A = some g ∧ base ≤ g ∧ g < w.heap.size) := by
  rcases h.2 with ⟨rfl, rfl⟩ | ⟨g, cap, cur, rfl, hb, hg, _⟩
  · exact ⟨none, 0, rfl, .inl rfl⟩
  · exact ⟨_, cap, rfl, .inr ⟨g, rfl, hb, (Array.getElem?_eq_some_iff.1 hg).1⟩⟩
theorem own_lt (h : w.ownsRow base e sz (.slice A n c) n xs) : ∀ g, ab A = some g → base ≤ g ∧ g < w.heap.size := by
  intro g hg
  exact h.lt g (by rw [own_block]; exact hg)
theorem own_pos (h : w.ownsRow base e sz (.slice A n c) n xs) (hn : 0 < n) : ∃ g, A = some ⟨g, 0, none⟩ ∧ base ≤ g ∧ g < w.heap.size := by
  obtain ⟨g, cap, hv, h1, h2⟩ := h.form hn
  injection hv with h3
  exact ⟨g, h3, h1, h2⟩
theorem own_grown {row : Option Nat} (h : w.ownsRow base e sz (.slice A n c) n xs) (hg : w.grownBy w' row) (hne : ab A = none ∨ ab A ≠ row) : w'.ownsRow base e sz (.slice A n c) n xs :=
  h.kept hg (by rw [own_block]; exact hne)
theorem own_below {B : Nat} (h : w.ownsRow base e sz (.slice A n c) n xs) (hb : Below B w w') (hB : ∀ g, ab A = some g → g < B) : w'.ownsRow base e sz (.slice A n c) n xs := by
  refine ⟨h.1, ?_⟩
  rcases h.2 with hn | ⟨g, cap, cur, hv, h1, hg, rest⟩
  · exact .inl hn
  · refine .inr ⟨g, cap, cur, hv, h1, ?_, rest⟩
    rw [hb.block g (hB g (by injection hv with h3; rw [h3]; rfl))]
    exact hg
end

section
variable {P : Program} (w : World)
/-- append onto a row of the call's own, whatever the source -/
theorem run_app (base : Nat) (t ty e : TypeId) (i : TypeInfo) (z : Value) (size bytes : Nat) (ht : P.underlying t = some (.slice e)) (hi : P.info? e = some i) (hz : i.zero = some z)
    (hsize : i.size = size) (hby : i.bytes = bytes) (hzs : z.cells.size = size) (hsz : 0 < size)
    (A : Option Addr) (n c : Nat) (xs : List Value) (hown : w.ownsRow base e size (.slice A n c) n xs)
    (B : Nat) (S : Option Addr) (m d : Nat) (news : List Value) (hr : Rd w B size S m d news) (h1 : ∀ u ∈ news, u.oneCell' = true)
    (h63 : n + m ≤ maxLen) (hbytes : (n + m) * bytes ≤ 140737488355328) (hbase : base ≤ w.heap.size) :
    ∃ A2 c2 w', (Builtin.append_ #[t, t] ty #[.slice A n c, .slice S m d]).run P w = .ok (.slice A2 (n + m) c2) w' ∧
      w'.ownsRow base e size (.slice A2 (n + m) c2) (n + m) (xs ++ news) ∧ w.grownBy w' (ab A) ∧ (ab A2 = ab A ∨ ab A2 = some w.heap.size) := by
  have hm0 : m = 0 → news = [] := fun h => List.eq_nil_of_length_eq_zero (by rw [hr.2.2.1, h, Nat.zero_mul])
  rcases S with _ | ad
  · have hm : m = 0 := by
      rcases Nat.eq_zero_or_pos m with h0 | h0
      · exact h0
      · obtain ⟨b, off, h, _⟩ := hr.2.2.2 h0
        cases h
    have hn := hm0 hm
    subst hm; subst hn
    refine ⟨A, c, w, ?_, by simpa using hown, World.grownBy.refl w _, .inl rfl⟩
    rcases hown.2 with ⟨hv, _⟩ | ⟨g, cap, cur, hv, _, _, hnc, _⟩
    · injection hv with h1 h2 h3
      subst h1; subst h2; subst h3
      simp [Builtin.append_, run_underlying ht, sizeOf, typeInfo, hi, Builtin.lenOf, Builtin.firstCells]
    · injection hv with h1 h2 h3
      subst h1; subst h3
      simp [Builtin.append_, run_underlying ht, sizeOf, typeInfo, hi, Builtin.lenOf, Builtin.firstCells, hnc, storeCells]
  · have hcells : ∀ j u, news[j]? = some u → w.cell? (ad.add j) = some u := by
      intro j u hu
      rcases Nat.eq_zero_or_pos m with h0 | h0
      · rw [hm0 h0] at hu; simp at hu
      · obtain ⟨b, off, h, _, hc⟩ := hr.2.2.2 h0
        injection h with h
        subst h
        rw [add_plain]
        exact hc j u hu
    obtain ⟨v', w', hrun, h2, h3, _, h5⟩ := run_append_own_at (P := P) w base t ty e i z size bytes ht hi hz hsize hby hzs hsz (.slice A n c) n xs hown ad m d news hr.2.2.1 hcells h1 h63 hbytes hbase
    obtain ⟨A2, c2, rfl, _⟩ := own_form h2
    rw [own_block] at h3
    rw [own_block, own_block] at h5
    exact ⟨A2, c2, w', hrun, h2, h3, h5⟩

theorem wp_app {o : Oper} {a : Act} {K : Act → World → Prop} {Q : Exit → Act → World → Prop} (s x : Operand) (t : TypeId)
    (ho : o.op = .call { callee := .builtin .append, args := #[s, x], argTypes := #[t, t] })
    (base : Nat) (e : TypeId) (i : TypeInfo) (z : Value) (size bytes : Nat) (ht : P.underlying t = some (.slice e)) (hi : P.info? e = some i) (hz : i.zero = some z)
    (hsize : i.size = size) (hby : i.bytes = bytes) (hzs : z.cells.size = size) (hsz : 0 < size)
    (A : Option Addr) (n c : Nat) (xs : List Value) (hs : a.eval s = .slice A n c) (hown : w.ownsRow base e size (.slice A n c) n xs)
    (B : Nat) (S : Option Addr) (m d : Nat) (news : List Value) (hx : a.eval x = .slice S m d) (hr : Rd w B size S m d news) (h1 : ∀ u ∈ news, u.oneCell' = true)
    (h63 : n + m ≤ maxLen) (hbytes : (n + m) * bytes ≤ 140737488355328) (hbase : base ≤ w.heap.size)
    (h : ∀ A2 c2 w', w'.ownsRow base e size (.slice A2 (n + m) c2) (n + m) (xs ++ news) → w.grownBy w' (ab A) → (ab A2 = ab A ∨ ab A2 = some w.heap.size) → K (a.put o.dst (.slice A2 (n + m) c2)) w') : o.wp P a w K Q := by
  obtain ⟨A2, c2, w', hrun, h2, h3, h4⟩ := run_app (P := P) w base t o.type e i z size bytes ht hi hz hsize hby hzs hsz A n c xs hown B S m d news hr h1 h63 hbytes hbase
  unfold Oper.wp execOp
  simp only [ho, resolve, invoke, builtin, Sem.run_bind, Sem.run_pure, Result.andThen_ok, List.map_toArray, List.map_cons, List.map_nil, hs, hx, hrun]
  exact h A2 c2 w' h2 h3 h4

theorem wpList_app {ops : Array Oper} {rest : List Oper} {o : Oper} {a : Act} {Q : Exit → Act → World → Prop} (hgd : Region.wanted o (yielded ops a.tmps) = true) (s x : Operand) (t : TypeId)
    (ho : o.op = .call { callee := .builtin .append, args := #[s, x], argTypes := #[t, t] })
    (base : Nat) (e : TypeId) (i : TypeInfo) (z : Value) (size bytes : Nat) (ht : P.underlying t = some (.slice e)) (hi : P.info? e = some i) (hz : i.zero = some z)
    (hsize : i.size = size) (hby : i.bytes = bytes) (hzs : z.cells.size = size) (hsz : 0 < size)
    (A : Option Addr) (n c : Nat) (xs : List Value) (hs : a.eval s = .slice A n c) (hown : w.ownsRow base e size (.slice A n c) n xs)
    (B : Nat) (S : Option Addr) (m d : Nat) (news : List Value) (hx : a.eval x = .slice S m d) (hr : Rd w B size S m d news) (h1 : ∀ u ∈ news, u.oneCell' = true)
    (h63 : n + m ≤ maxLen) (hbytes : (n + m) * bytes ≤ 140737488355328) (hbase : base ≤ w.heap.size)
    (h : ∀ A2 c2 w', w'.ownsRow base e size (.slice A2 (n + m) c2) (n + m) (xs ++ news) → w.grownBy w' (ab A) → (ab A2 = ab A ∨ ab A2 = some w.heap.size) → wpList P ops Q rest (a.put o.dst (.slice A2 (n + m) c2)) w') : wpList P ops Q (o :: rest) a w :=
  wpList_step fun _ hK => by
    rw [if_pos hgd]
    exact wp_app w s x t ho base e i z size bytes ht hi hz hsize hby hzs hsz A n c xs hs hown B S m d news hx hr h1 h63 hbytes hbase fun A2 c2 w' h2 h3 h4 => hK _ _ (h A2 c2 w' h2 h3 h4)
end
end Go.Proofs.Ythhcfocmaiacoaa
