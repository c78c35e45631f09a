/- Arguments opened: [2]uint32, the struct Act, slices of strings. -/
import Derived.Test.YtknfkbgnfjfpeaaDoorOpenB
import Derived.Lib.SmallJoins
import Derived.OpenShut
import Derived.SliceStrings
import Derived.Deep.Slices
import Derived.Deep.Fields
namespace Go.Proofs.YtknfkbgnfjfpeaaDoor
/-- a step -/
structure ActV where
  kd : Int
  nn : Int
  u : Nat
  id : UInt8
instance : Inhabited ActV := ⟨⟨0, 0, 0, 0⟩⟩
def ActV.fit (x : ActV) : Prop := -9223372036854775808 ≤ x.kd ∧ x.kd ≤ 9223372036854775807 ∧ -9223372036854775808 ≤ x.nn ∧ x.nn ≤ 9223372036854775807 ∧ x.u ≤ 18446744073709551615
def actc (x : ActV) : List Value := [.int .i64 x.kd, .int .i64 x.nn, .int .u64 (x.u : Int), .int .u8 (x.id.toNat : Int)]
theorem actcs_length (L : List ActV) : (L.flatMap actc).length = L.length * 4 := by
  induction L with
  | nil => rfl
  | cons x L ih => rw [List.flatMap_cons, List.length_append, ih, List.length_cons]; simp [actc]; omega
theorem actcs_get (L : List ActV) (i k : Nat) (h : i < L.length) (hk : k < 4) : (L.flatMap actc)[i * 4 + k]? = (actc L[i])[k]? := by
  induction L generalizing i with
  | nil => simp at h
  | cons x L ih =>
    rw [List.flatMap_cons]
    have hx : (actc x).length = 4 := rfl
    cases i with
    | zero => rw [List.getElem?_append_left (by omega)]; simp
    | succ i =>
      rw [List.getElem?_append_right (by omega), hx, show (i + 1) * 4 + k - 4 = i * 4 + k by omega]
      exact ih i (by simpa using h)
/-- strings as values -/
def svs (L : List ByteArray) : List Value := L.map Value.string
namespace Open
open Go.ChangeShapes Go.WideShapes Go.ChangeAt Go.RowKit Go.Joins
section
variable {H : Type} {enc : TypeId × Value → H} {W : World} {A : Option Addr} {len cap : Nat} {d : DataW H} {p : List MemPlace}
set_option maxRecDepth 100000 in
theorem arr2 {b0 : Nat} {v : Value} (hv : Value.okWide Tryd.prog W .any b0 34 v) (h : DataW.Trod enc Tryd.prog W 0 (fun _ => true) true 34 v d p) :
    ∃ a b : Nat, v = .agg #[.int .u32 (a : Int), .int .u32 (b : Int)] ∧ a < 4294967296 ∧ b < 4294967296 := by
  have hU := Tryd.underlying34
  have hC : Tryd.prog.cellsOf 34 = 2 := by kernel_rfl
  have hE : Tryd.prog.cellsOf 33 = 1 := by kernel_rfl
  simp only [Value.okWide, hU] at hv
  obtain ⟨cs, rfl, hs, _⟩ := hv
  rw [hC] at hs
  obtain ⟨l, rfl⟩ : ∃ l : List Value, cs = l.toArray := ⟨cs.toList, by simp⟩
  match l, hs with
  | [c0, c1], _ =>
    obtain ⟨fuel, hf⟩ := h
    obtain ⟨xs, m, _, _, hl, hx, hel⟩ := DataW.trod_array hU hf
    rw [hE] at hel
    have e0 := hel 0 (by decide)
    have e1 := hel 1 (by decide)
    match xs, hx with
    | [x0, x1], _ =>
      have e0 : DataW.trod enc Tryd.prog W 0 (fun _ => true) true m 33 [c0] = some x0 := e0
      have e1 : DataW.trod enc Tryd.prog W 0 (fun _ => true) true m 33 [c1] = some x1 := e1
      obtain ⟨n0, h0, _, w0⟩ := DataW.trod_int Tryd.underlying33 e0
      obtain ⟨n1, h1, _, w1⟩ := DataW.trod_int Tryd.underlying33 e1
      obtain ⟨a, rfl, ha⟩ := u32 w0
      obtain ⟨b, rfl, hb⟩ := u32 w1
      cases h0
      cases h1
      exact ⟨a, b, rfl, ha, hb⟩
set_option maxRecDepth 100000 in
theorem act {b0 : Nat} {v : Value} (hv : Value.okWide Tryd.prog W .any b0 53 v) (h : DataW.Trod enc Tryd.prog W 0 (fun _ => true) true 53 v d p) :
    ∃ (kd nn : Int) (u : Nat) (id : UInt8), v = .agg #[.int .i64 kd, .int .i64 nn, .int .u64 (u : Int), .int .u8 (id.toNat : Int)] ∧ -9223372036854775808 ≤ kd ∧ kd ≤ 9223372036854775807 ∧ -9223372036854775808 ≤ nn ∧ nn ≤ 9223372036854775807 ∧ u ≤ 18446744073709551615 := by
  obtain ⟨v0, v1, v2, v3, y0, y1, y2, y3, n, rfl, _, _, t0, t1, t2, t3⟩ := open_agg4 Tryd.underlying53 (by kernel_rfl) (by kernel_rfl) hv h
  obtain ⟨n0, h0, _, w0⟩ := DataW.trod_int Tryd.underlying3 t0
  obtain ⟨n1, h1, _, w1⟩ := DataW.trod_int Tryd.underlying3 t1
  obtain ⟨n2, h2, _, w2⟩ := DataW.trod_int Tryd.underlying51 t2
  obtain ⟨n3, h3, _, w3⟩ := DataW.trod_int Tryd.underlying5 t3
  have b0 := bounds_i64 w0
  have b1 := bounds_i64 w1
  have b2 := bounds_u64 w2
  obtain ⟨id, rfl⟩ := u8 w3
  cases h0; cases h1; cases h2; cases h3
  exact ⟨n0, n1, n2.toNat, id, by rw [show ((n2.toNat : Nat) : Int) = n2 by omega], by omega, by omega, by omega, by omega, by omega⟩
set_option maxRecDepth 100000 in
theorem acts (h : DataW.Trod enc Tryd.prog W 0 (fun _ => true) true 47 (.slice A len cap) d p) :
    ∃ L : List ActV, Rd W W.heap.size 4 A len cap (L.flatMap actc) ∧ ∀ x ∈ L, x.fit := by
  obtain ⟨fuel, hf⟩ := h
  have hC : Tryd.prog.cellsOf 53 = 4 := by kernel_rfl
  rcases Deep.open_slice Tryd.underlying47 hf with ⟨hcs, _⟩ | ⟨x, l, c, m, n, D, Pl, hcs, _, hl, hm, hmm, _, hi⟩
  · simp [Value.cells] at hcs
    obtain ⟨rfl, rfl, rfl⟩ := hcs
    exact ⟨[], Rd.nil W _ 4 0 none (by unfold maxLen; omega), by simp⟩
  · simp [Value.cells] at hcs
    obtain ⟨rfl, rfl, rfl⟩ := hcs
    have hmc : m = cap := by simpa using hmm
    subst hmc
    rw [hC] at hi
    have each : ∀ i, i < len → ∃ v : ActV, v.fit ∧ ∀ k, k < 4 → W.cell? (x.add (i * 4 + k)) = (actc v)[k]? := by
      intro i hil
      obtain ⟨cs', hcs1, hcs2⟩ := hi i (by omega)
      obtain ⟨_, hlen, hat⟩ := World.cells?_some hcs1
      clear hcs1
      obtain ⟨y0, y1, y2, y3, n', _, _, t0, t1, t2, t3⟩ := Joins.trod_struct4 Tryd.underlying53 hcs2
      have z0 : Tryd.prog.cellsOf 3 = 1 := by kernel_rfl
      have z2 : Tryd.prog.cellsOf 51 = 1 := by kernel_rfl
      have z3 : Tryd.prog.cellsOf 5 = 1 := by kernel_rfl
      have t0 : DataW.trod enc Tryd.prog W 0 (fun _ => true) true n' 3 ((cs'.drop 0).take (Tryd.prog.cellsOf 3)) = some y0 := t0
      have t1 : DataW.trod enc Tryd.prog W 0 (fun _ => true) true n' 3 ((cs'.drop 1).take (Tryd.prog.cellsOf 3)) = some y1 := t1
      have t2 : DataW.trod enc Tryd.prog W 0 (fun _ => true) true n' 51 ((cs'.drop 2).take (Tryd.prog.cellsOf 51)) = some y2 := t2
      have t3 : DataW.trod enc Tryd.prog W 0 (fun _ => true) true n' 5 ((cs'.drop 3).take (Tryd.prog.cellsOf 5)) = some y3 := t3
      match cs', hlen with
      | [c0, c1, c2, c3], _ =>
        rw [z0] at t0 t1; rw [z2] at t2; rw [z3] at t3
        obtain ⟨n0, h0, _, w0⟩ := DataW.trod_int Tryd.underlying3 (show DataW.trod _ _ _ _ _ _ n' 3 [c0] = some y0 from t0)
        obtain ⟨n1, h1, _, w1⟩ := DataW.trod_int Tryd.underlying3 (show DataW.trod _ _ _ _ _ _ n' 3 [c1] = some y1 from t1)
        obtain ⟨n2, h2, _, w2⟩ := DataW.trod_int Tryd.underlying51 (show DataW.trod _ _ _ _ _ _ n' 51 [c2] = some y2 from t2)
        obtain ⟨n3, h3, _, w3⟩ := DataW.trod_int Tryd.underlying5 (show DataW.trod _ _ _ _ _ _ n' 5 [c3] = some y3 from t3)
        have b0 := bounds_i64 w0
        have b1 := bounds_i64 w1
        have b2 := bounds_u64 w2
        obtain ⟨id, rfl⟩ := u8 w3
        cases h0; cases h1; cases h2; cases h3
        refine ⟨⟨n0, n1, n2.toNat, id⟩, ⟨by show _ ≤ n0; omega, by show n0 ≤ _; omega, by show _ ≤ n1; omega, by show n1 ≤ _; omega, by show n2.toNat ≤ _; omega⟩, fun k hk => ?_⟩
        rw [← Deep.add_add, hat k hk]
        have e2 : ((n2.toNat : Nat) : Int) = n2 := by omega
        simp only [actc, e2]
    obtain ⟨V, hV⟩ := Deep.choose_lt each
    refine ⟨(List.range len).map V, ⟨hl, hm, by rw [actcs_length]; simp, fun hn => ?_⟩, fun v hv => ?_⟩
    · obtain ⟨b, off, spot⟩ := x
      obtain ⟨_, hc0⟩ := hV 0 hn
      have hc0 := hc0 0 (by omega)
      have hc0' : W.cell? ((⟨b, off, spot⟩ : Addr).add (0 * 4 + 0)) = some (.int .i64 (V 0).kd) := hc0
      have hspot : spot = none := by simpa [Addr.add] using World.cell?_spot hc0'
      subst hspot
      refine ⟨b, off, rfl, ?_, fun i u hu => ?_⟩
      · rw [add_plain] at hc0'; exact World.block_lt_of_cell? W _ hc0'
      · have hlt := (List.getElem?_eq_some_iff.1 hu).1
        rw [actcs_length, List.length_map, List.length_range] at hlt
        have hii : i = i / 4 * 4 + i % 4 := by omega
        have hq : i / 4 < len := by omega
        rw [hii, actcs_get _ _ _ (by simpa using hq) (by omega)] at hu
        have := (hV (i / 4) hq).2 (i % 4) (by omega)
        rw [add_plain] at this
        rw [← hii] at this
        rw [this, ← hu]
        simp
    · obtain ⟨i, hi, rfl⟩ := List.mem_map.1 hv
      exact (hV i (by simpa using hi)).1
theorem strings (h : DataW.Trod enc Tryd.prog W 0 (fun _ => true) true 43 (.slice A len cap) d p) :
    ∃ L : List ByteArray, Rd W W.heap.size 1 A len cap (svs L) ∧ ∀ s ∈ L, s.size ≤ maxLen := by
  obtain ⟨fuel, hf⟩ := h
  rcases open_strings Tryd.underlying43 Tryd.underlying9 (by kernel_rfl) hf with ⟨hcs, _⟩ | ⟨x, l, c, ss, hcs, _, hl, hm, hz, _, hcell, hw⟩
  · simp [Value.cells] at hcs
    obtain ⟨rfl, rfl, rfl⟩ := hcs
    exact ⟨[], Rd.nil W _ 1 0 none (by unfold maxLen; omega), by simp⟩
  · simp [Value.cells] at hcs
    obtain ⟨rfl, rfl, rfl⟩ := hcs
    have hz' : ss.length = cap := by simpa using hz
    refine ⟨ss.take len, ⟨hl, hm, by simp [svs]; omega, fun hn => ?_⟩, fun s hs => hw s (List.mem_of_mem_take hs)⟩
    obtain ⟨b, off, spot⟩ := x
    have hc0 := hcell 0 (by omega)
    have hspot : spot = none := by simpa [Addr.add] using World.cell?_spot hc0
    subst hspot
    refine ⟨b, off, rfl, ?_, fun i u hu => ?_⟩
    · rw [add_plain] at hc0; exact World.block_lt_of_cell? W _ hc0
    · have hi : i < len := by
        have := (List.getElem?_eq_some_iff.1 hu).1
        simp [svs] at this
        omega
      have hci := hcell i (by omega)
      rw [add_plain] at hci
      rw [hci]
      simp [svs, hi, show i < ss.length by omega] at hu
      rw [← hu]
      simp [List.getD, show i < ss.length by omega]
end
end Open
end Go.Proofs.YtknfkbgnfjfpeaaDoor
