/- Chapter 15: rows of entries: a label and a list of numbers each. -/
import Derived.Test.YthhcfocmaiacoaaSymG
namespace Go.Proofs.Ythhcfocmaiacoaa
open Go.RowKit Go.Shelf

/-- an entry, plain -/
abbrev EntV := Lab × List Int
def ecell (x : Lab) (s : Value) : List Value := [.string x.n, .string x.v, s]
def eflat : List EntV → List Value → List Value
  | e :: es, h :: hs => ecell e.1 h ++ eflat es hs
  | _, _ => []
theorem eflat_len : ∀ (es : List EntV) (hs : List Value), hs.length = es.length → (eflat es hs).length = es.length * 3
  | [], [], _ => rfl
  | e :: es, h :: hs, hl => by
    rw [eflat, List.length_append, eflat_len es hs (by simpa using hl), List.length_cons]
    simp [ecell]; omega
  | [], _ :: _, hl => by simp at hl
  | _ :: _, [], hl => by simp at hl
theorem eflat_app : ∀ (es : List EntV) (hs : List Value) (e : EntV) (h : Value), hs.length = es.length → eflat (es ++ [e]) (hs ++ [h]) = eflat es hs ++ ecell e.1 h
  | [], [], e, h, _ => by simp [eflat]
  | x :: es, y :: hs, e, h, hl => by
    rw [List.cons_append, List.cons_append, eflat, eflat_app es hs e h (by simpa using hl), eflat, List.append_assoc]
  | [], _ :: _, _, _, hl => by simp at hl
  | _ :: _, [], _, _, hl => by simp at hl
theorem eflat_get : ∀ (es : List EntV) (hs : List Value) (i k : Nat) (h : i < es.length) (h' : i < hs.length), k < 3 → (eflat es hs)[i * 3 + k]? = (ecell es[i].1 hs[i])[k]?
  | x :: es, y :: hs, 0, k, _, _, hk => by
    rw [eflat, List.getElem?_append_left (by simp [ecell]; omega)]; simp
  | x :: es, y :: hs, i + 1, k, h, h', hk => by
    have hl : (ecell x.1 y).length = 3 := rfl
    rw [eflat, List.getElem?_append_right (by omega), hl, show (i + 1) * 3 + k - 3 = i * 3 + k by omega]
    exact eflat_get es hs i k (by simpa using h) (by simpa using h') hk
  | [], _, _, _, h, _, _ => by simp at h
  | _ :: _, [], _, _, _, h', _ => by simp at h'
/-- the entries' numbers: rows of their own -/
def Ser (w : World) (hs : List Value) (es : List EntV) : Prop :=
  ∀ (i : Nat) (_ : i < hs.length) (_ : i < es.length), ∃ A1 n1 c1, hs[i] = .slice A1 n1 c1 ∧ OwnI w 0 A1 n1 c1 es[i].2
/-- entries, read -/
def RdEn (w : World) (B : Nat) (A : Option Addr) (n c : Nat) (es : List EntV) : Prop :=
  ∃ hs : List Value, hs.length = es.length ∧ Rd w B 3 A n c (eflat es hs) ∧ Ser w hs es
/-- a row of entries of the call's own (t: the entries' type) -/
def OwnEn (t : TypeId) (w : World) (base : Nat) (A : Option Addr) (n c : Nat) (es : List EntV) : Prop :=
  ∃ hs : List Value, hs.length = es.length ∧ w.ownsRow base t 3 (.slice A n c) n (eflat es hs) ∧ Ser w hs es
theorem own_keep {w w' : World} {base n c sz : Nat} {A : Option Addr} {xs : List Value} {t : TypeId} (h : w.ownsRow base t sz (.slice A n c) n xs) (hb : Below w.heap.size w w') : w'.ownsRow base t sz (.slice A n c) n xs :=
  own_below h hb (fun g hg => (own_lt h g hg).2)
theorem own_apart {w : World} {b1 b2 sz1 sz2 n1 n2 c1 c2 : Nat} {A1 A2 : Option Addr} {xs1 xs2 : List Value} {e1 e2 : TypeId} (h1 : w.ownsRow b1 e1 sz1 (.slice A1 n1 c1) n1 xs1) (h2 : w.ownsRow b2 e2 sz2 (.slice A2 n2 c2) n2 xs2) (hne : e1 ≠ e2) :
    ab A1 = none ∨ ab A1 ≠ ab A2 := by
  rcases h1.2 with ⟨hv, _⟩ | ⟨g, cap, cur, hv, _, hg, _⟩
  · injection hv with hv; rw [hv]; exact .inl rfl
  · injection hv with hv
    rcases h2.2 with ⟨hv2, _⟩ | ⟨g2, cap2, cur2, hv2, _, hg2, _⟩
    · injection hv2 with hv2
      exact .inr (by rw [hv, hv2]; simp [ab])
    · injection hv2 with hv2
      refine .inr fun e => ?_
      rw [hv, hv2] at e
      obtain rfl : g = g2 := by simpa [ab] using e
      rw [hg] at hg2
      simp only [Option.some.injEq, Obj.cells.injEq] at hg2
      exact hne hg2.2.1
theorem own_rebase {w : World} {b1 b2 sz n c : Nat} {A : Option Addr} {xs : List Value} {e : TypeId} (h : w.ownsRow b1 e sz (.slice A n c) n xs) (hb : b2 ≤ b1) : w.ownsRow b2 e sz (.slice A n c) n xs :=
  ⟨h.1, h.2.imp id fun ⟨g, cap, cur, h1, h2, h3⟩ => ⟨g, cap, cur, h1, by omega, h3⟩⟩
section
variable {w w' : World} {B base n c : Nat} {A : Option Addr} {es : List EntV} {hs : List Value} {t : TypeId}
theorem Ser.below (h : Ser w hs es) (hb : Below w.heap.size w w') : Ser w' hs es := fun i h1 h2 => by
  obtain ⟨A1, n1, c1, e, o⟩ := h i h1 h2
  exact ⟨A1, n1, c1, e, own_keep o hb⟩
theorem RdEn.len (h : RdEn w B A n c es) : n = es.length := by
  obtain ⟨hs, h1, h2, _⟩ := h
  have := h2.2.2.1
  rw [eflat_len es hs h1] at this
  omega
theorem OwnEn.len (h : OwnEn t w base A n c es) : n = es.length := by
  obtain ⟨hs, h1, h2, _⟩ := h
  have := h2.1
  rw [eflat_len es hs h1] at this
  omega
theorem RdEn.cap (h : RdEn w B A n c es) : n ≤ c ∧ c ≤ maxLen := by
  obtain ⟨hs, _, h2, _⟩ := h
  exact ⟨h2.1, h2.2.1⟩
theorem RdEn.below (h : RdEn w B A n c es) (hb : Below w.heap.size w w') (hB : B ≤ w.heap.size) : RdEn w' B A n c es := by
  obtain ⟨hs, h1, h2, h3⟩ := h
  exact ⟨hs, h1, Rd.below h2 (hb.mono hB), h3.below hb⟩
theorem RdEn.more {B' : Nat} (h : RdEn w B A n c es) (hB : B ≤ B') : RdEn w B' A n c es := by
  obtain ⟨hs, h1, h2, h3⟩ := h
  exact ⟨hs, h1, Rd.more h2 hB, h3⟩
theorem RdEn.on (h : RdEn w w.heap.size A n c es) (hb : Below w.heap.size w w') : RdEn w' w'.heap.size A n c es := (h.below hb (Nat.le_refl _)).more hb.size
theorem RdEn.nil (w : World) (B : Nat) : RdEn w B none 0 0 [] := ⟨[], rfl, Rd.nil w B 3 0 none (by unfold maxLen; omega), fun i h => by simp at h⟩
theorem OwnEn.nil (w : World) (base : Nat) : OwnEn t w base none 0 0 [] := ⟨[], rfl, World.ownsRow_nil _ _ _ _, fun i h => by simp at h⟩
theorem OwnEn.rd (h : OwnEn t w base A n c es) : RdEn w w.heap.size A n c es := by
  obtain ⟨hs, h1, h2, h3⟩ := h
  exact ⟨hs, h1, Rd.of_own h2, h3⟩
theorem OwnEn.keep (h : OwnEn t w base A n c es) (hb : Below w.heap.size w w') : OwnEn t w' base A n c es := by
  obtain ⟨hs, h1, h2, h3⟩ := h
  exact ⟨hs, h1, own_keep h2 hb, h3.below hb⟩
theorem RdEn.cells {k : Nat} (h : RdEn w B A n c es) (hB : B ≤ w.heap.size) (hk : k < es.length) :
    ∃ b off A1 n1 c1, A = some ⟨b, off, none⟩ ∧ b < B ∧ OwnI w 0 A1 n1 c1 es[k].2 ∧ ∀ W, Below w.heap.size w W → W.cell? ⟨b, off + k * 3, none⟩ = some (.string es[k].1.n) ∧ W.cell? ⟨b, off + k * 3 + 1, none⟩ = some (.string es[k].1.v) ∧ W.cell? ⟨b, off + k * 3 + 2, none⟩ = some (.slice A1 n1 c1) := by
  have hn := h.len
  obtain ⟨hs, h1, h2, h3⟩ := h
  have hkh : k < hs.length := by omega
  obtain ⟨A1, n1, c1, e, o⟩ := h3 k hkh hk
  obtain ⟨b, off, rfl, hb, hc⟩ := h2.2.2.2 (by omega)
  have g0 := eflat_get es hs k 0 hk hkh (by omega)
  have g1 := eflat_get es hs k 1 hk hkh (by omega)
  have g2 := eflat_get es hs k 2 hk hkh (by omega)
  rw [e] at g2
  refine ⟨b, off, A1, n1, c1, rfl, hb, o, fun W hW => ⟨?_, ?_, ?_⟩⟩
  · exact (hW.cell (p := ⟨b, _, none⟩) (by show b < _; omega)).trans (hc (k * 3) _ (by simpa [ecell] using g0))
  · exact (hW.cell (p := ⟨b, _, none⟩) (by show b < _; omega)).trans (by rw [Nat.add_assoc]; exact hc (k * 3 + 1) _ (by simpa [ecell] using g1))
  · exact (hW.cell (p := ⟨b, _, none⟩) (by show b < _; omega)).trans (by rw [Nat.add_assoc]; exact hc (k * 3 + 2) _ (by simpa [ecell] using g2))
/-- one entry more -/
theorem OwnEn.push1 {w4 : World} {A1 A4 : Option Addr} {n1 c1 c4 : Nat} {x : Lab} {s : List Int} {tmp : Obj} (ht : (3 : TypeId) ≠ t)
    (h1 : hs.length = es.length) (h2 : w.ownsRow base t 3 (.slice A n c) n (eflat es hs)) (h3 : Ser w hs es) (hS : OwnI w 0 A1 n1 c1 s) (hg : (w.alloc tmp).grownBy w4 (ab A))
    (hown4 : w4.ownsRow base t 3 (.slice A4 (n + 1) c4) (n + 1) (eflat es hs ++ [.string x.n, .string x.v, .slice A1 n1 c1])) :
    OwnEn t w4 base A4 (n + 1) c4 (es ++ [(x, s)]) := by
  have kI : ∀ {A' : Option Addr} {n' c' : Nat} {l' : List Int}, OwnI w 0 A' n' c' l' → OwnI w4 0 A' n' c' l' := fun h => own_grown (World.ownsRow.alloc h tmp) hg (own_apart h h2 ht)
  refine ⟨hs ++ [.slice A1 n1 c1], by simp [h1], by rw [eflat_app es hs _ _ h1]; exact hown4, fun i hi hi' => ?_⟩
  by_cases hlt : i < hs.length
  · obtain ⟨B1, m1, d1, e, p⟩ := h3 i hlt (by omega)
    rw [List.getElem_append_left hlt, List.getElem_append_left (show i < es.length by omega)]
    exact ⟨B1, m1, d1, e, kI p⟩
  · have hie : i = hs.length := by simp at hi; omega
    subst hie
    refine ⟨A1, n1, c1, by simp, ?_⟩
    have : (es ++ [(x, s)])[hs.length]'hi' = (x, s) := by simp [h1]
    rw [this]; exact kI hS
end
theorem Rd.ent (w : World) (u1 u2 u3 : Value) (t : TypeId) : Rd (w.alloc (.cells #[u1, u2, u3] t)) (w.heap.size + 1) 3 (some ⟨w.heap.size, 0, none⟩) 1 1 [u1, u2, u3] :=
  ⟨Nat.le_refl _, by unfold maxLen; omega, rfl, fun _ => ⟨_, 0, rfl, by omega, fun i u hu => by
    rw [Nat.zero_add]
    exact (World.cell?_alloc_mark w _ _ _ i).trans (by simpa using hu)⟩⟩
theorem infoEp : (Try.prog.info? 110).map (fun i => (i.zero, i.size, i.bytes)) = some (some (.agg #[.string ByteArray.empty, .string ByteArray.empty, .slice none 0 0]), 3, 56) := by kernel_rfl
theorem infoEr : (Try.prog.info? 109).map (fun i => (i.zero, i.size, i.bytes)) = some (some (.agg #[.string ByteArray.empty, .string ByteArray.empty, .slice none 0 0]), 3, 56) := by kernel_rfl
end Go.Proofs.Ythhcfocmaiacoaa
