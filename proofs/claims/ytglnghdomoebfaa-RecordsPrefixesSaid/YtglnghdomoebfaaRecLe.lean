/- Chapter 13, plain: how long an encoding is. -/
import Derived.Test.YtglnghdomoebfaaRecJ
import Derived.Test.YtglnghdomoebfaaRecV
namespace Go.Proofs.Ytglnghdomoebfaa
open Go.RowKit Go.Shelf

namespace Rc
theorem flat_le {α : Type} {f : α → List UInt8} {m : Nat} : ∀ {l : List α}, (∀ x ∈ l, (f x).length ≤ m) → (l.flatMap f).length ≤ l.length * m
  | [], _ => by simp
  | x :: l, h => by
    have h1 := h x (by simp)
    have h2 := flat_le (l := l) fun y hy => h y (by simp [hy])
    rw [List.flatMap_cons, List.length_append, List.length_cons, Nat.add_mul]; omega
theorem symE_le {T : List ByteArray} (hT : T.length ≤ 1000000) (s : ByteArray) : (symE T s).length ≤ 10 := by
  unfold symE
  refine Vi.enc_len _ ?_
  cases h : Sy.idx T s with
  | none => simp
  | some k => obtain ⟨hk, -⟩ := Sy.idx_some h; simp; omega
theorem recE_le {T : List ByteArray} (hT : T.length ≤ 1000000) {r : RecV} (h1 : r.1.length ≤ 200) (h2 : r.2.length ≤ 3000) (h3 : ∀ z ∈ r.2, z < 9223372036854775808) : (recE T r).length ≤ 34020 := by
  unfold recE
  have a1 := Vi.enc_len r.1.length (by omega)
  have a2 := Vi.enc_len r.2.length (by omega)
  have a3 := flat_le (f := symE T) (m := 10) (l := Lb.strs r.1) fun s _ => symE_le hT s
  have a4 := flat_le (f := chE) (m := 10) (l := r.2) fun z hz => Vi.enc_len _ (by have := h3 z hz; omega)
  rw [Lb.strs_length] at a3
  simp only [List.length_append]
  omega
theorem encB_le {T : List ByteArray} (hT : T.length ≤ 1000000) {n : Nat} {rs : List RecV} (hn : n = rs.length) (h : Short n rs) (hf : FitR rs) : (encB T rs).length ≤ 1000000000 := by
  have h1 := h.1
  have a1 := Vi.enc_len rs.length (by omega)
  have a2 := flat_le (f := recE T) (m := 34020) (l := rs) fun r hr => recE_le hT (h.2 r hr).1 (h.2 r hr).2 (hf r hr).2
  unfold encB
  rw [List.length_append]
  omega
theorem short_rec {n : Nat} {rs : List RecV} (h : Short n rs) : ∀ r ∈ rs, r.1.length ≤ 1000000 ∧ r.2.length ≤ 1000000 := fun r hr => by have := h.2 r hr; omega
end Rc
end Go.Proofs.Ytglnghdomoebfaa
