/- More plain laws of lists: complements of unions; the order of the lists. -/
import Derived.Test.YtoomdjjjkolloabListsL3
namespace Go.Proofs.Ytoomdjjjkolloab
open Go.RowKit

/-- the program's complement -/
def Ls.cmp (n : Nat) (l : List Int) : List Int := Ls.pick (fun _ s => !s) (Ls.upto n) l
theorem Ls.cmp_S (n : Nat) {l : List Int} (h : Ls.S l) : Ls.S (Ls.cmp n l) := Ls.pick_S _ (Ls.upto_S n) h
theorem Ls.cmp_mem (n : Nat) {l : List Int} (h : Ls.S l) (x : Int) : x ∈ Ls.cmp n l ↔ (0 ≤ x ∧ x < n) ∧ ¬ x ∈ l := by
  unfold Ls.cmp
  rw [Ls.pdif_eq (Ls.upto_S n) h, Ls.dif_mem, Ls.upto_mem]
theorem Ls.cmp_nil (n : Nat) : Ls.cmp n [] = Ls.upto n := by
  refine Ls.ext (Ls.cmp_S n List.Pairwise.nil) (Ls.upto_S n) fun x => ?_
  rw [Ls.cmp_mem n List.Pairwise.nil, Ls.upto_mem]
  simp
theorem Ls.isc2_mem (a b : List Int) (ha : Ls.S a) (hb : Ls.S b) (x : Int) : x ∈ Ls.pisc a [b] ↔ x ∈ a ∧ x ∈ b := by
  rw [(Ls.pisc_mem ha (by simpa using hb)).2]
  simp
theorem Ls.isc2_S (a b : List Int) (ha : Ls.S a) (hb : Ls.S b) : Ls.S (Ls.pisc a [b]) := (Ls.pisc_mem ha (by simpa using hb)).1
theorem Ls.uni2_S (a b : List Int) (ha : Ls.S a) (hb : Ls.S b) : Ls.S (Ls.puni [] [a, b]) := (Ls.puni_mem List.Pairwise.nil (by simp [ha, hb])).1
theorem Ls.uni2_mem (a b : List Int) (ha : Ls.S a) (hb : Ls.S b) (x : Int) : x ∈ Ls.puni [] [a, b] ↔ x ∈ a ∨ x ∈ b := by
  rw [(Ls.puni_mem List.Pairwise.nil (by simp [ha, hb])).2]
  simp
theorem Ls.morgan1 (n : Nat) (a b : List Int) (ha : Ls.S a) (hb : Ls.S b) : Ls.cmp n (Ls.puni [] [a, b]) = Ls.pisc (Ls.cmp n a) [Ls.cmp n b] := by
  refine Ls.ext (Ls.cmp_S n (Ls.uni2_S a b ha hb)) (Ls.isc2_S _ _ (Ls.cmp_S n ha) (Ls.cmp_S n hb)) fun x => ?_
  rw [Ls.cmp_mem n (Ls.uni2_S a b ha hb), Ls.isc2_mem _ _ (Ls.cmp_S n ha) (Ls.cmp_S n hb), Ls.cmp_mem n ha, Ls.cmp_mem n hb, Ls.uni2_mem a b ha hb]
  constructor
  · rintro ⟨h1, h2⟩
    exact ⟨⟨h1, fun h => h2 (.inl h)⟩, h1, fun h => h2 (.inr h)⟩
  · rintro ⟨⟨h1, h2⟩, _, h3⟩
    exact ⟨h1, fun h => h.elim h2 h3⟩
theorem Ls.morgan2 (n : Nat) (a b : List Int) (ha : Ls.S a) (hb : Ls.S b) : Ls.pick (fun _ s => !s) (Ls.cmp n a) b = Ls.pisc (Ls.cmp n a) [Ls.cmp n b] := by
  rw [Ls.pdif_eq (Ls.cmp_S n ha) hb]
  refine Ls.ext (Ls.dif_S _ (Ls.cmp_S n ha)) (Ls.isc2_S _ _ (Ls.cmp_S n ha) (Ls.cmp_S n hb)) fun x => ?_
  rw [Ls.dif_mem, Ls.isc2_mem _ _ (Ls.cmp_S n ha) (Ls.cmp_S n hb), Ls.cmp_mem n ha, Ls.cmp_mem n hb]
  constructor
  · rintro ⟨⟨h1, h2⟩, h3⟩
    exact ⟨⟨h1, h2⟩, h1, h3⟩
  · rintro ⟨h1, h2, h3⟩
    exact ⟨h1, h3⟩
theorem Ls.cmp_len (n : Nat) (l : List Int) (h : Ls.S l) : (Ls.cmp n l).length ≤ n := by
  unfold Ls.cmp
  rw [Ls.pdif_eq (Ls.upto_S n) h]
  have := Ls.dif_len (Ls.upto n) l
  rwa [Ls.upto_len] at this
theorem Ls.srt_true {l : List Int} (h : Ls.S l) : Ls.srt l = true := by unfold Ls.srt; exact decide_eq_true h
theorem Ls.uni2_len (a b : List Int) (ha : Ls.S a) (hb : Ls.S b) : (Ls.puni [] [a, b]).length ≤ a.length + b.length := by
  rw [Ls.puni_eq _ (by simp [ha, hb])]
  have h1 : Ls.uni [a, b] = Ls.insAll (Ls.insAll [] a) b := rfl
  rw [h1]
  have h2 := Ls.insAll_len b (Ls.insAll [] a)
  have h3 := Ls.insAll_len a []
  simp at h3
  omega
/-- the order of the lists does not matter -/
theorem Ls.puni_perm {L M : List (List Int)} (hL : ∀ l ∈ L, Ls.S l) (hM : ∀ l ∈ M, Ls.S l) (h : ∀ l, l ∈ L ↔ l ∈ M) : Ls.puni [] L = Ls.puni [] M := by
  refine Ls.ext (Ls.puni_mem List.Pairwise.nil hL).1 (Ls.puni_mem List.Pairwise.nil hM).1 fun x => ?_
  rw [(Ls.puni_mem List.Pairwise.nil hL).2, (Ls.puni_mem List.Pairwise.nil hM).2]
  simp only [h]
theorem Ls.piscs_S {L : List (List Int)} (hL : ∀ l ∈ L, Ls.S l) : Ls.S (Ls.piscs L) := by
  cases L with
  | nil => exact List.Pairwise.nil
  | cons l r => exact (Ls.pisc_mem (hL l (by simp)) (fun m hm => hL m (by simp [hm]))).1
theorem Ls.piscs_mem {L : List (List Int)} (hL : ∀ l ∈ L, Ls.S l) (hne : L ≠ []) (x : Int) : x ∈ Ls.piscs L ↔ ∀ m ∈ L, x ∈ m := by
  cases L with
  | nil => exact absurd rfl hne
  | cons l r =>
    show x ∈ Ls.pisc l r ↔ _
    rw [(Ls.pisc_mem (hL l (by simp)) (fun m hm => hL m (by simp [hm]))).2]
    simp
theorem Ls.piscs_perm {L M : List (List Int)} (hL : ∀ l ∈ L, Ls.S l) (hM : ∀ l ∈ M, Ls.S l) (h : ∀ l, l ∈ L ↔ l ∈ M) (hne : L ≠ []) : Ls.piscs L = Ls.piscs M := by
  have hne2 : M ≠ [] := by
    rintro rfl
    cases L with
    | nil => exact hne rfl
    | cons l r => have := (h l).1 (by simp); simp at this
  refine Ls.ext (Ls.piscs_S hL) (Ls.piscs_S hM) fun x => ?_
  rw [Ls.piscs_mem hL hne, Ls.piscs_mem hM hne2]
  simp only [h]
end Go.Proofs.Ytoomdjjjkolloab
