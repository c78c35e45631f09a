/- Cut by cut_tpl.py out of ListsA, ListsB: what this seat reaches. -/
import Derived.Test.YthhcfocmaiacoaaMemI
import Derived.Test.YthhcfocmaiacoaaSymW
import Derived.BigQuiet
import Derived.Deep.DeepCutAuto
namespace Go.Proofs.Ythhcfocmaiacoaa.Ls
/-- strictly ascending -/
abbrev S (l : List Int) : Prop := l.Pairwise (· < ·)
def has (l : List Int) (x : Int) : Bool := l.any fun y => y == x
theorem has_iff (l : List Int) (x : Int) : has l x = true ↔ x ∈ l := by simp [has]
theorem has_false (l : List Int) (x : Int) : has l x = false ↔ ¬ x ∈ l := by rw [← has_iff]; simp
/-- insertion as the reference does it -/
def low (l : List Int) (x : Int) : List Int := l.takeWhile (fun y => decide (y < x))
def ins (l : List Int) (x : Int) : List Int := if has l x then l else low l x ++ x :: l.drop (low l x).length
def insAll (acc l : List Int) : List Int := l.foldl ins acc
def uni (ls : List (List Int)) : List Int := ls.foldl insAll []
def dif (a b : List Int) : List Int := a.filter fun x => !has b x
def upto (n : Nat) : List Int := (List.range n).map fun i : Nat => (i : Int)
def com (l : List Int) (n : Nat) : List Int := (upto n).filter fun x => !has l x
def isc (ls : List (List Int)) : List Int :=
  match ls with
  | [] => []
  | l :: r => l.filter fun x => r.all fun m => has m x
/-- the numbers of two lists in order, with their origins -/
def mrg (a b : List Int) : List (Int × Bool × Bool) :=
  match a, b with
  | [], [] => []
  | x :: a, [] => (x, true, false) :: mrg a []
  | [], y :: b => (y, false, true) :: mrg [] b
  | x :: a, y :: b => if x < y then (x, true, false) :: mrg a (y :: b) else if y < x then (y, false, true) :: mrg (x :: a) b else (x, true, true) :: mrg a b
termination_by a.length + b.length
def pick (ok : Bool → Bool → Bool) (a b : List Int) : List Int := ((mrg a b).filter fun p => ok p.2.1 p.2.2).map (·.1)

theorem ext : ∀ {a b : List Int}, S a → S b → (∀ x, x ∈ a ↔ x ∈ b) → a = b
  | [], [], _, _, _ => rfl
  | [], y :: b, _, _, h => by have := (h y).2 (by simp); simp at this
  | x :: a, [], _, _, h => by have := (h x).1 (by simp); simp at this
  | x :: a, y :: b, ha, hb, h => by
    rw [S, List.pairwise_cons] at ha hb
    have hxy : x = y := by
      have h1 := (h x).1 (by simp)
      have h2 := (h y).2 (by simp)
      simp only [List.mem_cons] at h1 h2
      rcases h1 with h1 | h1
      · exact h1
      · rcases h2 with h2 | h2
        · exact h2.symm
        · have := ha.1 y h2; have := hb.1 x h1; omega
    subst hxy
    congr 1
    refine ext ha.2 hb.2 fun z => ?_
    have hz := h z
    simp only [List.mem_cons] at hz
    constructor
    · intro hza
      have h1 := ha.1 z hza
      rcases hz.1 (.inr hza) with h2 | h2
      · omega
      · exact h2
    · intro hzb
      have h1 := hb.1 z hzb
      rcases hz.2 (.inr hzb) with h2 | h2
      · omega
      · exact h2

theorem mrg_mem : ∀ (n : Nat) (a b : List Int), a.length + b.length ≤ n → S a → S b → ∀ x f s, (x, f, s) ∈ mrg a b ↔ (f = decide (x ∈ a) ∧ s = decide (x ∈ b) ∧ (x ∈ a ∨ x ∈ b))
  | n, [], [], _, _, _, x, f, s => by simp [mrg]
  | 0, x :: a, _, h, _, _, _, _, _ => by simp at h
  | 0, [], y :: b, h, _, _, _, _, _ => by simp at h
  | n + 1, x :: a, [], h, ha, hb, z, f, s => by
    rw [S, List.pairwise_cons] at ha
    have ih := mrg_mem n a [] (by simp at h ⊢; omega) ha.2 hb z f s
    simp only [mrg, List.mem_cons, ih, Prod.mk.injEq, List.not_mem_nil, decide_false, or_false]
    constructor
    · rintro (⟨rfl, rfl, rfl⟩ | ⟨h1, h2, h3⟩)
      · simp
      · have hne : z ≠ x := by have := ha.1 z h3; omega
        simp [h1, h2, h3]
    · rintro ⟨h1, h2, h3⟩
      rcases h3 with h3 | h3
      · left; subst h3; simp [h1, h2]
      · right; have hne : z ≠ x := by have := ha.1 z h3; omega
        simp [h1, h2, h3]
  | n + 1, [], y :: b, h, ha, hb, z, f, s => by
    rw [S, List.pairwise_cons] at hb
    have ih := mrg_mem n [] b (by simp at h ⊢; omega) ha hb.2 z f s
    simp only [mrg, List.mem_cons, ih, Prod.mk.injEq, List.not_mem_nil, decide_false, false_or]
    constructor
    · rintro (⟨rfl, rfl, rfl⟩ | ⟨h1, h2, h3⟩)
      · simp
      · simp [h1, h2, h3]
    · rintro ⟨h1, h2, h3⟩
      rcases h3 with h3 | h3
      · left; subst h3; simp [h1, h2]
      · right
        simp [h1, h2, h3]
  | n + 1, x :: a, y :: b, h, ha, hb, z, f, s => by
    have ha' := ha
    have hb' := hb
    rw [S, List.pairwise_cons] at ha hb
    rw [mrg]
    by_cases hxy : x < y
    · have ih := mrg_mem n a (y :: b) (by simp at h ⊢; omega) ha.2 hb' z f s
      rw [if_pos hxy, List.mem_cons, ih]
      have hny : ∀ w, w ∈ y :: b → x < w := by
        intro w hw; rcases List.mem_cons.1 hw with rfl | hw
        · exact hxy
        · have := hb.1 w hw; omega
      simp only [Prod.mk.injEq]
      constructor
      · rintro (⟨rfl, rfl, rfl⟩ | ⟨h1, h2, h3⟩)
        · have : ¬ z ∈ y :: b := fun hc => by have := hny z hc; omega
          simp [this]
        · have hne : z ≠ x := by
            rcases h3 with h3 | h3
            · have := ha.1 z h3; omega
            · have := hny z h3; omega
          refine ⟨by simp [h1, hne], h2, ?_⟩
          rcases h3 with h3 | h3
          · exact .inl (List.mem_cons_of_mem _ h3)
          · exact .inr h3
      · rintro ⟨h1, h2, h3⟩
        by_cases hz : z = x
        · left
          subst hz
          have : ¬ z ∈ y :: b := fun hc => by have := hny z hc; omega
          simp [h1, h2, this]
        · right
          refine ⟨by simp [h1, hz], h2, ?_⟩
          rcases h3 with h3 | h3
          · rcases List.mem_cons.1 h3 with h4 | h4
            · exact absurd h4 hz
            · exact .inl h4
          · exact .inr h3
    · rw [if_neg hxy]
      by_cases hyx : y < x
      · have ih := mrg_mem n (x :: a) b (by simp at h ⊢; omega) ha' hb.2 z f s
        rw [if_pos hyx, List.mem_cons, ih]
        have hnx : ∀ w, w ∈ x :: a → y < w := by
          intro w hw; rcases List.mem_cons.1 hw with rfl | hw
          · exact hyx
          · have := ha.1 w hw; omega
        simp only [Prod.mk.injEq]
        constructor
        · rintro (⟨rfl, rfl, rfl⟩ | ⟨h1, h2, h3⟩)
          · have : ¬ z ∈ x :: a := fun hc => by have := hnx z hc; omega
            simp [this]
          · have hne : z ≠ y := by
              rcases h3 with h3 | h3
              · have := hnx z h3; omega
              · have := hb.1 z h3; omega
            refine ⟨h1, by simp [h2, hne], ?_⟩
            rcases h3 with h3 | h3
            · exact .inl h3
            · exact .inr (List.mem_cons_of_mem _ h3)
        · rintro ⟨h1, h2, h3⟩
          by_cases hz : z = y
          · left
            subst hz
            have : ¬ z ∈ x :: a := fun hc => by have := hnx z hc; omega
            simp [h1, h2, this]
          · right
            refine ⟨h1, by simp [h2, hz], ?_⟩
            rcases h3 with h3 | h3
            · exact .inl h3
            · rcases List.mem_cons.1 h3 with h4 | h4
              · exact absurd h4 hz
              · exact .inr h4
      · rw [if_neg hyx]
        obtain rfl : x = y := by omega
        have ih := mrg_mem n a b (by simp at h ⊢; omega) ha.2 hb.2 z f s
        rw [List.mem_cons, ih]
        simp only [Prod.mk.injEq]
        constructor
        · rintro (⟨rfl, rfl, rfl⟩ | ⟨h1, h2, h3⟩)
          · simp
          · have hne : z ≠ x := by
              rcases h3 with h3 | h3
              · have := ha.1 z h3; omega
              · have := hb.1 z h3; omega
            refine ⟨by simp [h1, hne], by simp [h2, hne], ?_⟩
            rcases h3 with h3 | h3
            · exact .inl (List.mem_cons_of_mem _ h3)
            · exact .inr (List.mem_cons_of_mem _ h3)
        · rintro ⟨h1, h2, h3⟩
          by_cases hz : z = x
          · left; subst hz; simp [h1, h2]
          · right
            refine ⟨by simp [h1, hz], by simp [h2, hz], ?_⟩
            rcases h3 with h3 | h3
            · rcases List.mem_cons.1 h3 with h4 | h4
              · exact absurd h4 hz
              · exact .inl h4
            · rcases List.mem_cons.1 h3 with h4 | h4
              · exact absurd h4 hz
              · exact .inr h4
theorem mrg_fst_mem (a b : List Int) (ha : S a) (hb : S b) (p : Int × Bool × Bool) (h : p ∈ mrg a b) : p.1 ∈ a ∨ p.1 ∈ b := by
  obtain ⟨x, f, s⟩ := p
  exact ((mrg_mem _ a b (Nat.le_refl _) ha hb x f s).1 h).2.2
theorem mrg_sorted : ∀ (n : Nat) (a b : List Int), a.length + b.length ≤ n → S a → S b → (mrg a b).Pairwise (fun p q => p.1 < q.1)
  | n, [], [], _, _, _ => by simp [mrg]
  | 0, x :: a, _, h, _, _ => by simp at h
  | 0, [], y :: b, h, _, _ => by simp at h
  | n + 1, x :: a, [], h, ha, hb => by
    rw [S, List.pairwise_cons] at ha
    rw [mrg, List.pairwise_cons]
    refine ⟨fun p hp => ?_, mrg_sorted n a [] (by simp at h ⊢; omega) ha.2 hb⟩
    rcases mrg_fst_mem a [] ha.2 hb p hp with h1 | h1
    · exact ha.1 _ h1
    · simp at h1
  | n + 1, [], y :: b, h, ha, hb => by
    rw [S, List.pairwise_cons] at hb
    rw [mrg, List.pairwise_cons]
    refine ⟨fun p hp => ?_, mrg_sorted n [] b (by simp at h ⊢; omega) ha hb.2⟩
    rcases mrg_fst_mem [] b ha hb.2 p hp with h1 | h1
    · simp at h1
    · exact hb.1 _ h1
  | n + 1, x :: a, y :: b, h, ha, hb => by
    have ha' := ha
    have hb' := hb
    rw [S, List.pairwise_cons] at ha hb
    rw [mrg]
    by_cases hxy : x < y
    · rw [if_pos hxy, List.pairwise_cons]
      refine ⟨fun p hp => ?_, mrg_sorted n a (y :: b) (by simp at h ⊢; omega) ha.2 hb'⟩
      rcases mrg_fst_mem a (y :: b) ha.2 hb' p hp with h1 | h1
      · exact ha.1 _ h1
      · rcases List.mem_cons.1 h1 with h2 | h2
        · rw [h2]; exact hxy
        · have := hb.1 _ h2; omega
    · rw [if_neg hxy]
      by_cases hyx : y < x
      · rw [if_pos hyx, List.pairwise_cons]
        refine ⟨fun p hp => ?_, mrg_sorted n (x :: a) b (by simp at h ⊢; omega) ha' hb.2⟩
        rcases mrg_fst_mem (x :: a) b ha' hb.2 p hp with h1 | h1
        · rcases List.mem_cons.1 h1 with h2 | h2
          · rw [h2]; exact hyx
          · have := ha.1 _ h2; omega
        · exact hb.1 _ h1
      · rw [if_neg hyx, List.pairwise_cons]
        obtain rfl : x = y := by omega
        refine ⟨fun p hp => ?_, mrg_sorted n a b (by simp at h ⊢; omega) ha.2 hb.2⟩
        rcases mrg_fst_mem a b ha.2 hb.2 p hp with h1 | h1
        · exact ha.1 _ h1
        · exact hb.1 _ h1
theorem pick_S (ok : Bool → Bool → Bool) {a b : List Int} (ha : S a) (hb : S b) : S (pick ok a b) := by
  unfold pick S
  rw [List.pairwise_map]
  exact (mrg_sorted _ a b (Nat.le_refl _) ha hb).filter _
theorem pick_mem (ok : Bool → Bool → Bool) {a b : List Int} (ha : S a) (hb : S b) (x : Int) : x ∈ pick ok a b ↔ ((x ∈ a ∨ x ∈ b) ∧ ok (decide (x ∈ a)) (decide (x ∈ b)) = true) := by
  unfold pick
  simp only [List.mem_map, List.mem_filter, Prod.exists]
  constructor
  · rintro ⟨y, f, s, ⟨hm, hok⟩, rfl⟩
    obtain ⟨h1, h2, h3⟩ := (mrg_mem _ a b (Nat.le_refl _) ha hb y f s).1 hm
    subst h1; subst h2
    exact ⟨h3, hok⟩
  · rintro ⟨h3, hok⟩
    exact ⟨x, _, _, ⟨(mrg_mem _ a b (Nat.le_refl _) ha hb x _ _).2 ⟨rfl, rfl, h3⟩, hok⟩, rfl⟩

theorem low_sub (l : List Int) (x : Int) : ∀ y ∈ low l x, y < x ∧ y ∈ l := by
  induction l with
  | nil => intro y hy; simp [low] at hy
  | cons z l ih =>
    intro y hy
    unfold low at ih hy
    rw [List.takeWhile_cons] at hy
    split at hy
    · next hz =>
      rcases List.mem_cons.1 hy with rfl | h1
      · exact ⟨by simpa using hz, by simp⟩
      · have := ih y h1
        exact ⟨this.1, List.mem_cons_of_mem _ this.2⟩
    · simp at hy
theorem low_split (l : List Int) (x : Int) : low l x ++ l.drop (low l x).length = l := by
  induction l with
  | nil => rfl
  | cons y l ih =>
    unfold low at ih ⊢
    rw [List.takeWhile_cons]
    split
    · simpa using ih
    · rfl
theorem ins_mem (l : List Int) (x y : Int) : y ∈ ins l x ↔ y ∈ l ∨ y = x := by
  unfold ins
  by_cases h : has l x = true
  · rw [if_pos h]
    rw [has_iff] at h
    constructor
    · exact fun hh => .inl hh
    · rintro (hh | rfl)
      · exact hh
      · exact h
  · rw [if_neg h]
    conv => rhs; rw [← low_split l x]
    simp only [List.mem_append, List.mem_cons]
    constructor
    · rintro (h1 | h1 | h1)
      · exact .inl (.inl h1)
      · exact .inr h1
      · exact .inl (.inr h1)
    · rintro ((h1 | h1) | h1)
      · exact .inl h1
      · exact .inr (.inr h1)
      · exact .inr (.inl h1)
theorem low_rest (l : List Int) (x : Int) (hl : S l) : ∀ y ∈ l.drop (low l x).length, x ≤ y := by
  induction l with
  | nil => intro y hy; simp at hy
  | cons z l ih =>
    rw [S, List.pairwise_cons] at hl
    unfold low at ih ⊢
    rw [List.takeWhile_cons]
    split
    · intro y hy
      exact ih hl.2 y (by simpa using hy)
    · next hz =>
      intro y hy
      have hzx : x ≤ z := by simpa using hz
      rcases List.mem_cons.1 (by simpa using hy) with h1 | h1
      · omega
      · have := hl.1 y h1; omega
theorem ins_S {l : List Int} (x : Int) (hl : S l) : S (ins l x) := by
  unfold ins
  by_cases h : has l x = true
  · rw [if_pos h]; exact hl
  · rw [if_neg h]
    have hnx : ¬ x ∈ l := fun hc => h ((has_iff l x).2 hc)
    have hs := hl
    rw [← low_split l x] at hs
    rw [S, List.pairwise_append] at hs
    rw [S, List.pairwise_append, List.pairwise_cons]
    refine ⟨hs.1, ⟨fun y hy => ?_, hs.2.1⟩, fun y hy z hz => ?_⟩
    · have h1 := low_rest l x hl y hy
      have h2 : y ∈ l := (List.drop_sublist _ _).subset hy
      have : y ≠ x := fun e => hnx (e ▸ h2)
      omega
    · have h1 := (low_sub l x y hy).1
      rcases List.mem_cons.1 hz with rfl | hz
      · exact h1
      · have := low_rest l x hl z hz; omega
theorem insAll_mem (l acc : List Int) (y : Int) : y ∈ insAll acc l ↔ y ∈ acc ∨ y ∈ l := by
  unfold insAll
  induction l generalizing acc with
  | nil => simp
  | cons x l ih => rw [List.foldl_cons, ih, ins_mem, List.mem_cons, or_assoc]
theorem insAll_S (l : List Int) {acc : List Int} (h : S acc) : S (insAll acc l) := by
  unfold insAll
  induction l generalizing acc with
  | nil => exact h
  | cons x l ih => exact ih (ins_S x h)
def uniFrom (acc : List Int) (ls : List (List Int)) : List Int := ls.foldl insAll acc
theorem uniFrom_mem (ls : List (List Int)) (acc : List Int) (y : Int) : y ∈ uniFrom acc ls ↔ y ∈ acc ∨ ∃ l ∈ ls, y ∈ l := by
  unfold uniFrom
  induction ls generalizing acc with
  | nil => simp
  | cons l ls ih =>
    rw [List.foldl_cons, ih, insAll_mem]
    simp only [List.mem_cons, exists_eq_or_imp, or_assoc]
theorem uniFrom_S (ls : List (List Int)) {acc : List Int} (h : S acc) : S (uniFrom acc ls) := by
  unfold uniFrom
  induction ls generalizing acc with
  | nil => exact h
  | cons l ls ih => exact ih (insAll_S l h)
theorem uni_mem (ls : List (List Int)) (y : Int) : y ∈ uni ls ↔ ∃ l ∈ ls, y ∈ l := by
  have := uniFrom_mem ls [] y
  simpa [uniFrom, uni] using this
theorem uni_S (ls : List (List Int)) : S (uni ls) := uniFrom_S ls List.Pairwise.nil
theorem dif_mem (a b : List Int) (x : Int) : x ∈ dif a b ↔ x ∈ a ∧ ¬ x ∈ b := by simp [dif, has]; rintro -; constructor <;> intro h <;> (intro h2; first | exact h _ h2 rfl | (intro h3 h4; subst h4; exact h h3))
theorem dif_S {a : List Int} (b : List Int) (h : S a) : S (dif a b) := h.filter _
theorem upto_S (n : Nat) : S (upto n) := by
  unfold upto S
  rw [List.pairwise_map]
  exact List.pairwise_lt_range.imp (by intro a b h; omega)
theorem upto_mem (n : Nat) (x : Int) : x ∈ upto n ↔ 0 ≤ x ∧ x < n := by
  simp only [upto, List.mem_map, List.mem_range]
  constructor
  · rintro ⟨i, hi, rfl⟩; omega
  · rintro ⟨h1, h2⟩; exact ⟨x.toNat, by omega, by omega⟩
theorem com_eq (l : List Int) (n : Nat) : com l n = dif (upto n) l := rfl
theorem isc_S {ls : List (List Int)} (h : ∀ l ∈ ls, S l) : S (isc ls) := by
  cases ls with
  | nil => exact List.Pairwise.nil
  | cons l r => exact (h l (by simp)).filter _
theorem isc_mem (l : List Int) (r : List (List Int)) (x : Int) : x ∈ isc (l :: r) ↔ x ∈ l ∧ ∀ m ∈ r, x ∈ m := by
  simp only [isc, List.mem_filter, List.all_eq_true, has_iff]
/-- the program's Intersect -/
def pisc (out : List Int) (r : List (List Int)) : List Int := r.foldl (fun o x => pick (fun f s => f && s) o x) out
theorem pisc_mem {r : List (List Int)} {out : List Int} (ho : S out) (h : ∀ l ∈ r, S l) : S (pisc out r) ∧ ∀ x, x ∈ pisc out r ↔ x ∈ out ∧ ∀ m ∈ r, x ∈ m := by
  unfold pisc
  induction r generalizing out with
  | nil => simpa using ho
  | cons l r ih =>
    rw [List.foldl_cons]
    have hl := h l (by simp)
    have hp := pick_S (fun f s => f && s) ho hl
    obtain ⟨h1, h2⟩ := ih hp (fun m hm => h m (by simp [hm]))
    refine ⟨h1, fun x => ?_⟩
    rw [h2, pick_mem _ ho hl]
    simp only [Bool.and_eq_true, decide_eq_true_eq, List.mem_cons, forall_eq_or_imp]
    constructor
    · rintro ⟨⟨_, h3, h4⟩, h5⟩; exact ⟨h3, h4, h5⟩
    · rintro ⟨h3, h4, h5⟩; exact ⟨⟨.inl h3, h3, h4⟩, h5⟩
theorem pisc_eq (l : List Int) (r : List (List Int)) (h : ∀ m ∈ l :: r, S m) : pisc l r = isc (l :: r) := by
  obtain ⟨h1, h2⟩ := pisc_mem (r := r) (h l (by simp)) (fun m hm => h m (by simp [hm]))
  exact ext h1 (isc_S h) fun x => by rw [h2, isc_mem]
/-- the program's Union -/
def puni (out : List Int) (r : List (List Int)) : List Int := r.foldl (fun o x => pick (fun _ _ => true) o x) out
theorem puni_mem {r : List (List Int)} {out : List Int} (ho : S out) (h : ∀ l ∈ r, S l) : S (puni out r) ∧ ∀ x, x ∈ puni out r ↔ x ∈ out ∨ ∃ m ∈ r, x ∈ m := by
  unfold puni
  induction r generalizing out with
  | nil => simpa using ho
  | cons l r ih =>
    rw [List.foldl_cons]
    have hl := h l (by simp)
    have hp := pick_S (fun _ _ => true) ho hl
    obtain ⟨h1, h2⟩ := ih hp (fun m hm => h m (by simp [hm]))
    refine ⟨h1, fun x => ?_⟩
    rw [h2, pick_mem _ ho hl]
    simp only [and_true, List.mem_cons, exists_eq_or_imp, or_assoc]
theorem puni_eq (r : List (List Int)) (h : ∀ m ∈ r, S m) : puni [] r = uni r := by
  obtain ⟨h1, h2⟩ := puni_mem (r := r) (out := []) List.Pairwise.nil h
  exact ext h1 (uni_S r) fun x => by rw [h2, uni_mem]; simp
theorem pdif_eq {a b : List Int} (ha : S a) (hb : S b) : pick (fun _ s => !s) a b = dif a b := by
  refine ext (pick_S _ ha hb) (dif_S b ha) fun x => ?_
  rw [pick_mem _ ha hb, dif_mem]
  simp only [Bool.not_eq_true', decide_eq_false_iff_not]
  constructor
  · rintro ⟨h1 | h1, h2⟩
    · exact ⟨h1, h2⟩
    · exact absurd h1 h2
  · rintro ⟨h1, h2⟩; exact ⟨.inl h1, h2⟩
/-- reports whether a list is strictly ascending -/
def srt (l : List Int) : Bool := decide (S l)
theorem S_iff (l : List Int) : S l ↔ ∀ i (h : i + 1 < l.length), l[i] < l[i + 1] := by
  induction l with
  | nil => simp
  | cons x l ih =>
    rw [S, List.pairwise_cons]
    rw [show List.Pairwise (fun x1 x2 => x1 < x2) l ↔ _ from ih]
    constructor
    · rintro ⟨h1, h2⟩ i hi
      cases i with
      | zero => exact h1 _ (List.getElem_mem _)
      | succ i => exact h2 i (by simpa using hi)
    · intro h
      refine ⟨?_, fun i hi => h (i + 1) (by simpa using hi)⟩
      have h2 : ∀ i (hi : i < l.length), x < l[i] := by
        intro i
        induction i with
        | zero => intro hi; exact h 0 (by simpa using hi)
        | succ i ih2 =>
          intro hi
          have h3 := h (i + 1) (by simpa using hi)
          have h4 := ih2 (by omega)
          simp only [List.getElem_cons_succ] at h3
          omega
      intro y hy
      obtain ⟨i, hi, rfl⟩ := List.getElem_of_mem hy
      exact h2 i hi
end Go.Proofs.Ythhcfocmaiacoaa.Ls
namespace Go.Proofs.Ythhcfocmaiacoaa
open Go.RowKit

theorem quiet2 (w : World) (a b : Nat) : Quiet w ((w.drewN a).drewN b) := ⟨a + b, by rw [World.drewN_drewN]⟩

set_option maxHeartbeats 1000000 in
theorem refIsSorted_any (A : Option Addr) (n c : Nat) (l : List Int) (w : World) (B : Nat) (hv : RdI w B A n c l) :
    Calls Try.prog 82 #[.slice A n c] w fun e w' => e = .returned (.bool (Ls.srt l)) ∧ Quiet w w' := by
  have hlc := hv.1
  have hcm := hv.2.1
  have hn := hide hv.len
  have Hv := hide hv
  unfold maxLen at hcm
  clear hv
  go_enter Try.func82, Try.ntmps82
  go_wp2
  go_loopw [3] (fun i wr => ∃ k : Nat, 1 ≤ k ∧ (k ≤ n ∨ k = 1) ∧ i = .int .i64 k ∧ Kept (∀ j (h : j + 1 < l.length), j + 1 < k → l[j] < l[j + 1]) ∧ Quiet w wr) (fun i _ => n - (intOf i).toNat)
  case atStart => exact ⟨1, by omega, .inr rfl, rfl, ⟨fun j h hj => by omega⟩, ⟨0, rfl⟩⟩
  case round =>
    obtain ⟨k, hk1, hkn, rfl, hs, nq1, rfl⟩ := hrel
    by_cases hlt : k < n
    · have hkl : k < l.length := by rw [← hn.out]; exact hlt
      have hkl1 : k - 1 < l.length := by omega
      obtain ⟨b, off, rfl, hb, hc1⟩ := Hv.out.at_ hkl
      obtain ⟨b', off', e', _, hc0⟩ := Hv.out.at_ hkl1
      simp only [Option.some.injEq, Addr.mk.injEq, and_true] at e'
      obtain ⟨rfl, rfl⟩ := e'
      obtain ⟨x, hx⟩ : ∃ x, x = l[k - 1] := ⟨_, rfl⟩
      obtain ⟨y, hy⟩ : ∃ y, y = l[k] := ⟨_, rfl⟩
      rw [← hx] at hc0
      rw [← hy] at hc1
      have Hx := Kept.mk hx
      have Hy := Kept.mk hy
      clear hx hy
      have ek : (k : Int) - 1 = ((k - 1 : Nat) : Int) := by omega
      have ek2 : ((k - 1 : Nat) : Int) < (n : Int) := by omega
      by_cases hxy : x < y
      · have ht : decide (y ≤ x) = false := by simp; omega
        have hs2 : Kept (∀ j (h : j + 1 < l.length), j + 1 < k + 1 → l[j] < l[j + 1]) := ⟨fun j h hj => by
          by_cases hj2 : j + 1 < k
          · exact hs.out j h hj2
          · obtain rfl : j = k - 1 := by omega
            have e1 := Hx.out
            have e2 := Hy.out
            simp only [show k - 1 + 1 = k by omega]
            rw [← e1, ← e2]; exact hxy⟩
        go_wp2
        go_quiet (fail)
        go_wp2
        go_roundw
        case rel => exact ⟨k + 1, by omega, by omega, by go_num, hs2, ⟨_, rfl⟩⟩
        case measure => simp [intOf]; omega
      · have ht : decide (y ≤ x) = true := by simp; omega
        have hf : Kept (Ls.srt l = false) := ⟨by
          rw [Ls.srt, decide_eq_false_iff_not, Ls.S_iff]
          intro hall
          have h1 := hall (k - 1) (by omega)
          simp only [show k - 1 + 1 = k by omega] at h1
          rw [← Hx.out, ← Hy.out] at h1
          exact hxy h1⟩
        go_wp2
        go_quiet (fail)
        go_wp2
        go_ret
        exact ⟨ret_bool hf.out.symm, quiet2 _ _ _⟩
    · have ht : Kept (Ls.srt l = true) := ⟨by
        rw [Ls.srt, decide_eq_true_iff, Ls.S_iff]
        intro j hj
        exact hs.out j hj (by have := hn.out; omega)⟩
      go_wp2
      go_ret
      exact ⟨ret_bool ht.out.symm, ⟨_, rfl⟩⟩

set_option maxHeartbeats 1000000 in
theorem has_any (A : Option Addr) (n c : Nat) (l : List Int) (x : Int) (w : World) (B : Nat) (hv : RdI w B A n c l) :
    Calls Try.prog 119 #[.slice A n c, .int .i64 x] w fun e w' => e = .returned (.bool (Ls.has l x)) ∧ w = w' := by
  have hlc := hv.1
  have hcm := hv.2.1
  have hn := hide hv.len
  have Hv := hide hv
  unfold maxLen at hcm
  clear hv
  go_enter Try.func119, Try.ntmps119
  go_wp2
  go_loop [5] (fun i => ∃ k : Nat, k ≤ n ∧ i = .int .i64 k ∧ Kept (¬ x ∈ l.take k)) (fun i => n - (intOf i).toNat)
  case atStart => exact ⟨0, by omega, rfl, ⟨by simp⟩⟩
  case round =>
    obtain ⟨k, hk, rfl, hs⟩ := hrel
    by_cases hlt : k < n
    · have hkl : k < l.length := by rw [← hn.out]; exact hlt
      obtain ⟨b, off, rfl, hb, hc1⟩ := Hv.out.at_ hkl
      obtain ⟨y, hy⟩ : ∃ y, y = l[k] := ⟨_, rfl⟩
      rw [← hy] at hc1
      have Hy := Kept.mk hy
      clear hy
      by_cases hxy : y = x
      · have ht : (y == x) = true := by simp [hxy]
        have hf : Kept (Ls.has l x = true) := ⟨by rw [Ls.has_iff, ← hxy, Hy.out]; exact List.getElem_mem _⟩
        clear hxy
        go_wp2
        go_ret
        exact ⟨ret_bool hf.out.symm, rfl⟩
      · have ht : (y == x) = false := by simp [hxy]
        have hs2 : Kept (¬ x ∈ l.take (k + 1)) := ⟨by
          rw [List.take_succ_eq_append_getElem hkl, List.mem_append]
          rintro (h | h)
          · exact hs.out h
          · simp only [List.mem_singleton] at h; exact hxy (by rw [Hy.out, h])⟩
        clear hxy
        go_wp2
        go_round
        case rel => exact ⟨k + 1, by omega, by go_num, hs2⟩
        case measure => simp [intOf]; omega
    · obtain rfl : k = n := by omega
      have hf : Kept (Ls.has l x = false) := ⟨by
        rw [Ls.has_false]
        have := hs.out
        rwa [List.take_of_length_le (by rw [← hn.out]; omega)] at this⟩
      go_wp2
      go_ret
      exact ⟨ret_bool hf.out.symm, rfl⟩

set_option maxHeartbeats 1000000 in
theorem equalI_any (A1 A2 : Option Addr) (n1 n2 c1 c2 : Nat) (l1 l2 : List Int) (w : World) (B1 B2 : Nat) (h1 : RdI w B1 A1 n1 c1 l1) (h2 : RdI w B2 A2 n2 c2 l2) :
    Calls Try.prog 45 #[.slice A1 n1 c1, .slice A2 n2 c2] w fun e w' => e = .returned (.bool (decide (l1 = l2))) ∧ Quiet w w' := by
  have hlc1 := h1.1
  have hlc2 := h2.1
  have hcm1 := h1.2.1
  have hcm2 := h2.2.1
  have hn1 := Kept.mk h1.len
  have hn2 := Kept.mk h2.len
  have H1 := hide h1
  have H2 := hide h2
  unfold maxLen at hcm1 hcm2
  clear h1 h2
  by_cases hnn : n1 = n2
  · subst hnn
    have ht : ((n1 : Int) != (n1 : Int)) = false := by simp
    go_enter Try.func45, Try.ntmps45
    go_wp2
    go_loopw [13] (fun i wr => ∃ k : Nat, k ≤ n1 ∧ i = .int .i64 k ∧ Kept (l1.take k = l2.take k) ∧ Quiet w wr) (fun i _ => n1 - (intOf i).toNat)
    case atStart => exact ⟨0, by omega, rfl, ⟨rfl⟩, ⟨0, rfl⟩⟩
    case round =>
      obtain ⟨k, hk, rfl, hs, nq1, rfl⟩ := hrel
      by_cases hlt : k < n1
      · have hkl1 : k < l1.length := by rw [← hn1.out]; exact hlt
        have hkl2 : k < l2.length := by rw [← hn2.out]; exact hlt
        obtain ⟨b1, off1, rfl, hb1, hc1⟩ := H1.out.at_ hkl1
        obtain ⟨b2, off2, rfl, hb2, hc2⟩ := H2.out.at_ hkl2
        obtain ⟨x, hx⟩ : ∃ x, x = l1[k] := ⟨_, rfl⟩
        obtain ⟨y, hy⟩ : ∃ y, y = l2[k] := ⟨_, rfl⟩
        rw [← hx] at hc1
        rw [← hy] at hc2
        have Hx := Kept.mk hx
        have Hy := Kept.mk hy
        clear hx hy
        by_cases hxy : x = y
        · have ht2 : (x != y) = false := by simp [hxy]
          have hs2 : Kept (l1.take (k + 1) = l2.take (k + 1)) := ⟨by
            rw [List.take_succ_eq_append_getElem hkl1, List.take_succ_eq_append_getElem hkl2, hs.out, ← Hx.out, ← Hy.out, hxy]⟩
          clear hxy
          go_wp2
          go_quiet (fail)
          go_wp2
          go_roundw
          case rel => exact ⟨k + 1, by omega, by go_num, hs2, ⟨_, rfl⟩⟩
          case measure => simp [intOf]; omega
        · have ht2 : (x != y) = true := by simp [hxy]
          have hf : Kept (decide (l1 = l2) = false) := ⟨by
            rw [decide_eq_false_iff_not]
            intro e
            subst e
            exact hxy (Hx.out.trans Hy.out.symm)⟩
          clear hxy
          go_wp2
          go_quiet (fail)
          go_wp2
          go_ret
          exact ⟨ret_bool hf.out.symm, quiet2 _ _ _⟩
      · obtain rfl : k = n1 := by omega
        have hf : Kept (decide (l1 = l2) = true) := ⟨by
          rw [decide_eq_true_iff]
          have := hs.out
          rwa [List.take_of_length_le (by rw [← hn1.out]; omega), List.take_of_length_le (by rw [← hn2.out]; omega)] at this⟩
        go_wp2
        go_ret
        exact ⟨ret_bool hf.out.symm, ⟨_, rfl⟩⟩
  · have ht : ((n1 : Int) != (n2 : Int)) = true := by rw [bne_iff_ne]; omega
    have hf : Kept (decide (l1 = l2) = false) := ⟨by
      rw [decide_eq_false_iff_not]
      intro e
      subst e
      exact hnn (hn1.out.trans hn2.out.symm)⟩
    clear hnn
    go_enter Try.func45, Try.ntmps45
    go_wp2
    go_ret
    exact ⟨ret_bool hf.out.symm, ⟨0, rfl⟩⟩

theorem OwnI.nil (w : World) (base : Nat) : OwnI w base none 0 0 [] := World.ownsRow_nil _ _ _ _
theorem RdI.zero (w : World) (B : Nat) (A : Option Addr) {m c : Nat} (hm : m = 0) (hc : c ≤ maxLen) : RdI w B A m c [] := by subst hm; exact Rd.nil w B 1 c A hc
theorem own_cap {w : World} {base n c sz : Nat} {A : Option Addr} {xs : List Value} {e : TypeId} (h : w.ownsRow base e sz (.slice A n c) n xs) (hc : 0 < c) : ∃ g, A = some ⟨g, 0, none⟩ := by
  rcases h.2 with ⟨hv, _⟩ | ⟨g, cap, cur, hv, _⟩
  · injection hv with h1 h2 h3; omega
  · injection hv with h1 h2 h3; exact ⟨g, h1⟩
theorem own_base {w : World} {base base' n c sz : Nat} {A : Option Addr} {xs : List Value} {e : TypeId} (h : w.ownsRow base e sz (.slice A n c) n xs) (hb : base' ≤ base) : w.ownsRow base' e sz (.slice A n c) n xs := by
  refine ⟨h.1, ?_⟩
  rcases h.2 with hn | ⟨g, cap, cur, hv, h1, rest⟩
  · exact .inl hn
  · exact .inr ⟨g, cap, cur, hv, by omega, rest⟩
theorem Ls.dif_take {a b : List Int} {k : Nat} (h : k < a.length) : Ls.dif (a.take (k + 1)) b = if Ls.has b a[k] then Ls.dif (a.take k) b else Ls.dif (a.take k) b ++ [a[k]] := by
  rw [List.take_succ_eq_append_getElem h]
  unfold Ls.dif
  rw [List.filter_append]
  cases hh : Ls.has b a[k] <;> simp [hh]
theorem Ls.dif_len (a b : List Int) : (Ls.dif a b).length ≤ a.length := List.length_filter_le _ _
theorem Ls.com_succ (l : List Int) (k : Nat) : Ls.com l (k + 1) = if Ls.has l (k : Int) then Ls.com l k else Ls.com l k ++ [(k : Int)] := by
  unfold Ls.com Ls.upto
  rw [List.range_succ, List.map_append, List.filter_append]
  cases hh : Ls.has l (k : Int) <;> simp [hh]
theorem Ls.com_len (l : List Int) (k : Nat) : (Ls.com l k).length ≤ k := by
  have := List.length_filter_le (fun x => !Ls.has l x) (Ls.upto k)
  simpa [Ls.com, Ls.upto] using this

theorem Ls.low_len (l : List Int) (x : Int) : (Ls.low l x).length ≤ l.length := (List.takeWhile_sublist _).length_le
theorem Ls.low_take (l : List Int) (x : Int) (k : Nat) (hk : k ≤ (Ls.low l x).length) : l.take k = (Ls.low l x).take k := by
  conv => lhs; rw [← Ls.low_split l x]
  rw [List.take_append_of_le_length hk]
theorem Ls.low_lt (l : List Int) (x : Int) : ∀ (k : Nat) (hk : k < l.length), k ≤ (Ls.low l x).length → (l[k] < x ↔ k < (Ls.low l x).length) := by
  unfold Ls.low
  induction l with
  | nil => intro k hk; simp at hk
  | cons y l ih =>
    intro k hk hkl
    rw [List.takeWhile_cons] at hkl ⊢
    by_cases hy : y < x
    · simp only [hy, decide_true, if_true, List.length_cons] at hkl ⊢
      match k, hk with
      | 0, _ => simp [hy]
      | k + 1, hk =>
        have := ih k (by simpa using hk) (by omega)
        simp only [List.getElem_cons_succ]
        omega
    · simp only [hy, decide_false] at hkl ⊢
      simp at hkl
      subst hkl
      simp [hy]
set_option maxHeartbeats 1000000 in
theorem refInsert_any (A : Option Addr) (n c base : Nat) (l : List Int) (x : Int) (w : World) (hv : OwnI w base A n c l) (hB : base ≤ w.heap.size) (hl : n ≤ 1000000) :
    Calls Try.prog 107 #[.slice A n c, .int .i64 x] w fun e w' => ∃ A3 n3 c3, e = .returned (.slice A3 n3 c3) ∧ n3 ≤ n + 1 ∧ OwnI w' base A3 n3 c3 (Ls.ins l x) ∧ Below w.heap.size w w' := by
  have hv2 := hv.rd
  have hlc := hv2.1
  have hcm := hv2.2.1
  unfold maxLen at hcm
  have hn := Kept.mk hv.len
  have Hv := hide hv2
  have Ho := hide hv
  clear hv hv2
  cases hh : Ls.has l x with
  | true =>
    go_enter Try.func107, Try.ntmps107
    go_wp2_with (go_at_call 119; refine (has_any _ _ _ l x _ _ Hv.out).mono ?_; rintro e w2 ⟨rfl, rfl⟩; rw [hh])
    go_ret
    exact ⟨A, n, c, rfl, by omega, by unfold Ls.ins; rw [hh]; exact Ho.out, Below.refl _ _⟩
  | false =>
    have hlow := Ls.low_len l x
    rw [← hn.out] at hlow
    obtain ⟨m, hm⟩ : ∃ m, m = (Ls.low l x).length := ⟨_, rfl⟩
    rw [← hm] at hlow
    have Hm := Kept.mk hm
    clear hm
    go_enter Try.func107, Try.ntmps107
    go_wp2_with (go_at_call 119; refine (has_any _ _ _ l x _ _ Hv.out).mono ?_; rintro e w2 ⟨rfl, rfl⟩; rw [hh])
    go_loopw [5, 6] (fun o i wr => ∃ k : Nat, k ≤ m ∧ i = .int .i64 k ∧ ∃ A3 c3, o = .slice A3 k c3 ∧ OwnI wr w.heap.size A3 k c3 (l.take k) ∧ Below w.heap.size w wr) (fun _ i _ => m - (intOf i).toNat)
    case atStart => exact ⟨0, by omega, rfl, none, 0, rfl, OwnI.nil _ _, Below.refl _ _⟩
    case round =>
      obtain ⟨k, hk, rfl, A3, c3, rfl, ho, hb⟩ := hrel
      have hz := hb.size
      have r1 := Kept.mk (Hv.out.below hb)
      by_cases hlt : k < m
      · have hkn : k < n := by omega
        have hkl : k < l.length := by rw [← hn.out]; exact hkn
        obtain ⟨b, off, rfl, hbb, hc1⟩ := r1.out.at_ hkl
        have hlt2 : l[k] < x := (Ls.low_lt l x k hkl (by rw [← Hm.out]; omega)).2 (by rw [← Hm.out]; exact hlt)
        have hst := Kept.mk (List.take_succ_eq_append_getElem hkl)
        obtain ⟨y, hy⟩ : ∃ y, y = l[k] := ⟨_, rfl⟩
        rw [← hy] at hst hc1 hlt2
        clear hy
        go_wp2_with (at_builtin; refine wpList_appI rfl (.tmp 26) (.tmp 31) rfl w.heap.size A3 k c3 _ rfl (World.ownsRow.alloc ho _) (wr.heap.size + 1) _ _ _ [y] rfl (RdI.one wr y) (by omega) (by simp; omega) ?_; intro A4 c4 w4 hown4 hgrow4 hat4)
        have hb4 : Below w.heap.size w w4 := (hb.alloc hz _).grown hgrow4 (by simp; omega) (fun g hg => (own_lt ho g hg).1)
        go_roundw
        case rel => exact ⟨k + 1, by omega, by go_num, A4, c4, rfl, by rw [hst.out]; exact hown4, hb4⟩
        case measure => simp [intOf]; omega
      · obtain rfl : k = m := by omega
        have hfin : Kept (l.take k ++ [x] ++ l.drop k = Ls.ins l x) := ⟨by
          unfold Ls.ins
          rw [hh, Ls.low_take l x k (by rw [← Hm.out]; omega), ← Hm.out, List.take_of_length_le (by rw [← Hm.out]; omega)]
          simp⟩
        have hzw := hb.size
        by_cases hkn : k < n
        · have hkl : k < l.length := by rw [← hn.out]; exact hkn
          obtain ⟨b, off, rfl, hbb, hc1⟩ := r1.out.at_ hkl
          have hge : ¬ l[k] < x := fun h => by have := (Ls.low_lt l x k hkl (by rw [← Hm.out]; omega)).1 h; rw [← Hm.out] at this; omega
          obtain ⟨y, hy⟩ : ∃ y, y = l[k] := ⟨_, rfl⟩
          rw [← hy] at hc1 hge
          clear hy
          have r3 : ∀ w5, Below w.heap.size w w5 → RdI w5 w.heap.size _ (n - k) (c - k) (l.drop k) := fun w5 h5 => RdI.drop (k := k) (Hv.out.below h5) (by omega)
          rw [if_neg (by omega)] at r3
          simp only [Option.map_some, add_plain] at r3
          go_wp2_with (first
            | (at_builtin; refine wpList_appI rfl (.tmp 35) (.tmp 37) rfl w.heap.size A3 k c3 _ rfl (World.ownsRow.alloc ho _) (wr.heap.size + 1) _ _ _ [x] rfl (RdI.one wr x) (by omega) (by simp; omega) ?_; intro A4 c4 w4 hown4 hgrow4 hat4; have hb4 : Below w.heap.size w w4 := (hb.alloc hz _).grown hgrow4 (by simp; omega) (fun g hg => (own_lt ho g hg).1))
            | (at_builtin; refine wpList_appI rfl (.tmp 39) (.tmp 42) rfl w.heap.size A4 _ c4 _ rfl hown4 w.heap.size _ _ _ (l.drop k) rfl (r3 _ hb4) (by omega) hb4.size ?_; intro A5 c5 w5 hown5 hgrow5 hat5; have hb5 : Below w.heap.size w w5 := hb4.grown hgrow5 hb4.size (fun g hg => (own_lt hown4 g hg).1)))
          go_ret
          exact ⟨A5, _, c5, rfl, by omega, by rw [← hfin.out]; exact own_base hown5 hB, hb5⟩
        · obtain rfl : k = n := by omega
          have hdr : Kept (l.drop k = []) := ⟨List.drop_eq_nil_of_le (by rw [← hn.out]; omega)⟩
          rw [hdr.out] at hfin
          by_cases hck : c = k
          · obtain rfl : k = c := hck.symm
            go_wp2_with (first
              | (at_builtin; refine wpList_appI rfl (.tmp 35) (.tmp 37) rfl w.heap.size A3 k c3 _ rfl (World.ownsRow.alloc ho _) (wr.heap.size + 1) _ _ _ [x] rfl (RdI.one wr x) (by omega) (by simp; omega) ?_; intro A4 c4 w4 hown4 hgrow4 hat4; have hb4 : Below w.heap.size w w4 := (hb.alloc hz _).grown hgrow4 (by simp; omega) (fun g hg => (own_lt ho g hg).1))
              | (at_builtin; refine wpList_appI rfl (.tmp 39) (.tmp 42) rfl w.heap.size A4 _ c4 _ rfl hown4 w.heap.size _ _ _ [] rfl (RdI.zero _ _ _ (by omega) (by unfold maxLen; omega)) (by omega) hb4.size ?_; intro A5 c5 w5 hown5 hgrow5 hat5; have hb5 : Below w.heap.size w w5 := hb4.grown hgrow5 hb4.size (fun g hg => (own_lt hown4 g hg).1)))
            go_ret
            exact ⟨A5, _, c5, rfl, by omega, by rw [← hfin.out]; exact own_base hown5 hB, hb5⟩
          · obtain ⟨g, rfl⟩ : ∃ g, A = some ⟨g, 0, none⟩ := own_cap Ho.out (by omega)
            go_wp2_with (first
              | (at_builtin; refine wpList_appI rfl (.tmp 35) (.tmp 37) rfl w.heap.size A3 k c3 _ rfl (World.ownsRow.alloc ho _) (wr.heap.size + 1) _ _ _ [x] rfl (RdI.one wr x) (by omega) (by simp; omega) ?_; intro A4 c4 w4 hown4 hgrow4 hat4; have hb4 : Below w.heap.size w w4 := (hb.alloc hz _).grown hgrow4 (by simp; omega) (fun g hg => (own_lt ho g hg).1))
              | (at_builtin; refine wpList_appI rfl (.tmp 39) (.tmp 42) rfl w.heap.size A4 _ c4 _ rfl hown4 w.heap.size _ _ _ [] rfl (RdI.zero _ _ _ (by omega) (by unfold maxLen; omega)) (by omega) hb4.size ?_; intro A5 c5 w5 hown5 hgrow5 hat5; have hb5 : Below w.heap.size w w5 := hb4.grown hgrow5 hb4.size (fun g hg => (own_lt hown4 g hg).1)))
            go_ret
            exact ⟨A5, _, c5, rfl, by omega, by rw [← hfin.out]; exact own_base hown5 hB, hb5⟩
end Go.Proofs.Ythhcfocmaiacoaa
