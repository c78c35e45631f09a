/- Lists of ints: the plain mathematics of chapter 14. -/
namespace Go.Proofs.Ytoomdjjjkolloab.Ls
/-- strictly ascending -/
abbrev S (l : List Int) : Prop := l.Pairwise (· < ·)
def has (l : List Int) (x : Int) : Bool := l.any fun y => y == x
theorem has_iff (l : List Int) (x : Int) : has l x = true ↔ x ∈ l := by simp [has]
theorem has_false (l : List Int) (x : Int) : has l x = false ↔ ¬ x ∈ l := by rw [← has_iff]; simp
/-- insertion as the reference does it -/
def low (l : List Int) (x : Int) : List Int := l.takeWhile (fun y => decide (y < x))
def ins (l : List Int) (x : Int) : List Int := if has l x then l else low l x ++ x :: l.drop (low l x).length
def insAll (acc l : List Int) : List Int := l.foldl ins acc
def uni (ls : List (List Int)) : List Int := ls.foldl insAll []
def dif (a b : List Int) : List Int := a.filter fun x => !has b x
def upto (n : Nat) : List Int := (List.range n).map fun i : Nat => (i : Int)
def com (l : List Int) (n : Nat) : List Int := (upto n).filter fun x => !has l x
def isc (ls : List (List Int)) : List Int :=
  match ls with
  | [] => []
  | l :: r => l.filter fun x => r.all fun m => has m x
/-- the numbers of two lists in order, with their origins -/
def mrg (a b : List Int) : List (Int × Bool × Bool) :=
  match a, b with
  | [], [] => []
  | x :: a, [] => (x, true, false) :: mrg a []
  | [], y :: b => (y, false, true) :: mrg [] b
  | x :: a, y :: b => if x < y then (x, true, false) :: mrg a (y :: b) else if y < x then (y, false, true) :: mrg (x :: a) b else (x, true, true) :: mrg a b
termination_by a.length + b.length
def pick (ok : Bool → Bool → Bool) (a b : List Int) : List Int := ((mrg a b).filter fun p => ok p.2.1 p.2.2).map (·.1)

theorem ext : ∀ {a b : List Int}, S a → S b → (∀ x, x ∈ a ↔ x ∈ b) → a = b
  | [], [], _, _, _ => rfl
  | [], y :: b, _, _, h => by have := (h y).2 (by simp); simp at this
  | x :: a, [], _, _, h => by have := (h x).1 (by simp); simp at this
  | x :: a, y :: b, ha, hb, h => by
    rw [S, List.pairwise_cons] at ha hb
    have hxy : x = y := by
      have h1 := (h x).1 (by simp)
      have h2 := (h y).2 (by simp)
      simp only [List.mem_cons] at h1 h2
      rcases h1 with h1 | h1
      · exact h1
      · rcases h2 with h2 | h2
        · exact h2.symm
        · have := ha.1 y h2; have := hb.1 x h1; omega
    subst hxy
    congr 1
    refine ext ha.2 hb.2 fun z => ?_
    have hz := h z
    simp only [List.mem_cons] at hz
    constructor
    · intro hza
      have h1 := ha.1 z hza
      rcases hz.1 (.inr hza) with h2 | h2
      · omega
      · exact h2
    · intro hzb
      have h1 := hb.1 z hzb
      rcases hz.2 (.inr hzb) with h2 | h2
      · omega
      · exact h2

theorem mrg_mem : ∀ (n : Nat) (a b : List Int), a.length + b.length ≤ n → S a → S b → ∀ x f s, (x, f, s) ∈ mrg a b ↔ (f = decide (x ∈ a) ∧ s = decide (x ∈ b) ∧ (x ∈ a ∨ x ∈ b))
  | n, [], [], _, _, _, x, f, s => by simp [mrg]
  | 0, x :: a, _, h, _, _, _, _, _ => by simp at h
  | 0, [], y :: b, h, _, _, _, _, _ => by simp at h
  | n + 1, x :: a, [], h, ha, hb, z, f, s => by
    rw [S, List.pairwise_cons] at ha
    have ih := mrg_mem n a [] (by simp at h ⊢; omega) ha.2 hb z f s
    simp only [mrg, List.mem_cons, ih, Prod.mk.injEq, List.not_mem_nil, decide_false, or_false]
    constructor
    · rintro (⟨rfl, rfl, rfl⟩ | ⟨h1, h2, h3⟩)
      · simp
      · have hne : z ≠ x := by have := ha.1 z h3; omega
        simp [h1, h2, h3]
    · rintro ⟨h1, h2, h3⟩
      rcases h3 with h3 | h3
      · left; subst h3; simp [h1, h2]
      · right; have hne : z ≠ x := by have := ha.1 z h3; omega
        simp [h1, h2, h3]
  | n + 1, [], y :: b, h, ha, hb, z, f, s => by
    rw [S, List.pairwise_cons] at hb
    have ih := mrg_mem n [] b (by simp at h ⊢; omega) ha hb.2 z f s
    simp only [mrg, List.mem_cons, ih, Prod.mk.injEq, List.not_mem_nil, decide_false, false_or]
    constructor
    · rintro (⟨rfl, rfl, rfl⟩ | ⟨h1, h2, h3⟩)
      · simp
      · simp [h1, h2, h3]
    · rintro ⟨h1, h2, h3⟩
      rcases h3 with h3 | h3
      · left; subst h3; simp [h1, h2]
      · right
        simp [h1, h2, h3]
  | n + 1, x :: a, y :: b, h, ha, hb, z, f, s => by
    have ha' := ha
    have hb' := hb
    rw [S, List.pairwise_cons] at ha hb
    rw [mrg]
    by_cases hxy : x < y
    · have ih := mrg_mem n a (y :: b) (by simp at h ⊢; omega) ha.2 hb' z f s
      rw [if_pos hxy, List.mem_cons, ih]
      have hny : ∀ w, w ∈ y :: b → x < w := by
        intro w hw; rcases List.mem_cons.1 hw with rfl | hw
        · exact hxy
        · have := hb.1 w hw; omega
      simp only [Prod.mk.injEq]
      constructor
      · rintro (⟨rfl, rfl, rfl⟩ | ⟨h1, h2, h3⟩)
        · have : ¬ z ∈ y :: b := fun hc => by have := hny z hc; omega
          simp [this]
        · have hne : z ≠ x := by
            rcases h3 with h3 | h3
            · have := ha.1 z h3; omega
            · have := hny z h3; omega
          refine ⟨by simp [h1, hne], h2, ?_⟩
          rcases h3 with h3 | h3
          · exact .inl (List.mem_cons_of_mem _ h3)
          · exact .inr h3
      · rintro ⟨h1, h2, h3⟩
        by_cases hz : z = x
        · left
          subst hz
          have : ¬ z ∈ y :: b := fun hc => by have := hny z hc; omega
          simp [h1, h2, this]
        · right
          refine ⟨by simp [h1, hz], h2, ?_⟩
          rcases h3 with h3 | h3
          · rcases List.mem_cons.1 h3 with h4 | h4
            · exact absurd h4 hz
            · exact .inl h4
          · exact .inr h3
    · rw [if_neg hxy]
      by_cases hyx : y < x
      · have ih := mrg_mem n (x :: a) b (by simp at h ⊢; omega) ha' hb.2 z f s
        rw [if_pos hyx, List.mem_cons, ih]
        have hnx : ∀ w, w ∈ x :: a → y < w := by
          intro w hw; rcases List.mem_cons.1 hw with rfl | hw
          · exact hyx
          · have := ha.1 w hw; omega
        simp only [Prod.mk.injEq]
        constructor
        · rintro (⟨rfl, rfl, rfl⟩ | ⟨h1, h2, h3⟩)
          · have : ¬ z ∈ x :: a := fun hc => by have := hnx z hc; omega
            simp [this]
          · have hne : z ≠ y := by
              rcases h3 with h3 | h3
              · have := hnx z h3; omega
              · have := hb.1 z h3; omega
            refine ⟨h1, by simp [h2, hne], ?_⟩
            rcases h3 with h3 | h3
            · exact .inl h3
            · exact .inr (List.mem_cons_of_mem _ h3)
        · rintro ⟨h1, h2, h3⟩
          by_cases hz : z = y
          · left
            subst hz
            have : ¬ z ∈ x :: a := fun hc => by have := hnx z hc; omega
            simp [h1, h2, this]
          · right
            refine ⟨h1, by simp [h2, hz], ?_⟩
            rcases h3 with h3 | h3
            · exact .inl h3
            · rcases List.mem_cons.1 h3 with h4 | h4
              · exact absurd h4 hz
              · exact .inr h4
      · rw [if_neg hyx]
        obtain rfl : x = y := by omega
        have ih := mrg_mem n a b (by simp at h ⊢; omega) ha.2 hb.2 z f s
        rw [List.mem_cons, ih]
        simp only [Prod.mk.injEq]
        constructor
        · rintro (⟨rfl, rfl, rfl⟩ | ⟨h1, h2, h3⟩)
          · simp
          · have hne : z ≠ x := by
              rcases h3 with h3 | h3
              · have := ha.1 z h3; omega
              · have := hb.1 z h3; omega
            refine ⟨by simp [h1, hne], by simp [h2, hne], ?_⟩
            rcases h3 with h3 | h3
            · exact .inl (List.mem_cons_of_mem _ h3)
            · exact .inr (List.mem_cons_of_mem _ h3)
        · rintro ⟨h1, h2, h3⟩
          by_cases hz : z = x
          · left; subst hz; simp [h1, h2]
          · right
            refine ⟨by simp [h1, hz], by simp [h2, hz], ?_⟩
            rcases h3 with h3 | h3
            · rcases List.mem_cons.1 h3 with h4 | h4
              · exact absurd h4 hz
              · exact .inl h4
            · rcases List.mem_cons.1 h3 with h4 | h4
              · exact absurd h4 hz
              · exact .inr h4
theorem mrg_fst_mem (a b : List Int) (ha : S a) (hb : S b) (p : Int × Bool × Bool) (h : p ∈ mrg a b) : p.1 ∈ a ∨ p.1 ∈ b := by
  obtain ⟨x, f, s⟩ := p
  exact ((mrg_mem _ a b (Nat.le_refl _) ha hb x f s).1 h).2.2
theorem mrg_sorted : ∀ (n : Nat) (a b : List Int), a.length + b.length ≤ n → S a → S b → (mrg a b).Pairwise (fun p q => p.1 < q.1)
  | n, [], [], _, _, _ => by simp [mrg]
  | 0, x :: a, _, h, _, _ => by simp at h
  | 0, [], y :: b, h, _, _ => by simp at h
  | n + 1, x :: a, [], h, ha, hb => by
    rw [S, List.pairwise_cons] at ha
    rw [mrg, List.pairwise_cons]
    refine ⟨fun p hp => ?_, mrg_sorted n a [] (by simp at h ⊢; omega) ha.2 hb⟩
    rcases mrg_fst_mem a [] ha.2 hb p hp with h1 | h1
    · exact ha.1 _ h1
    · simp at h1
  | n + 1, [], y :: b, h, ha, hb => by
    rw [S, List.pairwise_cons] at hb
    rw [mrg, List.pairwise_cons]
    refine ⟨fun p hp => ?_, mrg_sorted n [] b (by simp at h ⊢; omega) ha hb.2⟩
    rcases mrg_fst_mem [] b ha hb.2 p hp with h1 | h1
    · simp at h1
    · exact hb.1 _ h1
  | n + 1, x :: a, y :: b, h, ha, hb => by
    have ha' := ha
    have hb' := hb
    rw [S, List.pairwise_cons] at ha hb
    rw [mrg]
    by_cases hxy : x < y
    · rw [if_pos hxy, List.pairwise_cons]
      refine ⟨fun p hp => ?_, mrg_sorted n a (y :: b) (by simp at h ⊢; omega) ha.2 hb'⟩
      rcases mrg_fst_mem a (y :: b) ha.2 hb' p hp with h1 | h1
      · exact ha.1 _ h1
      · rcases List.mem_cons.1 h1 with h2 | h2
        · rw [h2]; exact hxy
        · have := hb.1 _ h2; omega
    · rw [if_neg hxy]
      by_cases hyx : y < x
      · rw [if_pos hyx, List.pairwise_cons]
        refine ⟨fun p hp => ?_, mrg_sorted n (x :: a) b (by simp at h ⊢; omega) ha' hb.2⟩
        rcases mrg_fst_mem (x :: a) b ha' hb.2 p hp with h1 | h1
        · rcases List.mem_cons.1 h1 with h2 | h2
          · rw [h2]; exact hyx
          · have := ha.1 _ h2; omega
        · exact hb.1 _ h1
      · rw [if_neg hyx, List.pairwise_cons]
        obtain rfl : x = y := by omega
        refine ⟨fun p hp => ?_, mrg_sorted n a b (by simp at h ⊢; omega) ha.2 hb.2⟩
        rcases mrg_fst_mem a b ha.2 hb.2 p hp with h1 | h1
        · exact ha.1 _ h1
        · exact hb.1 _ h1
theorem pick_S (ok : Bool → Bool → Bool) {a b : List Int} (ha : S a) (hb : S b) : S (pick ok a b) := by
  unfold pick S
  rw [List.pairwise_map]
  exact (mrg_sorted _ a b (Nat.le_refl _) ha hb).filter _
theorem pick_mem (ok : Bool → Bool → Bool) {a b : List Int} (ha : S a) (hb : S b) (x : Int) : x ∈ pick ok a b ↔ ((x ∈ a ∨ x ∈ b) ∧ ok (decide (x ∈ a)) (decide (x ∈ b)) = true) := by
  unfold pick
  simp only [List.mem_map, List.mem_filter, Prod.exists]
  constructor
  · rintro ⟨y, f, s, ⟨hm, hok⟩, rfl⟩
    obtain ⟨h1, h2, h3⟩ := (mrg_mem _ a b (Nat.le_refl _) ha hb y f s).1 hm
    subst h1; subst h2
    exact ⟨h3, hok⟩
  · rintro ⟨h3, hok⟩
    exact ⟨x, _, _, ⟨(mrg_mem _ a b (Nat.le_refl _) ha hb x _ _).2 ⟨rfl, rfl, h3⟩, hok⟩, rfl⟩

theorem low_sub (l : List Int) (x : Int) : ∀ y ∈ low l x, y < x ∧ y ∈ l := by
  induction l with
  | nil => intro y hy; simp [low] at hy
  | cons z l ih =>
    intro y hy
    unfold low at ih hy
    rw [List.takeWhile_cons] at hy
    split at hy
    · next hz =>
      rcases List.mem_cons.1 hy with rfl | h1
      · exact ⟨by simpa using hz, by simp⟩
      · have := ih y h1
        exact ⟨this.1, List.mem_cons_of_mem _ this.2⟩
    · simp at hy
theorem low_split (l : List Int) (x : Int) : low l x ++ l.drop (low l x).length = l := by
  induction l with
  | nil => rfl
  | cons y l ih =>
    unfold low at ih ⊢
    rw [List.takeWhile_cons]
    split
    · simpa using ih
    · rfl
theorem ins_mem (l : List Int) (x y : Int) : y ∈ ins l x ↔ y ∈ l ∨ y = x := by
  unfold ins
  by_cases h : has l x = true
  · rw [if_pos h]
    rw [has_iff] at h
    constructor
    · exact fun hh => .inl hh
    · rintro (hh | rfl)
      · exact hh
      · exact h
  · rw [if_neg h]
    conv => rhs; rw [← low_split l x]
    simp only [List.mem_append, List.mem_cons]
    constructor
    · rintro (h1 | h1 | h1)
      · exact .inl (.inl h1)
      · exact .inr h1
      · exact .inl (.inr h1)
    · rintro ((h1 | h1) | h1)
      · exact .inl h1
      · exact .inr (.inr h1)
      · exact .inr (.inl h1)
theorem low_rest (l : List Int) (x : Int) (hl : S l) : ∀ y ∈ l.drop (low l x).length, x ≤ y := by
  induction l with
  | nil => intro y hy; simp at hy
  | cons z l ih =>
    rw [S, List.pairwise_cons] at hl
    unfold low at ih ⊢
    rw [List.takeWhile_cons]
    split
    · intro y hy
      exact ih hl.2 y (by simpa using hy)
    · next hz =>
      intro y hy
      have hzx : x ≤ z := by simpa using hz
      rcases List.mem_cons.1 (by simpa using hy) with h1 | h1
      · omega
      · have := hl.1 y h1; omega
theorem ins_S {l : List Int} (x : Int) (hl : S l) : S (ins l x) := by
  unfold ins
  by_cases h : has l x = true
  · rw [if_pos h]; exact hl
  · rw [if_neg h]
    have hnx : ¬ x ∈ l := fun hc => h ((has_iff l x).2 hc)
    have hs := hl
    rw [← low_split l x] at hs
    rw [S, List.pairwise_append] at hs
    rw [S, List.pairwise_append, List.pairwise_cons]
    refine ⟨hs.1, ⟨fun y hy => ?_, hs.2.1⟩, fun y hy z hz => ?_⟩
    · have h1 := low_rest l x hl y hy
      have h2 : y ∈ l := (List.drop_sublist _ _).subset hy
      have : y ≠ x := fun e => hnx (e ▸ h2)
      omega
    · have h1 := (low_sub l x y hy).1
      rcases List.mem_cons.1 hz with rfl | hz
      · exact h1
      · have := low_rest l x hl z hz; omega
theorem insAll_mem (l acc : List Int) (y : Int) : y ∈ insAll acc l ↔ y ∈ acc ∨ y ∈ l := by
  unfold insAll
  induction l generalizing acc with
  | nil => simp
  | cons x l ih => rw [List.foldl_cons, ih, ins_mem, List.mem_cons, or_assoc]
theorem insAll_S (l : List Int) {acc : List Int} (h : S acc) : S (insAll acc l) := by
  unfold insAll
  induction l generalizing acc with
  | nil => exact h
  | cons x l ih => exact ih (ins_S x h)
def uniFrom (acc : List Int) (ls : List (List Int)) : List Int := ls.foldl insAll acc
theorem uniFrom_mem (ls : List (List Int)) (acc : List Int) (y : Int) : y ∈ uniFrom acc ls ↔ y ∈ acc ∨ ∃ l ∈ ls, y ∈ l := by
  unfold uniFrom
  induction ls generalizing acc with
  | nil => simp
  | cons l ls ih =>
    rw [List.foldl_cons, ih, insAll_mem]
    simp only [List.mem_cons, exists_eq_or_imp, or_assoc]
theorem uniFrom_S (ls : List (List Int)) {acc : List Int} (h : S acc) : S (uniFrom acc ls) := by
  unfold uniFrom
  induction ls generalizing acc with
  | nil => exact h
  | cons l ls ih => exact ih (insAll_S l h)
theorem uni_mem (ls : List (List Int)) (y : Int) : y ∈ uni ls ↔ ∃ l ∈ ls, y ∈ l := by
  have := uniFrom_mem ls [] y
  simpa [uniFrom, uni] using this
theorem uni_S (ls : List (List Int)) : S (uni ls) := uniFrom_S ls List.Pairwise.nil
theorem dif_mem (a b : List Int) (x : Int) : x ∈ dif a b ↔ x ∈ a ∧ ¬ x ∈ b := by simp [dif, has]; rintro -; constructor <;> intro h <;> (intro h2; first | exact h _ h2 rfl | (intro h3 h4; subst h4; exact h h3))
theorem dif_S {a : List Int} (b : List Int) (h : S a) : S (dif a b) := h.filter _
theorem upto_S (n : Nat) : S (upto n) := by
  unfold upto S
  rw [List.pairwise_map]
  exact List.pairwise_lt_range.imp (by intro a b h; omega)
theorem upto_mem (n : Nat) (x : Int) : x ∈ upto n ↔ 0 ≤ x ∧ x < n := by
  simp only [upto, List.mem_map, List.mem_range]
  constructor
  · rintro ⟨i, hi, rfl⟩; omega
  · rintro ⟨h1, h2⟩; exact ⟨x.toNat, by omega, by omega⟩
theorem com_eq (l : List Int) (n : Nat) : com l n = dif (upto n) l := rfl
theorem isc_S {ls : List (List Int)} (h : ∀ l ∈ ls, S l) : S (isc ls) := by
  cases ls with
  | nil => exact List.Pairwise.nil
  | cons l r => exact (h l (by simp)).filter _
theorem isc_mem (l : List Int) (r : List (List Int)) (x : Int) : x ∈ isc (l :: r) ↔ x ∈ l ∧ ∀ m ∈ r, x ∈ m := by
  simp only [isc, List.mem_filter, List.all_eq_true, has_iff]
/-- the program's Intersect -/
def pisc (out : List Int) (r : List (List Int)) : List Int := r.foldl (fun o x => pick (fun f s => f && s) o x) out
theorem pisc_mem {r : List (List Int)} {out : List Int} (ho : S out) (h : ∀ l ∈ r, S l) : S (pisc out r) ∧ ∀ x, x ∈ pisc out r ↔ x ∈ out ∧ ∀ m ∈ r, x ∈ m := by
  unfold pisc
  induction r generalizing out with
  | nil => simpa using ho
  | cons l r ih =>
    rw [List.foldl_cons]
    have hl := h l (by simp)
    have hp := pick_S (fun f s => f && s) ho hl
    obtain ⟨h1, h2⟩ := ih hp (fun m hm => h m (by simp [hm]))
    refine ⟨h1, fun x => ?_⟩
    rw [h2, pick_mem _ ho hl]
    simp only [Bool.and_eq_true, decide_eq_true_eq, List.mem_cons, forall_eq_or_imp]
    constructor
    · rintro ⟨⟨_, h3, h4⟩, h5⟩; exact ⟨h3, h4, h5⟩
    · rintro ⟨h3, h4, h5⟩; exact ⟨⟨.inl h3, h3, h4⟩, h5⟩
theorem pisc_eq (l : List Int) (r : List (List Int)) (h : ∀ m ∈ l :: r, S m) : pisc l r = isc (l :: r) := by
  obtain ⟨h1, h2⟩ := pisc_mem (r := r) (h l (by simp)) (fun m hm => h m (by simp [hm]))
  exact ext h1 (isc_S h) fun x => by rw [h2, isc_mem]
/-- the program's Union -/
def puni (out : List Int) (r : List (List Int)) : List Int := r.foldl (fun o x => pick (fun _ _ => true) o x) out
theorem puni_mem {r : List (List Int)} {out : List Int} (ho : S out) (h : ∀ l ∈ r, S l) : S (puni out r) ∧ ∀ x, x ∈ puni out r ↔ x ∈ out ∨ ∃ m ∈ r, x ∈ m := by
  unfold puni
  induction r generalizing out with
  | nil => simpa using ho
  | cons l r ih =>
    rw [List.foldl_cons]
    have hl := h l (by simp)
    have hp := pick_S (fun _ _ => true) ho hl
    obtain ⟨h1, h2⟩ := ih hp (fun m hm => h m (by simp [hm]))
    refine ⟨h1, fun x => ?_⟩
    rw [h2, pick_mem _ ho hl]
    simp only [and_true, List.mem_cons, exists_eq_or_imp, or_assoc]
theorem puni_eq (r : List (List Int)) (h : ∀ m ∈ r, S m) : puni [] r = uni r := by
  obtain ⟨h1, h2⟩ := puni_mem (r := r) (out := []) List.Pairwise.nil h
  exact ext h1 (uni_S r) fun x => by rw [h2, uni_mem]; simp
theorem pdif_eq {a b : List Int} (ha : S a) (hb : S b) : pick (fun _ s => !s) a b = dif a b := by
  refine ext (pick_S _ ha hb) (dif_S b ha) fun x => ?_
  rw [pick_mem _ ha hb, dif_mem]
  simp only [Bool.not_eq_true', decide_eq_false_iff_not]
  constructor
  · rintro ⟨h1 | h1, h2⟩
    · exact ⟨h1, h2⟩
    · exact absurd h1 h2
  · rintro ⟨h1, h2⟩; exact ⟨.inl h1, h2⟩
/-- reports whether a list is strictly ascending -/
def srt (l : List Int) : Bool := decide (S l)
theorem S_iff (l : List Int) : S l ↔ ∀ i (h : i + 1 < l.length), l[i] < l[i + 1] := by
  induction l with
  | nil => simp
  | cons x l ih =>
    rw [S, List.pairwise_cons]
    rw [show List.Pairwise (fun x1 x2 => x1 < x2) l ↔ _ from ih]
    constructor
    · rintro ⟨h1, h2⟩ i hi
      cases i with
      | zero => exact h1 _ (List.getElem_mem _)
      | succ i => exact h2 i (by simpa using hi)
    · intro h
      refine ⟨?_, fun i hi => h (i + 1) (by simpa using hi)⟩
      have h2 : ∀ i (hi : i < l.length), x < l[i] := by
        intro i
        induction i with
        | zero => intro hi; exact h 0 (by simpa using hi)
        | succ i ih2 =>
          intro hi
          have h3 := h (i + 1) (by simpa using hi)
          have h4 := ih2 (by omega)
          simp only [List.getElem_cons_succ] at h3
          omega
      intro y hy
      obtain ⟨i, hi, rfl⟩ := List.getElem_of_mem hy
      exact h2 i hi
end Go.Proofs.Ytoomdjjjkolloab.Ls
