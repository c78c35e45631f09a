/- Numbers with a variable length: the plain mathematics of chapter 2. -/
namespace Go.Proofs.Ythhcfocmaiacoaa.Vi
/-- the groups of a number -/
def grp (x : Nat) : List (Nat × Bool) := if x < 128 then [(x, true)] else (x % 128, false) :: grp (x / 128)
termination_by x
def enc1 (p : Nat × Bool) : UInt8 := UInt8.ofNat (if p.2 then p.1 else p.1 + 128)
/-- the encoding of a number -/
def enc (x : Nat) : List UInt8 := (grp x).map enc1
theorem grp_lt {x : Nat} (h : x < 128) : grp x = [(x, true)] := by rw [grp, if_pos h]
theorem grp_ge {x : Nat} (h : 128 ≤ x) : grp x = (x % 128, false) :: grp (x / 128) := by rw [grp, if_neg (by omega)]
theorem enc_lt {x : Nat} (h : x < 128) : enc x = [UInt8.ofNat x] := by rw [enc, grp_lt h]; rfl
theorem enc_ge {x : Nat} (h : 128 ≤ x) : enc x = UInt8.ofNat (x % 128 + 128) :: enc (x / 128) := by
  rw [enc, grp_ge h]; rfl
theorem grp_bd : ∀ (n x : Nat), x < 128 ^ n → ∀ p ∈ grp x, p.1 < 128
  | 0, x, h, p, hp => by
    have : x = 0 := by simpa using h
    subst this
    rw [grp_lt (by omega)] at hp
    simp at hp
    rw [hp]; decide
  | n + 1, x, h, p, hp => by
    by_cases hx : x < 128
    · rw [grp_lt hx] at hp
      simp at hp
      rw [hp]; exact hx
    · rw [grp_ge (by omega)] at hp
      rcases List.mem_cons.1 hp with rfl | hp
      · exact Nat.mod_lt _ (by omega)
      · exact grp_bd n (x / 128) (by rw [Nat.pow_succ] at h; exact Nat.div_lt_of_lt_mul (by omega)) p hp
theorem grp_len : ∀ (n x : Nat), x < 128 ^ (n + 1) → (grp x).length ≤ n + 1
  | 0, x, h => by rw [grp_lt (by simpa using h)]; simp
  | n + 1, x, h => by
    by_cases hx : x < 128
    · rw [grp_lt hx]; simp
    · rw [grp_ge (by omega), List.length_cons]
      have := grp_len n (x / 128) (by rw [Nat.pow_succ] at h; exact Nat.div_lt_of_lt_mul (by omega))
      omega
theorem enc_len (x : Nat) (h : x < 18446744073709551616) : (enc x).length ≤ 10 := by
  rw [enc, List.length_map]
  exact grp_len 9 x (by omega)
theorem enc_pos (x : Nat) : 0 < (enc x).length := by
  by_cases h : x < 128
  · rw [enc_lt h]; simp
  · rw [enc_ge (by omega)]; simp
theorem grp_fst (x : Nat) : ∀ p ∈ grp x, p.1 < 128 := by
  have : ∀ m, x ≤ m → ∀ p ∈ grp x, p.1 < 128 := by
    intro m
    induction m generalizing x with
    | zero => intro h p hp; rw [grp_lt (by omega)] at hp; simp at hp; rw [hp]; omega
    | succ m ih =>
      intro h p hp
      by_cases hx : x < 128
      · rw [grp_lt hx] at hp; simp at hp; rw [hp]; exact hx
      · rw [grp_ge (by omega)] at hp
        rcases List.mem_cons.1 hp with rfl | hp
        · exact Nat.mod_lt _ (by omega)
        · exact ih (x / 128) (by omega) p hp
  exact this x (Nat.le_refl _)

/-- reading a number: what is left, how many bytes were read, what they say: the number, how many bytes it takes, the error -/
def get1 : List UInt8 → Nat → Nat → Nat × Nat × Nat
  | [], _, _ => (0, 0, 3)
  | c :: l, i, x =>
    if i = 9 ∧ 1 < c.toNat then (0, 0, 6)
    else if c.toNat = 0 ∧ 0 < i then (0, 0, 5)
    else if c.toNat < 128 then (x + c.toNat % 128 * 128 ^ i, i + 1, 0)
    else get1 l (i + 1) (x + c.toNat % 128 * 128 ^ i)
/-- Get at an offset: the number, the offset behind it, the error -/
def get (l : List UInt8) (at_ : Int) : Nat × Int × Nat :=
  if at_ < 0 ∨ (l.length : Int) < at_ then (0, 0, 2)
  else
    let r := get1 (l.drop at_.toNat) 0 0
    if r.2.2 = 0 then (r.1, at_ + r.2.1, 0) else (0, 0, r.2.2)
theorem get1_cons (c : UInt8) (l : List UInt8) (i x : Nat) : get1 (c :: l) i x = 
    if i = 9 ∧ 1 < c.toNat then (0, 0, 6)
    else if c.toNat = 0 ∧ 0 < i then (0, 0, 5)
    else if c.toNat < 128 then (x + c.toNat % 128 * 128 ^ i, i + 1, 0)
    else get1 l (i + 1) (x + c.toNat % 128 * 128 ^ i) := rfl
/-- the or of a number and a shifted group is their sum -/
theorem or_add (x y i : Nat) (hx : x < 128 ^ i) : x ||| y * 128 ^ i = x + y * 128 ^ i := by
  have e : (128 : Nat) ^ i = 2 ^ (7 * i) := by rw [Nat.pow_mul]
  rw [e] at hx ⊢
  rw [← Nat.shiftLeft_eq, Nat.or_comm, ← Nat.shiftLeft_add_eq_or_of_lt hx, Nat.add_comm]
theorem pow_le {i : Nat} (h : i ≤ 9) : (128 : Nat) ^ i ≤ 9223372036854775808 := by
  have : (128 : Nat) ^ i ≤ 128 ^ 9 := Nat.pow_le_pow_right (by omega) h
  simpa using this
theorem step_lt {x i c : Nat} (hx : x < 128 ^ i) (hi : i ≤ 9) (hc : ¬ (i = 9 ∧ 1 < c)) : x + c % 128 * 128 ^ i < 18446744073709551616 := by
  by_cases h9 : i = 9
  · subst h9
    have h1 : c ≤ 1 := by omega
    have h2 : c % 128 ≤ 1 := by omega
    have h3 : c % 128 * 128 ^ 9 ≤ 1 * 128 ^ 9 := Nat.mul_le_mul_right _ h2
    have h4 : (128 : Nat) ^ 9 = 9223372036854775808 := by decide
    omega
  · have h1 : i ≤ 8 := by omega
    have h2 : (128 : Nat) ^ i ≤ 128 ^ 8 := Nat.pow_le_pow_right (by omega) h1
    have h4 : (128 : Nat) ^ 8 = 72057594037927936 := by decide
    have h3 : c % 128 * 128 ^ i ≤ 127 * 128 ^ i := Nat.mul_le_mul_right _ (by omega)
    omega
theorem step_lt' {x i c : Nat} (hx : x < 128 ^ i) : x + c % 128 * 128 ^ i < 128 ^ (i + 1) := by
  have h3 : c % 128 * 128 ^ i ≤ 127 * 128 ^ i := Nat.mul_le_mul_right _ (by omega)
  rw [Nat.pow_succ]
  omega
theorem toNat_ofNat {x : Nat} (h : x < 256) : (UInt8.ofNat x).toNat = x := by simp; omega
/-- what was encoded is read back -/
theorem get1_enc : ∀ (n x i a : Nat) (r : List UInt8), x < 128 ^ n → i + n ≤ 9 ∨ (i + n = 10 ∧ x * 128 ^ i < 18446744073709551616) → (0 < i → 0 < x) → get1 (enc x ++ r) i a = (a + x * 128 ^ i, i + (enc x).length, 0)
  | 0, x, i, a, r, h, hi, h0 => by
    have hx : x = 0 := by simpa using h
    subst hx
    have hi0 : i = 0 := by
      rcases Nat.eq_zero_or_pos i with h | h
      · exact h
      · exact absurd (h0 h) (by omega)
    subst hi0
    rw [enc_lt (by omega)]
    rfl
  | n + 1, x, i, a, r, h, hi, h0 => by
    have h9 : i ≤ 9 := by omega
    have h128 : i = 9 → x ≤ 1 := by
      intro e
      subst e
      rcases hi with h' | h'
      · omega
      · have h4 : (128 : Nat) ^ 9 = 9223372036854775808 := by decide
        rw [h4] at h'
        omega
    by_cases hx : x < 128
    · rw [enc_lt hx, List.singleton_append, get1_cons, toNat_ofNat (by omega), if_neg (by omega), if_neg (by omega), if_pos hx, Nat.mod_eq_of_lt hx]
      rfl
    · have hi9 : i ≠ 9 := fun e => by have := h128 e; omega
      rw [enc_ge (by omega), List.cons_append, get1_cons, toNat_ofNat (by omega), if_neg (by omega), if_neg (by omega), if_neg (by omega), get1_enc n (x / 128) (i + 1) _ r (by rw [Nat.pow_succ] at h; exact Nat.div_lt_of_lt_mul (by omega)) ?_ (by omega)]
      · rw [List.length_cons]
        have e1 : (x % 128 + 128) % 128 = x % 128 := by omega
        have e2 : x / 128 * 128 ^ (i + 1) = x / 128 * 128 * 128 ^ i := by rw [Nat.pow_succ, Nat.mul_assoc, Nat.mul_comm 128]
        have e3 : x % 128 * 128 ^ i + x / 128 * 128 * 128 ^ i = x * 128 ^ i := by rw [← Nat.add_mul]; congr 1; omega
        rw [e1, e2, Nat.add_assoc, e3]
        simp only [Prod.mk.injEq, true_and, and_true]
        omega
      · rcases hi with h' | ⟨h1, h2⟩
        · exact .inl (by omega)
        · refine .inr ⟨by omega, Nat.lt_of_le_of_lt ?_ h2⟩
          rw [Nat.pow_succ, Nat.mul_comm _ 128, ← Nat.mul_assoc]
          exact Nat.mul_le_mul_right _ (by omega)
theorem get_enc (l : List UInt8) (x : Nat) (r : List UInt8) (hx : x < 18446744073709551616) : get (l ++ enc x ++ r) (l.length : Int) = (x, ((l.length + (enc x).length : Nat) : Int), 0) := by
  unfold get
  rw [if_neg (by simp; omega)]
  have e : (l ++ enc x ++ r).drop (l.length : Int).toNat = enc x ++ r := by
    rw [Int.toNat_natCast, List.append_assoc, List.drop_left]
  rw [e]
  rw [get1_enc 10 x 0 0 r (by omega) (.inr ⟨rfl, by omega⟩) (by omega)]
  simp
end Go.Proofs.Ythhcfocmaiacoaa.Vi
