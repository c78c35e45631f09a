namespace Go.Proofs.YtknfkbgnfjfpeaaDoor.Crc
/-- one bit step -/
def st (s : Nat) : Nat := (s / 2) ^^^ (s % 2 * 3988292384)
def it : Nat → Nat → Nat
  | 0, s => s
  | n + 1, s => it n (st s)
def upd (s : Nat) (l : List UInt8) : Nat := l.foldl (fun s c => it 8 (s ^^^ c.toNat)) s
theorem xor_div2 (a b : Nat) : (a ^^^ b) / 2 = (a / 2) ^^^ (b / 2) := by
  have := Nat.shiftRight_xor_distrib (a := a) (b := b) (i := 1)
  simpa [Nat.shiftRight_eq_div_pow] using this
theorem xor_mod2 (a b : Nat) : (a ^^^ b) % 2 = (a % 2) ^^^ (b % 2) := by
  have := Nat.xor_mod_two_pow (a := a) (b := b) (n := 1)
  simpa using this
theorem st_xor (a b : Nat) : st (a ^^^ b) = st a ^^^ st b := by
  unfold st
  rw [xor_div2, xor_mod2]
  rcases Nat.mod_two_eq_zero_or_one a with ha | ha <;> rcases Nat.mod_two_eq_zero_or_one b with hb | hb <;> rw [ha, hb] <;> simp
  · ac_rfl
  · ac_rfl
  · have : a / 2 ^^^ 3988292384 ^^^ (b / 2 ^^^ 3988292384) = a / 2 ^^^ b / 2 ^^^ (3988292384 ^^^ 3988292384) := by ac_rfl
    rw [this]; simp
theorem st_lt {s : Nat} (h : s < 4294967296) : st s < 4294967296 := by
  unfold st
  have h1 : s / 2 < 2 ^ 32 := by omega
  have h2 : s % 2 * 3988292384 < 2 ^ 32 := by omega
  exact Nat.xor_lt_two_pow h1 h2
theorem st_inj0 {s : Nat} (h : s < 4294967296) (h0 : st s = 0) : s = 0 := by
  unfold st at h0
  have h1 : s / 2 = s % 2 * 3988292384 := by
    have := congrArg (fun x => x ^^^ (s % 2 * 3988292384)) h0
    simpa [Nat.xor_assoc] using this
  omega
theorem it_xor (n a b : Nat) : it n (a ^^^ b) = it n a ^^^ it n b := by
  induction n generalizing a b with
  | zero => rfl
  | succ n ih => simp only [it, st_xor, ih]
theorem it_lt (n : Nat) {s : Nat} (h : s < 4294967296) : it n s < 4294967296 := by
  induction n generalizing s with
  | zero => exact h
  | succ n ih => exact ih (st_lt h)
theorem it_inj0 (n : Nat) {s : Nat} (h : s < 4294967296) (h0 : it n s = 0) : s = 0 := by
  induction n generalizing s with
  | zero => exact h0
  | succ n ih => exact st_inj0 h (ih (st_lt h) h0)
theorem it_zero (n : Nat) : it n 0 = 0 := by
  induction n with
  | zero => rfl
  | succ n ih => exact ih
theorem it_add (m n s : Nat) : it (m + n) s = it n (it m s) := by
  induction m generalizing s with
  | zero => simp [it]
  | succ m ih => rw [Nat.succ_add]; simp only [it]; exact ih _
theorem it_inj (n : Nat) {a b : Nat} (ha : a < 4294967296) (hb : b < 4294967296) (h : it n a = it n b) : a = b := by
  have h0 : it n (a ^^^ b) = 0 := by rw [it_xor, h, Nat.xor_self]
  have := it_inj0 n (Nat.xor_lt_two_pow (n := 32) ha hb) h0
  have h2 := congrArg (fun x => x ^^^ b) this
  simpa [Nat.xor_assoc] using h2
theorem st_even (k : Nat) : st (2 * k) = k := by simp [st]
def tab : List Nat := [0x00000000, 0x1db71064, 0x3b6e20c8, 0x26d930ac, 0x76dc4190, 0x6b6b51f4, 0x4db26158, 0x5005713c, 0xedb88320, 0xf00f9344, 0xd6d6a3e8, 0xcb61b38c, 0x9b64c2b0, 0x86d3d2d4, 0xa00ae278, 0xbdbdf21c]
theorem it4 (s : Nat) : tab.getD (s % 16) 0 ^^^ (s / 16) = it 4 s := by
  have e : s = (s % 16) ^^^ (2 * (2 * (2 * (2 * (s / 16))))) := by
    apply Nat.eq_of_testBit_eq; intro i
    rw [Nat.testBit_xor]
    have e16 : (2 * (2 * (2 * (2 * (s / 16))))) = 2 ^ 4 * (s / 2 ^ 4) := by omega
    rw [e16, show s % 16 = s % 2 ^ 4 from rfl, Nat.testBit_mod_two_pow, Nat.testBit_two_pow_mul, Nat.testBit_div_two_pow]
    by_cases h : i < 4
    · have : ¬ i ≥ 4 := by omega
      simp [h, this]
    · have h4 : i ≥ 4 := by omega
      simp [h, h4]
  have h : s % 16 < 16 := Nat.mod_lt _ (by decide)
  have hl : ∀ n, n < 16 → tab.getD n 0 = it 4 n := by decide +kernel
  conv => rhs; rw [e, it_xor]
  rw [hl _ h]
  congr 1
  simp only [it, st_even]
theorem tab_lt (i : Nat) : tab.getD i 0 < 4294967296 := by
  by_cases h : i < 16
  · have : ∀ n, n < 16 → tab.getD n 0 < 4294967296 := by decide
    exact this i h
  · have : tab.length ≤ i := by simp [tab]; omega
    simp [List.getD, List.getElem?_eq_none this]
theorem upd_nil (s : Nat) : upd s [] = s := rfl
theorem upd_cons (s : Nat) (c : UInt8) (l : List UInt8) : upd s (c :: l) = upd (it 8 (s ^^^ c.toNat)) l := rfl
theorem upd_append (s : Nat) (a b : List UInt8) : upd s (a ++ b) = upd (upd s a) b := by simp [upd, List.foldl_append]
theorem u8_lt (c : UInt8) : c.toNat < 4294967296 := by have := c.toNat_lt; omega
theorem upd_lt {s : Nat} (l : List UInt8) (h : s < 4294967296) : upd s l < 4294967296 := by
  induction l generalizing s with
  | nil => exact h
  | cons c l ih => exact ih (it_lt _ (Nat.xor_lt_two_pow (n := 32) h (u8_lt c)))
/-- the xor of two states -/
theorem upd_xor (s t : Nat) (l : List UInt8) : upd (s ^^^ t) l = upd s l ^^^ it (8 * l.length) t := by
  induction l generalizing s t with
  | nil => rfl
  | cons c l ih =>
    rw [upd_cons, upd_cons, show s ^^^ t ^^^ c.toNat = (s ^^^ c.toNat) ^^^ t by ac_rfl, it_xor, ih, ← it_add]
    congr 2
    simp; omega
theorem add_xor' (a b k : Nat) (h : a < 2 ^ k) : a ^^^ (2 ^ k * b) = 2 ^ k * b + a := by
  apply Nat.eq_of_testBit_eq; intro i
  rw [Nat.testBit_xor, Nat.testBit_two_pow_mul, Nat.testBit_two_pow_mul_add _ h]
  by_cases hi : i < k
  · have h2 : ¬ k ≤ i := by omega
    simp [hi, h2]
  · have : a.testBit i = false := Nat.testBit_lt_two_pow (Nat.lt_of_lt_of_le h (Nat.pow_le_pow_right (by decide) (by omega)))
    simp [hi, this]
    omega
/-- a matrix applied to a word: the first k bits -/
def mulN (m : List Nat) (x : Nat) : Nat → Nat
  | 0 => 0
  | k + 1 => mulN m x k ^^^ (x / 2 ^ k % 2 * m.getD k 0)
def mulM (m : List Nat) (x : Nat) : Nat := mulN m x 32
theorem getD_lt (m : List Nat) (k : Nat) (h : ∀ y ∈ m, y < 4294967296) : m.getD k 0 < 4294967296 := by
  rw [List.getD]
  by_cases hk : k < m.length
  · rw [List.getElem?_eq_getElem hk]; exact h _ (List.getElem_mem hk)
  · rw [List.getElem?_eq_none (by omega)]; simp
theorem mulN_lt (m : List Nat) (x k : Nat) (h : ∀ y ∈ m, y < 4294967296) : mulN m x k < 4294967296 := by
  induction k with
  | zero => simp [mulN]
  | succ k ih =>
    rw [mulN]
    refine Nat.xor_lt_two_pow (n := 32) ih ?_
    have h1 : m.getD k 0 < 4294967296 := by
      rw [List.getD]
      by_cases hk : k < m.length
      · rw [List.getElem?_eq_getElem hk]; exact h _ (List.getElem_mem hk)
      · rw [List.getElem?_eq_none (by omega)]; simp
    rcases Nat.mod_two_eq_zero_or_one (x / 2 ^ k) with h0 | h0 <;> rw [h0] <;> omega
/-- the first k of a list of 32, then 0 -/
def part (l : List Nat) (k : Nat) : List Nat := l.take k ++ List.replicate (32 - k) 0
theorem part_len (l : List Nat) (k : Nat) (h : l.length = 32) (hk : k ≤ 32) : (part l k).length = 32 := by
  simp [part, h]; omega
theorem part_all (l : List Nat) (h : l.length = 32) : part l 32 = l := by
  simp [part, List.take_of_length_le (show l.length ≤ 32 by omega)]
theorem part_succ (l : List Nat) (k : Nat) (h : l.length = 32) (hk : k < 32) : (part l k).set k (l.getD k 0) = part l (k + 1) := by
  have hkl : k < l.length := by omega
  unfold part
  have e1 : 32 - k = (32 - (k + 1)) + 1 := by omega
  rw [List.set_append_right _ _ (by simp; omega), List.take_succ_eq_append_getElem hkl, List.append_assoc, e1, List.replicate_succ]
  have e2 : k - (l.take k).length = 0 := by simp; omega
  rw [e2, List.set_cons_zero]
  simp [List.getD, hkl]
theorem mulM_get (m : List Nat) (k : Nat) (h : k < m.length) : (m.map (mulM m)).getD k 0 = mulM m (m.getD k 0) := by
  simp [List.getD, h]
/-- the matrix of a map -/
def matOf (f : Nat → Nat) : List Nat := (List.range 32).map fun i => f (2 ^ i)
theorem matOf_len (f : Nat → Nat) : (matOf f).length = 32 := by simp [matOf]
theorem matOf_get (f : Nat → Nat) (k : Nat) (h : k < 32) : (matOf f).getD k 0 = f (2 ^ k) := by simp [matOf, List.getD, h]
theorem matOf_lt (f : Nat → Nat) (hf : ∀ x, x < 4294967296 → f x < 4294967296) : ∀ y ∈ matOf f, y < 4294967296 := by
  intro y hy
  obtain ⟨i, hi, rfl⟩ := List.mem_map.1 hy
  exact hf _ (Nat.pow_lt_pow_right (n := 32) (by decide) (by simpa using hi))
theorem mod_succ (x k : Nat) : x % 2 ^ (k + 1) = (x % 2 ^ k) ^^^ (x / 2 ^ k % 2 * 2 ^ k) := by
  have h := add_xor' (x % 2 ^ k) (x / 2 ^ k % 2) k (Nat.mod_lt _ (Nat.two_pow_pos k))
  rw [Nat.mul_comm (x / 2 ^ k % 2), h, Nat.pow_succ, Nat.mod_mul]
  omega
theorem mulN_matOf (f : Nat → Nat) (hl : ∀ a b, f (a ^^^ b) = f a ^^^ f b) (x k : Nat) (h : k ≤ 32) : mulN (matOf f) x k = f (x % 2 ^ k) := by
  have h0 : f 0 = 0 := by have := hl 0 0; simpa using this
  induction k with
  | zero => simp [mulN, h0, Nat.mod_one]
  | succ k ih =>
    rw [mulN, ih (by omega), matOf_get f k (by omega), mod_succ, hl]
    congr 1
    rcases Nat.mod_two_eq_zero_or_one (x / 2 ^ k) with h1 | h1 <;> rw [h1] <;> simp [h0]
theorem mulM_matOf (f : Nat → Nat) (hl : ∀ a b, f (a ^^^ b) = f a ^^^ f b) (x : Nat) (h : x < 4294967296) : mulM (matOf f) x = f x := by
  rw [mulM, mulN_matOf f hl x 32 (Nat.le_refl _), Nat.mod_eq_of_lt h]
theorem matOf_sq (j : Nat) : (matOf (it j)).map (mulM (matOf (it j))) = matOf (it (2 * j)) := by
  unfold matOf
  rw [List.map_map]
  apply List.map_congr_left
  intro i hi
  have hi' : 2 ^ i < 4294967296 := Nat.pow_lt_pow_right (n := 32) (by decide) (by simpa using hi)
  show mulM (matOf (it j)) (it j (2 ^ i)) = _
  rw [mulM_matOf (it j) (it_xor j) _ (it_lt j hi'), ← it_add, Nat.two_mul]
/-- The checksum -/
def sum (l : List UInt8) : Nat := 4294967295 ^^^ upd 4294967295 l
theorem sum_lt (l : List UInt8) : sum l < 4294967296 := Nat.xor_lt_two_pow (n := 32) (by decide) (upd_lt l (by decide))
theorem combine (a b : List UInt8) : it (8 * b.length) (sum a) ^^^ sum b = sum (a ++ b) := by
  unfold sum
  rw [upd_append]
  have e : upd 4294967295 a = 4294967295 ^^^ (4294967295 ^^^ upd 4294967295 a) := by rw [← Nat.xor_assoc, Nat.xor_self, Nat.zero_xor]
  conv => rhs; rw [e, upd_xor]
  ac_rfl
theorem upd_take_succ (s : Nat) (l : List UInt8) (k : Nat) (h : k < l.length) : upd s (l.take (k + 1)) = it 8 (upd s (l.take k) ^^^ l[k].toNat) := by
  rw [List.take_succ_eq_append_getElem h, upd_append]; rfl
theorem sub_eq_xor (u : Nat) (h : u < 4294967296) : 4294967295 ^^^ u = 4294967295 - u := by
  apply Nat.eq_of_testBit_eq; intro i
  rw [Nat.testBit_xor, show (4294967295 : Nat) - u = 2 ^ 32 - (u + 1) by omega, Nat.testBit_two_pow_sub_succ h, show (4294967295 : Nat) = 2 ^ 32 - 1 from rfl, Nat.testBit_two_pow_sub_one]
  by_cases hi : i < 32
  · simp [hi]
  · have : u.testBit i = false := Nat.testBit_lt_two_pow (Nat.lt_of_lt_of_le h (Nat.pow_le_pow_right (n := 2) (by decide) (show 32 ≤ i by omega)))
    simp [hi, this]
theorem sum_sub (l : List UInt8) : sum l = 4294967295 - upd 4294967295 l := sub_eq_xor _ (upd_lt l (by decide))
theorem it_succ (n s : Nat) : it (n + 1) s = st (it n s) := by rw [it_add n 1]; rfl
/-- the four bytes of a checksum -/
def four (s : Nat) : List UInt8 := [UInt8.ofNat s, UInt8.ofNat (s / 256), UInt8.ofNat (s / 65536), UInt8.ofNat (s / 16777216)]
theorem four_take_length (s k : Nat) (h : k ≤ 4) : ((four s).take k).length = k := by simp [four]; omega
theorem four_take (l : List UInt8) (s k : Nat) (h : k < 4) : l ++ (four s).take (k + 1) = l ++ (four s).take k ++ [UInt8.ofNat (s / 2 ^ (8 * k))] := by
  rcases k with _ | _ | _ | _ | k <;> simp [four]
  omega
def app (l : List UInt8) : List UInt8 := l ++ four (sum l)
def chk (l : List UInt8) : Bool := decide (4 ≤ l.length) && (l == app (l.take (l.length - 4)))

theorem chk_short (l : List UInt8) (h : l.length < 4) : chk l = false := by simp [chk]; omega
theorem chk_drop (l : List UInt8) (h : 4 ≤ l.length) : chk l = (l.drop (l.length - 4) == four (sum (l.take (l.length - 4)))) := by
  unfold chk app
  rw [decide_eq_true h, Bool.true_and, Bool.eq_iff_iff, beq_iff_eq, beq_iff_eq]
  constructor
  · intro e
    have := congrArg (fun x => x.drop (l.length - 4)) e
    rw [List.drop_append] at this
    simpa [List.length_take, show min (l.length - 4) l.length = l.length - 4 by omega] using this
  · intro e
    rw [← e, List.take_append_drop]
theorem four_len (s : Nat) : (four s).length = 4 := rfl
theorem four_get (s k : Nat) (h : k < 4) : (four s)[k]? = some (UInt8.ofNat (s / 2 ^ (8 * k))) := by
  rcases k with _ | _ | _ | _ | k <;> simp [four]
  omega
theorem four_step (l : List UInt8) (s m k : Nat) (h : k < 4) (hl : m + k < l.length) (x : UInt8) (hx : x = UInt8.ofNat (s / 2 ^ (8 * k))) (he : (l.drop m).take k = (four s).take k) :
    (l[m + k] = x → (l.drop m).take (k + 1) = (four s).take (k + 1)) ∧ (¬ l[m + k] = x → (l.drop m == four s) = false) := by
  have hg : (four s)[k]? = some x := by rw [four_get s k h, hx]
  have hd : (l.drop m)[k]? = some l[m + k] := by rw [List.getElem?_drop, List.getElem?_eq_getElem hl]
  constructor
  · intro e
    rw [List.take_add_one, List.take_add_one, he, hg, hd, e]
  · intro e
    rw [beq_eq_false_iff_ne]
    intro h2
    rw [h2, hg] at hd
    injection hd with h3
    exact e h3.symm
theorem st_two_pow (i : Nat) : st (2 ^ (i + 1)) = 2 ^ i := by rw [Nat.pow_succ, Nat.mul_comm]; exact st_even _
theorem it_two_pow (m i : Nat) (h : i ≤ m) : it m (2 ^ i) = it (m - i) 1 := by
  induction i generalizing m with
  | zero => rfl
  | succ i ih =>
    obtain ⟨m, rfl⟩ : ∃ k, m = k + 1 := ⟨m - 1, by omega⟩
    rw [it, st_two_pow, ih m (by omega), Nat.add_sub_add_right]
theorem it8_mul (x : Nat) : it 8 (256 * x) = x := by
  rw [show 256 * x = 2 * (2 * (2 * (2 * (2 * (2 * (2 * (2 * x))))))) by omega]
  simp only [it, st_even]
theorem upd4 (s a b c d : Nat) :
    it 8 (it 8 (it 8 (it 8 (s ^^^ a) ^^^ b) ^^^ c) ^^^ d) = it 32 (s ^^^ a ^^^ (256 * b) ^^^ (256 * (256 * c)) ^^^ (256 * (256 * (256 * d)))) := by
  simp only [show (32 : Nat) = 8 + (8 + (8 + 8)) from rfl, it_add, it_xor, it8_mul]

theorem div_xor_k (a b k : Nat) : (a ^^^ b) / 2 ^ k = (a / 2 ^ k) ^^^ (b / 2 ^ k) := by
  have := Nat.shiftRight_xor_distrib (a := a) (b := b) (i := k)
  simpa [Nat.shiftRight_eq_div_pow] using this
theorem add_xor (a b k : Nat) (h : a < 2 ^ k) : a ^^^ (2 ^ k * b) = 2 ^ k * b + a := add_xor' a b k h
/-- the number of four bytes -/
def num (a b c d : UInt8) : Nat := a.toNat + 256 * b.toNat + 65536 * c.toNat + 16777216 * d.toNat
theorem num_lt (a b c d : UInt8) : num a b c d < 4294967296 := by
  have := a.toNat_lt; have := b.toNat_lt; have := c.toNat_lt; have := d.toNat_lt
  unfold num; omega
theorem num_xor (a b c d : UInt8) : a.toNat ^^^ (256 * b.toNat) ^^^ (256 * (256 * c.toNat)) ^^^ (256 * (256 * (256 * d.toNat))) = num a b c d := by
  have ha := a.toNat_lt; have hb := b.toNat_lt; have hc := c.toNat_lt; have hd := d.toNat_lt
  have e1 := add_xor a.toNat b.toNat 8 (by omega)
  have e2 := add_xor (2 ^ 8 * b.toNat + a.toNat) c.toNat 16 (by omega)
  have e3 := add_xor (2 ^ 16 * c.toNat + (2 ^ 8 * b.toNat + a.toNat)) d.toNat 24 (by omega)
  rw [show 256 * (256 * c.toNat) = 2 ^ 16 * c.toNat by omega, show 256 * (256 * (256 * d.toNat)) = 2 ^ 24 * d.toNat by omega, show 256 * b.toNat = 2 ^ 8 * b.toNat by omega, e1, e2, e3]
  unfold num; omega
theorem upd_four (s : Nat) (a b c d : UInt8) : upd s [a, b, c, d] = it 32 (s ^^^ num a b c d) := by
  rw [← num_xor, ← Nat.xor_assoc, ← Nat.xor_assoc, ← Nat.xor_assoc, ← upd4]; rfl
theorem num_four (s : Nat) (h : s < 4294967296) : num (UInt8.ofNat s) (UInt8.ofNat (s / 256)) (UInt8.ofNat (s / 65536)) (UInt8.ofNat (s / 16777216)) = s := by
  unfold num; simp only [UInt8.toNat_ofNat']; omega
theorem four_num (a b c d : UInt8) : four (num a b c d) = [a, b, c, d] := by
  have ha := a.toNat_lt; have hb := b.toNat_lt; have hc := c.toNat_lt; have hd := d.toNat_lt
  unfold four num
  have h (x : UInt8) (n : Nat) (e : n % 256 = x.toNat) : UInt8.ofNat n = x := by apply UInt8.toNat_inj.1; rw [UInt8.toNat_ofNat']; exact e
  rw [h a _ (by omega), h b _ (by omega), h c _ (by omega), h d _ (by omega)]
theorem xor_all (s : Nat) : 4294967295 ^^^ (4294967295 ^^^ s) = s := by rw [← Nat.xor_assoc, Nat.xor_self, Nat.zero_xor]
/-- the residue -/
theorem chk_iff (l : List UInt8) : chk l = true ↔ 4 ≤ l.length ∧ upd 4294967295 l = it 32 4294967295 := by
  unfold chk
  by_cases h : 4 ≤ l.length
  · simp only [h, decide_true, Bool.true_and, true_and, beq_iff_eq]
    have hl : (l.drop (l.length - 4)).length = 4 := by rw [List.length_drop]; omega
    have hs : l = l.take (l.length - 4) ++ l.drop (l.length - 4) := (List.take_append_drop _ _).symm
    generalize l.take (l.length - 4) = p at *
    generalize l.drop (l.length - 4) = t at *
    match t, hl with
    | [a, b, c, d], _ =>
    subst hs
    have hp := upd_lt p (s := 4294967295) (by decide)
    have hn := num_lt a b c d
    unfold app
    rw [List.append_cancel_left_eq, upd_append, upd_four]
    constructor
    · intro e
      have : num a b c d = sum p := by
        have e2 := num_four (sum p) (sum_lt p)
        unfold four at e
        injection e with e0 e; injection e with e1 e; injection e with e3 e; injection e with e4 e
        rw [e0, e1, e3, e4]; exact e2
      rw [this]; unfold sum
      congr 1
      rw [Nat.xor_comm, Nat.xor_assoc, Nat.xor_self, Nat.xor_zero]
    · intro e
      have e1 := it_inj 32 (Nat.xor_lt_two_pow (n := 32) hp hn) (by decide) e
      have e2 : sum p = num a b c d := by
        unfold sum
        generalize upd 4294967295 p = u at *
        rw [← e1, Nat.xor_comm u, Nat.xor_assoc, Nat.xor_self, Nat.xor_zero]
      rw [e2, four_num]
  · simp [h]
theorem chk_app (l : List UInt8) : chk (app l) = true := by
  rw [chk_iff]
  refine ⟨by simp [app, four], ?_⟩
  unfold app four
  rw [upd_append, upd_four, num_four _ (sum_lt _)]
  unfold sum
  congr 1
  rw [Nat.xor_comm, Nat.xor_assoc, Nat.xor_self, Nat.xor_zero]
/-- one byte changed -/
theorem upd_set (s : Nat) (l : List UInt8) (q : Nat) (x : UInt8) (h : q < l.length) :
    upd s (l.set q (l[q] ^^^ x)) = upd s l ^^^ it (8 * (l.length - q)) x.toNat := by
  induction l generalizing s q with
  | nil => simp at h
  | cons c l ih =>
    cases q with
    | zero =>
      simp only [List.set_cons_zero, List.getElem_cons_zero, upd_cons, UInt8.toNat_xor]
      rw [← Nat.xor_assoc, it_xor, upd_xor, ← it_add]
      rw [List.length_cons, show 8 + 8 * l.length = 8 * (l.length + 1 - 0) by omega]
    | succ q =>
      simp only [List.set_cons_succ, List.getElem_cons_succ, upd_cons]
      rw [ih]; simp
theorem chk_set (l : List UInt8) (q : Nat) (x : UInt8) (h : q < l.length) (hc : chk l = true) :
    chk (l.set q (l[q] ^^^ x)) = decide (x = 0) := by
  have hu := upd_set 4294967295 l q x h
  have h1 := (chk_iff l).1 hc
  rw [Bool.eq_iff_iff, chk_iff, hu, h1.2, decide_eq_true_iff]
  simp only [List.length_set, h1.1, true_and]
  constructor
  · intro e
    have e2 : it (8 * (l.length - q)) x.toNat = 0 := by
      have := congrArg (fun y => it 32 4294967295 ^^^ y) e
      simpa [← Nat.xor_assoc] using this
    have := it_inj0 _ (u8_lt x) e2
    exact UInt8.toNat_inj.1 this
  · rintro rfl
    simp [it_zero]

/-- Flipping the bits of a pattern, from a bit on: the first n of them. -/
def flipN (l : List UInt8) (k : Nat) : Nat → Nat → List UInt8
  | 0, _ => l
  | n + 1, p => flipN (if k < 8 * l.length ∧ p % 2 = 1 then l.set (k / 8) (l.getD (k / 8) 0 ^^^ UInt8.ofNat (2 ^ (k % 8))) else l) (k + 1) n (p / 2)
theorem flipN_yes (l : List UInt8) (k n p : Nat) (h1 : k < 8 * l.length) (h2 : p % 2 = 1) : flipN l k (n + 1) p = flipN (l.set (k / 8) (l.getD (k / 8) 0 ^^^ UInt8.ofNat (2 ^ (k % 8)))) (k + 1) n (p / 2) := by rw [flipN, if_pos ⟨h1, h2⟩]
theorem flipN_no (l : List UInt8) (k n p : Nat) (h : ¬ (k < 8 * l.length ∧ p % 2 = 1)) : flipN l k (n + 1) p = flipN l (k + 1) n (p / 2) := by rw [flipN, if_neg h]
theorem flipN_length (l : List UInt8) (k n p : Nat) : (flipN l k n p).length = l.length := by
  induction n generalizing l k p with
  | zero => rfl
  | succ n ih => rw [flipN, ih]; split <;> simp
/-- the pattern as far as it lies inside -/
def pat (m : Nat) : Nat → Nat → Nat
  | 0, _ => 0
  | n + 1, p => if m = 0 then 0 else (p % 2) + 2 * pat (m - 1) n (p / 2)
theorem pat_lt (m n p : Nat) : pat m n p < 2 ^ n := by
  induction n generalizing m p with
  | zero => simp [pat]
  | succ n ih =>
    rw [pat]; split
    · exact Nat.two_pow_pos _
    · have := ih (m - 1) (p / 2); rw [Nat.pow_succ]; omega
theorem pow_mod8 (k : Nat) : (UInt8.ofNat (2 ^ (k % 8))).toNat = 2 ^ (k % 8) := by
  rw [UInt8.toNat_ofNat']
  exact Nat.mod_eq_of_lt (Nat.pow_lt_pow_right (by decide) (Nat.mod_lt _ (by decide)))
theorem add_xor1 (a b : Nat) (h : a < 2) : a ^^^ (2 * b) = a + 2 * b := by
  have := add_xor a b 1 h; simpa [Nat.add_comm] using this
theorem upd_flip (s : Nat) (l : List UInt8) (k n p : Nat) : upd s (flipN l k n p) = upd s l ^^^ it (8 * l.length - k) (pat (8 * l.length - k) n p) := by
  induction n generalizing l k p with
  | zero => simp [flipN, pat, it_zero]
  | succ n ih =>
    rw [flipN, ih]
    by_cases hk : k < 8 * l.length
    · have hm : ¬ (8 * l.length - k = 0) := by omega
      have e : pat (8 * l.length - k) (n + 1) p = (p % 2) ^^^ (2 * pat (8 * l.length - (k + 1)) n (p / 2)) := by
        rw [pat, if_neg hm, add_xor1 _ _ (Nat.mod_lt _ (by decide)), show 8 * l.length - k - 1 = 8 * l.length - (k + 1) by omega]
      have e2 : it (8 * l.length - k) (2 * pat (8 * l.length - (k + 1)) n (p / 2)) = it (8 * l.length - (k + 1)) (pat (8 * l.length - (k + 1)) n (p / 2)) := by
        rw [show 8 * l.length - k = (8 * l.length - (k + 1)) + 1 by omega, it, st_even]
      rw [e, it_xor, e2]
      by_cases hp : p % 2 = 1
      · rw [if_pos ⟨hk, hp⟩, hp]
        have hq : k / 8 < l.length := by omega
        rw [List.length_set, show l.getD (k / 8) 0 = l[k / 8] by simp [List.getD, hq], upd_set _ _ _ _ hq, pow_mod8, it_two_pow _ _ (by omega), show 8 * (l.length - k / 8) - k % 8 = 8 * l.length - k by omega, Nat.xor_assoc]
      · have hp0 : p % 2 = 0 := by omega
        rw [if_neg (by simp [hp]), hp0, it_zero, Nat.zero_xor]
    · rw [if_neg (by simp [hk]), show 8 * l.length - (k + 1) = 0 by omega, show 8 * l.length - k = 0 by omega]
      cases n <;> simp [pat]
theorem flip_same (l : List UInt8) (k n p : Nat) (h : pat (8 * l.length - k) n p = 0) : flipN l k n p = l := by
  induction n generalizing l k p with
  | zero => rfl
  | succ n ih =>
    rw [flipN]
    by_cases hk : k < 8 * l.length
    · rw [pat, if_neg (by omega)] at h
      rw [if_neg (by omega)]
      exact ih _ _ _ (by rw [show 8 * l.length - (k + 1) = 8 * l.length - k - 1 by omega]; omega)
    · rw [if_neg (by omega)]
      refine ih _ _ _ ?_
      rw [show 8 * l.length - (k + 1) = 0 by omega]
      cases n <;> simp [pat]
theorem flip_eq_iff (s : Nat) (l : List UInt8) (k p : Nat) : upd s (flipN l k 32 p) = upd s l ↔ flipN l k 32 p = l := by
  constructor
  · intro h
    rw [upd_flip] at h
    apply flip_same
    have h2 : it (8 * l.length - k) (pat (8 * l.length - k) 32 p) = 0 := by
      have := congrArg (fun y => upd s l ^^^ y) h
      simpa [← Nat.xor_assoc] using this
    exact it_inj0 _ (pat_lt _ 32 p) h2
  · intro h; rw [h]
theorem chk_flip (l : List UInt8) (k p : Nat) (hc : chk l = true) : chk (flipN l k 32 p) = true ↔ l = flipN l k 32 p := by
  have h1 := (chk_iff l).1 hc
  rw [chk_iff, flipN_length, ← h1.2, flip_eq_iff]
  simp only [h1.1, true_and]
  exact eq_comm
end Go.Proofs.YtknfkbgnfjfpeaaDoor.Crc
