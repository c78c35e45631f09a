/- The order of strings of bytes: a strict total order. -/
import Derived.Test.YthhcfocmaiacoaaMem
import Derived.Sort.Walk0
import Derived.Lib.Strings
namespace Go.Proofs.Ythhcfocmaiacoaa
namespace St
/-- 'x < y' at strings -/
def lt (a b : ByteArray) : Bool := Op.bytesLess a.toList b.toList
theorem tl (a : ByteArray) : a.toList = a.data.toList := by
  exact Lib.toList_data a
theorem tl_inj {a b : ByteArray} (h : a.toList = b.toList) : a = b := by
  rw [tl, tl] at h
  exact ByteArray.ext (Array.toList_inj.1 h)
theorem lt_iff (a b : ByteArray) : lt a b = true ↔ a.toList < b.toList := by unfold lt; rw [bytesLess_eq]; simp
theorem irrefl (a : ByteArray) : lt a a = false := by
  rw [Bool.eq_false_iff]; intro h; rw [lt_iff] at h; exact List.lt_irrefl _ h
theorem trans {a b c : ByteArray} (h1 : lt a b = true) (h2 : lt b c = true) : lt a c = true := by
  rw [lt_iff] at *; exact List.lt_trans h1 h2
theorem asymm {a b : ByteArray} (h : lt a b = true) : lt b a = false := by
  rw [Bool.eq_false_iff]; intro h2; have := trans h h2; rw [irrefl] at this; cases this
theorem total {a b : ByteArray} (h1 : lt a b = false) (h2 : lt b a = false) : a = b := by
  rw [Bool.eq_false_iff, ne_eq, lt_iff] at h1 h2
  exact tl_inj (List.le_antisymm (List.not_lt.1 h2) (List.not_lt.1 h1))
theorem ntrans {a b c : ByteArray} (h1 : lt a b = false) (h2 : lt b c = false) : lt a c = false := by
  rw [Bool.eq_false_iff, ne_eq, lt_iff] at *
  rw [List.not_lt] at *
  exact List.le_trans h2 h1
theorem eq_iff (a b : ByteArray) : (a.toList == b.toList) = decide (a = b) := by
  by_cases h : a = b
  · subst h; simp
  · rw [decide_eq_false h, Bool.eq_false_iff]; intro e; exact h (tl_inj (by simpa using e))
/-- the sign of the comparison -/
def cmp (a b : ByteArray) : Int := if lt a b then -1 else if lt b a then 1 else 0
theorem cmp_zero {a b : ByteArray} : cmp a b = 0 ↔ a = b := by
  unfold cmp
  constructor
  · intro h
    by_cases h1 : lt a b = true
    · simp [h1] at h
    · by_cases h2 : lt b a = true
      · simp [h1, h2] at h
      · exact total (by simpa using h1) (by simpa using h2)
  · rintro rfl; simp [irrefl]
theorem cmp_neg {a b : ByteArray} : cmp a b < 0 ↔ lt a b = true := by
  unfold cmp
  by_cases h1 : lt a b = true
  · simp [h1]
  · by_cases h2 : lt b a = true <;> simp [h1, h2]
theorem cmp_swap (a b : ByteArray) : cmp b a = - cmp a b := by
  unfold cmp
  by_cases h1 : lt a b = true
  · simp [h1, asymm h1]
  · by_cases h2 : lt b a = true
    · simp [h1, h2]
    · simp [h1, h2]
end St
end Go.Proofs.Ythhcfocmaiacoaa
