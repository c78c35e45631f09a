/- varint.Get reads a number. -/
import Derived.Test.YthhcfocmaiacoaaVarA
namespace Go.Proofs.Ythhcfocmaiacoaa
open Go.RowKit Go.Shelf

theorem vi_or (x m k : Nat) (h : x < 128 ^ k) (hlt : x + m % 128 * 128 ^ k < 18446744073709551616) :
    bits .or .u64 (x : Int) (IntKind.u64.wrap ((m : Int) % 128 * 2 ^ (7 * k))) = ((x + m % 128 * 128 ^ k : Nat) : Int) := by
  have e1 : (m : Int) % 128 * 2 ^ (7 * k) = ((m % 128 * 128 ^ k : Nat) : Int) := by
    rw [Int.natCast_mul, Int.natCast_pow, Int.natCast_emod, Int.pow_mul]
    rfl
  have e2 : IntKind.u64.wrap ((m % 128 * 128 ^ k : Nat) : Int) = ((m % 128 * 128 ^ k : Nat) : Int) := by
    rw [IntKind.wrap_u64]
    omega
  rw [e1, e2, bits_or_u64_nat _ _ (by omega) (by omega), Vi.or_add x (m % 128) k h]
def getV (r : Nat × Int × Nat) : Value := .tuple #[.int .u64 (r.1 : Int), .int .i64 r.2.1, .int .i64 (r.2.2 : Int)]

set_option maxRecDepth 100000 in
set_option maxHeartbeats 4000000 in
theorem get_any (A : Option Addr) (n c B : Nat) (l : List UInt8) (at_ : Int) (w : World) (hv : RdB w B A n c l) (h0 : -9223372036854775808 ≤ at_) (h1 : at_ ≤ 9223372036854775807) :
    Calls Try.prog 59 #[.slice A n c, .int .i64 at_] w fun e w' => e = .returned (getV (Vi.get l at_)) ∧ w = w' := by
  have hlen := Kept.mk hv.len
  have hlc := hv.1
  have hcm := hv.2.1
  unfold maxLen at hcm
  have Hv := Kept.mk hv
  clear hv
  obtain ⟨r, hr⟩ : ∃ r, Vi.get l at_ = r := ⟨_, rfl⟩
  rw [hr]
  have Hr := Kept.mk hr
  clear hr
  by_cases hneg : at_ < 0
  · have hfin : Kept (r = (0, 0, 2)) := ⟨by rw [← Hr.out, Vi.get, if_pos (.inl hneg)]⟩
    go_enter Try.func59, Try.ntmps59
    go_wp2
    go_ret3
    exact ⟨by rw [hfin.out]; rfl, rfl⟩
  · obtain ⟨a, rfl⟩ := Int.eq_ofNat_of_zero_le (show 0 ≤ at_ by omega)
    by_cases hbig : n < a
    · have hfin : Kept (r = (0, 0, 2)) := ⟨by rw [← Hr.out, Vi.get, if_pos (.inr (by have := hlen.out; omega))]⟩
      go_enter Try.func59, Try.ntmps59
      go_wp2
      go_ret3
      exact ⟨by rw [hfin.out]; rfl, rfl⟩
    · have hget : Kept (Vi.get l (a : Int) = if (Vi.get1 (l.drop a) 0 0).2.2 = 0 then ((Vi.get1 (l.drop a) 0 0).1, (a : Int) + (Vi.get1 (l.drop a) 0 0).2.1, 0) else (0, 0, (Vi.get1 (l.drop a) 0 0).2.2)) := ⟨by
        rw [Vi.get, if_neg (by have := hlen.out; omega)]
        rfl⟩
      obtain ⟨q, hq⟩ : ∃ q, Vi.get1 (l.drop a) 0 0 = q := ⟨_, rfl⟩
      have Hq := Kept.mk hq
      have Hd := Kept.mk (Hv.out.drop (k := a) (by omega))
      have hfin : Kept (r = if q.2.2 = 0 then (q.1, (a : Int) + q.2.1, 0) else (0, 0, q.2.2)) := ⟨by rw [← Hr.out, hget.out, hq]⟩
      clear hq hget
      have hnn : (0 : Int) ≤ (n : Int) - (a : Int) := by omega
      by_cases hna : n = a
      · subst hna
        have hq0 : Kept (q = (0, 0, 3)) := ⟨by
          rw [← Hq.out, List.drop_eq_nil_of_le (by have := hlen.out; omega)]
          rfl⟩
        by_cases hca : c = n
        · subst hca
          go_enter Try.func59, Try.ntmps59
          go_wp2
          go_loop [7, 22] (fun x i => x = .int .u64 0 ∧ i = .int .i64 0) (fun _ _ => 0)
          case atStart => exact ⟨rfl, rfl⟩
          case round =>
            obtain ⟨rfl, rfl⟩ := hrel
            go_wp2
            go_ret3
            exact ⟨by rw [hfin.out, hq0.out]; rfl, rfl⟩
        · have hlt1 : (n : Int) < (c : Int) := by omega
          go_enter Try.func59, Try.ntmps59
          go_wp2
          go_loop [7, 22] (fun x i => x = .int .u64 0 ∧ i = .int .i64 0) (fun _ _ => 0)
          case atStart => exact ⟨rfl, rfl⟩
          case round =>
            obtain ⟨rfl, rfl⟩ := hrel
            go_wp2
            go_ret3
            exact ⟨by rw [hfin.out, hq0.out]; rfl, rfl⟩
      · obtain ⟨b, off, rfl, hb, -⟩ := Hv.out.at_ (k := a) (by have := hlen.out; omega)
        rw [if_neg (by omega)] at Hd
        simp only [Option.map_some, add_plain] at Hd
        have hlt1 : (a : Int) < (c : Int) := by omega
        have hlt2 : (a : Int) < (n : Int) := by omega
        have hcn : (n : Int) - (a : Int) ≤ (c : Int) - (a : Int) := by omega
        go_enter Try.func59, Try.ntmps59
        go_wp2
        go_loop [7, 22] (fun xv i => ∃ k x : Nat, k ≤ 9 ∧ k ≤ n - a ∧ i = .int .i64 k ∧ xv = .int .u64 x ∧ Kept (x < 128 ^ k) ∧ Kept (Vi.get1 (l.drop (a + k)) k x = q)) (fun _ i => n - a - (intOf i).toNat)
        case atStart => exact ⟨0, 0, by omega, by omega, rfl, rfl, ⟨by decide⟩, ⟨Hq.out⟩⟩
        case round =>
          obtain ⟨k, x, hk9, hk, rfl, rfl, hx, hg⟩ := hrel
          by_cases hlt : k < n - a
          · have hkl : k < (l.drop a).length := by rw [List.length_drop]; have := hlen.out; omega
            obtain ⟨b', off', e, _, hcell⟩ := Hd.out.at_ hkl
            simp only [Option.some.injEq, Addr.mk.injEq, and_true] at e
            obtain ⟨rfl, rfl⟩ := e
            have hak : a + k < l.length := by have := hlen.out; omega
            have hgc : Kept (Vi.get1 (l[a + k] :: l.drop (a + k + 1)) k x = q) := ⟨by rw [← List.drop_eq_getElem_cons hak]; exact hg.out⟩
            rw [List.getElem_drop] at hcell
            have hki : (k : Int) < (n : Int) - (a : Int) := by omega
            have hch := l[a + k].toNat_lt
            generalize l[a + k] = ch at *
            by_cases h9 : k = 9 ∧ 1 < ch.toNat
            · obtain ⟨rfl, h91⟩ := h9
              have hq6 : Kept (q = (0, 0, 6)) := ⟨by rw [← hgc.out, Vi.get1_cons, if_pos ⟨rfl, h91⟩]⟩
              have h91' : (1 : Int) < (ch.toNat : Int) := by omega
              go_wp2
              go_ret3
              exact ⟨by rw [hfin.out, hq6.out]; rfl, rfl⟩
            · have hgc' : Kept (ch.toNat = 0 ∧ 0 < k ∧ q = (0, 0, 5) ∨ ¬ (ch.toNat = 0 ∧ 0 < k) ∧ ch.toNat < 128 ∧ q = (x + ch.toNat % 128 * 128 ^ k, k + 1, 0) ∨
                  128 ≤ ch.toNat ∧ Vi.get1 (l.drop (a + (k + 1))) (k + 1) (x + ch.toNat % 128 * 128 ^ k) = q) := ⟨by
                have h := hgc.out
                rw [Vi.get1_cons, if_neg h9] at h
                by_cases c1 : ch.toNat = 0 ∧ 0 < k
                · rw [if_pos c1] at h; exact .inl ⟨c1.1, c1.2, h.symm⟩
                · rw [if_neg c1] at h
                  by_cases c2 : ch.toNat < 128
                  · rw [if_pos c2] at h; exact .inr (.inl ⟨c1, c2, h.symm⟩)
                  · rw [if_neg c2] at h; exact .inr (.inr ⟨by omega, h⟩)⟩
              have hlt64 := Kept.mk (Vi.step_lt hx.out hk9 h9)
              have hlt128 := Kept.mk (Vi.step_lt' (c := ch.toNat) hx.out)
              have hor := Kept.mk (vi_or x ch.toNat k hx.out hlt64.out)
              clear hgc hg
              generalize ch.toNat = m at *
              by_cases hm0 : m = 0 ∧ 0 < k
              · obtain ⟨rfl, hk0⟩ := hm0
                have hq5 : Kept (q = (0, 0, 5)) := ⟨by
                  rcases hgc'.out with ⟨_, _, h⟩ | ⟨h, _⟩ | ⟨h, _⟩
                  · exact h
                  · exact absurd ⟨rfl, hk0⟩ h
                  · omega⟩
                have hk0' : (0 : Int) < (k : Int) := by omega
                by_cases hk9' : k = 9
                · subst hk9'
                  go_wp2
                  go_ret3
                  exact ⟨by rw [hfin.out, hq5.out]; rfl, rfl⟩
                · have hk9b : ((k : Int) == 9) = false := by simp; omega
                  go_wp2
                  go_ret3
                  exact ⟨by rw [hfin.out, hq5.out]; rfl, rfl⟩
              · by_cases hm : m < 128
                · have hq3 : Kept (q = (x + m % 128 * 128 ^ k, k + 1, 0)) := ⟨by
                    rcases hgc'.out with ⟨h1, h2, _⟩ | ⟨_, _, h⟩ | ⟨h, _⟩
                    · exact absurd ⟨h1, h2⟩ hm0
                    · exact h
                    · omega⟩
                  have hm' : (m : Int) < 128 := by omega
                  have hend : Kept (.tuple #[.int .u64 ((x + m % 128 * 128 ^ k : Nat) : Int), .int .i64 ((a : Int) + (k : Int) + 1), .int .i64 0] = getV r) := ⟨by
                    rw [hfin.out, hq3.out, if_pos rfl, getV, Int.natCast_add k 1, Int.add_assoc]; rfl⟩
                  by_cases hm00 : m = 0
                  · have hm0' : ((m : Int) == 0) = true := by simp; omega
                    have hk0 : (k : Int) ≤ 0 := by omega
                    have hk9b : ((k : Int) == 9) = false := by simp; omega
                    clear hm00 hm0
                    go_wp2
                    go_ret3
                    exact ⟨by show Ending.returned (.tuple #[.int .u64 (bits .or .u64 (x : Int) (IntKind.u64.wrap ((m : Int) % 128 * 2 ^ (7 * k)))), .int .i64 ((a : Int) + (k : Int) + 1), .int .i64 0]) = _; rw [hor.out, hend.out], rfl⟩
                  · have hm0' : ((m : Int) == 0) = false := by simp; omega
                    by_cases hk9' : k = 9
                    · have hm1 : (m : Int) ≤ 1 := by omega
                      have hk9b : ((k : Int) == 9) = true := by simp; omega
                      clear hk9' hm0
                      go_wp2
                      go_ret3
                      exact ⟨by show Ending.returned (.tuple #[.int .u64 (bits .or .u64 (x : Int) (IntKind.u64.wrap ((m : Int) % 128 * 2 ^ (7 * k)))), .int .i64 ((a : Int) + (k : Int) + 1), .int .i64 0]) = _; rw [hor.out, hend.out], rfl⟩
                    · have hk9b : ((k : Int) == 9) = false := by simp; omega
                      clear hk9' hm0
                      go_wp2
                      go_ret3
                      exact ⟨by show Ending.returned (.tuple #[.int .u64 (bits .or .u64 (x : Int) (IntKind.u64.wrap ((m : Int) % 128 * 2 ^ (7 * k)))), .int .i64 ((a : Int) + (k : Int) + 1), .int .i64 0]) = _; rw [hor.out, hend.out], rfl⟩
                · have hk9b : ((k : Int) == 9) = false := by simp; omega
                  have hm' : (128 : Int) ≤ (m : Int) := by omega
                  have hm0' : ((m : Int) == 0) = false := by simp; omega
                  have hk9i : (k : Int) ≤ 8 := by omega
                  have hnext : Kept (Vi.get1 (l.drop (a + (k + 1))) (k + 1) (x + m % 128 * 128 ^ k) = q) := ⟨by
                    rcases hgc'.out with ⟨h1, h2, _⟩ | ⟨_, h, _⟩ | ⟨_, h⟩
                    · exact absurd ⟨h1, h2⟩ hm0
                    · omega
                    · exact h⟩
                  go_wp2
                  go_round
                  case rel => exact ⟨k + 1, x + m % 128 * 128 ^ k, by omega, by omega, by go_num, by rw [hor.out], hlt128, hnext⟩
                  case measure => simp [intOf]; omega
          · have hq0 : Kept (q = (0, 0, 3)) := ⟨by
              rw [← hg.out, List.drop_eq_nil_of_le (by have := hlen.out; omega)]
              rfl⟩
            obtain rfl : k = n - a := by omega
            go_wp2
            go_ret3
            exact ⟨by rw [hfin.out, hq0.out]; rfl, rfl⟩
end Go.Proofs.Ythhcfocmaiacoaa
