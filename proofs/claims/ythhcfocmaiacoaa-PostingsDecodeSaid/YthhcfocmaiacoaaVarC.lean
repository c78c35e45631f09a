/- The reference's Get and Encode. -/
import Derived.Test.YthhcfocmaiacoaaVarB
namespace Go.Proofs.Ythhcfocmaiacoaa
open Go.RowKit Go.Shelf

theorem vi_add (x m u : Nat) (hlt : x + m % 128 * u < 18446744073709551616) :
    IntKind.u64.wrap ((x : Int) + IntKind.u64.wrap ((m : Int) % 128 * (u : Int))) = ((x + m % 128 * u : Nat) : Int) := by
  have e1 : (m : Int) % 128 * (u : Int) = ((m % 128 * u : Nat) : Int) := by
    rw [Int.natCast_mul, Int.natCast_emod]
    rfl
  rw [e1]
  generalize m % 128 * u = p at *
  rw [IntKind.wrap_u64, IntKind.wrap_u64]
  omega
theorem vi_mul (u : Nat) (h : u * 128 < 18446744073709551616) : IntKind.u64.wrap ((u : Int) * 128) = ((u * 128 : Nat) : Int) := by
  rw [IntKind.wrap_u64]
  omega
set_option maxRecDepth 100000 in
set_option maxHeartbeats 4000000 in
theorem refget_any (A : Option Addr) (n c B : Nat) (l : List UInt8) (at_ : Int) (w : World) (hv : RdB w B A n c l) (h0 : -9223372036854775808 ≤ at_) (h1 : at_ ≤ 9223372036854775807) (hn : n ≤ 140737488355328) :
    Calls Try.prog 65 #[.slice A n c, .int .i64 at_] w fun e w' => e = .returned (getV (Vi.get l at_)) ∧ w = w' := by
  have hlen := Kept.mk hv.len
  have hlc := hv.1
  have hcm := hv.2.1
  unfold maxLen at hcm
  have Hv := Kept.mk hv
  clear hv
  obtain ⟨r, hr⟩ : ∃ r, Vi.get l at_ = r := ⟨_, rfl⟩
  rw [hr]
  have Hr := Kept.mk hr
  clear hr
  by_cases hneg : at_ < 0
  · have hfin : Kept (r = (0, 0, 2)) := ⟨by rw [← Hr.out, Vi.get, if_pos (.inl hneg)]⟩
    go_enter Try.func65, Try.ntmps65
    go_wp2
    go_ret3
    exact ⟨by rw [hfin.out]; rfl, rfl⟩
  · obtain ⟨a, rfl⟩ := Int.eq_ofNat_of_zero_le (show 0 ≤ at_ by omega)
    by_cases hbig : n < a
    · have hfin : Kept (r = (0, 0, 2)) := ⟨by rw [← Hr.out, Vi.get, if_pos (.inr (by have := hlen.out; omega))]⟩
      go_enter Try.func65, Try.ntmps65
      go_wp2
      go_ret3
      exact ⟨by rw [hfin.out]; rfl, rfl⟩
    · have hget : Kept (Vi.get l (a : Int) = if (Vi.get1 (l.drop a) 0 0).2.2 = 0 then ((Vi.get1 (l.drop a) 0 0).1, (a : Int) + (Vi.get1 (l.drop a) 0 0).2.1, 0) else (0, 0, (Vi.get1 (l.drop a) 0 0).2.2)) := ⟨by
        rw [Vi.get, if_neg (by have := hlen.out; omega)]
        rfl⟩
      obtain ⟨q, hq⟩ : ∃ q, Vi.get1 (l.drop a) 0 0 = q := ⟨_, rfl⟩
      have Hq := Kept.mk hq
      have hfin : Kept (r = if q.2.2 = 0 then (q.1, (a : Int) + q.2.1, 0) else (0, 0, q.2.2)) := ⟨by rw [← Hr.out, hget.out, hq]⟩
      have hnn : (a : Int) ≤ (n : Int) := by omega
      clear hq hget h1 h0 hbig hneg
      go_enter Try.func65, Try.ntmps65
      go_wp2
      go_loop [7, 8, 9] (fun xv uv i => ∃ k x u : Nat, k ≤ 9 ∧ k ≤ n - a ∧ i = .int .i64 k ∧ xv = .int .u64 x ∧ uv = .int .u64 u ∧ Kept (u = 128 ^ k) ∧ Kept (x < 128 ^ k) ∧ Kept (Vi.get1 (l.drop (a + k)) k x = q)) (fun _ _ i => n - a - (intOf i).toNat)
      case atStart => exact ⟨0, 0, 1, by omega, by omega, rfl, rfl, rfl, ⟨rfl⟩, ⟨by decide⟩, ⟨Hq.out⟩⟩
      case round =>
        obtain ⟨k, x, u, hk9, hk, rfl, rfl, rfl, hu, hx, hg⟩ := hrel
        by_cases hlt : k < n - a
        · have hak : a + k < l.length := by have := hlen.out; omega
          obtain ⟨b, off, rfl, hb, hcell⟩ := Hv.out.at_ hak
          have hgc : Kept (Vi.get1 (l[a + k] :: l.drop (a + k + 1)) k x = q) := ⟨by rw [← List.drop_eq_getElem_cons hak]; exact hg.out⟩
          have hki : (a : Int) + (k : Int) < (n : Int) := by omega
          have hki0 : (0 : Int) ≤ (a : Int) + (k : Int) := by omega
          have hkt : ((a : Int) + (k : Int)).toNat = a + k := by omega
          have hch := l[a + k].toNat_lt
          generalize l[a + k] = ch at *
          by_cases h9 : k = 9 ∧ 1 < ch.toNat
          · obtain ⟨h90, h91⟩ := h9
            have hq6 : Kept (q = (0, 0, 6)) := ⟨by rw [← hgc.out, Vi.get1_cons, if_pos ⟨h90, h91⟩]⟩
            have h91' : (1 : Int) < (ch.toNat : Int) := by omega
            have hk9b : ((k : Int) == 9) = true := by simp; omega
            clear h90
            go_wp2
            go_ret3
            exact ⟨by rw [hfin.out, hq6.out]; rfl, rfl⟩
          · have hgc' : Kept (ch.toNat = 0 ∧ 0 < k ∧ q = (0, 0, 5) ∨ ¬ (ch.toNat = 0 ∧ 0 < k) ∧ ch.toNat < 128 ∧ q = (x + ch.toNat % 128 * 128 ^ k, k + 1, 0) ∨
                128 ≤ ch.toNat ∧ Vi.get1 (l.drop (a + (k + 1))) (k + 1) (x + ch.toNat % 128 * 128 ^ k) = q) := ⟨by
              have h := hgc.out
              rw [Vi.get1_cons, if_neg h9] at h
              by_cases c1 : ch.toNat = 0 ∧ 0 < k
              · rw [if_pos c1] at h; exact .inl ⟨c1.1, c1.2, h.symm⟩
              · rw [if_neg c1] at h
                by_cases c2 : ch.toNat < 128
                · rw [if_pos c2] at h; exact .inr (.inl ⟨c1, c2, h.symm⟩)
                · rw [if_neg c2] at h; exact .inr (.inr ⟨by omega, h⟩)⟩
            have hlt64 := Kept.mk (Vi.step_lt hx.out hk9 h9)
            have hlt128 := Kept.mk (Vi.step_lt' (c := ch.toNat) hx.out)
            have hor : Kept (IntKind.u64.wrap ((x : Int) + IntKind.u64.wrap ((ch.toNat : Int) % 128 * (u : Int))) = ((x + ch.toNat % 128 * 128 ^ k : Nat) : Int)) := ⟨by
              rw [← hu.out]
              exact vi_add x ch.toNat u (by rw [hu.out]; exact hlt64.out)⟩
            have hmul : k ≤ 8 → IntKind.u64.wrap ((u : Int) * 128) = ((u * 128 : Nat) : Int) := fun h => vi_mul u (by
              rw [hu.out, ← Nat.pow_succ]
              have h2 := Vi.pow_le (i := k + 1) (by omega)
              omega)
            have Hmul := Kept.mk hmul
            clear hgc hg hmul
            generalize ch.toNat = m at *
            have hm9 : k = 9 → m ≤ 1 := fun h => by omega
            have k9 : ((k : Int) == 9) = true ∧ (m : Int) ≤ 1 ∨ ((k : Int) == 9) = false := by
              by_cases h : k = 9
              · exact .inl ⟨by simp; omega, by have := hm9 h; omega⟩
              · exact .inr (by simp; omega)
            clear hm9
            by_cases hm0 : m = 0 ∧ 0 < k
            · obtain ⟨hm00, hk0⟩ := hm0
              have hq5 : Kept (q = (0, 0, 5)) := ⟨by
                rcases hgc'.out with ⟨_, _, h⟩ | ⟨h, _⟩ | ⟨h, _⟩
                · exact h
                · exact absurd ⟨hm00, hk0⟩ h
                · omega⟩
              have hk0' : (0 : Int) < (k : Int) := by omega
              have hm0' : ((m : Int) == 0) = true := by simp; omega
              have hmi : (m : Int) < 128 := by omega
              clear hm00 h9
              rcases k9 with ⟨k9, k91⟩ | k9
              all_goals
                go_wp2
                go_ret3
                exact ⟨by rw [hfin.out, hq5.out]; rfl, rfl⟩
            · by_cases hm : m < 128
              · have hq3 : Kept (q = (x + m % 128 * 128 ^ k, k + 1, 0)) := ⟨by
                  rcases hgc'.out with ⟨h1, h2, _⟩ | ⟨_, _, h⟩ | ⟨h, _⟩
                  · exact absurd ⟨h1, h2⟩ hm0
                  · exact h
                  · omega⟩
                have hm' : (m : Int) < 128 := by omega
                have hend : Kept (.tuple #[.int .u64 ((x + m % 128 * 128 ^ k : Nat) : Int), .int .i64 ((a : Int) + (k : Int) + 1), .int .i64 0] = getV r) := ⟨by
                  rw [hfin.out, hq3.out, if_pos rfl, getV, Int.natCast_add k 1, Int.add_assoc]; rfl⟩
                have hmk : ((m : Int) == 0) = false ∨ ((m : Int) == 0) = true ∧ (k : Int) ≤ 0 := by
                  by_cases h : m = 0
                  · exact .inr ⟨by simp; omega, by omega⟩
                  · exact .inl (by simp; omega)
                clear hm0 h9
                rcases k9 with ⟨k9, k91⟩ | k9
                all_goals
                  rcases hmk with hmk | ⟨hmk, hmk2⟩
                  all_goals
                    go_wp2
                    go_ret3
                    exact ⟨by show Ending.returned (.tuple #[.int .u64 (IntKind.u64.wrap ((x : Int) + IntKind.u64.wrap ((m : Int) % 128 * (u : Int)))), .int .i64 ((a : Int) + (k : Int) + 1), .int .i64 0]) = _; rw [hor.out, hend.out], rfl⟩
              · have hk8 : k ≤ 8 := by omega
                have hm' : (128 : Int) ≤ (m : Int) := by omega
                have hnext : Kept (Vi.get1 (l.drop (a + (k + 1))) (k + 1) (x + m % 128 * 128 ^ k) = q) := ⟨by
                  rcases hgc'.out with ⟨h1, h2, _⟩ | ⟨_, h, _⟩ | ⟨_, h⟩
                  · exact absurd ⟨h1, h2⟩ hm0
                  · omega
                  · exact h⟩
                clear hm0 h9
                rcases k9 with ⟨k9, k91⟩ | k9
                · omega
                · go_wp2
                  go_round
                  case rel => exact ⟨k + 1, x + m % 128 * 128 ^ k, u * 128, by omega, by omega, by go_num, by rw [hor.out], by rw [Hmul.out hk8], ⟨by rw [hu.out, Nat.pow_succ]⟩, hlt128, hnext⟩
                  case measure => simp [intOf]; omega
        · have hq0 : Kept (q = (0, 0, 3)) := ⟨by
            rw [← hg.out, List.drop_eq_nil_of_le (by have := hlen.out; omega)]
            rfl⟩
          have hki : (n : Int) ≤ (a : Int) + (k : Int) := by omega
          go_wp2
          go_ret3
          exact ⟨by rw [hfin.out, hq0.out]; rfl, rfl⟩

end Go.Proofs.Ythhcfocmaiacoaa
