/- The reference's Difference, Complement, Insert. -/
import Derived.Test.YtoomdjjjkolloabListsA
import Derived.Deep.DeepCutAuto
namespace Go.Proofs.Ytoomdjjjkolloab
open Go.RowKit

theorem OwnI.nil (w : World) (base : Nat) : OwnI w base none 0 0 [] := World.ownsRow_nil _ _ _ _
theorem RdI.zero (w : World) (B : Nat) (A : Option Addr) {m c : Nat} (hm : m = 0) (hc : c ≤ maxLen) : RdI w B A m c [] := by subst hm; exact Rd.nil w B 1 c A hc
theorem own_cap {w : World} {base n c sz : Nat} {A : Option Addr} {xs : List Value} {e : TypeId} (h : w.ownsRow base e sz (.slice A n c) n xs) (hc : 0 < c) : ∃ g, A = some ⟨g, 0, none⟩ := by
  rcases h.2 with ⟨hv, _⟩ | ⟨g, cap, cur, hv, _⟩
  · injection hv with h1 h2 h3; omega
  · injection hv with h1 h2 h3; exact ⟨g, h1⟩
theorem own_base {w : World} {base base' n c sz : Nat} {A : Option Addr} {xs : List Value} {e : TypeId} (h : w.ownsRow base e sz (.slice A n c) n xs) (hb : base' ≤ base) : w.ownsRow base' e sz (.slice A n c) n xs := by
  refine ⟨h.1, ?_⟩
  rcases h.2 with hn | ⟨g, cap, cur, hv, h1, rest⟩
  · exact .inl hn
  · exact .inr ⟨g, cap, cur, hv, by omega, rest⟩
theorem Ls.dif_take {a b : List Int} {k : Nat} (h : k < a.length) : Ls.dif (a.take (k + 1)) b = if Ls.has b a[k] then Ls.dif (a.take k) b else Ls.dif (a.take k) b ++ [a[k]] := by
  rw [List.take_succ_eq_append_getElem h]
  unfold Ls.dif
  rw [List.filter_append]
  cases hh : Ls.has b a[k] <;> simp [hh]
theorem Ls.dif_len (a b : List Int) : (Ls.dif a b).length ≤ a.length := List.length_filter_le _ _
theorem Ls.com_succ (l : List Int) (k : Nat) : Ls.com l (k + 1) = if Ls.has l (k : Int) then Ls.com l k else Ls.com l k ++ [(k : Int)] := by
  unfold Ls.com Ls.upto
  rw [List.range_succ, List.map_append, List.filter_append]
  cases hh : Ls.has l (k : Int) <;> simp [hh]
theorem Ls.com_len (l : List Int) (k : Nat) : (Ls.com l k).length ≤ k := by
  have := List.length_filter_le (fun x => !Ls.has l x) (Ls.upto k)
  simpa [Ls.com, Ls.upto] using this

set_option maxHeartbeats 1000000 in
theorem refDifference_any (A1 A2 : Option Addr) (n1 n2 c1 c2 : Nat) (l1 l2 : List Int) (w : World) (B1 B2 : Nat) (h1 : RdI w B1 A1 n1 c1 l1) (h2 : RdI w B2 A2 n2 c2 l2) (hB1 : B1 ≤ w.heap.size) (hB2 : B2 ≤ w.heap.size) (hl : n1 ≤ 1000000) :
    Calls Try.prog 19 #[.slice A1 n1 c1, .slice A2 n2 c2] w fun e w' => ∃ A3 n3 c3, e = .returned (.slice A3 n3 c3) ∧ OwnI w' w.heap.size A3 n3 c3 (Ls.dif l1 l2) ∧ Below w.heap.size w w' := by
  have hlc1 := h1.1
  have hn1 := Kept.mk h1.len
  have H1 := hide h1
  have H2 := hide h2
  clear h1 h2
  go_enter Try.func19, Try.ntmps19
  go_wp2
  go_loopw [5, 6] (fun o i wr => ∃ k : Nat, k ≤ n1 ∧ i = .int .i64 k ∧ ∃ A3 n3 c3, o = .slice A3 n3 c3 ∧ n3 ≤ k ∧ OwnI wr w.heap.size A3 n3 c3 (Ls.dif (l1.take k) l2) ∧ Below w.heap.size w wr) (fun _ i _ => n1 - (intOf i).toNat)
  case atStart => exact ⟨0, by omega, rfl, none, 0, 0, rfl, by omega, OwnI.nil _ _, Below.refl _ _⟩
  case round =>
    obtain ⟨k, hk, rfl, A3, n3, c3, rfl, hn3, ho, hb⟩ := hrel
    have hz := hb.size
    by_cases hlt : k < n1
    · have hkl : k < l1.length := by rw [← hn1.out]; exact hlt
      obtain ⟨b, off, rfl, hbb, hc1⟩ := (H1.out.below (hb.mono hB1)).at_ hkl
      have hst := Kept.mk (Ls.dif_take (b := l2) hkl)
      obtain ⟨x, hx⟩ : ∃ x, x = l1[k] := ⟨_, rfl⟩
      rw [← hx] at hst hc1
      clear hx
      have r2 := Kept.mk (H2.out.below (hb.mono hB2))
      cases hh : Ls.has l2 x with
      | true =>
        have hst2 := Kept.mk hst.out
        rw [hh] at hst2
        go_wp2_with (go_at_call 28; refine (has_any _ _ _ l2 x _ B2 r2.out).mono ?_; rintro e w2 ⟨rfl, rfl⟩; rw [hh])
        go_roundw
        case rel => exact ⟨k + 1, by omega, by go_num, A3, n3, c3, rfl, by omega, by rw [hst2.out]; exact ho, hb⟩
        case measure => simp [intOf]; omega
      | false =>
        have hst2 := Kept.mk hst.out
        rw [hh] at hst2
        go_wp2_with (first
          | (go_at_call 28; refine (has_any _ _ _ l2 x _ B2 r2.out).mono ?_; rintro e w2 ⟨rfl, rfl⟩; rw [hh])
          | (at_builtin; refine wpList_appI rfl (.tmp 20) (.tmp 25) rfl w.heap.size A3 n3 c3 _ rfl (World.ownsRow.alloc ho _) (wr.heap.size + 1) _ _ _ [x] rfl (RdI.one wr x) (by omega) (by simp; omega) ?_; intro A4 c4 w4 hown4 hgrow4 hat4))
        have hb4 : Below w.heap.size w w4 := (hb.alloc hz _).grown hgrow4 (by simp; omega) (fun g hg => (own_lt ho g hg).1)
        go_roundw
        case rel => exact ⟨k + 1, by omega, by go_num, A4, n3 + 1, c4, rfl, by omega, by rw [hst2.out]; exact hown4, hb4⟩
        case measure => simp [intOf]; omega
    · obtain rfl : k = n1 := by omega
      rw [List.take_of_length_le (by rw [← hn1.out]; omega)] at ho
      go_wp2
      go_ret
      exact ⟨A3, n3, c3, rfl, ho, hb⟩

set_option maxHeartbeats 1000000 in
theorem refComplement_any (A1 : Option Addr) (n1 c1 : Nat) (l1 : List Int) (n : Int) (w : World) (B1 : Nat) (h1 : RdI w B1 A1 n1 c1 l1) (hB1 : B1 ≤ w.heap.size) (hl : n ≤ 1000000) :
    Calls Try.prog 21 #[.slice A1 n1 c1, .int .i64 n] w fun e w' => ∃ A3 n3 c3, e = .returned (.slice A3 n3 c3) ∧ OwnI w' w.heap.size A3 n3 c3 (Ls.com l1 n.toNat) ∧ Below w.heap.size w w' := by
  have H1 := hide h1
  clear h1
  go_enter Try.func21, Try.ntmps21
  go_wp2
  go_loopw [5, 6] (fun o i wr => ∃ k : Nat, k ≤ n.toNat ∧ i = .int .i64 k ∧ ∃ A3 n3 c3, o = .slice A3 n3 c3 ∧ n3 ≤ k ∧ OwnI wr w.heap.size A3 n3 c3 (Ls.com l1 k) ∧ Below w.heap.size w wr) (fun _ i _ => n.toNat - (intOf i).toNat)
  case atStart => exact ⟨0, by omega, rfl, none, 0, 0, rfl, by omega, OwnI.nil _ _, Below.refl _ _⟩
  case round =>
    obtain ⟨k, hk, rfl, A3, n3, c3, rfl, hn3, ho, hb⟩ := hrel
    have hz := hb.size
    by_cases hlt : (k : Int) < n
    · have hst := Kept.mk (Ls.com_succ l1 k)
      have r1 := Kept.mk (H1.out.below (hb.mono hB1))
      cases hh : Ls.has l1 (k : Int) with
      | true =>
        have hst2 := Kept.mk hst.out
        rw [hh] at hst2
        go_wp2_with (go_at_call 28; refine (has_any _ _ _ l1 k _ B1 r1.out).mono ?_; rintro e w2 ⟨rfl, rfl⟩; rw [hh])
        go_roundw
        case rel => exact ⟨k + 1, by omega, by go_num, A3, n3, c3, rfl, by omega, by rw [hst2.out]; exact ho, hb⟩
        case measure => simp [intOf]; omega
      | false =>
        have hst2 := Kept.mk hst.out
        rw [hh] at hst2
        go_wp2_with (first
          | (go_at_call 28; refine (has_any _ _ _ l1 k _ B1 r1.out).mono ?_; rintro e w2 ⟨rfl, rfl⟩; rw [hh])
          | (at_builtin; refine wpList_appI rfl (.tmp 16) (.tmp 18) rfl w.heap.size A3 n3 c3 _ rfl (World.ownsRow.alloc ho _) (wr.heap.size + 1) _ _ _ [(k : Int)] rfl (RdI.one wr k) (by omega) (by simp; omega) ?_; intro A4 c4 w4 hown4 hgrow4 hat4))
        have hb4 : Below w.heap.size w w4 := (hb.alloc hz _).grown hgrow4 (by simp; omega) (fun g hg => (own_lt ho g hg).1)
        go_roundw
        case rel => exact ⟨k + 1, by omega, by go_num, A4, n3 + 1, c4, rfl, by omega, by rw [hst2.out]; exact hown4, hb4⟩
        case measure => simp [intOf]; omega
    · have hkn := Kept.mk (show k = n.toNat by omega)
      go_wp2
      go_ret
      exact ⟨A3, n3, c3, rfl, by rw [← hkn.out]; exact ho, hb⟩

theorem Ls.low_len (l : List Int) (x : Int) : (Ls.low l x).length ≤ l.length := (List.takeWhile_sublist _).length_le
theorem Ls.low_take (l : List Int) (x : Int) (k : Nat) (hk : k ≤ (Ls.low l x).length) : l.take k = (Ls.low l x).take k := by
  conv => lhs; rw [← Ls.low_split l x]
  rw [List.take_append_of_le_length hk]
theorem Ls.low_lt (l : List Int) (x : Int) : ∀ (k : Nat) (hk : k < l.length), k ≤ (Ls.low l x).length → (l[k] < x ↔ k < (Ls.low l x).length) := by
  unfold Ls.low
  induction l with
  | nil => intro k hk; simp at hk
  | cons y l ih =>
    intro k hk hkl
    rw [List.takeWhile_cons] at hkl ⊢
    by_cases hy : y < x
    · simp only [hy, decide_true, if_true, List.length_cons] at hkl ⊢
      match k, hk with
      | 0, _ => simp [hy]
      | k + 1, hk =>
        have := ih k (by simpa using hk) (by omega)
        simp only [List.getElem_cons_succ]
        omega
    · simp only [hy, decide_false] at hkl ⊢
      simp at hkl
      subst hkl
      simp [hy]
set_option maxHeartbeats 1000000 in
theorem refInsert_any (A : Option Addr) (n c base : Nat) (l : List Int) (x : Int) (w : World) (hv : OwnI w base A n c l) (hB : base ≤ w.heap.size) (hl : n ≤ 1000000) :
    Calls Try.prog 30 #[.slice A n c, .int .i64 x] w fun e w' => ∃ A3 n3 c3, e = .returned (.slice A3 n3 c3) ∧ n3 ≤ n + 1 ∧ OwnI w' base A3 n3 c3 (Ls.ins l x) ∧ Below w.heap.size w w' := by
  have hv2 := hv.rd
  have hlc := hv2.1
  have hcm := hv2.2.1
  unfold maxLen at hcm
  have hn := Kept.mk hv.len
  have Hv := hide hv2
  have Ho := hide hv
  clear hv hv2
  cases hh : Ls.has l x with
  | true =>
    go_enter Try.func30, Try.ntmps30
    go_wp2_with (go_at_call 28; refine (has_any _ _ _ l x _ _ Hv.out).mono ?_; rintro e w2 ⟨rfl, rfl⟩; rw [hh])
    go_ret
    exact ⟨A, n, c, rfl, by omega, by unfold Ls.ins; rw [hh]; exact Ho.out, Below.refl _ _⟩
  | false =>
    have hlow := Ls.low_len l x
    rw [← hn.out] at hlow
    obtain ⟨m, hm⟩ : ∃ m, m = (Ls.low l x).length := ⟨_, rfl⟩
    rw [← hm] at hlow
    have Hm := Kept.mk hm
    clear hm
    go_enter Try.func30, Try.ntmps30
    go_wp2_with (go_at_call 28; refine (has_any _ _ _ l x _ _ Hv.out).mono ?_; rintro e w2 ⟨rfl, rfl⟩; rw [hh])
    go_loopw [5, 6] (fun o i wr => ∃ k : Nat, k ≤ m ∧ i = .int .i64 k ∧ ∃ A3 c3, o = .slice A3 k c3 ∧ OwnI wr w.heap.size A3 k c3 (l.take k) ∧ Below w.heap.size w wr) (fun _ i _ => m - (intOf i).toNat)
    case atStart => exact ⟨0, by omega, rfl, none, 0, rfl, OwnI.nil _ _, Below.refl _ _⟩
    case round =>
      obtain ⟨k, hk, rfl, A3, c3, rfl, ho, hb⟩ := hrel
      have hz := hb.size
      have r1 := Kept.mk (Hv.out.below hb)
      by_cases hlt : k < m
      · have hkn : k < n := by omega
        have hkl : k < l.length := by rw [← hn.out]; exact hkn
        obtain ⟨b, off, rfl, hbb, hc1⟩ := r1.out.at_ hkl
        have hlt2 : l[k] < x := (Ls.low_lt l x k hkl (by rw [← Hm.out]; omega)).2 (by rw [← Hm.out]; exact hlt)
        have hst := Kept.mk (List.take_succ_eq_append_getElem hkl)
        obtain ⟨y, hy⟩ : ∃ y, y = l[k] := ⟨_, rfl⟩
        rw [← hy] at hst hc1 hlt2
        clear hy
        go_wp2_with (at_builtin; refine wpList_appI rfl (.tmp 26) (.tmp 31) rfl w.heap.size A3 k c3 _ rfl (World.ownsRow.alloc ho _) (wr.heap.size + 1) _ _ _ [y] rfl (RdI.one wr y) (by omega) (by simp; omega) ?_; intro A4 c4 w4 hown4 hgrow4 hat4)
        have hb4 : Below w.heap.size w w4 := (hb.alloc hz _).grown hgrow4 (by simp; omega) (fun g hg => (own_lt ho g hg).1)
        go_roundw
        case rel => exact ⟨k + 1, by omega, by go_num, A4, c4, rfl, by rw [hst.out]; exact hown4, hb4⟩
        case measure => simp [intOf]; omega
      · obtain rfl : k = m := by omega
        have hfin : Kept (l.take k ++ [x] ++ l.drop k = Ls.ins l x) := ⟨by
          unfold Ls.ins
          rw [hh, Ls.low_take l x k (by rw [← Hm.out]; omega), ← Hm.out, List.take_of_length_le (by rw [← Hm.out]; omega)]
          simp⟩
        have hzw := hb.size
        by_cases hkn : k < n
        · have hkl : k < l.length := by rw [← hn.out]; exact hkn
          obtain ⟨b, off, rfl, hbb, hc1⟩ := r1.out.at_ hkl
          have hge : ¬ l[k] < x := fun h => by have := (Ls.low_lt l x k hkl (by rw [← Hm.out]; omega)).1 h; rw [← Hm.out] at this; omega
          obtain ⟨y, hy⟩ : ∃ y, y = l[k] := ⟨_, rfl⟩
          rw [← hy] at hc1 hge
          clear hy
          have r3 : ∀ w5, Below w.heap.size w w5 → RdI w5 w.heap.size _ (n - k) (c - k) (l.drop k) := fun w5 h5 => RdI.drop (k := k) (Hv.out.below h5) (by omega)
          rw [if_neg (by omega)] at r3
          simp only [Option.map_some, add_plain] at r3
          go_wp2_with (first
            | (at_builtin; refine wpList_appI rfl (.tmp 35) (.tmp 37) rfl w.heap.size A3 k c3 _ rfl (World.ownsRow.alloc ho _) (wr.heap.size + 1) _ _ _ [x] rfl (RdI.one wr x) (by omega) (by simp; omega) ?_; intro A4 c4 w4 hown4 hgrow4 hat4; have hb4 : Below w.heap.size w w4 := (hb.alloc hz _).grown hgrow4 (by simp; omega) (fun g hg => (own_lt ho g hg).1))
            | (at_builtin; refine wpList_appI rfl (.tmp 39) (.tmp 42) rfl w.heap.size A4 _ c4 _ rfl hown4 w.heap.size _ _ _ (l.drop k) rfl (r3 _ hb4) (by omega) hb4.size ?_; intro A5 c5 w5 hown5 hgrow5 hat5; have hb5 : Below w.heap.size w w5 := hb4.grown hgrow5 hb4.size (fun g hg => (own_lt hown4 g hg).1)))
          go_ret
          exact ⟨A5, _, c5, rfl, by omega, by rw [← hfin.out]; exact own_base hown5 hB, hb5⟩
        · obtain rfl : k = n := by omega
          have hdr : Kept (l.drop k = []) := ⟨List.drop_eq_nil_of_le (by rw [← hn.out]; omega)⟩
          rw [hdr.out] at hfin
          by_cases hck : c = k
          · obtain rfl : k = c := hck.symm
            go_wp2_with (first
              | (at_builtin; refine wpList_appI rfl (.tmp 35) (.tmp 37) rfl w.heap.size A3 k c3 _ rfl (World.ownsRow.alloc ho _) (wr.heap.size + 1) _ _ _ [x] rfl (RdI.one wr x) (by omega) (by simp; omega) ?_; intro A4 c4 w4 hown4 hgrow4 hat4; have hb4 : Below w.heap.size w w4 := (hb.alloc hz _).grown hgrow4 (by simp; omega) (fun g hg => (own_lt ho g hg).1))
              | (at_builtin; refine wpList_appI rfl (.tmp 39) (.tmp 42) rfl w.heap.size A4 _ c4 _ rfl hown4 w.heap.size _ _ _ [] rfl (RdI.zero _ _ _ (by omega) (by unfold maxLen; omega)) (by omega) hb4.size ?_; intro A5 c5 w5 hown5 hgrow5 hat5; have hb5 : Below w.heap.size w w5 := hb4.grown hgrow5 hb4.size (fun g hg => (own_lt hown4 g hg).1)))
            go_ret
            exact ⟨A5, _, c5, rfl, by omega, by rw [← hfin.out]; exact own_base hown5 hB, hb5⟩
          · obtain ⟨g, rfl⟩ : ∃ g, A = some ⟨g, 0, none⟩ := own_cap Ho.out (by omega)
            go_wp2_with (first
              | (at_builtin; refine wpList_appI rfl (.tmp 35) (.tmp 37) rfl w.heap.size A3 k c3 _ rfl (World.ownsRow.alloc ho _) (wr.heap.size + 1) _ _ _ [x] rfl (RdI.one wr x) (by omega) (by simp; omega) ?_; intro A4 c4 w4 hown4 hgrow4 hat4; have hb4 : Below w.heap.size w w4 := (hb.alloc hz _).grown hgrow4 (by simp; omega) (fun g hg => (own_lt ho g hg).1))
              | (at_builtin; refine wpList_appI rfl (.tmp 39) (.tmp 42) rfl w.heap.size A4 _ c4 _ rfl hown4 w.heap.size _ _ _ [] rfl (RdI.zero _ _ _ (by omega) (by unfold maxLen; omega)) (by omega) hb4.size ?_; intro A5 c5 w5 hown5 hgrow5 hat5; have hb5 : Below w.heap.size w w5 := hb4.grown hgrow5 hb4.size (fun g hg => (own_lt hown4 g hg).1)))
            go_ret
            exact ⟨A5, _, c5, rfl, by omega, by rw [← hfin.out]; exact own_base hown5 hB, hb5⟩
end Go.Proofs.Ytoomdjjjkolloab
