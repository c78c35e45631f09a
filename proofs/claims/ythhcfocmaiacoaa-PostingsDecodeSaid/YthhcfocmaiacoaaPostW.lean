/- Chapter 15: the program's Build. -/
import Derived.Test.YthhcfocmaiacoaaPostD
import Derived.Test.YthhcfocmaiacoaaPostM
import Derived.Test.YthhcfocmaiacoaaPostO
import Derived.Test.YthhcfocmaiacoaaPostX
namespace Go.Proofs.Ythhcfocmaiacoaa
open Go.RowKit Go.Shelf
open Go.ChangeMaps (setBlock heap_setBlock_same heap_setBlock_other)

/-- entries' rows, each of the call's own, no two in one block -/
def Rows (w : World) (base : Nat) (zs : List (Lab × Value)) (es : List EntV) : Prop :=
  zs.length = es.length ∧ ∀ (i : Nat) (h1 : i < zs.length) (h2 : i < es.length), zs[i].1 = es[i].1 ∧ ∃ A n c, zs[i].2 = .slice A n c ∧ OwnI w base A n c es[i].2 ∧
    ∀ (j : Nat) (_ : j < zs.length) A' n' c', j ≠ i → zs[j].2 = .slice A' n' c' → ab A = none ∨ ab A ≠ ab A'
theorem Rows.keys {w : World} {base : Nat} {zs : List (Lab × Value)} {es : List EntV} (h : Rows w base zs es) : zs.map (·.1) = es.map (·.1) := by
  apply List.ext_getElem (by simp [h.1])
  intro i h1 h2
  simp only [List.getElem_map]
  exact (h.2 i (by simpa using h1) (by simpa using h2)).1
theorem Rows.nil (w : World) (base : Nat) : Rows w base [] [] := ⟨rfl, fun i h => by simp at h⟩
theorem Rows.kept {w w' : World} {base : Nat} {zs : List (Lab × Value)} {es : List EntV} {row : Option Nat} (h : Rows w base zs es) (hg : w.grownBy w' row)
    (hr : ∀ r, row = some r → ∃ o : Obj, w.heap[r]? = some o ∧ o.isCells = false) : Rows w' base zs es := by
  refine ⟨h.1, fun i h1 h2 => ?_⟩
  obtain ⟨e, A, n, c, e2, o, ap⟩ := h.2 i h1 h2
  exact ⟨e, A, n, c, e2, own_aside o hg (fun r e => .inr (hr r e)), ap⟩
theorem setBlock_grown {w : World} {b : Nat} (o : Obj) : w.grownBy (setBlock w b o) (some b) := by
  refine ⟨rfl, rfl, rfl, by simp [setBlock], fun i _ hi => ?_⟩
  show (w.heap.setIfInBounds b o)[i]? = _
  rw [Array.getElem?_setIfInBounds_ne]
  exact fun e => hi (by rw [e])
/-- a row has grown -/
theorem Rows.grow {w w1 w2 : World} {base : Nat} {zs : List (Lab × Value)} {es : List EntV} (h : Rows w base zs es) {i : Nat} (h1 : i < zs.length) (h2 : i < es.length) {A A4 : Option Addr} {n c c4 : Nat} (e : zs[i].2 = .slice A n c)
    (hw1 : w.grownBy w1 Option.none) (hg : w1.grownBy w2 (ab A)) (hat : ab A4 = ab A ∨ ab A4 = some w1.heap.size) {v : Int} (ho : OwnI w2 base A4 (n + 1) c4 (es[i].2 ++ [v])) :
    Rows w2 base (zs.set i (zs[i].1, .slice A4 (n + 1) c4)) (es.set i (es[i].1, es[i].2 ++ [v])) := by
  have kA : ∀ {A' : Option Addr} {n' c' : Nat} {l' : List Int}, OwnI w base A' n' c' l' → OwnI w1 base A' n' c' l' := fun h => own_grown h hw1 (by rcases hq : ab _ with _ | g; exact .inl rfl; exact .inr (by simp))
  have hsz := hw1.size
  obtain ⟨ek, A0, n0, c0, e0, o0, ap0⟩ := h.2 i h1 h2
  rw [e] at e0
  injection e0 with e1 e2 e3
  subst e1; subst e2; subst e3
  refine ⟨by simp [h.1], fun j hj1 hj2 => ?_⟩
  have hj1' : j < zs.length := by simpa using hj1
  have hj2' : j < es.length := by simpa using hj2
  simp only [List.getElem_set]
  by_cases hij : i = j
  · subst hij
    simp only [if_true]
    refine ⟨ek, A4, n + 1, c4, rfl, ho, fun k hk A' n' c' hne hk2 => ?_⟩
    have hk' : k < zs.length := by simpa using hk
    rw [if_neg (fun e => hne e.symm)] at hk2
    rcases hat with h4 | h4
    · rw [h4]; exact ap0 k hk' A' n' c' hne hk2
    · rw [h4]
      refine .inr fun e => ?_
      obtain ⟨_, A5, n5, c5, e5, o5, _⟩ := h.2 k hk' (by rw [← h.1]; exact hk')
      rw [hk2] at e5
      injection e5 with e6
      subst e6
      have h5 := (own_lt o5 _ e.symm).2
      omega
  · simp only [if_neg hij]
    obtain ⟨ek', A', n', c', e', o', ap'⟩ := h.2 j hj1' hj2'
    have hap : ab A' = Option.none ∨ ab A' ≠ ab A := ap' i h1 A n c hij e
    refine ⟨ek', A', n', c', e', own_grown (kA o') hg hap, fun k hk A5 n5 c5 hne hk2 => ?_⟩
    have hk' : k < zs.length := by simpa using hk
    by_cases hik : i = k
    · subst hik
      simp only [if_true] at hk2
      injection hk2 with e6
      subst e6
      rcases hat with h4 | h4
      · rw [h4]; exact hap
      · rw [h4]
        rcases hq : ab A' with _ | g
        · exact .inl rfl
        · refine .inr fun e => ?_
          have h5 := (own_lt o' g hq).2
          have h6 : g = w1.heap.size := by simpa using e
          omega
    · rw [if_neg hik] at hk2
      exact ap' k hk' A5 n5 c5 hne hk2
theorem Rows.push {w : World} {base : Nat} {zs : List (Lab × Value)} {es : List EntV} (h : Rows w base zs es) (x : Lab) : Rows w base (zs ++ [(x, .slice Option.none 0 0)]) (es ++ [(x, [])]) := by
  refine ⟨by simp [h.1], fun i h1 h2 => ?_⟩
  by_cases hlt : i < zs.length
  · have hlt2 : i < es.length := by rw [← h.1]; exact hlt
    obtain ⟨e, A, n, c, e2, o, ap⟩ := h.2 i hlt hlt2
    rw [List.getElem_append_left hlt, List.getElem_append_left hlt2]
    refine ⟨e, A, n, c, e2, o, fun j hj A' n' c' hne hj2 => ?_⟩
    by_cases hjl : j < zs.length
    · rw [List.getElem_append_left hjl] at hj2
      exact ap j hjl A' n' c' hne hj2
    · have : j = zs.length := by simp at hj; omega
      subst this
      simp at hj2
      rw [← hj2.1]
      rcases hq : ab A with _ | g
      · exact .inl rfl
      · exact .inr (by simp [ab])
  · have hi : i = zs.length := by simp at h1; omega
    subst hi
    refine ⟨by simp [h.1], Option.none, 0, 0, by simp, ?_, fun j hj A' n' c' _ _ => .inl rfl⟩
    have : (es ++ [(x, [])])[zs.length]'h2 = (x, []) := by simp [h.1]
    rw [this]
    exact World.ownsRow_nil _ _ _ _
end Go.Proofs.Ythhcfocmaiacoaa
namespace Go.Proofs.Ythhcfocmaiacoaa
open Go.RowKit Go.Shelf
open Go.ChangeMaps (setBlock heap_setBlock_same heap_setBlock_other)

namespace Ps
theorem prs_app : ∀ (M N : List (List Lab)) (k : Nat), prs (M ++ N) k = prs M k ++ prs N (k + M.length)
  | [], N, k => by simp [prs]
  | m :: M, N, k => by
    rw [List.cons_append, prs, prs_app M N (k + 1), prs, List.append_assoc, List.length_cons, show k + 1 + M.length = k + (M.length + 1) by omega]
theorem prs_take (M : List (List Lab)) {k : Nat} (h : k < M.length) : prs (M.take (k + 1)) 0 = prs (M.take k) 0 ++ M[k].map (fun x => (x, (k : Int))) := by
  rw [List.take_succ_eq_append_getElem h, prs_app]
  have : (M.take k).length = k := by rw [List.length_take]; omega
  rw [this]
  simp [prs]
theorem prs_len : ∀ (M : List (List Lab)) (k : Nat), (prs M k).length ≤ wt M
  | [], _ => by simp [prs]
  | m :: M, k => by
    have := prs_len M (k + 1)
    simp only [prs, wt, List.length_append, List.length_map, List.map_cons, List.sum_cons] at this ⊢
    omega
theorem wt_take (M : List (List Lab)) (k : Nat) : wt (M.take k) ≤ wt M := by
  unfold wt
  conv => rhs; rw [← List.take_append_drop k M, List.map_append, List.sum_append]
  omega
theorem ser_len (x : Lab) (P : List (Lab × Int)) : (ser x P).length ≤ P.length := by
  unfold ser
  rw [List.length_map]
  exact List.length_filter_le _ _
theorem MIn.len {P : List (Lab × Int)} {es : List EntV} (h : MIn P es) (hd : (es.map (·.1)).Nodup) : es.length ≤ P.length := by
  have := nodup_len _ _ hd (fun x hx => (h.1 x).1 hx)
  simpa using this
end Ps
theorem step_appE {w : World} {ops : Array Oper} {o : Oper} {a : Act} {K : Act → World → Prop} {Q : Exit → Act → World → Prop} {E : Prop} (hgd : o.guard = none) (s x : Operand)
    (ho : o.op = .call { callee := .builtin .append, args := #[s, x], argTypes := #[51, 51] })
    (base : Nat) (A : Option Addr) (n c : Nat) (xs : List Value) (hs : a.eval s = .slice A n c) (hown : w.ownsRow base 110 3 (.slice A n c) n xs)
    (B : Nat) (S : Option Addr) (news : List Value) (hx : a.eval x = .slice S 1 1) (hr : Rd w B 3 S 1 1 news) (h1 : ∀ u ∈ news, u.oneCell' = true)
    (hlen : n ≤ 1000000000) (hbase : base ≤ w.heap.size)
    (h : ∀ A2 c2 w', w'.ownsRow base 110 3 (.slice A2 (n + 1) c2) (n + 1) (xs ++ news) → w.grownBy w' (ab A) → (ab A2 = ab A ∨ ab A2 = some w.heap.size) → K (a.put o.dst (.slice A2 (n + 1) c2)) w') :
    if Region.wanted o (yielded ops a.tmps) = true then Oper.wp Try.prog o a w K Q else E := by
  have hw : Region.wanted o (yielded ops a.tmps) = true := by simp [Region.wanted, hgd]
  rw [if_pos hw]
  obtain ⟨i0, hi0, hz0, hz1, hz2⟩ := info_parts infoEp
  exact wp_app w s x _ ho base 110 i0 _ 3 56 Try.underlying51 hi0 hz0 hz1 hz2 rfl (by decide) A n c xs hs hown B S 1 1 news hx hr h1 (by unfold maxLen; omega) (by omega) hbase h
/-- the index on the way -/
def BIn (w0 : World) (b : Nat) (P : List (Lab × Int)) (w : World) : Prop :=
  ∃ zs es, MapL w b zs ∧ Rows w w0.heap.size zs es ∧ Ps.MIn P es ∧ Below w0.heap.size w0 w
theorem BIn.start (w : World) : BIn w w.heap.size [] (w.alloc (.map #[] 0)) := ⟨[], [], MapL.made w, Rows.nil _ _, Ps.MIn.nil, (Below.refl _ w).alloc (Nat.le_refl _) _⟩
set_option maxRecDepth 100000 in
set_option maxHeartbeats 4000000 in
theorem build_any (A : Option Addr) (n c : Nat) (M : List (List Lab)) (w : World) (hv : RdLL w w.heap.size A n c M) (hs : Ps.Sets M) :
    Calls Try.prog 33 #[.slice A n c] w fun r w' => ∃ A2 n2 c2 E, r = .returned (.slice A2 n2 c2) ∧ Ps.Idx (Ps.prs M 0) E ∧ OwnEn 110 w' w.heap.size A2 n2 c2 E ∧ Below w.heap.size w w' := by
  have hcc := hv.cap
  have hlc := hcc.1
  have hcm := hcc.2
  unfold maxLen at hcm
  have V := Kept.mk hv
  have hn := Kept.mk hv.len
  have S := Kept.mk hs
  clear hv hs hcc
  go_enter Try.func33, Try.ntmps33
  have hr0 := run_makeMap (P := Try.prog) 111 w
  go_wp2
  have B0 := Kept.mk (BIn.start w)
  have hb0 : w.heap.size < (w.alloc (.map #[] 0)).heap.size := by simp
  generalize w.alloc (.map #[] 0) = w1 at *
  go_loopw [14] (fun i wr => ∃ k : Nat, k ≤ n ∧ i = .int .i64 k ∧ Kept (BIn w w.heap.size (Ps.prs (M.take k) 0) wr)) (fun i _ => n - (intOf i).toNat)
  case atStart => exact ⟨0, by omega, rfl, ⟨by simpa [Ps.prs] using B0.out⟩⟩
  case round =>
    obtain ⟨k, hk, rfl, hB⟩ := hrel
    by_cases hlt : k < n
    · have hkl : k < M.length := by rw [← hn.out]; exact hlt
      have hbel : Below w.heap.size w wr := by obtain ⟨_, _, _, _, _, h⟩ := hB.out; exact h
      obtain ⟨b, off, A', n', c', rfl, hbB, hc0, hrl⟩ := V.out.at_ hkl
      have hc := (hbel.cell (p := ⟨b, off + k, none⟩) (by show b < _; omega)).trans hc0
      have hpt := Kept.mk (Ps.prs_take M hkl)
      have HP : Kept (∀ j, (Ps.prs (M.take k) 0 ++ (M[k].take j).map (fun x => (x, (k : Int)))).length ≤ 300) := ⟨fun j => by
        have h1 := Ps.prs_len (M.take (k + 1)) 0
        have h2 := Ps.wt_take M (k + 1)
        have h3 := S.out.2
        rw [hpt.out] at h1
        simp only [List.length_append, List.length_map, List.length_take] at h1 ⊢
        omega⟩
      have hfit := Kept.mk (S.out.1 _ (List.getElem_mem hkl)).2
      have hRL := Kept.mk (And.intro hrl hrl.len)
      have hcl := hrl.1
      have hcl2 := hrl.2.1
      unfold maxLen at hcl2
      clear hbel hc0 hrl
      go_wp2
      have hB0 : Kept (BIn w w.heap.size (Ps.prs (M.take k) 0 ++ (M[k].take 0).map (fun x => (x, (k : Int)))) wr) := ⟨by simpa using hB.out⟩
      clear hB hc
      generalize M[k] = m at *
      obtain ⟨wo, rfl⟩ : ∃ wo : World, wo = wr := ⟨_, rfl⟩
      go_loopw [21] (fun i wq => ∃ j : Nat, j ≤ n' ∧ i = .int .i64 j ∧ Kept (BIn w w.heap.size (Ps.prs (M.take k) 0 ++ (m.take j).map (fun x => (x, (k : Int)))) wq)) (fun i _ => n' - (intOf i).toNat)
      case atStart => exact ⟨0, by omega, rfl, hB0⟩
      case round =>
        obtain ⟨j, hj, rfl, hB⟩ := hrel
        by_cases hlt2 : j < n'
        · have hjl : j < m.length := by rw [← hRL.out.2]; exact hlt2
          obtain ⟨zs, es, hm, hr, hi, hb⟩ := hB.out
          obtain ⟨b2, off2, rfl, hc2⟩ := hRL.out.1.cells (Nat.le_refl _) hjl
          obtain ⟨c0, c1⟩ := hc2 wr hb
          have hx : SmallL m[j] := hfit.out _ (List.getElem_mem hjl)
          have ht : Kept (m.take (j + 1) = m.take j ++ [m[j]]) := ⟨List.take_succ_eq_append_getElem hjl⟩
          clear hc2 hB
          generalize m[j] = x at *
          go_upto_region 8 with (fail)
          have hzb := hm.lt
          have hmA : MapL (wr.alloc (Obj.cells #[.string x.n, .string x.v] 67)) w.heap.size zs := hm.at_ (Below.heap_alloc _ _ _ hm.lt)
          have hrA : Rows (wr.alloc (Obj.cells #[.string x.n, .string x.v] 67)) w.heap.size zs es := hr.kept (World.grownBy_alloc _ _ none) (fun r e => by cases e)
          have hbA : Below w.heap.size w (wr.alloc (Obj.cells #[.string x.n, .string x.v] 67)) := hb.alloc hb.size _
          have d0 : (wr.alloc (Obj.cells #[.string x.n, .string x.v] 67)).cell? ⟨wr.heap.size, 0, none⟩ = some (.string x.n) := World.cell?_alloc_mark wr _ _ _ 0
          have d1 : (wr.alloc (Obj.cells #[.string x.n, .string x.v] 67)).cell? ⟨wr.heap.size, 1, none⟩ = some (.string x.v) := World.cell?_alloc_mark wr _ _ _ 1
          clear hm hr hb c0 c1
          generalize wr.heap.size = Z at *
          generalize wr.alloc (Obj.cells #[.string x.n, .string x.v] 67) = wA at *
          by_cases hin : x ∈ zs.map (·.1)
          · obtain ⟨p, hp, hpx⟩ := List.mem_map.1 hin
            obtain ⟨i, hil, hip⟩ := List.mem_iff_getElem.1 hp
            have hxi : zs[i].1 = x := by rw [hip]; exact hpx
            have hie : i < es.length := by rw [← hrA.1]; exact hil
            obtain ⟨hke, A1, n1, c1, hv1, ho1, hap⟩ := hrA.2 i hil hie
            have hmB : MapL (wA.alloc (Obj.cells #[.int .i64 k] 3)) w.heap.size zs := hmA.at_ (Below.heap_alloc _ _ _ hmA.lt)
            have hME := hmB.entry hil
            rw [hxi, hv1] at hME
            unfold kv at hME
            have hn1 : n1 ≤ 300 := by
              have h1 := ho1.len
              have h2 := hi.2 es[i] (List.getElem_mem hie)
              have h3 := Ps.ser_len es[i].1 (Ps.prs (M.take k) 0 ++ (m.take j).map (fun x => (x, (k : Int))))
              rw [← h2] at h3
              have h4 := HP.out j
              omega
            have O1 := Kept.mk ho1
            have HM := Kept.mk hmA
            have HR := Kept.mk hrA
            have HB := Kept.mk hbA
            have HV := Kept.mk (And.intro hxi (And.intro hke hv1))
            have hAm : ab A1 ≠ some w.heap.size := fun e => by
              have h1 := own_cellsAny ho1 _ _ e hmA.blk
              cases h1
            have hzA := hbA.size
            clear ho1 hmA hrA hbA hin hp hpx hip hxi hke hv1 hap
            go_wp2_with (at_builtin; refine wpList_appI rfl (.tmp 27) (.tmp 29) rfl w.heap.size A1 n1 c1 es[i].2 rfl (World.ownsRow.alloc O1.out _) (wA.heap.size + 1) _ _ _ [(k : Int)] rfl (RdI.one wA k) (by omega) (by simp; omega) ?_; intro A4 c4 w5 hown5 hgrow5 hat5; have hm5 : MapL w5 w.heap.size zs := hmB.at_ (hgrow5.block _ hmB.lt (fun e => hAm e.symm)); have hST := hm5.store hil (.slice A4 (n1 + 1) c4); have O5 := Kept.mk hown5; have G5 := Kept.mk hgrow5; have T5 := Kept.mk hat5; have M5 := Kept.mk hm5; clear hown5 hgrow5 hat5 hm5)
            go_roundw
            case rel =>
              have hnd : (es.map (·.1)).Nodup := by rw [← HR.out.keys]; exact HM.out.dup
              have hex : es[i].1 = x := by rw [← HV.out.2.1]; exact HV.out.1
              have hR5 := HR.out.grow hil hie HV.out.2.2 (World.grownBy_alloc _ _ none) G5.out T5.out O5.out
              have hS := setBlock_grown (w := w5) (b := w.heap.size) (.map (mE (zs.set i (zs[i].1, .slice A4 (n1 + 1) c4)) 0).toArray zs.length)
              have h1 := hi.hit hnd hie (k : Int)
              rw [hex] at h1
              refine ⟨j + 1, by omega, by go_num, ⟨_, _, M5.out.put hil _ rfl, hR5.kept hS (fun r e => by cases e; exact ⟨_, M5.out.blk, rfl⟩), ?_, ?_⟩⟩
              · rw [ht.out, List.map_append, ← List.append_assoc, hex]
                exact h1
              · exact ((HB.out.alloc hzA _).grown G5.out (by simp; omega) (fun g e => (own_lt O1.out g e).1)).grown hS (by have := G5.out.size; simp at this; omega) (fun g e => by cases e; exact Nat.le_refl _)
            case measure => simp [intOf]; omega
          · have hmB : MapL (wA.alloc (Obj.cells #[.int .i64 k] 3)) w.heap.size zs := hmA.at_ (Below.heap_alloc _ _ _ hmA.lt)
            have hME := hmB.fresh hx hin
            unfold kv at hME
            have hmC := hmB.push hx hin (.slice none 0 0)
            have hgS := setBlock_grown (w := wA.alloc (Obj.cells #[.int .i64 k] 3)) (b := w.heap.size) (.map (mE (zs ++ [(x, .slice none 0 0)]) 0).toArray (zs.length + 1))
            have hrC := ((hrA.kept (World.grownBy_alloc _ _ none) (fun r e => by cases e)).kept hgS (fun r e => by cases e; exact ⟨_, hmB.blk, rfl⟩)).push x
            have hZ : w.heap.size < wA.heap.size := hmA.lt
            have hrd : RdI (setBlock (wA.alloc (Obj.cells #[.int .i64 k] 3)) w.heap.size (.map (mE (zs ++ [(x, .slice none 0 0)]) 0).toArray (zs.length + 1))) (wA.heap.size + 1) (some ⟨wA.heap.size, 0, none⟩) 1 1 [(k : Int)] := by
              obtain ⟨h1, h2, h3, h4⟩ := RdI.one wA (k : Int)
              refine ⟨h1, h2, h3, fun _ => ?_⟩
              obtain ⟨q, off, e, hq, hcells⟩ := h4 (by omega)
              cases e
              exact ⟨_, _, rfl, hq, fun i u hu => (World.cell?_of_block (a := ⟨wA.heap.size, _, none⟩) (hgS.block _ (by simp) (by simp; omega))).trans (hcells i u hu)⟩
            have hbC : Below w.heap.size w (setBlock (wA.alloc (Obj.cells #[.int .i64 k] 3)) w.heap.size (.map (mE (zs ++ [(x, .slice none 0 0)]) 0).toArray (zs.length + 1))) := (hbA.alloc hbA.size _).grown hgS (by have := hbA.size; simp; omega) (fun g e => by cases e; exact Nat.le_refl _)
            have hsz : (setBlock (wA.alloc (Obj.cells #[.int .i64 k] 3)) w.heap.size (.map (mE (zs ++ [(x, .slice none 0 0)]) 0).toArray (zs.length + 1))).heap.size = wA.heap.size + 1 := by simp [setBlock]
            have HM := Kept.mk hmC
            have HR := Kept.mk hrC
            have HB := Kept.mk hbC
            have HX := Kept.mk (And.intro hrA.1 hin)
            have hr2 := Kept.mk hrA
            have HQ := Kept.mk hrd
            have hzC : wA.heap.size + 1 ≤ (setBlock (wA.alloc (Obj.cells #[.int .i64 k] 3)) w.heap.size (.map (mE (zs ++ [(x, .slice none 0 0)]) 0).toArray (zs.length + 1))).heap.size := by omega
            clear hmA hrA hbA hmB hmC hgS hrC hrd hbC hsz hin
            generalize setBlock (wA.alloc (Obj.cells #[.int .i64 k] 3)) w.heap.size (.map (mE (zs ++ [(x, .slice none 0 0)]) 0).toArray (zs.length + 1)) = wC at *
            go_wp2_with (at_builtin; refine wpList_appI rfl (.tmp 27) (.tmp 29) rfl w.heap.size none 0 0 [] rfl (World.ownsRow_nil _ _ _ _) (wA.heap.size + 1) _ _ _ [(k : Int)] rfl HQ.out (by omega) (by omega) ?_; intro A4 c4 w5 hown5 hgrow5 hat5; have hm5 : MapL w5 w.heap.size (zs ++ [(x, .slice none 0 0)]) := HM.out.at_ (hgrow5.block _ HM.out.lt (fun e => by cases e)); have hST := hm5.store (i := zs.length) (by simp) (.slice A4 (0 + 1) c4); have O5 := Kept.mk hown5; have G5 := Kept.mk hgrow5; have T5 := Kept.mk hat5; have M5 := Kept.mk hm5; clear hown5 hgrow5 hat5 hm5)
            go_roundw
            case rel =>
              have hp := M5.out.put (i := zs.length) (w' := w5) (by simp) (.slice A4 1 c4) rfl
              simp only [List.length_append, List.length_cons, List.length_nil, Nat.zero_add, List.getElem_concat_length, List.set_append_right _ _ (Nat.le_refl _), Nat.sub_self, List.set_cons_zero] at hp
              have hR5 := HR.out.grow (i := zs.length) (A := none) (n := 0) (c := 0) (A4 := A4) (c4 := c4) (v := (k : Int)) (by simp) (by simp [HX.out.1]) (by simp) (World.grownBy.refl _ _) G5.out T5.out (by
                have := O5.out
                simpa [HX.out.1] using this)
              have hS := setBlock_grown (w := w5) (b := w.heap.size) (.map (mE (zs ++ [(x, Value.slice A4 1 c4)]) 0).toArray (zs.length + 1))
              have hnin : x ∉ es.map (·.1) := by rw [← hr2.out.keys]; exact HX.out.2
              have h1 := hi.fresh hnin (k : Int)
              refine ⟨j + 1, by omega, by go_num, ⟨_, es ++ [(x, [(k : Int)])], hp, ?_, ?_, ?_⟩⟩
              · have := hR5.kept hS (fun r e => by cases e; exact ⟨_, M5.out.blk, rfl⟩)
                simpa [HX.out.1] using this
              · rw [ht.out, List.map_append, ← List.append_assoc]
                exact h1
              · exact (HB.out.grown G5.out HB.out.size (fun g e => by cases e)).grown hS (by have := G5.out.size; have := HB.out.size; omega) (fun g e => by cases e; exact Nat.le_refl _)
            case measure => simp [intOf]; omega
        · obtain rfl : j = n' := by omega
          have hB2 : Kept (BIn w w.heap.size (Ps.prs (M.take (k + 1)) 0) wr) := ⟨by
            have := hB.out
            rw [show m.take j = m from List.take_of_length_le (by rw [hRL.out.2]; exact Nat.le_refl _), ← hpt.out] at this
            exact this⟩
          clear hB hB0
          go_wp2
          go_roundw
          case rel => exact ⟨k + 1, by omega, by go_num, hB2⟩
          case measure => simp [intOf]; omega
    · obtain rfl : k = n := by omega
      have hall : Kept (M.take k = M) := ⟨List.take_of_length_le (by rw [← hn.out]; exact Nat.le_refl _)⟩
      obtain ⟨zs, es, hm, hr, hi, hb⟩ := hB.out
      rw [hall.out] at hi
      have hzl : zs.length ≤ 1000000 := by
        have h1 : (es.map (·.1)).Nodup := by rw [← hr.keys]; exact hm.dup
        have h2 := hi.len h1
        have h3 := Ps.prs_len M 0
        have h4 := S.out.2
        have h5 := hr.1
        omega
      have SF := Kept.mk (sortedFunc_any wr.heap.size w.heap.size zs (wr.alloc (.cells #[.map (some w.heap.size)] 111)) (Boxed.new wr _ _) (hm.at_ (Below.heap_alloc _ _ _ hm.lt)) hzl)
      have HM := Kept.mk hm
      have HR := Kept.mk hr
      have HB := Kept.mk hb
      have HI := Kept.mk hi
      have hzw := hb.size
      clear hB B0 hlt hm hr hb hi
      go_wp2_with (first
        | (go_at_call 70; refine SF.out.mono ?_; rintro e w2 ⟨A3, n3, c3, l, rfl, hF, hS, hR, hb2⟩; have F2 := Kept.mk hF; have S2 := Kept.mk hS; have R2 := Kept.mk hR; have B2 := Kept.mk hb2; clear hF hS hR hb2)
        | (go_at_call 71; refine (keysL_any _ _).mono ?_; rintro e w1' ⟨rfl, rfl⟩))
      have hb2 : Below wr.heap.size wr w2 := ((Below.refl _ _).alloc (Nat.le_refl _) _).trans (B2.out.mono (by simp))
      have hm2 : MapL w2 w.heap.size zs := HM.out.at_ (hb2.block _ HM.out.lt)
      have hr2 : Rows w2 w.heap.size zs es := HR.out.kept (row := none) (grown_of_below hb2) (fun r e => by cases e)
      have HM2 := Kept.mk hm2
      have HR2 := Kept.mk hr2
      have HBW := Kept.mk (HB.out.trans (hb2.mono hzw))
      have LN := Kept.mk R2.out.len
      have hl3 : n3 ≤ 1000000 := by
        have h1 := nodup_len _ _ F2.out.1 (fun x hx => (F2.out.2 x).1 hx)
        rw [List.length_map] at h1
        have := R2.out.len
        omega
      have hcl3 := R2.out.1
      have hcm3 := R2.out.2.1
      unfold maxLen at hcm3
      clear hb2 hm2 hr2 HM HR B2 HB SF
      generalize wr.heap.size = zr at *
      go_loopw [8, 39] (fun o i wr => ∃ k : Nat, k ≤ n3 ∧ i = .int .i64 k ∧ ∃ (A5 : Option Addr) (c5 : Nat), o = .slice A5 k c5 ∧ OwnEn 110 wr w2.heap.size A5 k c5 ((l.take k).map fun x => (x, Ps.ser x (Ps.prs M 0))) ∧ Below w2.heap.size w2 wr) (fun _ i _ => n3 - (intOf i).toNat)
      case atStart => exact ⟨0, by omega, rfl, none, 0, rfl, by simpa using OwnEn.nil w2 w2.heap.size, Below.refl _ _⟩
      case round =>
        obtain ⟨k, hk, rfl, A5, c5, rfl, ho, hb⟩ := hrel
        have O := Kept.mk ho
        have HB := Kept.mk hb
        have hzr := hb.size
        clear ho hb
        by_cases hlt : k < n3
        · have hkl : k < l.length := by rw [← LN.out]; exact hlt
          obtain ⟨b, off, rfl, hc⟩ := R2.out.cells (Nat.le_refl _) hkl
          obtain ⟨c0, c1⟩ := hc wr HB.out
          have hkey := (F2.out.2 _).1 (List.getElem_mem hkl)
          have ht := Kept.mk (List.take_succ_eq_append_getElem hkl)
          clear hc
          generalize l[k] = x at *
          obtain ⟨p, hp, hpx⟩ := List.mem_map.1 hkey
          obtain ⟨i, hil, hip⟩ := List.mem_iff_getElem.1 hp
          have hxi : zs[i].1 = x := by rw [hip]; exact hpx
          have hie : i < es.length := by rw [← HR2.out.1]; exact hil
          obtain ⟨hke, A1, n1, c1', hv1, ho1, -⟩ := HR2.out.2 i hil hie
          have hse : es[i].2 = Ps.ser x (Ps.prs M 0) := by
            have h1 := HI.out.2 _ (List.getElem_mem hie)
            rw [← hke, hxi] at h1; exact h1
          rw [hse] at ho1
          have HC : Kept (∀ W, Below w2.heap.size w2 W → (Instr.lookup 111 (.map (some w.heap.size)) (.agg #[.string x.n, .string x.v]) false).run Try.prog W = .ok (.slice A1 n1 c1') W) := ⟨fun W hW => by
            have h1 := (HM2.out.at_ (hW.block _ HM2.out.lt)).lookup hil
            rw [hxi, hv1] at h1
            exact h1⟩
          have SS := Kept.mk ho1
          clear hkey hp hpx hip hxi hke hv1 hse ho1
          go_upto_region 15 with (fail)
          have HWA : Kept (Below w2.heap.size w2 (wr.alloc (Obj.cells #[.string x.n, .string x.v] 67))) := ⟨HB.out.alloc hzr _⟩
          have d0 : (wr.alloc (Obj.cells #[.string x.n, .string x.v] 67)).cell? ⟨wr.heap.size, 0, none⟩ = some (.string x.n) := World.cell?_alloc_mark wr _ _ _ 0
          have d1 : (wr.alloc (Obj.cells #[.string x.n, .string x.v] 67)).cell? ⟨wr.heap.size, 1, none⟩ = some (.string x.v) := World.cell?_alloc_mark wr _ _ _ 1
          have OA := Kept.mk (O.out.keep ((Below.refl _ _).alloc (Nat.le_refl _) (Obj.cells #[.string x.n, .string x.v] 67)))
          have hzA : wr.heap.size < (wr.alloc (Obj.cells #[.string x.n, .string x.v] 67)).heap.size := by simp
          have HAZ : Kept (ab A5 ≠ some wr.heap.size) := ⟨fun e => by
            obtain ⟨_, _, h2, _⟩ := O.out
            have := (own_lt h2 _ e).2
            omega⟩
          have hzw2 := HWA.out.size
          clear c0 c1
          generalize wr.alloc (Obj.cells #[.string x.n, .string x.v] 67) = wA at *
          generalize wr.heap.size = Z at *
          have HD : Kept (∀ W, Below wA.heap.size wA W → W.cell? ⟨Z, 0, none⟩ = some (.string x.n) ∧ W.cell? ⟨Z, 1, none⟩ = some (.string x.v) ∧ (Instr.lookup 111 (.map (some w.heap.size)) (.agg #[.string x.n, .string x.v]) false).run Try.prog W = .ok (.slice A1 n1 c1') W) :=
            ⟨fun W hW => ⟨(hW.cell (p := ⟨Z, 0, none⟩) hzA).trans d0, (hW.cell (p := ⟨Z, 1, none⟩) hzA).trans d1, HC.out W (HWA.out.trans (hW.mono HWA.out.size))⟩⟩
          clear d0 d1
          obtain ⟨d0, d1, d2⟩ := HD.out wA (Below.refl _ _)
          have e0 := fun o => (HD.out (wA.alloc o) ((Below.refl _ _).alloc (Nat.le_refl _) o)).1
          have e1 := fun o => (HD.out (wA.alloc o) ((Below.refl _ _).alloc (Nat.le_refl _) o)).2.1
          have e2 := fun o => (HD.out (wA.alloc o) ((Below.refl _ _).alloc (Nat.le_refl _) o)).2.2
          obtain ⟨hs5, f1, f2, f3⟩ := OA.out
          have F2' := Kept.mk f2
          have F1' := Kept.mk f1
          have F3' := Kept.mk (show Ser wA hs5 _ from f3)
          clear f1 f2 f3
          have SA := Kept.mk (show OwnI wA 0 A1 n1 c1' (Ps.ser x (Ps.prs M 0)) from own_rebase (own_keepI SS.out HWA.out) (Nat.zero_le _))
          go_region_held3 (fun w' => w'.cell? ⟨Z, 0, none⟩ = some (.string x.n) ∧ w'.cell? ⟨Z, 1, none⟩ = some (.string x.v) ∧ (Instr.lookup 111 (.map (some w.heap.size)) (.agg #[.string x.n, .string x.v]) false).run Try.prog w' = .ok (.slice A1 n1 c1') w') (first | exact ⟨d0, d1, d2⟩ | exact ⟨e0 _, e1 _, e2 _⟩ | exact HD.out _ (((Below.refl _ _).alloc (Nat.le_refl _) _).drew) | exact HD.out _ ((Below.refl _ _).drew) | exact k9)
            ((refine step_appE ?g1 (.tmp 43) (.tmp 49) ?g2 w2.heap.size A5 k c5 (eflat ((l.take k).map fun x => (x, Ps.ser x (Ps.prs M 0))) hs5) ?g3 ?g4 (wA.heap.size + 1) (some ⟨wA.heap.size, 0, none⟩) [.string x.n, .string x.v, .slice A1 n1 c1'] ?g5 ?g6 ?g7 ?g8 ?g9 ?_;
              (case g1 => rfl);
              (case g2 => rfl);
              (case g3 => rfl);
              (case g5 => rfl);
              (case g4 => exact World.ownsRow.alloc F2'.out _);
              (case g6 => exact Rd.ent wA _ _ _ _);
              (case g7 => (intro u hu; simp at hu; rcases hu with rfl | rfl | rfl <;> rfl));
              (case g8 => omega);
              (case g9 => (simp; omega));
              intro A6 c6 w3 hown hgrow hat;
              have hgr3 : (wA.alloc (.cells #[.string x.n, .string x.v, .slice A1 n1 c1'] 110)).grownBy w3 (ab A5) := ⟨hgrow.os, hgrow.tape, hgrow.output, hgrow.size, hgrow.block⟩;
              have O6 := Kept.mk (OwnEn.push1 (by decide) F1'.out F2'.out F3'.out SA.out hgr3 hown);
              have hb3 : Below w2.heap.size w2 w3 := (HWA.out.alloc hzw2 _).grown hgr3 (by simp; omega) (fun g e => (own_lt F2'.out g e).1);
              have B6 := Kept.mk hb3;
              have hzz : w3.heap[Z]? = (wA.alloc (.cells #[.string x.n, .string x.v, .slice A1 n1 c1'] 110)).heap[Z]? := hgr3.block Z (by simp; omega) (fun e => HAZ.out e.symm);
              have k9 : w3.cell? ⟨Z, 0, none⟩ = some (.string x.n) ∧ w3.cell? ⟨Z, 1, none⟩ = some (.string x.v) ∧ (Instr.lookup 111 (.map (some w.heap.size)) (.agg #[.string x.n, .string x.v]) false).run Try.prog w3 = .ok (.slice A1 n1 c1') w3 := ⟨(World.cell?_of_block (a := ⟨Z, 0, none⟩) hzz).trans (e0 _), (World.cell?_of_block (a := ⟨Z, 1, none⟩) hzz).trans (e1 _), HC.out w3 hb3⟩;
              clear hown hgrow hgr3 hb3 hzz))
          go_wp2
          go_roundw
          case rel => exact ⟨k + 1, by omega, by go_num, A6, c6, rfl, by rw [ht.out, List.map_append]; exact O6.out, B6.out⟩
          case measure => simp [intOf]; omega
        · obtain rfl : k = n3 := by omega
          have hall : l.take k = l := List.take_of_length_le (by rw [← LN.out]; exact Nat.le_refl _)
          rw [hall] at O
          clear hall
          go_wp2
          go_ret
          refine ⟨A5, k, c5, _, rfl, ⟨by simpa [Function.comp_def] using S2.out, fun x => ?_, fun e he => ?_⟩, O.out.rebase HBW.out.size, HBW.out.trans (HB.out.mono HBW.out.size)⟩
          · rw [List.map_map, Function.comp_def]
            simp only [List.map_id']
            rw [F2.out.2, ← HI.out.1, HR2.out.keys]
          · obtain ⟨y, -, rfl⟩ := List.mem_map.1 he
            rfl
end Go.Proofs.Ythhcfocmaiacoaa
