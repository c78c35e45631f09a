/- varint.Append appends the encoding of a number. -/
import Derived.Test.YthhcfocmaiacoaaVarMath
import Derived.Test.YthhcfocmaiacoaaRangeY
import Derived.Test.YthhcfocmaiacoaaMemB
import Derived.Deep.CutBlock
import Derived.Maps.Range
import Derived.Laws.Bits64b
import Derived.RegionTactic
import Derived.ChangeAlike
namespace Go.Proofs.Ythhcfocmaiacoaa
open Go.RowKit Go.Shelf

attribute [local go_sem] Oper.semAt_some

/-- what groups' iterator hands to yield -/
def encG (p : Nat × Bool) : Array Value := #[.int .u8 (p.1 : Int), .bool p.2]
def numV : Option Value → Nat
  | some (.int _ n) => n.toNat
  | _ => 0
def KpG (B bx : Nat) (X Y : World) : Prop := Below B X Y ∧ Y.heap[bx]? = X.heap[bx]?
theorem KpG.trans {B bx : Nat} {X Y Z : World} (h : KpG B bx X Y) (k : KpG B bx Y Z) : KpG B bx X Z := ⟨h.1.trans k.1, k.2.trans h.2⟩
theorem KpG.grown {B bx M : Nat} {W W' : World} {row : Option Nat} (hM : M ≤ W.heap.size) (hB : B ≤ M) (ha : bx < M) (g : W.grownBy W' row) (hr : ∀ r, row = some r → M ≤ r) : KpG B bx W W' :=
  ⟨(Below.refl _ _).grown g (by omega) (fun r e => by have := hr r e; omega), g.block _ (by omega) (fun e => by have := hr _ e.symm; omega)⟩

set_option maxRecDepth 100000 in
set_option maxHeartbeats 4000000 in
theorem groups_yields (n bx B N x : Nat) (w : World) (X : List (Nat × Bool) → World → Prop) (hw : Boxed w bx 84 (.int .u64 (x : Int))) (hN : N ≤ w.heap.size) (hx : x < 18446744073709551616) (hX : ∀ pre W, ¬ X pre W) :
    YieldsX n Try.prog 113 #[.pointer (some ⟨bx, 0, none⟩)] encG (fun r => r = bx) (KpG B bx) (Vi.grp x) w X := by
  intro l J Jx W hK hJ hJx hJX hround h0
  have hW : Boxed W bx 84 (.int .u64 (x : Int)) := hK.2.trans hw
  have hNW : N ≤ W.heap.size := Nat.le_trans hN hK.1.size
  have Hround := Kept.mk hround
  have HX : Kept (∀ pre W, ¬ Jx pre W) := ⟨fun pre W h => hX pre W (hJX pre W h)⟩
  have hJ2 := Kept.mk hJ
  have Hx := Kept.mk hx
  clear hw hK hN hround hJ hX hJX hx
  refine callsIn_wide.2 ?_
  go_enter Try.func113, Try.ntmps113
  go_wp2
  go_loopw [] (fun wr => ∃ pre x', Boxed wr bx 84 (.int .u64 ((x' : Nat) : Int)) ∧ Kept (x' < 18446744073709551616) ∧ N ≤ wr.heap.size ∧ Kept (Vi.grp x = pre ++ Vi.grp x') ∧ Kept (J pre wr)) (fun wr => numV (wr.cell? ⟨bx, 0, none⟩))
  case atStart => exact ⟨[], x, hW, Hx, hNW, ⟨rfl⟩, ⟨h0⟩⟩
  case round =>
    clear hW Hx h0 hNW
    obtain ⟨pre, x', hb, hx, hNr, hm, hj⟩ := hrel
    have hc := hb.cell
    have hf := hb.frozen
    have Hb := Kept.mk hb
    clear hb
    by_cases hlt : x' < 128
    · have hlt' : (x' : Int) < 128 := by omega
      have hm2 : Kept (Vi.grp x = pre ++ [(x', true)]) := ⟨by rw [hm.out, Vi.grp_lt hlt]⟩
      obtain ⟨fn, tmps, assign, body, hy, hri⟩ := Hround.out pre (x', true) wr hj.out ⟨[], by rw [hm2.out]; simp⟩
      unfold encG at hy
      refine (wpIn_wide (n := n)).1 ?_
      gi_wp2
      refine ⟨fun f h => (by cases h), ?_⟩
      gi_wp2
      refine (wpIn_wide (n := n)).1 ?_
      gi_wp2
      refine ⟨(fun h => by simp [Fence.wide] at h), hri.mono ?_⟩
      rintro e W' (⟨rfl, hj', hb'⟩ | ⟨rfl, hjx⟩)
      · gi_wp2
        go_end0
        exact ⟨⟨_, rfl⟩, .inl (by rw [hm2.out]; exact hj')⟩
      · exact absurd hjx (HX.out _ _)
    · have hge' : (128 : Int) ≤ (x' : Int) := by omega
      have hm2 : Kept (Vi.grp x = pre ++ [(x' % 128, false)] ++ Vi.grp (x' / 128)) := ⟨by rw [hm.out, Vi.grp_ge (by omega)]; simp⟩
      obtain ⟨fn, tmps, assign, body, hy, hri⟩ := Hround.out pre (x' % 128, false) wr hj.out ⟨Vi.grp (x' / 128), by rw [hm2.out]⟩
      unfold encG at hy
      have ee : (((x' % 128 : Nat)) : Int) = (x' : Int) % 128 := by omega
      simp only [ee] at hy
      refine (wpIn_wide (n := n)).1 ?_
      gi_wp2
      refine ⟨(fun h => by simp [Fence.wide] at h), hri.mono ?_⟩
      rintro e W' (⟨rfl, hj', hb'⟩ | ⟨rfl, hjx⟩)
      · have hb2 : Boxed W' bx 84 (.int .u64 (x' : Int)) := hb'.2.trans Hb.out
        have hc' := hb2.cell
        have hf' := hb2.frozen
        have Hb2 := Kept.mk hb2
        have hz' := hb'.1.size
        have Hj' := Kept.mk hj'
        have hn0 : Kept (numV (wr.cell? ⟨bx, 0, none⟩) = x') := ⟨by rw [hc]; rfl⟩
        clear hj' hb' hb2 hc hf
        gi_wp2
        go_roundw
        case rel =>
          refine ⟨pre ++ [(x' % 128, false)], x' / 128, ?_, ⟨by have := hx.out; omega⟩, by simp; omega, ⟨hm2.out⟩, ⟨hJ2.out _ _ _ (some bx) Hj'.out (grownBy_setCell' _ _ _) (fun r e => by cases e; rfl)⟩⟩
          rw [show ((x' / 128 : Nat) : Int) = (x' : Int) / 128 by omega]
          exact Hb2.out.set _
        case measure =>
          rw [hn0.out, (Hb2.out.set _).cell]
          show ((x' : Int) / 128).toNat < x'
          omega
      · exact absurd hjx (HX.out _ _)

theorem u8_or128 (c : Nat) (h : c < 128) : bits .or .u8 (c : Int) 128 = ((c + 128 : Nat) : Int) := by
  have : ∀ c : Fin 128, bits .or .u8 ((c.val : Nat) : Int) 128 = ((c.val + 128 : Nat) : Int) := by decide +kernel
  exact this ⟨c, h⟩
theorem OwnB.apart {w w' : World} {base n c : Nat} {A : Option Addr} {l : List UInt8} {row : Option Nat} (h : OwnB w base A n c l) (hg : w.grownBy w' row)
    (hr : ∀ r, row = some r → ab A ≠ some r ∨ ∃ o : Obj, w.heap[r]? = some o ∧ o.isCells = false) : OwnB w' base A n c l := by
  refine ⟨h.1, ?_⟩
  rcases h.2 with hn | ⟨g, cap, cur, hv, h1, h2, rest⟩
  · exact .inl hn
  · refine .inr ⟨g, cap, cur, hv, h1, ?_, rest⟩
    rw [hg.block g (Array.getElem?_eq_some_iff.1 h2).1]
    · exact h2
    · intro e'
      rcases hr g e'.symm with h3 | ⟨o, ho, hoc⟩
      · injection hv with hv
        rw [hv] at h3
        exact h3 rfl
      · rw [h2] at ho; cases ho; cases hoc
set_option maxHeartbeats 1000000 in
theorem groups_any (x : Int) (w : World) : Calls Try.prog 93 #[.int .u64 x] w fun e w' =>
    e = .returned (.func (.func 113) #[] #[.pointer (some ⟨w.heap.size, 0, none⟩)]) ∧ w' = w.alloc (.cells #[.int .u64 x] 84) := by
  go_enter Try.func93, Try.ntmps93
  go_wp2
  go_ret
  exact ⟨rfl, rfl⟩
/-- what lies between two rounds of Append -/
def AppI (w : World) (A : Option Addr) (base : Nat) (l : List UInt8) (pre : List (Nat × Bool)) (W : World) : Prop :=
  ∃ A' n' c', Boxed W w.heap.size 30 (.slice A' n' c') ∧ OwnB W base A' n' c' (l ++ pre.map Vi.enc1) ∧ (ab A' = ab A ∨ ∃ g, ab A' = some g ∧ w.heap.size + 2 ≤ g) ∧ w.grownBy W (ab A)
theorem AppI.own {w : World} {A : Option Addr} {base : Nat} {l : List UInt8} (hA : ∀ g, ab A = some g → g < w.heap.size) : MindsOwn (w.heap.size + 2) (fun r => r = w.heap.size + 1) (AppI w A base l) := by
  rintro s W W' row ⟨A', n', c', hb, ho, hab, hg0⟩ hg hr
  have hrow : ∀ r, row = some r → w.heap.size < r := fun r e => by
    rcases hr r e with h | ⟨h, _⟩ <;> omega
  refine ⟨A', n', c', hb.kept hg (fun e => by have := hrow _ e.symm; omega), ho.apart hg (fun r e => ?_), hab, hg0.andThen hg (fun r e => .inl (by have := hrow r e; omega))⟩
  rcases hr r e with h | ⟨_, h⟩
  · left
    intro e2
    rcases hab with h3 | ⟨g, h3, h4⟩
    · rw [h3] at e2
      have := hA _ e2
      omega
    · rw [h3] at e2
      cases e2
      omega
  · exact .inr h

/-- one value, just laid -/
theorem rd_one (w : World) (v : Value) (t : TypeId) : Rd (w.alloc (.cells #[v] t)) (w.heap.size + 1) 1 (some ⟨w.heap.size, 0, none⟩) 1 1 [v] :=
  ⟨Nat.le_refl _, by unfold maxLen; omega, rfl, fun _ => ⟨_, 0, rfl, by omega, fun i u hu => by
    match i, hu with
    | 0, hu => simp at hu; subst hu; exact World.cell?_alloc_mark w _ _ _ 0⟩⟩
theorem own_cells {w : World} {base n c : Nat} {A : Option Addr} {l : List UInt8} (h : OwnB w base A n c l) : ∀ j o, ab A = some j → w.heap[j]? = some o → o.isCells = true := by
  intro j o ej hj
  rcases h.2 with ⟨hv, _⟩ | ⟨g', cap, cur, hv, _, hgb, _⟩
  · injection hv with hv1; rw [hv1] at ej; cases ej
  · injection hv with hv1
    rw [hv1] at ej
    obtain rfl : g' = j := by simpa [ab] using ej
    rw [hgb] at hj; cases hj; rfl
/-- what a round of Append leaves -/
theorem AppI.push {w W w5 : World} {A A' A4 : Option Addr} {base n' c' c4 : Nat} {l : List UInt8} {pre : List (Nat × Bool)} {p : Nat × Bool} {v : Value} {tmp : Obj} (hA : ∀ g, ab A = some g → g < w.heap.size)
    (hW : w.heap.size + 2 ≤ W.heap.size) (hb : Boxed W w.heap.size 30 (.slice A' n' c')) (ho : OwnB W base A' n' c' (l ++ pre.map Vi.enc1)) (hab : ab A' = ab A ∨ ∃ g, ab A' = some g ∧ w.heap.size + 2 ≤ g) (hg0 : w.grownBy W (ab A))
    (hv : [v] = bvs [Vi.enc1 p])
    (hown : w5.ownsRow base 5 1 (.slice A4 (n' + 1) c4) (n' + 1) (bvs (l ++ pre.map Vi.enc1) ++ [v])) (hg : (W.alloc tmp).grownBy w5 (ab A')) (hat : ab A4 = ab A' ∨ ab A4 = some (W.alloc tmp).heap.size) :
    KeepsFrom (w.heap.size + 2) W (w5.setCell ⟨w.heap.size, 0, none⟩ (.slice A4 (n' + 1) c4)) ∧ KpG 0 (w.heap.size + 1) W (w5.setCell ⟨w.heap.size, 0, none⟩ (.slice A4 (n' + 1) c4)) ∧
      AppI w A base l (pre ++ [p]) (w5.setCell ⟨w.heap.size, 0, none⟩ (.slice A4 (n' + 1) c4)) := by
  have hlt : ∀ g, ab A' = some g → g < w.heap.size ∨ w.heap.size + 2 ≤ g := by
    intro g hg
    rcases hab with h | ⟨g', h, h'⟩
    · rw [h] at hg; exact .inl (hA g hg)
    · rw [h] at hg; cases hg; exact .inr h'
  have hlt4 : ∀ g, ab A4 = some g → g < w.heap.size ∨ w.heap.size + 2 ≤ g := by
    intro g hg
    rcases hat with h | h
    · rw [h] at hg; exact hlt g hg
    · rw [h] at hg; cases hg; right; simp; omega
  have hcl : ∀ j o, ab A' = some j → (W.alloc tmp).heap[j]? = some o → o.isCells = true := own_cells (ho.apart (World.grownBy_alloc W tmp none) (fun r e => by cases e))
  have hs1 : (W.alloc tmp).heap.size = W.heap.size + 1 := by simp
  have hs5 := hg.size
  have gs := grownBy_setCell' w5 w.heap.size (.slice A4 (n' + 1) c4)
  refine ⟨(((KeepsOthers.alloc W _).trans (KeepsOthers.of_grownBy hg hcl)).trans (KeepsOthers.setCell _ _ _)).from _, ⟨⟨?_, ?_, ?_, ?_, fun k hk => absurd hk (by omega)⟩, ?_⟩, A4, n' + 1, c4, ?_, ?_, ?_, ?_⟩
  · rw [gs.os, hg.os]; rfl
  · rw [gs.tape, hg.tape]; rfl
  · rw [gs.output, hg.output]; rfl
  · have := gs.size; omega
  · rw [gs.block _ (by omega) (by simp), hg.block _ (by omega) (fun e => by rcases hlt _ e.symm with h | h <;> omega)]
    exact Below.heap_alloc _ _ _ (by omega)
  · refine Boxed.set _ ((hb.alloc tmp).kept hg (fun e => ?_))
    rcases hlt _ e.symm with h | h <;> omega
  · have e : bvs (l ++ pre.map Vi.enc1) ++ [v] = bvs (l ++ (pre ++ [p]).map Vi.enc1) := by rw [hv, ← bvs_append]; simp
    rw [e] at hown
    refine OwnB.apart hown gs (fun r e => .inl fun e2 => ?_)
    cases e
    rcases hlt4 _ e2 with h | h <;> omega
  · rcases hat with h | h
    · rw [h]; exact hab
    · exact .inr ⟨_, h, by omega⟩
  · refine ((hg0.trans (World.grownBy_alloc W tmp _)).andThen hg (fun j hj => ?_)).andThen gs (fun j hj => .inl ?_)
    · rcases hab with h | ⟨g', h, h'⟩
      · rw [h] at hj; exact .inr hj
      · rw [h] at hj; cases hj; exact .inl (by omega)
    · cases hj; omega

set_option maxHeartbeats 4000000 in
theorem vappend_any (A : Option Addr) (n c base x : Nat) (l : List UInt8) (w : World) (ho : OwnB w base A n c l) (hB : base ≤ w.heap.size) (hx : x < 18446744073709551616) (hn : n ≤ 140737488355000) :
    Calls Try.prog 52 #[.slice A n c, .int .u64 (x : Int)] w fun e w' => ∃ A3 n3 c3, e = .returned (.slice A3 n3 c3) ∧ OwnB w' base A3 n3 c3 (l ++ Vi.enc x) ∧ w.grownBy w' (ab A) ∧ (ab A3 = ab A ∨ ∃ g, ab A3 = some g ∧ w.heap.size ≤ g) := by
  have hlen := Kept.mk ho.len
  have hgl := Kept.mk (Vi.grp_len 9 x (by omega))
  have hgb := Kept.mk (Vi.grp_fst x)
  have hA := Kept.mk (fun g hg => (own_lt ho g hg).2)
  have Ho := Kept.mk ho
  have Hx := Kept.mk hx
  clear ho hx
  refine (callsIn_wide (n := 9)).1 ?_
  refine callsIn_of_wp_marks Try.func52 rfl trivial ?_ rfl
  simp only [Try.ntmps52, List.size_toArray, List.length_cons, List.length_nil, Nat.reduceAdd, Nat.reduceSub, Array.replicate_succ, Array.replicate_zero, List.push_toArray, List.append_toArray, List.nil_append, List.cons_append]
  refine wpIn_wide.2 ?_
  go_wp2_with (go_at_call 93; refine (groups_any _ _).mono ?_; rintro e w2 ⟨rfl, rfl⟩)
  have bB := (Boxed.new w 30 (.slice A n c)).alloc (.cells #[.int .u64 (x : Int)] 84)
  have bX := Boxed.new (w.alloc (.cells #[.slice A n c] 30)) 84 (.int .u64 (x : Int))
  have hsz : ((w.alloc (.cells #[.slice A n c] 30)).alloc (.cells #[.int .u64 (x : Int)] 84)).heap.size = w.heap.size + 2 := by simp
  have g0 : w.grownBy ((w.alloc (.cells #[.slice A n c] 30)).alloc (.cells #[.int .u64 (x : Int)] 84)) (ab A) := (World.grownBy_alloc w _ _).trans (World.grownBy_alloc _ _ _)
  have hO4 : OwnB ((w.alloc (.cells #[.slice A n c] 30)).alloc (.cells #[.int .u64 (x : Int)] 84)) base A n c l := (Ho.out.apart (World.grownBy_alloc w _ none) (fun r e => by cases e)).apart (World.grownBy_alloc _ _ none) (fun r e => by cases e)
  simp only [World.size_alloc] at bX
  generalize (w.alloc (.cells #[.slice A n c] 30)).alloc (.cells #[.int .u64 (x : Int)] 84) = w4 at *
  refine (wpIn_wide (n := 9)).1 ?_
  refine wp_rangeX (by decide) (gf := 113) (lb := #[.pointer (some ⟨w.heap.size + 1, 0, none⟩)]) rfl (enters_of Try.func113 (by kernel_rfl) rfl)
    (encs := encG) (O := fun r => r = w.heap.size + 1) (Kp := KpG 0 (w.heap.size + 1)) (L := Vi.grp x)
    (by rintro r rfl; omega) (fun h k => h.trans k) (fun W W' row hW hg hr => KpG.grown hW (by omega) (by omega) hg hr) (fun _ => rfl)
    (AppI w A base l) (fun _ _ _ => False)
    (fun pre p a₁ W => AppI w A base l pre W ∧
      a₁ = { tmps := #[.slice A n c, .int .u64 (x : Int), .pointer (some ⟨w.heap.size, 0, none⟩), undef, .slice none 0 0, .int .u8 (p.1 : Int), .bool p.2, .int .u64 (x : Int), .func (.func 113) #[] #[.pointer (some ⟨w.heap.size + 1, 0, none⟩)],
        .int .u8 (p.1 : Int), .bool p.2, undef, undef, undef, undef, undef, undef, undef, undef, undef], defers := [] })
    (groups_yields 8 (w.heap.size + 1) 0 (w.heap.size + 2) x w4 _ bX (by omega) Hx.out (fun pre W ⟨_, h⟩ => h))
    ?hI (fun _ _ _ _ _ h _ _ => h) ?hM ?h0 ?assign ?body ?done ?stop
  case hI => rw [hsz]; exact AppI.own hA.out
  case hM =>
    rw [hsz]
    rintro pre p a₁ u W W' row ⟨hI, ha⟩ hgr hr
    exact ⟨AppI.own hA.out _ _ _ _ hI hgr hr, ha⟩
  case h0 => exact ⟨A, n, c, bB, by simpa using hO4, .inl rfl, g0⟩
  case assign =>
    rintro l pre ⟨x, f⟩ W hI hpre hW
    unfold encG
    gi_wp2
    exact ⟨⟨Nat.le_refl _, fun _ _ _ h _ => h⟩, ⟨Below.refl _ _, rfl⟩, hI, trivial⟩
  case body =>
    rintro l pre ⟨x, f⟩ a₁ W ⟨⟨A', n', c', hb, ho, hab, hg0⟩, rfl⟩ hpre hW
    have hl1 : n' ≤ 140737488355100 := by
      have h1 := ho.len
      have h2 := hpre.length_le
      have h3 := hgl.out
      have h4 := hlen.out
      simp at h1 h2
      omega
    have hx : x < 128 := hgb.out (x, f) (hpre.subset (by simp))
    have hltO := hb.lt
    have hcO := hb.cell
    have Hb := Kept.mk hb
    have Ho' := Kept.mk ho
    have Hg0 := Kept.mk hg0
    clear hb ho hg0
    obtain ⟨i0, hi0, hz0, hz1, hz2⟩ := info_parts infoB
    cases f with
    | true =>
      have hv : Kept ([Value.int .u8 (x : Int)] = bvs [Vi.enc1 (x, true)]) := ⟨by simp [bvs, bv, Vi.enc1]; omega⟩
      have h1c : Kept (∀ u ∈ [Value.int .u8 (x : Int)], u.oneCell' = true) := ⟨by simp; rfl⟩
      gi_wp2_with (gi_at_builtin; refine wpListIn_app _ rfl (.tmp 15) (.tmp 17) _ rfl base 5 i0 (.int .u8 0) 1 1 Try.underlying30 hi0 hz0 hz1 hz2 rfl (by decide) A' n' c' _ rfl (World.ownsRow.alloc Ho'.out _) (W.heap.size + 1) _ _ _ [.int .u8 (x : Int)] rfl (rd_one W _ _) h1c.out (by unfold maxLen; omega) (by omega) (by simp; omega) ?_; intro A4 c4 w5 hown4 hgrow4 hat4; have hbO5 : Boxed w5 w.heap.size 30 (.slice A' n' c') := (Hb.out.alloc _).kept hgrow4 (fun e => by have := hA.out; rcases hab with h | ⟨g, h, h'⟩ <;> rw [h] at e <;> first | (have := this _ e.symm; omega) | (cases e; omega)); have hcO5 := hbO5.cell; have hfO5 := hbO5.frozen)
      rw [hsz]
      exact AppI.push hA.out (by omega) Hb.out Ho'.out hab Hg0.out hv.out hown4 hgrow4 hat4
    | false =>
      have e128 := u8_or128 x hx
      have hv : Kept ([Value.int .u8 ((x + 128 : Nat) : Int)] = bvs [Vi.enc1 (x, false)]) := ⟨by simp [bvs, bv, Vi.enc1]; omega⟩
      have h1c : Kept (∀ u ∈ [Value.int .u8 ((x + 128 : Nat) : Int)], u.oneCell' = true) := ⟨by simp; rfl⟩
      generalize x + 128 = y at *
      gi_wp2_with (gi_at_builtin; refine wpListIn_app _ rfl (.tmp 15) (.tmp 17) _ rfl base 5 i0 (.int .u8 0) 1 1 Try.underlying30 hi0 hz0 hz1 hz2 rfl (by decide) A' n' c' _ rfl (World.ownsRow.alloc Ho'.out _) (W.heap.size + 1) _ _ _ [.int .u8 (y : Int)] rfl (rd_one W _ _) h1c.out (by unfold maxLen; omega) (by omega) (by simp; omega) ?_; intro A4 c4 w5 hown4 hgrow4 hat4; have hbO5 : Boxed w5 w.heap.size 30 (.slice A' n' c') := (Hb.out.alloc _).kept hgrow4 (fun e => by have := hA.out; rcases hab with h | ⟨g, h, h'⟩ <;> rw [h] at e <;> first | (have := this _ e.symm; omega) | (cases e; omega)); have hcO5 := hbO5.cell; have hfO5 := hbO5.frozen)
      rw [hsz]
      exact AppI.push hA.out (by omega) Hb.out Ho'.out hab Hg0.out hv.out hown4 hgrow4 hat4
  case done =>
    rintro D W hD ⟨A', n', c', hb, ho, hab, hg0⟩ hK
    have hc := hb.cell
    have Ho' := Kept.mk ho
    have Hg0 := Kept.mk hg0
    have Hab := Kept.mk hab
    clear ho hg0 hab
    go_wp2
    refine ⟨by simp, .inl ⟨_, _, rfl, run_takeDeferred hK, ?_⟩⟩
    have hgo : W.grownBy (W.putObj D (.deferred none)) (some D) := grownBy_putObj' W D _
    refine ⟨_, results_tmp rfl _ _ _, A', n', c', rfl, Ho'.out.apart hgo (fun r e => by cases e; exact .inr ⟨_, hK, rfl⟩), Hg0.out.andThen hgo (fun j e => .inl (by cases e; omega)), ?_⟩
    rcases Hab.out with h | ⟨g, h, h'⟩
    · exact .inl h
    · exact .inr ⟨g, h, by omega⟩
  case stop =>
    rintro D c pre W _ _ h _
    exact h.elim
end Go.Proofs.Ythhcfocmaiacoaa
