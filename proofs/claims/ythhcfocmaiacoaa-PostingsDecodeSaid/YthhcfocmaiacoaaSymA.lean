/- slices.Values, slices.AppendSeq, slices.Collect at strings: a range over the elements appends them. -/
import Derived.Test.YthhcfocmaiacoaaRange
import Derived.Test.YthhcfocmaiacoaaMemS
import Derived.Deep.CutBlock
import Derived.Maps.Range
namespace Go.Proofs.Ythhcfocmaiacoaa
open Go.RowKit Go.Shelf

attribute [local go_sem] Oper.semAt_some

def encS (s : ByteArray) : Array Value := #[.string s]
theorem own_aside {w w' : World} {base n c sz : Nat} {A : Option Addr} {xs : List Value} {t : TypeId} {row : Option Nat} (h : w.ownsRow base t sz (.slice A n c) n xs) (hg : w.grownBy w' row)
    (hr : ∀ r, row = some r → ab A ≠ some r ∨ ∃ o : Obj, w.heap[r]? = some o ∧ o.isCells = false) : w'.ownsRow base t sz (.slice A n c) n xs := by
  refine ⟨h.1, ?_⟩
  rcases h.2 with hn | ⟨g, cap, cur, hv, h1, h2, rest⟩
  · exact .inl hn
  · refine .inr ⟨g, cap, cur, hv, h1, ?_, rest⟩
    rw [hg.block g (Array.getElem?_eq_some_iff.1 h2).1]
    · exact h2
    · intro e'
      rcases hr g e'.symm with h3 | ⟨o, ho, hoc⟩
      · injection hv with hv
        rw [hv] at h3
        exact h3 rfl
      · rw [h2] at ho; cases ho; cases hoc
set_option maxRecDepth 100000 in
set_option maxHeartbeats 4000000 in
theorem values_yields (n bx B : Nat) (A : Option Addr) (m c : Nat) (l : List ByteArray) (w : World) (hw : Boxed w bx 22 (.slice A m c)) (hbx : bx < B) (hv : RdS w B A m c l) :
    Yields n Try.prog 96 #[.pointer (some ⟨bx, 0, none⟩)] encS (fun _ => False) (fun X Y => Below B X Y) l w := by
  intro q J Jx W hK hJ hJx hround h0
  have hlc := hv.1
  have hcm := hv.2.1
  unfold maxLen at hcm
  have hW : Boxed W bx 22 (.slice A m c) := (hK.block bx hbx).trans hw
  have hn := Kept.mk hv.len
  have V := Kept.mk (hv.below hK)
  have Hround := Kept.mk hround
  have hc0 := hW.cell
  clear hw hK hround hJ hJx hv
  refine callsIn_wide.2 ?_
  go_enter Try.func96, Try.ntmps96
  go_wp2
  go_loopw [7] (fun i wr => ∃ k : Nat, k ≤ m ∧ i = .int .i64 k ∧ Below B W wr ∧ Kept (J (l.take k) wr)) (fun i _ => m - (intOf i).toNat)
  case atStart => exact ⟨0, by omega, rfl, Below.refl _ _, ⟨h0⟩⟩
  case round =>
    clear h0 hc0 hW
    obtain ⟨k, hk, rfl, hb, hj⟩ := hrel
    by_cases hlt : k < m
    · have hkl : k < l.length := by rw [← hn.out]; exact hlt
      have ht := List.take_succ_eq_append_getElem hkl
      obtain ⟨fn, tmps, assign, body, hy, hri⟩ := Hround.out (l.take k) l[k] wr hj.out ⟨l.drop (k + 1), by rw [← ht, List.take_append_drop]⟩
      unfold encS at hy
      have HT := Kept.mk ht
      obtain ⟨b, off, rfl, -, c0⟩ := (V.out.below hb).at_ hkl
      have BB := Kept.mk hb
      clear ht hb hj
      generalize l[k] = x at *
      refine (wpIn_wide (n := n)).1 ?_
      gi_wp2
      refine ⟨(fun h => by simp [Fence.wide] at h), hri.mono ?_⟩
      rintro e W' (⟨rfl, hj', hb'⟩ | ⟨rfl, hjx⟩)
      · have B2 := Kept.mk (BB.out.trans hb')
        have J2 := Kept.mk hj'
        clear hj' hb' c0
        gi_wp2
        go_roundw
        case rel => exact ⟨k + 1, by omega, by go_num, B2.out, ⟨by rw [HT.out]; exact J2.out⟩⟩
        case measure => simp [intOf]; omega
      · have X2 := Kept.mk hjx
        clear hjx c0
        gi_wp2
        refine bodyPost_ret (results_none rfl _ _ _) rfl ⟨⟨_, rfl⟩, .inr ⟨_, ⟨l.drop (k + 1), ?_⟩, X2.out⟩⟩
        rw [← HT.out, List.take_append_drop]
    · have J2 : Kept (J l wr) := ⟨by have := hj.out; rwa [List.take_of_length_le (by have := hn.out; omega)] at this⟩
      clear hj
      go_wp2
      go_end0
      exact ⟨⟨_, rfl⟩, .inl J2.out⟩
/-- what lies between two rounds of AppendSeq -/
def AppS (w : World) (pre : List ByteArray) (W : World) : Prop :=
  ∃ A n c, Boxed W w.heap.size 22 (.slice A n c) ∧ OwnS W (w.heap.size + 1) A n c pre ∧ Below w.heap.size w W
theorem AppS.own {w : World} : MindsOwn (w.heap.size + 1) (fun _ => False) (AppS w) := by
  rintro s W W' row ⟨A, n, c, hb, ho, hbel⟩ hg hr
  have hrow : ∀ r, row = some r → w.heap.size < r := fun r e => by
    rcases hr r e with h | ⟨h, _⟩
    · exact h.elim
    · omega
  refine ⟨A, n, c, hb.kept hg (fun e => by have := hrow _ e.symm; omega), own_aside ho hg (fun r e => ?_), hbel.grown hg hbel.size (fun g e => by have := hrow g e; omega)⟩
  rcases hr r e with h | ⟨_, h⟩
  · exact h.elim
  · exact .inr h
theorem own_cellsAny {w : World} {base n c sz : Nat} {A : Option Addr} {xs : List Value} {t : TypeId} (h : w.ownsRow base t sz (.slice A n c) n xs) : ∀ j o, ab A = some j → w.heap[j]? = some o → o.isCells = true := by
  intro j o ej hj
  rcases h.2 with ⟨hv, _⟩ | ⟨g', cap, cur, hv, _, hgb, _⟩
  · injection hv with hv1; rw [hv1] at ej; cases ej
  · injection hv with hv1
    rw [hv1] at ej
    obtain rfl : g' = j := by simpa [ab] using ej
    rw [hgb] at hj; cases hj; rfl
/-- what a round of AppendSeq leaves -/
theorem AppS.push {w W w5 : World} {A A4 : Option Addr} {n c c4 : Nat} {pre : List ByteArray} {x : ByteArray} {tmp : Obj} (hW : w.heap.size + 1 ≤ W.heap.size) (hb : Boxed W w.heap.size 22 (.slice A n c)) (ho : OwnS W (w.heap.size + 1) A n c pre) (hbel : Below w.heap.size w W)
    (hown : w5.ownsRow (w.heap.size + 1) 9 1 (.slice A4 (n + 1) c4) (n + 1) (svs pre ++ [.string x])) (hg : (W.alloc tmp).grownBy w5 (ab A)) :
    KeepsFrom (w.heap.size + 1) W (w5.setCell ⟨w.heap.size, 0, none⟩ (.slice A4 (n + 1) c4)) ∧ Below w.heap.size W (w5.setCell ⟨w.heap.size, 0, none⟩ (.slice A4 (n + 1) c4)) ∧ AppS w (pre ++ [x]) (w5.setCell ⟨w.heap.size, 0, none⟩ (.slice A4 (n + 1) c4)) := by
  have hlt : ∀ g, ab A = some g → w.heap.size + 1 ≤ g := fun g e => (own_lt ho g e).1
  have hlt4 : ∀ g, ab A4 = some g → w.heap.size + 1 ≤ g := fun g e => (own_lt hown g e).1
  have hcl : ∀ j o, ab A = some j → (W.alloc tmp).heap[j]? = some o → o.isCells = true := own_cellsAny (World.ownsRow.alloc ho tmp)
  have gs := grownBy_setCell' w5 w.heap.size (.slice A4 (n + 1) c4)
  have hb1 : Below w.heap.size W w5 := ((Below.refl _ W).alloc (by omega) tmp).grown hg (by simp; omega) (fun g e => by have := hlt g e; omega)
  have hb2 : Below w.heap.size W (w5.setCell ⟨w.heap.size, 0, none⟩ (.slice A4 (n + 1) c4)) := hb1.setCell (p := ⟨w.heap.size, 0, none⟩) (Nat.le_refl _) _
  refine ⟨(((KeepsOthers.alloc W _).trans (KeepsOthers.of_grownBy hg hcl)).trans (KeepsOthers.setCell _ _ _)).from _, hb2, A4, n + 1, c4, ?_, ?_, hbel.trans hb2⟩
  · refine Boxed.set _ ((hb.alloc tmp).kept hg (fun e => ?_))
    have := hlt _ e.symm; omega
  · have e : svs pre ++ [.string x] = svs (pre ++ [x]) := by rw [svs_append]; rfl
    rw [e] at hown
    exact own_aside hown gs (fun r e => .inl fun e2 => by cases e; have := hlt4 _ e2; omega)
set_option maxRecDepth 100000 in
set_option maxHeartbeats 4000000 in
theorem appendSeq_any (bx : Nat) (A : Option Addr) (m c : Nat) (l : List ByteArray) (w : World) (hw : Boxed w bx 22 (.slice A m c)) (hv : RdS w w.heap.size A m c l) (hm : m ≤ 1000000) :
    Calls Try.prog 114 #[.slice none 0 0, .func (.func 96) #[] #[.pointer (some ⟨bx, 0, none⟩)]] w fun e w' => ∃ A2 n2 c2, e = .returned (.slice A2 n2 c2) ∧ OwnS w' w.heap.size A2 n2 c2 l ∧ Below w.heap.size w w' := by
  have hlen := Kept.mk hv.len
  have hbx := hw.lt
  have YV : Kept (∀ o, Yields 8 Try.prog 96 #[.pointer (some ⟨bx, 0, none⟩)] encS (fun _ => False) (fun X Y => Below w.heap.size X Y) l (w.alloc o)) := ⟨fun o => values_yields 8 bx w.heap.size A m c l (w.alloc o) (hw.alloc o) hbx (hv.alloc (Nat.le_refl _) o)⟩
  clear hw hv
  refine (callsIn_wide (n := 9)).1 ?_
  refine callsIn_of_wp_marks Try.func114 rfl trivial ?_ rfl
  simp only [Try.ntmps114, List.size_toArray, List.length_cons, List.length_nil, Nat.reduceAdd, Nat.reduceSub, Array.replicate_succ, Array.replicate_zero, List.push_toArray, List.append_toArray, List.nil_append, List.cons_append]
  refine wpIn_wide.2 ?_
  go_wp2
  have bB := Boxed.new w 22 (.slice none 0 0)
  have hsz : (w.alloc (.cells #[.slice none 0 0] 22)).heap.size = w.heap.size + 1 := by simp
  have g0 : Below w.heap.size w (w.alloc (.cells #[.slice none 0 0] 22)) := (Below.refl _ _).alloc (Nat.le_refl _) _
  have Y4 := YV.out (.cells #[.slice none 0 0] 22)
  clear YV
  generalize w.alloc (.cells #[.slice none 0 0] 22) = w4 at *
  refine (wpIn_wide (n := 9)).1 ?_
  refine wp_range (by decide) (gf := 96) (lb := #[.pointer (some ⟨bx, 0, none⟩)]) rfl (enters_of Try.func96 (by kernel_rfl) rfl)
    (encs := encS) (O := fun _ => False) (Kp := fun X Y => Below w.heap.size X Y) (L := l) Y4
    (fun _ h => h.elim) (fun h k => h.trans k) (fun W W' row hW hg hr => (Below.refl _ W).grown hg (by omega) (fun g e => by have := hr g e; omega)) (fun _ => rfl)
    (AppS w) (fun _ _ _ => False)
    (fun pre x a₁ W => AppS w pre W ∧
      a₁ = { tmps := #[.slice none 0 0, .func (.func 96) #[] #[.pointer (some ⟨bx, 0, none⟩)], .pointer (some ⟨w.heap.size, 0, none⟩), undef, .slice none 0 0, .string x, .func (.func 96) #[] #[.pointer (some ⟨bx, 0, none⟩)],
        .string x, undef, undef, undef, undef, undef], defers := [] })
    ?hI (fun _ _ _ _ _ h _ _ => h) ?hM ?h0 ?assign ?body ?done ?stop
  case hI => rw [hsz]; exact AppS.own
  case hM =>
    rw [hsz]
    rintro pre p a₁ u W W' row ⟨hI, ha⟩ hgr hr
    exact ⟨AppS.own _ _ _ _ hI hgr hr, ha⟩
  case h0 => exact ⟨none, 0, 0, bB, World.ownsRow_nil _ _ _ _, g0⟩
  case assign =>
    rintro q pre x W hI hpre hW
    unfold encS
    gi_wp2
    exact ⟨⟨Nat.le_refl _, fun _ _ _ h _ => h⟩, Below.refl _ _, hI, trivial⟩
  case body =>
    rintro q pre x a₁ W ⟨⟨A', n', c', hb, ho, hbel⟩, rfl⟩ hpre hW
    have hl1 : n' ≤ 1000000 := by
      have h1 := ho.len
      have h2 := hpre.length_le
      have h3 := hlen.out
      simp at h2
      omega
    have hcO := hb.cell
    have Hb := Kept.mk hb
    have Ho' := Kept.mk ho
    have HB := Kept.mk hbel
    have hlo : ∀ g, ab A' = some g → w.heap.size + 1 ≤ g := fun g e => (own_lt ho g e).1
    have HLO := Kept.mk hlo
    clear hb ho hbel hlo
    obtain ⟨i0, hi0, hz0, hz1, hz2⟩ := info_parts infoS
    have h1c : Kept (∀ u ∈ [Value.string x], u.oneCell' = true) := ⟨by simp; rfl⟩
    gi_wp2_with (gi_at_builtin; refine wpListIn_app _ rfl (.tmp 8) (.tmp 10) _ rfl (w.heap.size + 1) 9 i0 (.string ByteArray.empty) 1 16 Try.underlying22 hi0 hz0 hz1 hz2 rfl (by decide) A' n' c' _ rfl (World.ownsRow.alloc Ho'.out _) (W.heap.size + 1) _ _ _ [.string x] rfl (RdS.one W x) h1c.out (by unfold maxLen; omega) (by omega) (by simp; omega) ?_; intro A4 c4 w5 hown4 hgrow4 hat4; have hbO5 : Boxed w5 w.heap.size 22 (.slice A' n' c') := (Hb.out.alloc _).kept hgrow4 (fun e => by have := HLO.out _ e.symm; omega); have hcO5 := hbO5.cell; have hfO5 := hbO5.frozen)
    rw [hsz]
    exact AppS.push (by omega) Hb.out Ho'.out HB.out hown4 hgrow4
  case done =>
    rintro D W hD ⟨A', n', c', hb, ho, hbel⟩ hK
    have hc := hb.cell
    have Ho' := Kept.mk ho
    have HB := Kept.mk hbel
    clear ho hbel
    go_wp2
    refine ⟨by simp, .inl ⟨_, _, rfl, run_takeDeferred hK, ?_⟩⟩
    have hgo : W.grownBy (W.putObj D (.deferred none)) (some D) := grownBy_putObj' W D _
    have hb2 := own_aside Ho'.out hgo (fun r e => by cases e; exact .inr ⟨_, hK, rfl⟩)
    refine ⟨_, results_tmp rfl _ _ _, A', n', c', rfl, ?_, HB.out.grown hgo HB.out.size (fun g e => by cases e; omega)⟩
    exact ⟨hb2.1, hb2.2.imp id fun ⟨g, cap, cur, h1, h2, h3⟩ => ⟨g, cap, cur, h1, by omega, h3⟩⟩
  case stop =>
    rintro D c pre W _ _ h _
    exact h.elim
end Go.Proofs.Ythhcfocmaiacoaa
