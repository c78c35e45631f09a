/- Chapter 11: slices.Clone and slices.SortFunc at labels. -/
import Derived.Test.YtglnghdomoebfaaLabI
import Derived.Test.YtglnghdomoebfaaShelfL
import Derived.Test.YtglnghdomoebfaaLabMath2
import Derived.Lib.SliceRun
namespace Go.Proofs.Ytglnghdomoebfaa
open Go.RowKit Go.Shelf

theorem OwnL.made (w : World) (base : Nat) (h : base ≤ w.heap.size) : OwnL (w.alloc (.cells #[] 57)) base (some ⟨w.heap.size, 0, none⟩) 0 0 [] := World.ownsRow_made w #[] 0 h (by simp) rfl
set_option maxHeartbeats 1000000 in
theorem cloneL_any (A : Option Addr) (n c B : Nat) (l : List Lab) (w : World) (hv : RdL w B A n c l) (hB : B ≤ w.heap.size) (hl : n ≤ 4398046511104) :
    Calls Try.prog 32 #[.slice A n c] w fun e w' => ∃ A3 c3, e = .returned (.slice A3 n c3) ∧ OwnL w' w.heap.size A3 n c3 l ∧ Below w.heap.size w w' := by
  have hlc := hv.1
  have hcm := hv.2.1
  unfold maxLen at hcm
  have Hv := Kept.mk hv
  have hn := Kept.mk hv.len
  clear hv
  have qT : ∀ (w : World) (a : Option Addr) (n c n' c' : Nat), (binOp .eql 46 (.slice a n c) (.slice none n' c')).run Try.prog w = .ok (.bool a.isNone) w := fun w a n c n' c' => Lib.run_eql_slice_nil w _ _ a n c n' c' Try.underlying46
  cases A with
  | none =>
    have h0 : n = 0 := by
      rcases Nat.eq_zero_or_pos n with h | h
      · exact h
      · obtain ⟨b, off, e, _⟩ := Hv.out.2.2.2 h; cases e
    subst h0
    obtain rfl : l = [] := List.eq_nil_of_length_eq_zero hn.out.symm
    go_enter Try.func32, Try.ntmps32
    go_wp2
    go_ret
    exact ⟨none, 0, rfl, OwnL.nil _ _, Below.refl _ _⟩
  | some a =>
    go_enter Try.func32, Try.ntmps32
    go_wp2_with (at_builtin; refine wpList_appL rfl (.tmp 5) (.tmp 6) rfl w.heap.size _ _ _ [] rfl (OwnL.made w _ (Nat.le_refl _)) B _ _ _ l rfl (Rd.alloc Hv.out hB _) (by omega) (by simp) ?_; intro A2 c2 w1 hown1 hgrow1 hat1; have hb1 : Below w.heap.size w w1 := ((Below.refl _ w).alloc (Nat.le_refl _) _).grown hgrow1 (by simp) (by simp [ab]))
    rw [List.nil_append, Nat.zero_add] at hown1
    go_ret
    exact ⟨A2, c2, rfl, hown1, hb1⟩
namespace Lb
def cf (x y : Lab) : Int := St.cmp x.n y.n
theorem ltOf_cf : ltOf cf = fun x y => St.lt x.n y.n := by
  funext x y
  unfold ltOf cf
  by_cases h : St.lt x.n y.n = true
  · rw [h, decide_eq_true (St.cmp_neg.2 h)]
  · have h' : St.lt x.n y.n = false := by simpa using h
    rw [h', decide_eq_false (fun e => h (St.cmp_neg.1 e))]
theorem swo : Sort.SWO (ltOf cf) := by
  rw [ltOf_cf]
  exact ⟨fun x => St.irrefl _, fun x y z h1 h2 => St.trans h1 h2, fun x y z h1 h2 => St.ntrans h1 h2⟩
theorem lbc_len (x : Lab) : (lbc x).length = 2 := rfl
theorem lbc_one (x : Lab) : ∀ v ∈ lbc x, v.oneCell' = true := by
  intro v hv
  simp [lbc] at hv
  rcases hv with rfl | rfl <;> rfl
theorem flat_get (l : List Lab) (t : Nat) (ht : t < l.length * 2) : (lbs l)[t]? = some ((Sort.flatK lbc 2 l.toArray)[t]!) := by
  have hq : t / 2 < l.length := by omega
  have e := lbs_get l (t / 2) (t % 2) hq (by omega)
  rw [show t / 2 * 2 + t % 2 = t by omega] at e
  rw [e, Sort.get_flatK _ _ _ _ (by simpa using ht)]
  have hx : l.toArray[t / 2]! = l[t / 2] := by simp [hq]
  rw [hx]
  have h2 : t % 2 < (lbc l[t / 2]).length := by rw [lbc_len]; omega
  rw [List.getElem?_eq_getElem h2]
  simp [h2]
theorem holds_own {w : World} {base g n c : Nat} {l : List Lab} (h : OwnL w base (some ⟨g, 0, none⟩) n c l) : Sort.HoldsK lbc 2 w g 0 l.toArray := by
  intro j hj
  have hn := h.len
  rw [Sort.size_flatK] at hj
  have hj' : j < l.length * 2 := by simpa using hj
  rw [Nat.zero_add]
  refine ⟨?_, World.ownsRow.frozenAt h j⟩
  rw [World.ownsRow.cellAt h j (by omega), flat_get l j hj']
  rfl
theorem rd_holds {w : World} {g B n c : Nat} {d : Array Lab} (hB : g < B) (hc : n ≤ c) (hm : c ≤ maxLen) (hn : d.size = n) (h : Sort.HoldsK lbc 2 w g 0 d) : RdL w B (some ⟨g, 0, none⟩) n c d.toList := by
  refine ⟨hc, hm, by rw [lbs_length]; simp [hn], fun _ => ⟨g, 0, rfl, hB, fun i u hu => ?_⟩⟩
  have hi : i < d.size * 2 := by
    have := (List.getElem?_eq_some_iff.1 hu).1
    rw [lbs_length] at this; simpa using this
  have h1 := (h i (by rw [Sort.size_flatK]; exact hi)).1
  have h2 := flat_get d.toList i (by simpa using hi)
  rw [show d.toList.toArray = d by simp] at h2
  rw [h1, ← hu, h2]
  rfl
end Lb
theorem sortWorld_below {w : World} {base g m : Nat} {d : Array Lab} {os : Array Obj} (hg : base ≤ g) (hb : base ≤ w.heap.size) : Below base w (sortWorldK lbc 2 w g 0 m d os) := by
  refine ⟨rfl, rfl, rfl, ?_, fun k hk => ?_⟩
  · unfold sortWorldK Sort.putRowK Sort.putRow Sort.mapBlock
    rw [Sort.size_grow]
    simp [Sort.ahead]
  · unfold sortWorldK Sort.putRowK Sort.putRow Sort.mapBlock
    have hsz : k < ((Sort.ahead w m).heap.modify g (Sort.onCells (Sort.putCells id 0 (Sort.flatK lbc 2 d)))).size := by simp [Sort.ahead]; omega
    rw [Sort.heap_grow_old _ _ hsz]
    simp [Sort.ahead, Array.getElem?_modify, show g ≠ k by omega]
set_option maxHeartbeats 1000000 in
theorem sort_any (g n c base Bf : Nat) (l : List Lab) (w : World) (ho : OwnL w base (some ⟨g, 0, none⟩) n c l) (hb : base ≤ w.heap.size) (hB : Bf < w.heap.size) (hne : Bf ≠ g) (hc : w.cell? ⟨Bf, 0, none⟩ = some (.func (.func 84) #[] #[])) (hn : n ≤ 4398046511104) :
    Calls Try.prog 63 #[.slice (some ⟨g, 0, none⟩) n c, .func (.func 82) #[] #[.pointer (some ⟨Bf, 0, none⟩)]] w fun e w' =>
      e = .returned (.tuple #[]) ∧ ∃ d : Array Lab, Sort.PermIn 0 l.toArray.size l.toArray d ∧ Sort.SortedIn (fun x y => St.lt x.n y.n) 0 l.toArray.size d ∧ RdL w' w.heap.size (some ⟨g, 0, none⟩) n c d.toList ∧ Below base w w' := by
  have hlen := ho.len
  have hgl := own_lt ho g rfl
  have hrd := ho.rd
  have eg : ∀ args w, (callFunc 82 args).run Try.prog w = .ok (.enter 82 args) w := enters_of Try.func82 (by kernel_rfl) rfl
  have hH := Lb.holds_own ho
  have hcmp : CmpLays Try.prog 82 #[.pointer (some ⟨Bf, 0, none⟩)] lbc 2 Lb.cf g 0 l.toArray.size w := by
    intro m os dk hdk x y
    have hz : Bf < (sortWorldK lbc 2 w g 0 m dk os).heap.size := Nat.lt_of_lt_of_le hB (sortWorld_below (base := 0) (Nat.zero_le _) (Nat.zero_le _)).size
    have hcell : (sortWorldK lbc 2 w g 0 m dk os).cell? ⟨Bf, 0, none⟩ = some (.func (.func 84) #[] #[]) := by
      unfold sortWorldK
      rw [Sort.cell?_grow _ _ _ (by unfold Sort.putRowK Sort.putRow Sort.mapBlock; simp [Sort.ahead]; exact hB), Sort.cell?_putRowK_other lbc 2 _ g 0 dk _ hne]
      exact hc
    exact by1_any 84 Lab.n (enters_of Try.func84 (by kernel_rfl) rfl) part1_any Bf x y _ hz hcell
  have con := AnyQ.slices_SortFunc Try.sortL 2 Try.isAgg57 Try.sizeOf57 lbc Lb.lbc_len Lb.lbc_one Lb.cf Lb.swo 82 #[.pointer (some ⟨Bf, 0, none⟩)] g 0 c l.toArray w eg hcmp hH hgl.2 (by simp; omega)
  change Calls Try.prog 63 _ _ _ at con
  rw [show l.toArray.size = n by simp [hlen]] at con ⊢
  refine con.mono fun e w' ⟨h1, d, m, os, h2, h3, h4⟩ => ⟨h1, d, h2, by rw [← Lb.ltOf_cf]; exact h3, ?_, by rw [h4]; exact sortWorld_below hgl.1 hb⟩
  rw [h4]
  have hds : d.size = n := by have := h2.1; simp at this; omega
  exact Lb.rd_holds hgl.2 hrd.1 hrd.2.1 hds (holdsK_sortWorldK_c lbc 2 w g 0 l.toArray d m os hH hgl.2 (by simp; omega))
set_option maxHeartbeats 1000000 in
theorem sort_none (A : Option Addr) (c : Nat) (fv : Value) (w : World) :
    Calls Try.prog 63 #[.slice A 0 c, fv] w fun e w' => e = .returned (.tuple #[]) ∧ w' = w :=
  AnyF.slices_SortFunc_none Try.sortL A c fv w
end Go.Proofs.Ytglnghdomoebfaa
