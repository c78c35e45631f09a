/- Chapter 15: labels sorted. -/
import Derived.Shelf.SlSortCmp.WholeK
import Derived.Shelf.SlSortCmp.NoneTotal
import Derived.Shelf.SlGeneric
import Derived.Ground.SlsfProg
import Derived.Test.YthhcfocmaiacoaaProg
import Derived.Test.YthhcfocmaiacoaaPostC
import Derived.Test.YthhcfocmaiacoaaPostS
namespace Go.Proofs
open Go.Shelf
def Try.sortP_ren : Go.Shelf.Ren := ⟨fun | 6 => 103 | 15 => 116 | 14 => 118 | 28 => 133 | 29 => 134 | 20 => 135 | 21 => 136 | 22 => 137 | 23 => 138 | 24 => 139 | 25 => 140 | 26 => 141 | 27 => 142 | 46 => 149 | 47 => 145 | 48 => 146 | 49 => 150 | 50 => 151 | 57 => 154 | n => n, fun | 22 => 69 | 24 => 67 | 25 => 116 | 3 => 3 | 39 => 133 | 0 => 0 | 53 => 178 | 55 => 84 | 4 => 4 | 46 => 172 | 45 => 171 | 50 => 26 | 5 => 5 | 9 => 9 | 66 => 188 | 70 => 192 | 76 => 197 | 77 => 198 | n => n, fun | n => n⟩
theorem Try.sortP : Go.Proofs.SlLaysF0.n6 Try.prog Try.sortP_ren := {
  mixed := by kernel_rfl
  f6 := ⟨Try.f103.name, by decide, Try.func103.trans (congrArg some (by kernel_rfl))⟩
  f14 := ⟨Try.f118.name, by decide, Try.func118.trans (congrArg some (by kernel_rfl))⟩
  f15 := Try.func116.trans (congrArg some (by kernel_rfl))
  f20 := ⟨Try.f135.name, by decide, Try.func135.trans (congrArg some (by kernel_rfl))⟩
  f21 := ⟨Try.f136.name, by decide, Try.func136.trans (congrArg some (by kernel_rfl))⟩
  f22 := ⟨Try.f137.name, by decide, Try.func137.trans (congrArg some (by kernel_rfl))⟩
  f23 := ⟨Try.f138.name, by decide, Try.func138.trans (congrArg some (by kernel_rfl))⟩
  f24 := ⟨Try.f139.name, by decide, Try.func139.trans (congrArg some (by kernel_rfl))⟩
  f25 := ⟨Try.f140.name, by decide, Try.func140.trans (congrArg some (by kernel_rfl))⟩
  f26 := ⟨Try.f141.name, by decide, Try.func141.trans (congrArg some (by kernel_rfl))⟩
  f27 := ⟨Try.f142.name, by decide, Try.func142.trans (congrArg some (by kernel_rfl))⟩
  f28 := Try.func133.trans (congrArg some (by kernel_rfl))
  f29 := Try.func134.trans (congrArg some (by kernel_rfl))
  f46 := ⟨Try.f149.name, by decide, Try.func149.trans (congrArg some (by kernel_rfl))⟩
  f47 := Try.func145.trans (congrArg some (by kernel_rfl))
  f48 := Try.func146.trans (congrArg some (by kernel_rfl))
  f49 := ⟨Try.f150.name, by decide, Try.func150.trans (congrArg some (by kernel_rfl))⟩
  f50 := ⟨Try.f151.name, by decide, Try.func151.trans (congrArg some (by kernel_rfl))⟩
  f57 := ⟨Try.f154.name, by decide, Try.func154.trans (congrArg some (by kernel_rfl))⟩
  t0 := Try.underlying0
  a0 := Try.isAgg0
  z0 := Try.sizeOf0
  v0 := Try.zeroValue0
  t3 := Try.underlying3
  a3 := Try.isAgg3
  z3 := Try.sizeOf3
  v3 := Try.zeroValue3
  t4 := Try.underlying4
  a4 := Try.isAgg4
  z4 := Try.sizeOf4
  v4 := Try.zeroValue4
  t5 := Try.underlying5
  a5 := Try.isAgg5
  z5 := Try.sizeOf5
  v5 := Try.zeroValue5
  t9 := Try.underlying9
  a9 := Try.isAgg9
  z9 := Try.sizeOf9
  v9 := Try.zeroValue9
  t22 := Try.underlying69
  a22 := Try.isAgg69
  z22 := Try.sizeOf69
  v22 := Try.zeroValue69
  t25 := Try.underlying116
  a25 := Try.isAgg116
  z25 := Try.sizeOf116
  v25 := Try.zeroValue116
  t39 := Try.underlying133
  a39 := Try.isAgg133
  z39 := Try.sizeOf133
  v39 := Try.zeroValue133
  t45 := Try.underlying171
  a45 := Try.isAgg171
  z45 := Try.sizeOf171
  v45 := Try.zeroValue171
  t46 := Try.underlying172
  a46 := Try.isAgg172
  z46 := Try.sizeOf172
  v46 := Try.zeroValue172
  t50 := Try.underlying26
  a50 := Try.isAgg26
  z50 := Try.sizeOf26
  v50 := Try.zeroValue26
  t53 := Try.underlying178
  a53 := Try.isAgg178
  z53 := Try.sizeOf178
  v53 := Try.zeroValue178
  t55 := Try.underlying84
  a55 := Try.isAgg84
  z55 := Try.sizeOf84
  v55 := Try.zeroValue84
  t66 := Try.underlying188
  a66 := Try.isAgg188
  z66 := Try.sizeOf188
  v66 := Try.zeroValue188
  t70 := Try.underlying192
  a70 := Try.isAgg192
  z70 := Try.sizeOf192
  v70 := Try.zeroValue192
  t76 := Try.underlying197
  a76 := Try.isAgg197
  z76 := Try.sizeOf197
  v76 := Try.zeroValue197
  t77 := Try.underlying198
  a77 := Try.isAgg198
  z77 := Try.sizeOf198
  v77 := Try.zeroValue198 }
end Go.Proofs
namespace Go.Proofs.Ythhcfocmaiacoaa
open Go.RowKit Go.Shelf

namespace Lb
theorem or2_neg {a b : Int} : or2 a b < 0 ↔ a < 0 ∨ (a = 0 ∧ b < 0) := by
  unfold or2; split <;> omega
def plt (x y : Lab) : Bool := decide (pc x y < 0)
theorem plt_iff {x y : Lab} : plt x y = true ↔ St.lt x.n y.n = true ∨ (x.n = y.n ∧ St.lt x.v y.v = true) := by
  unfold plt pc
  rw [decide_eq_true_iff, or2_neg, St.cmp_neg, St.cmp_neg, St.cmp_zero]
theorem ltOf_pc : ltOf pc = plt := by
  funext x y
  rfl
theorem plt_irrefl (x : Lab) : plt x x = false := by
  apply Bool.eq_false_iff.2
  intro h
  rcases plt_iff.1 h with h | ⟨_, h⟩ <;> exact absurd h (by simp [St.irrefl])
theorem plt_trans {x y z : Lab} (h1 : plt x y = true) (h2 : plt y z = true) : plt x z = true := by
  rw [plt_iff] at h1 h2 ⊢
  rcases h1 with h1 | ⟨e1, h1⟩
  · rcases h2 with h2 | ⟨e2, h2⟩
    · exact .inl (St.trans h1 h2)
    · exact .inl (by rw [← e2]; exact h1)
  · rcases h2 with h2 | ⟨e2, h2⟩
    · exact .inl (by rw [e1]; exact h2)
    · exact .inr ⟨e1.trans e2, St.trans h1 h2⟩
theorem plt_total {x y : Lab} (h : x ≠ y) : plt x y = true ∨ plt y x = true := by
  simp only [plt_iff]
  by_cases hn : x.n = y.n
  · have hv : x.v ≠ y.v := fun e => h (by cases x; cases y; simp_all)
    cases a : St.lt x.v y.v with
    | true => exact .inl (.inr ⟨hn, rfl⟩)
    | false =>
      cases b : St.lt y.v x.v with
      | true => exact .inr (.inr ⟨hn.symm, rfl⟩)
      | false => exact absurd (St.total a b) hv
  · cases a : St.lt x.n y.n with
    | true => exact .inl (.inl rfl)
    | false =>
      cases b : St.lt y.n x.n with
      | true => exact .inr (.inl rfl)
      | false => exact absurd (St.total a b) hn
theorem plt_ntrans {x y z : Lab} (h1 : plt x y = false) (h2 : plt y z = false) : plt x z = false := by
  apply Bool.eq_false_iff.2
  intro h
  by_cases e : y = z
  · subst e; rw [h1] at h; cases h
  · rcases plt_total e with h3 | h3
    · rw [h2] at h3; cases h3
    · rw [plt_trans h h3] at h1; cases h1
theorem swo : Sort.SWO (ltOf pc) := by
  rw [ltOf_pc]
  exact ⟨plt_irrefl, fun x y z h1 h2 => plt_trans h1 h2, fun x y z h1 h2 => plt_ntrans h1 h2⟩
end Lb
namespace Lb
theorem lbc_len (x : Lab) : (lbc x).length = 2 := rfl
theorem lbc_one (x : Lab) : ∀ v ∈ lbc x, v.oneCell' = true := by
  intro v hv
  simp [lbc] at hv
  rcases hv with rfl | rfl <;> rfl
theorem flat_get (l : List Lab) (t : Nat) (ht : t < l.length * 2) : (lbs l)[t]? = some ((Sort.flatK lbc 2 l.toArray)[t]!) := by
  have hq : t / 2 < l.length := by omega
  have e := lbs_get l (t / 2) (t % 2) hq (by omega)
  rw [show t / 2 * 2 + t % 2 = t by omega] at e
  rw [e, Sort.get_flatK _ _ _ _ (by simpa using ht)]
  have hx : l.toArray[t / 2]! = l[t / 2] := by simp [hq]
  rw [hx]
  have h2 : t % 2 < (lbc l[t / 2]).length := by rw [lbc_len]; omega
  rw [List.getElem?_eq_getElem h2]
  simp [h2]
theorem holds_own {w : World} {base g n c : Nat} {l : List Lab} (h : OwnL w base (some ⟨g, 0, none⟩) n c l) : Sort.HoldsK lbc 2 w g 0 l.toArray := by
  intro j hj
  have hn := h.len
  rw [Sort.size_flatK] at hj
  have hj' : j < l.length * 2 := by simpa using hj
  rw [Nat.zero_add]
  refine ⟨?_, World.ownsRow.frozenAt h j⟩
  rw [World.ownsRow.cellAt h j (by omega), flat_get l j hj']
  rfl
theorem rd_holds {w : World} {g B n c : Nat} {d : Array Lab} (hB : g < B) (hc : n ≤ c) (hm : c ≤ maxLen) (hn : d.size = n) (h : Sort.HoldsK lbc 2 w g 0 d) : RdL w B (some ⟨g, 0, none⟩) n c d.toList := by
  refine ⟨hc, hm, by rw [lbs_length]; simp [hn], fun _ => ⟨g, 0, rfl, hB, fun i u hu => ?_⟩⟩
  have hi : i < d.size * 2 := by
    have := (List.getElem?_eq_some_iff.1 hu).1
    rw [lbs_length] at this; simpa using this
  have h1 := (h i (by rw [Sort.size_flatK]; exact hi)).1
  have h2 := flat_get d.toList i (by simpa using hi)
  rw [show d.toList.toArray = d by simp] at h2
  rw [h1, ← hu, h2]
  rfl
end Lb
theorem sortWorld_below {w : World} {base g m : Nat} {d : Array Lab} {os : Array Obj} (hg : base ≤ g) (hb : base ≤ w.heap.size) : Below base w (sortWorldK lbc 2 w g 0 m d os) := by
  refine ⟨rfl, rfl, rfl, ?_, fun k hk => ?_⟩
  · unfold sortWorldK Sort.putRowK Sort.putRow Sort.mapBlock
    rw [Sort.size_grow]
    simp [Sort.ahead]
  · unfold sortWorldK Sort.putRowK Sort.putRow Sort.mapBlock
    have hsz : k < ((Sort.ahead w m).heap.modify g (Sort.onCells (Sort.putCells id 0 (Sort.flatK lbc 2 d)))).size := by simp [Sort.ahead]; omega
    rw [Sort.heap_grow_old _ _ hsz]
    simp [Sort.ahead, Array.getElem?_modify, show g ≠ k by omega]
set_option maxHeartbeats 1000000 in
theorem sortP_any (g n c base : Nat) (l : List Lab) (w : World) (ho : OwnL w base (some ⟨g, 0, none⟩) n c l) (hb : base ≤ w.heap.size) (hn : n ≤ 4398046511104) :
    Calls Try.prog 103 #[.slice (some ⟨g, 0, none⟩) n c, .func (.func 72) #[] #[]] w fun e w' =>
      e = .returned (.tuple #[]) ∧ ∃ d : Array Lab, Sort.PermIn 0 l.toArray.size l.toArray d ∧ Sort.SortedIn Lb.plt 0 l.toArray.size d ∧ RdL w' w.heap.size (some ⟨g, 0, none⟩) n c d.toList ∧ Below base w w' := by
  have hlen := ho.len
  have hgl := own_lt ho g rfl
  have hrd := ho.rd
  have eg : ∀ args w, (callFunc 72 args).run Try.prog w = .ok (.enter 72 args) w := enters_of Try.func72 (by kernel_rfl) rfl
  have hH := Lb.holds_own ho
  have hcmp : CmpLays Try.prog 72 #[] lbc 2 Lb.pc g 0 l.toArray.size w := by
    intro m os dk hdk x y
    exact (pcompare_any x y _).mono fun e w' ⟨h1, q, os', h2⟩ => ⟨h1, q, os', h2⟩
  have con := AnyQ.slices_SortFunc Try.sortP 2 Try.isAgg67 Try.sizeOf67 lbc Lb.lbc_len Lb.lbc_one Lb.pc Lb.swo 72 #[] g 0 c l.toArray w eg hcmp hH hgl.2 (by simp; omega)
  change Calls Try.prog 103 _ _ _ at con
  rw [show l.toArray.size = n by simp [hlen]] at con ⊢
  refine con.mono fun e w' ⟨h1, d, m, os, h2, h3, h4⟩ => ⟨h1, d, h2, by rw [← Lb.ltOf_pc]; exact h3, ?_, by rw [h4]; exact sortWorld_below hgl.1 hb⟩
  rw [h4]
  have hds : d.size = n := by have := h2.1; simp at this; omega
  exact Lb.rd_holds hgl.2 hrd.1 hrd.2.1 hds (holdsK_sortWorldK_c lbc 2 w g 0 l.toArray d m os hH hgl.2 (by simp; omega))
theorem sortP_none (A : Option Addr) (c : Nat) (fv : Value) (w : World) :
    Calls Try.prog 103 #[.slice A 0 c, fv] w fun e w' => e = .returned (.tuple #[]) ∧ w' = w :=
  AnyF.slices_SortFunc_none Try.sortP A c fv w
end Go.Proofs.Ythhcfocmaiacoaa
