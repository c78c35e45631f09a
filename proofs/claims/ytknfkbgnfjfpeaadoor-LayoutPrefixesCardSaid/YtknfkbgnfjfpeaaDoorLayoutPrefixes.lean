/- LayoutPrefixes: for every input the law returns true, and every argument reads afterwards as it read before. The table that crc reads is tied to the program text. -/
import Derived.Test.YtknfkbgnfjfpeaaDoorCards
import Derived.Test.YtknfkbgnfjfpeaaDoorTie
import Derived.Test.YtknfkbgnfjfpeaaDoorLayV
import Derived.Test.YtknfkbgnfjfpeaaDoorOpenB
namespace Go.Proofs.YtknfkbgnfjfpeaaDoor.layoutPrefixes
open Go.ChangeShapes Go.WideShapes Go.ChangeAt Go.RowKit
open Go.ChangeMaps (open_string shut_string)
theorem gTab : Tryd.prog.globalNamed "tsblock/crc.table" = some 0 := by kernel_rfl
theorem gTabType : (Tryd.prog.globals[0]?).map (·.type) = some 116 := by kernel_rfl
theorem cellsTab : Tryd.prog.cellsOf 116 = 16 := by kernel_rfl
theorem cellsElt : Tryd.prog.cellsOf 33 = 1 := by kernel_rfl
theorem table {W : World} (h : laidMetH Tryd.prog Rows.layoutPrefixesRow.laid W) : Tab W := by
  have ht : Lib.TabIs Tryd.prog W "tsblock/crc.table" .u32 [0, 498536548, 997073096, 651767980, 1994146192, 1802195444, 1303535960, 1342533948, 3988292384, 4027552580, 3604390888, 3412177804, 2607071920, 2262029012, 2685067896, 3183342108] :=
    Lib.tabIs_of_head (rest := []) gTab gTabType Tryd.underlying116 Tryd.underlying33 cellsElt cellsTab h
  intro i hi
  have h1 := ht.cell gTab i (by simpa using hi)
  rw [h1]
  have : ∀ i, i < 16 → ([0, 498536548, 997073096, 651767980, 1994146192, 1802195444, 1303535960, 1342533948, 3988292384, 4027552580, 3604390888, 3412177804, 2607071920, 2262029012, 2685067896, 3183342108] : List Int).getD i 0 = ((Crc.tab.getD i 0 : Nat) : Int) := by decide
  first | rw [this i hi] | (have e := this i hi; simp only [List.getD] at e ⊢; simp_all)
noncomputable def laidWorld (os : Os) : World :=
  { World.holding Tryd.prog os ⟨#[], #[], []⟩ with heap := (World.holding Tryd.prog os ⟨#[], #[], []⟩).heap.modify 0 fun
      | .cells _ t frozen => .cells #[.int .u32 0, .int .u32 498536548, .int .u32 997073096, .int .u32 651767980, .int .u32 1994146192, .int .u32 1802195444, .int .u32 1303535960, .int .u32 1342533948, .int .u32 3988292384, .int .u32 4027552580, .int .u32 3604390888, .int .u32 3412177804, .int .u32 2607071920, .int .u32 2262029012, .int .u32 2685067896, .int .u32 3183342108] t frozen
      | o => o }
theorem laid_met (os : Os) : laidMet Tryd.prog Rows.layoutPrefixesRow.laid ((laidWorld os).forCall (fun _ _ => 0) ⟨#[], #[.slice none 0 0, .int .u16 0, .slice none 0 0], []⟩).memory :=
  laidMet_of_run' 8 (by kernel_rfl) (by kernel_rfl)
theorem reads (os : Os) {H : Type} (enc : TypeId × Value → H) : ∃ places, DataW.whole enc Tryd.prog ((laidWorld os).forCall (fun _ _ => 0) ⟨#[], #[.slice none 0 0, .int .u16 0, .slice none 0 0], []⟩).memory Tryd.f14.params.toList Rows.layoutPrefixesSpec.vars false (#[.slice none 0 0, .int .u16 0, .slice none 0 0] : Array Value).toList 8 = some ([.nil, .lit (.int .u16 0), .nil], [], places) :=
  ⟨[], by kernel_rfl⟩
set_option maxRecDepth 100000 in
theorem lifted (os : Os) (started : os.Started) (H : Type) (enc : TypeId × Value → H) (F : Stop.Interp) :
    ReturnsInHanded {} Tryd.checked os 14 .any ((OpenSpec.ofChange Rows.layoutPrefixesSpec).preRow enc Tryd.prog Tryd.f14 Rows.layoutPrefixesRow.domain false Rows.layoutPrefixesRow.laid) (((OpenSpec.ofChange Rows.layoutPrefixesSpec).at F).post enc Tryd.prog Tryd.f14 false true false false) := by
  obtain ⟨places, hx⟩ := reads os enc
  refine returnsInHanded_of_row (C := Tryd.checked) (s := OpenSpec.ofChange Rows.layoutPrefixesSpec) Open.own started (by kernel_rfl) Tryd.func14
    (witness_row_at (enc := enc) (C := Tryd.checked) false (laidWorld os) #[.slice none 0 0, .int .u16 0, .slice none 0 0] rfl (by kernel_rfl) (by kernel_rfl) (by kernel_rfl)
      (OpenSpec.preRow_of_cond 8 hx (by kernel_rfl) (fun k hk => by cases hk) (by kernel_rfl) (laid_met os))) ?_
  intro W base args ds gs before hval0 hW _ _ hsz0 hL _ _
  have hval : ∀ (j : Nat) t v, Tryd.f14.params[j]? = some t → args[j]? = some v → Value.okWide Tryd.prog W .any base t v := hval0
  have hW' := hW
  obtain ⟨p, q, hA0, hV, rfl, hfz, hnd⟩ := hW
  have hA : DataW.TrodAll enc Tryd.prog W 0 (fun _ => true) true Tryd.f14.params.toList args.toList ds p := hA0
  have hsz1 : (DataW.weightsEach Tryd.prog (Tryd.f14.params.toList ++ (OpenSpec.ofChange Rows.layoutPrefixesSpec).bare.plain.varTypes Tryd.prog) (ds ++ gs)).all (· ≤ reachBytes) = true := hsz0
  rw [Tryd.params14] at hA hval hsz1
  obtain ⟨v0, vs0, d0, ds0, p0, q0, hargs, rfl, rfl, h0, r0⟩ := trodAll_cons hA
  obtain ⟨v1, vs1, d1, ds1, p1, q1, rfl, rfl, rfl, h1, r1⟩ := trodAll_cons r0
  obtain ⟨v2, vs2, d2, ds2, p2, q2, rfl, rfl, rfl, h2, r2⟩ := trodAll_cons r1
  obtain ⟨rfl, rfl, rfl⟩ := trodAll_nil r2
  obtain rfl : args = #[v0, v1, v2] := by cases args; simp_all
  obtain ⟨rfl, rfl⟩ := trodVars_none hV
  have hsz : (DataW.weightsEach Tryd.prog ([22, 79, 22] ++ []) ([d0, d1, d2] ++ [])).all (· ≤ reachBytes) = true := hsz1
  clear hA0 hval0
  have k0 := h0
  have lt0 := Open.lt k0
  obtain ⟨A0, n0, c0, rfl⟩ := okWide_slice Tryd.underlying22 (hval 0 22 v0 rfl rfl)
  obtain ⟨⟨l0, rd0⟩, sq0⟩ := Open.bytes h0
  have s0 := Open.bytes_cap hsz (j := 0) rfl rfl sq0
  have k1 := h1
  have lt1 := Open.lt k1
  obtain ⟨a1, rfl, rfl, rfl, w1⟩ := open_int Tryd.underlying79 (hval 1 79 v1 rfl rfl) h1
  obtain ⟨x1, rfl, b1⟩ := Open.u16 w1
  have k2 := h2
  have lt2 := Open.lt k2
  obtain ⟨A2, n2, c2, rfl⟩ := okWide_slice Tryd.underlying22 (hval 2 22 v2 rfl rfl)
  obtain ⟨⟨l2, rd2⟩, sq2⟩ := Open.bytes h2
  have s2 := Open.bytes_cap hsz (j := 2) rfl rfl sq2
  refine (law_lprefix A0 n0 c0 l0 x1 A2 n2 c2 l2 W rd0 rd2 s0 s2 b1 (table hL)).mono fun e W' ⟨he, bel⟩ => ?_
  subst he
  exact ⟨_, rfl, _, _, _, [], _, [], hW', trodAll_mk1 (shut_bool Tryd.underlying4 _), (trodAll_cons_mk (Below.trod Open.laidOut (by kernel_rfl) (of_decide_eq_true (by kernel_rfl)) k0 bel lt0) (trodAll_cons_mk (Below.trod Open.laidOut (by kernel_rfl) (of_decide_eq_true (by kernel_rfl)) k1 bel lt1) (trodAll_cons_mk (Below.trod Open.laidOut (by kernel_rfl) (of_decide_eq_true (by kernel_rfl)) k2 bel lt2) trodAll_mk0))), rfl, bel.frame _, fun h => by cases h⟩
theorem said : Rows.LayoutPrefixesSaid :=
  OpenClaim.holds_of_cond 14 Tryd.f14 rfl rfl rfl rfl rfl rfl rfl ⟨rfl, rfl, rfl, rfl, rfl⟩ rfl rfl rfl rfl rfl (by kernel_rfl) Tryd.func14 (by kernel_rfl)
    (of_decide_eq_true (by kernel_rfl)) (by unfold Func.isWrapper; first | (rw [if_pos (by decide +kernel)]; kernel_rfl) | (rw [if_neg (by decide +kernel)]; exact ⟨rfl, rfl⟩))
    (fun os started H enc _ F => by rw [OpenClaim.pre_eq_preRow]; exact lifted os started H enc F)
theorem plain (f : FuncId) (fn : Func) (hf : Tryd.pinned.checked.prog.funcNamed "tsblock/tsblocklaw16.LayoutPrefixes" = some f) (hfn : Tryd.pinned.checked.prog.funcs[f]? = some fn) :
    false = Tryd.pinned.checked.prog.looks [] ∧ ∀ (j : Nat) t, fn.params[j]? = some t → Tryd.pinned.checked.prog.wantsStandIn t = false := by
  obtain rfl : f = 14 := Option.some.inj ((show Tryd.prog.funcNamed "tsblock/tsblocklaw16.LayoutPrefixes" = some 14 by kernel_rfl).symm.trans hf) |>.symm
  obtain rfl : fn = Tryd.f14 := (Option.some.inj (Tryd.func14.symm.trans hfn)).symm
  refine ⟨by kernel_rfl, fun j t ht => ?_⟩
  rw [Tryd.params14] at ht
  have hm : t ∈ [22, 79, 22] := by simpa using Array.mem_of_getElem? ht
  have hall : ([22, 79, 22].all fun u => !Tryd.prog.wantsStandIn u) = true := by kernel_rfl
  exact (show Tryd.prog.wantsStandIn t = false by simpa using List.all_eq_true.1 hall t hm)
theorem card : Rows.LayoutPrefixesCardSaid :=
  Claim7.holds_tied_plain_at .later [] _ _ _ _ said (fun _ h => by cases h) (by kernel_rfl) (fun _ h => by cases h) layoutPrefixes_row_tie rfl ⟨rfl, rfl⟩ (by kernel_rfl) rfl plain (by kernel_rfl)
end Go.Proofs.YtknfkbgnfjfpeaaDoor.layoutPrefixes
