/- Chapter 15: a map from labels to rows, entry by entry, in the order in which they came. -/
import Derived.Test.YthhcfocmaiacoaaPostA
import Derived.DeepKeys4
import Derived.WideKeyEntry
import Derived.Maps.Range
namespace Go.Proofs.Ythhcfocmaiacoaa
open Go.RowKit Go.Shelf
open Go.ChangeMaps (setBlock heap_setBlock_same heap_setBlock_other)

theorem labLaid : laidOutB Try.prog = true := by kernel_rfl
theorem labRow : (67 : TypeId) < Try.prog.types.size := of_decide_eq_true (by kernel_rfl)
theorem labAt : Try.prog.keyTypeAt 2 67 = true := by kernel_rfl
theorem labLaw0 : WideMaps.KeyLaw Try.prog 67 := deep_law_laid labLaid (m := 2) (by omega) labRow labAt (by rw [Try.underlying67])
theorem labLaw : Maps.Keyed Try.prog 67 := Maps.Keyed.of_law labLaw0
theorem labKeyType : Try.prog.keyType 67 = true := by kernel_rfl
theorem labCells : Try.prog.cellsOf 67 = 2 := by kernel_rfl
theorem strCells : Try.prog.cellsOf 9 = 1 := by kernel_rfl
def kv (x : Lab) : Value := .agg #[.string x.n, .string x.v]
theorem kv_inj {x y : Lab} (h : kv x = kv y) : x = y := by
  cases x; cases y
  unfold kv at h
  simp at h
  simp [h]
def SmallL (x : Lab) : Prop := x.n.size ≤ maxLen ∧ x.v.size ≤ maxLen
theorem keyLits_str (d : Nat) (s : ByteArray) (h : s.size ≤ maxLen) : Try.prog.keyLits (d + 1) 9 [.string s] = some [.string s.data.toList] := by
  simp [Program.keyLits, Try.underlying9, h]
theorem keyLits_lab (d : Nat) (x : Lab) (h : SmallL x) : Try.prog.keyLits (d + 1 + 1) 67 [.string x.n, .string x.v] = some [.string x.n.data.toList, .string x.v.data.toList] := by
  have h1 := keyLits_str d x.n h.1
  have h2 := keyLits_str d x.v h.2
  have hc := labCells
  have hs := strCells
  have hu := Try.underlying67
  unfold Program.keyLits
  rw [hu]
  dsimp only
  generalize Try.prog.keyLits (d + 1) = F at *
  generalize Try.prog.cellsOf = C at *
  simp [hc, hs, h1, h2]
theorem kv_key (x : Lab) (h : SmallL x) : ∃ l, keyOf Try.prog 67 (kv x) = some l := by
  obtain ⟨d0, hd0⟩ := Nat.exists_eq_add_of_lt labRow
  obtain ⟨d, hd⟩ : ∃ d, Try.prog.types.size = d + 1 := ⟨_, hd0⟩
  clear hd0
  have hf : (kv x).formed Try.prog 67 = true := by
    simp [kv, Value.formed, Try.underlying67, labCells]
  have hc : (kv x).cells.toList = [.string x.n, .string x.v] := rfl
  have hk := keyLits_lab d x h
  have hu := Try.underlying67
  unfold keyOf
  rw [hu]
  simp only [labKeyType, hf, Bool.and_self, if_true]
  rw [hc, hd, hk]
  exact ⟨_, rfl⟩
/-- entries, as they lie in the map's block -/
def mE : List (Lab × Value) → Nat → List MapEntry
  | [], _ => []
  | e :: es, k => ⟨kv e.1, e.2, k⟩ :: mE es (k + 1)
theorem mE_len : ∀ (es : List (Lab × Value)) (k : Nat), (mE es k).length = es.length
  | [], _ => rfl
  | e :: es, k => by simp [mE, mE_len es (k + 1)]
theorem mE_get : ∀ (es : List (Lab × Value)) (k i : Nat) (h : i < es.length), (mE es k)[i]? = some ⟨kv es[i].1, es[i].2, k + i⟩
  | [], _, _, h => by simp at h
  | e :: es, k, 0, _ => by simp [mE]
  | e :: es, k, i + 1, h => by
    rw [mE, List.getElem?_cons_succ, mE_get es (k + 1) i (by simpa using h)]
    simp; omega
theorem mE_mem {es : List (Lab × Value)} {k : Nat} {x : MapEntry} (h : x ∈ mE es k) : ∃ i, ∃ h : i < es.length, x = ⟨kv es[i].1, es[i].2, k + i⟩ := by
  obtain ⟨i, hi, e⟩ := List.mem_iff_getElem.1 h
  have hl : i < es.length := by rw [mE_len] at hi; exact hi
  have := mE_get es k i hl
  rw [List.getElem?_eq_getElem hi, e] at this
  exact ⟨i, hl, by simpa using this⟩
theorem mE_app : ∀ (es : List (Lab × Value)) (k : Nat) (e : Lab × Value), mE (es ++ [e]) k = mE es k ++ [⟨kv e.1, e.2, k + es.length⟩]
  | [], _, _ => rfl
  | x :: es, k, e => by
    rw [List.cons_append, mE, mE_app es (k + 1) e, mE]
    simp; omega
theorem mE_set : ∀ (es : List (Lab × Value)) (k i : Nat) (h : i < es.length) (v : Value), mE (es.set i (es[i].1, v)) k = (mE es k).set i ⟨kv es[i].1, v, k + i⟩
  | [], _, _, h, _ => by simp at h
  | x :: es, k, 0, _, v => by simp [mE]
  | x :: es, k, i + 1, h, v => by
    rw [List.set_cons_succ, mE, mE, List.set_cons_succ]
    have := mE_set es (k + 1) i (by simpa using h) v
    simp only [List.getElem_cons_succ]
    rw [this, show k + 1 + i = k + (i + 1) by omega]
theorem mE_born : ∀ (es : List (Lab × Value)) (k : Nat), (mE es k).map (·.born) = List.range' k es.length
  | [], _ => rfl
  | e :: es, k => by simp [mE, mE_born es (k + 1), List.range'_succ]
theorem mE_nodup (es : List (Lab × Value)) (k : Nat) : ((mE es k).map (·.born)).Nodup := by
  rw [mE_born]; exact List.nodup_range'
/-- block b is the map of these entries -/
structure MapL (w : World) (b : Nat) (es : List (Lab × Value)) : Prop where
  blk : w.heap[b]? = some (.map (mE es 0).toArray es.length)
  dup : (es.map (·.1)).Nodup
  small : ∀ e ∈ es, SmallL e.1
theorem MapL.lt {w : World} {b : Nat} {es : List (Lab × Value)} (h : MapL w b es) : b < w.heap.size := (Array.getElem?_eq_some_iff.1 h.blk).1
theorem MapL.at_ {w w' : World} {b : Nat} {es : List (Lab × Value)} (h : MapL w b es) (e : w'.heap[b]? = w.heap[b]?) : MapL w' b es := ⟨e.trans h.blk, h.dup, h.small⟩
theorem MapL.made (w : World) : MapL (w.alloc (.map #[] 0)) w.heap.size [] := ⟨(MapKept.heap_alloc w _).1, by simp, by simp⟩
theorem MapL.keys {w : World} {b : Nat} {es : List (Lab × Value)} (h : MapL w b es) : ∀ e ∈ mE es 0, ∃ l, keyOf Try.prog 67 e.key = some l := by
  intro e he
  obtain ⟨i, hi, rfl⟩ := mE_mem he
  exact kv_key _ (h.small _ (List.getElem_mem hi))
theorem MapL.idx {w : World} {b : Nat} {es : List (Lab × Value)} (h : MapL w b es) {i j : Nat} (hi : i < es.length) (hj : j < es.length) (e : es[i].1 = es[j].1) : i = j := by
  exact (List.getElem_inj (h₀ := by simpa using hi) (h₁ := by simpa using hj) h.dup).1 (by simpa using e)
/-- the key is found -/
theorem MapL.hit {w : World} {b : Nat} {es : List (Lab × Value)} (h : MapL w b es) (w' : World) {i : Nat} (hi : i < es.length) : (Instr.findKey 67 (kv es[i].1) (mE es 0)).run Try.prog w' = .ok (some (i, es[i].2)) w' := by
  obtain ⟨l, hl⟩ := kv_key es[i].1 (h.small _ (List.getElem_mem hi))
  rcases labLaw.find w' hl (mE es 0) h.keys with ⟨_, h2⟩ | ⟨j, e, h1, h2, h3⟩
  · exact absurd rfl (h2 _ (List.mem_of_getElem? (mE_get es 0 i hi)))
  · have hj : j < es.length := by have := (List.getElem?_eq_some_iff.1 h2).1; rwa [mE_len] at this
    rw [mE_get es 0 j hj] at h2
    have e1 : e = ⟨kv es[j].1, es[j].2, 0 + j⟩ := by simpa using h2.symm
    rw [e1] at h3
    obtain rfl : j = i := h.idx hj hi (kv_inj h3)
    rw [h1, e1]
theorem MapL.miss {w : World} {b : Nat} {es : List (Lab × Value)} (h : MapL w b es) (w' : World) {x : Lab} (hx : SmallL x) (hn : x ∉ es.map (·.1)) : (Instr.findKey 67 (kv x) (mE es 0)).run Try.prog w' = .ok none w' := by
  obtain ⟨l, hl⟩ := kv_key x hx
  rcases labLaw.find w' hl (mE es 0) h.keys with ⟨h1, _⟩ | ⟨j, e, h1, h2, h3⟩
  · exact h1
  · exfalso
    have hj : j < es.length := by have := (List.getElem?_eq_some_iff.1 h2).1; rwa [mE_len] at this
    rw [mE_get es 0 j hj] at h2
    have e1 : e = ⟨kv es[j].1, es[j].2, 0 + j⟩ := by simpa using h2.symm
    rw [e1] at h3
    exact hn (List.mem_map.2 ⟨es[j], List.getElem_mem hj, kv_inj h3⟩)
theorem labCheck (w : World) (em : Bool) {x : Lab} (hx : SmallL x) : (Instr.checkKey em 10000 67 (kv x)).run Try.prog w = .ok () w := by
  obtain ⟨l, hl⟩ := kv_key x hx
  exact labLaw.check w em hl
theorem labStays (w : World) {x : Lab} (hx : SmallL x) : (Instr.keyThatStays (kv x) (kv x)).run Try.prog w = .ok (kv x) w := by
  obtain ⟨l, hl⟩ := kv_key x hx
  exact labLaw.stays w hl
theorem zeroI (w : World) : (zeroValue 70).run Try.prog w = .ok (.slice none 0 0) w := by kernel_rfl
theorem MapL.lookup {w : World} {b : Nat} {es : List (Lab × Value)} (h : MapL w b es) {i : Nat} (hi : i < es.length) : (Instr.lookup 111 (.map (some b)) (kv es[i].1) false).run Try.prog w = .ok es[i].2 w := by
  simp [Instr.lookup, run_underlying Try.underlying111, MapKept.run_getObj_map h.blk, labCheck w _ (h.small _ (List.getElem_mem hi)), h.hit w hi, Result.andThen]
theorem setBlock_self {w : World} {b : Nat} {o : Obj} (h : w.heap[b]? = some o) : setBlock w b o = w := by
  obtain ⟨hlt, e⟩ := Array.getElem?_eq_some_iff.1 h
  unfold setBlock
  have : w.heap.setIfInBounds b o = w.heap := by
    rw [Array.setIfInBounds, dif_pos hlt, ← e]
    simp
  rw [this]
/-- m[k] op= ..: the entry, found -/
theorem MapL.entry {w : World} {b : Nat} {es : List (Lab × Value)} (h : MapL w b es) {i : Nat} (hi : i < es.length) : (Instr.mapEntry 111 (.map (some b)) (kv es[i].1)).run Try.prog w = .ok (.tuple #[es[i].2, .int .i64 i]) w := by
  have hs := h.small _ (List.getElem_mem hi)
  have hsame : (mE es 0).modify i (fun e => { key := kv es[i].1, val := e.val, born := e.born }) = mE es 0 := by
    rw [ChangeMaps.modify_eq_set _ _ _ _ (mE_get es 0 i hi)]
    exact WideElems.set_self _ _ _ (mE_get es 0 i hi)
  have hset : setBlock w b (.map (mE es 0).toArray es.length) = w := setBlock_self h.blk
  unfold setBlock at hset
  simp [Instr.mapEntry, run_underlying Try.underlying111, MapKept.run_getObj_map h.blk, labCheck w _ hs, h.hit w hi, labStays w hs, mE_get es 0 i hi, hsame, MapKept.run_setObj_map _ h.blk, Result.andThen, goInt, hset]
/-- .. laid anew -/
theorem MapL.fresh {w : World} {b : Nat} {es : List (Lab × Value)} (h : MapL w b es) {x : Lab} (hx : SmallL x) (hn : x ∉ es.map (·.1)) :
    (Instr.mapEntry 111 (.map (some b)) (kv x)).run Try.prog w = .ok (.tuple #[.slice none 0 0, .int .i64 es.length]) (setBlock w b (.map (mE (es ++ [(x, .slice none 0 0)]) 0).toArray (es.length + 1))) := by
  simp [Instr.mapEntry, run_underlying Try.underlying111, MapKept.run_getObj_map h.blk, labCheck w _ hx, h.miss w hx hn, mE_app, MapKept.run_setObj_map _ h.blk, Result.andThen, goInt, setBlock]
theorem MapL.push {w : World} {b : Nat} {es : List (Lab × Value)} (h : MapL w b es) {x : Lab} (hx : SmallL x) (hn : x ∉ es.map (·.1)) (v : Value) :
    MapL (setBlock w b (.map (mE (es ++ [(x, v)]) 0).toArray (es.length + 1))) b (es ++ [(x, v)]) := by
  refine ⟨by rw [List.length_append]; exact heap_setBlock_same h.blk _, ?_, fun e he => ?_⟩
  · rw [List.map_append]
    refine List.nodup_append.2 ⟨h.dup, by simp, fun a ha c hc => ?_⟩
    simp only [List.map_cons, List.map_nil, List.mem_singleton] at hc
    rw [hc]
    exact fun e => hn (e ▸ ha)
  · rcases List.mem_append.1 he with h1 | h1
    · exact h.small e h1
    · rw [List.mem_singleton.1 h1]; exact hx
theorem MapL.store {w : World} {b : Nat} {es : List (Lab × Value)} (h : MapL w b es) {i : Nat} (hi : i < es.length) (v : Value) :
    (Instr.entryStore 111 (.map (some b)) (.int .i64 i) v).run Try.prog w = .ok () (setBlock w b (.map (mE (es.set i (es[i].1, v)) 0).toArray es.length)) := by
  have hidx : (mE es 0).toArray.findIdx? (fun e => ((e.born : Nat) : Int) == ((i : Nat) : Int)) = some i := by
    rw [WideElems.findIdx_arr]
    have := WideElems.findIdx_born (mE_nodup es 0) (mE_get es 0 i hi)
    simpa using this
  have hmod : (mE es 0).toArray.modify i (fun e => { e with val := v }) = (mE (es.set i (es[i].1, v)) 0).toArray := by
    apply Array.ext'
    rw [Array.toList_modify, ChangeMaps.modify_eq_set _ _ _ _ (mE_get es 0 i hi), mE_set es 0 i hi]
  simp [Instr.entryStore, MapKept.run_getObj_map h.blk, asInt, asIntOf, hidx, hmod, MapKept.run_setObj_map _ h.blk, Result.andThen, setBlock]
theorem MapL.put {w w' : World} {b : Nat} {es : List (Lab × Value)} (h : MapL w b es) {i : Nat} (hi : i < es.length) (v : Value) (hw : w'.heap[b]? = w.heap[b]?) :
    MapL (setBlock w' b (.map (mE (es.set i (es[i].1, v)) 0).toArray es.length)) b (es.set i (es[i].1, v)) := by
  have hm : (es.set i (es[i].1, v)).map (·.1) = es.map (·.1) := by
    rw [List.map_set]
    have : (es.map (·.1))[i]? = some es[i].1 := by simp [hi]
    exact WideElems.set_self _ _ _ this
  refine ⟨by rw [List.length_set]; exact heap_setBlock_same (hw.trans h.blk) _, by rw [hm]; exact h.dup, fun e he => ?_⟩
  have : e.1 ∈ es.map (·.1) := by rw [← hm]; exact List.mem_map.2 ⟨e, he, rfl⟩
  obtain ⟨e', he', e1⟩ := List.mem_map.1 this
  rw [← e1]; exact h.small e' he'
end Go.Proofs.Ythhcfocmaiacoaa
