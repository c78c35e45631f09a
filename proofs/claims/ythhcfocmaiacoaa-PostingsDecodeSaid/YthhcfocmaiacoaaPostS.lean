/- Chapter 15: the keys collected. -/
import Derived.Test.YthhcfocmaiacoaaRange
import Derived.Test.YthhcfocmaiacoaaPostM
import Derived.Test.YthhcfocmaiacoaaSymA
import Derived.Deep.Cut
namespace Go.Proofs.Ythhcfocmaiacoaa
open Go.RowKit Go.Shelf

/-- a block that holds a map's iterator -/
def IterAt (W : World) (r : Nat) : Prop := ∃ m s se c, W.heap[r]? = some (.mapIter m s se c)
/-- J does not mind new blocks, and turns of maps' iterators from B on. -/
def MindsM (B : Nat) {β : Type} (J : β → World → Prop) : Prop :=
  ∀ s W W' row, J s W → W.grownBy W' row → (∀ r, row = some r → B ≤ r ∧ IterAt W r) → J s W'
/-- The function value gf with lb captured yields elements, in an order of its own. -/
def YieldsP {α : Type} (n : Nat) (P : Program) (gf : Nat) (lb : Array Value) (encs : α → Array Value) (Kp : World → World → Prop) (Pre Full : List α → Prop) (w : World) : Prop :=
  ∀ (l : Nat) (J Jx : List α → World → Prop) (W : World), Kp w W → MindsM w.heap.size J → MindsM w.heap.size Jx →
    (∀ pre x W1, J pre W1 → Pre (pre ++ [x]) → YieldAt Fence.wide (n - 1) P l (encs x) W1 fun e W' =>
      (e = .returned (.bool true) ∧ J (pre ++ [x]) W' ∧ Kp W1 W') ∨ (e = .returned (.bool false) ∧ Jx (pre ++ [x]) W')) →
    J [] W →
    CallsIn Fence.wide n P gf (#[.func (.yield l) #[] #[]] ++ lb) W fun e W' => (∃ v, e = .returned v) ∧ ((∃ L, Full L ∧ J L W') ∨ (∃ pre, Jx pre W'))

theorem wp_rangeP {α : Type} {n : Nat} {P : Program} {g : Operand} {ps : Array Tmp} {assign body : Code} {Q : Exit → Act → World → Prop} {a : Act} {w : World}
    (h1 : 1 ≤ n) {gf : Nat} {lb : Array Value} (hg : a.eval g = .func (.func gf) #[] lb) (eg : ∀ args w, (callFunc gf args).run P w = .ok (.enter gf args) w)
    {encs : α → Array Value} {Kp : World → World → Prop} {Pre Full : List α → Prop} (hseq : ∀ o, YieldsP (n - 1) P gf lb encs Kp Pre Full (w.alloc o))
    (hKt : ∀ {A B C : World}, Kp A B → Kp B C → Kp A C)
    (hKb : ∀ (W W' : World) (row : Option Nat), w.heap.size ≤ W.heap.size → W.grownBy W' row → (∀ r, row = some r → w.heap.size ≤ r ∧ ∃ L, W.heap[r]? = some (.loop L)) → Kp W W')
    (hps : ∀ x, (encs x).size = ps.size)
    (I : List α → World → Prop) (Ix : Code → List α → World → Prop) (M : List α → α → Act → World → Prop)
    (hI : MindsOwn w.heap.size (fun _ => False) I) (hIx : ∀ c, MindsOwn w.heap.size (fun _ => False) (Ix c)) (hM : ∀ pre x a, MindsOwn w.heap.size (fun _ => False) (fun (_ : Unit) W => M pre x a W)) (h0 : I [] w)
    (hassign : ∀ (l : Nat) (pre : List α) (x : α) (W : World), I pre W → Pre (pre ++ [x]) → w.heap.size ≤ W.heap.size →
      assign.wpIn (Fence.wide.inRound l) (n - 1 - 1) P (Exit.then (fun a₁ W₁ => KeepsFrom w.heap.size W W₁ ∧ Kp W W₁ ∧ M pre x a₁ W₁) (fun _ _ _ => False))
        { tmps := (ps.zip (encs x)).foldl (fun t (p, v) => t.setIfInBounds p v) a.tmps, defers := [] } W)
    (hbody : ∀ (l : Nat) (pre : List α) (x : α) (a₁ : Act) (W : World), M pre x a₁ W → Pre (pre ++ [x]) → w.heap.size ≤ W.heap.size →
      body.wpIn (Fence.wide.inRound l) (n - 1 - 1) P (leftBy w.heap.size Kp I Ix (pre ++ [x]) W) a₁ W)
    (hdone : ∀ (D : Nat) (W : World), w.heap.size ≤ D → (∃ L, Full L ∧ I L W) → W.heap[D]? = some (.deferred (some [])) → Q .normal { a with defers := { target := .collected D, args := #[] } :: a.defers } W)
    (hstop : ∀ (D : Nat) (c : Code) (pre : List α) (W : World), w.heap.size ≤ D → Ix c pre W → W.heap[D]? = some (.deferred (some [])) → c.wpIn Fence.wide n P Q { a with defers := { target := .collected D, args := #[] } :: a.defers } W) :
    (Code.rangeFunc g ps assign body).wpIn Fence.wide n P Q a w := by
  refine wpIn_rangeFunc fun fn hfn => ?_
  obtain ⟨rec, hrec⟩ : ∃ rec : LoopState → Option Code → Loop, rec = fun st pe => { state := st, pending := pe, fn, tmps := a.tmps, params := ps, assign, body, defers := w.heap.size } := ⟨_, rfl⟩
  obtain ⟨l, hl0⟩ : ∃ l, l = w.heap.size + 1 := ⟨_, rfl⟩
  obtain ⟨D, hD0⟩ : ∃ D, D = w.heap.size := ⟨_, rfl⟩
  obtain ⟨W1, hW1⟩ : ∃ W1, W1 = (w.alloc (.deferred (some []))).alloc (.loop (rec .ready none)) := ⟨_, rfl⟩
  have hsz1 : W1.heap.size = w.heap.size + 2 := by rw [hW1]; simp
  have hL1 : W1.heap[l]? = some (.loop (rec .ready none)) := by
    rw [hW1, hl0]
    have := World.alloc_heap_new (w.alloc (.deferred (some []))) (.loop (rec .ready none))
    rwa [World.size_alloc] at this
  have hK1 : W1.heap[D]? = some (.deferred (some [])) := by
    rw [hW1, hD0]
    exact (Below.heap_alloc _ _ _ (by simp)).trans (World.alloc_heap_new w _)
  have hgr : w.grownBy W1 none := by
    rw [hW1]
    exact ⟨rfl, rfl, rfl, by simp; omega, fun k hk _ => (Below.heap_alloc _ _ _ (by simp; omega)).trans (Below.heap_alloc _ _ _ hk)⟩
  have hI1 : I [] W1 := hI _ _ _ _ h0 hgr (fun r e => by cases e)
  refine ⟨l, [{ target := .collected D, args := #[] }], W1, { target := .fn (.func gf) lb, args := #[.func (.yield l) #[] #[]] }, W1, gf, #[.func (.yield l) #[] #[]] ++ lb, W1, ?_, ?_, fun _ _ => trivial, ?_, fun _ => h1, ?_⟩
  · rw [hW1, hl0, hD0, hrec]; exact run_enterLoop_outer _ _ _ _ _
  · simp only [resolve, hg]
    simp [go_sem]
  · simp [invoke, go_sem, eg]
  refine (hseq (.deferred (some [])) l
    (fun pre W => I pre W ∧ W.heap[l]? = some (.loop (rec .ready none)) ∧ W.heap[D]? = some (.deferred (some [])))
    (fun pre W => ∃ c, Ix c pre W ∧ W.heap[l]? = some (.loop (rec .done (some c))) ∧ W.heap[D]? = some (.deferred (some [])))
    W1 (hKb (w.alloc (.deferred (some []))) _ none (by simp) (by rw [hW1]; exact World.grownBy_alloc _ _ none) (fun r e => by cases e)) ?_ ?_ ?_ ⟨hI1, hL1, hK1⟩).mono ?_
  · rintro s X Y row ⟨hi, hx, hd⟩ hg' hr
    have hlx := (Array.getElem?_eq_some_iff.1 hx).1
    have hdx := (Array.getElem?_eq_some_iff.1 hd).1
    exact ⟨hI s X Y row hi hg' (fun r e => .inr ⟨(by have := (hr r e).1; simp at this; omega), by obtain ⟨m, s1, se, c1, hm⟩ := (hr r e).2; exact ⟨_, hm, rfl⟩⟩), (hg'.block l hlx (fun e => by obtain ⟨m, s1, se, c1, hm⟩ := (hr l e.symm).2; rw [hx] at hm; cases hm)).trans hx, (hg'.block D hdx (fun e => by obtain ⟨m, s1, se, c1, hm⟩ := (hr D e.symm).2; rw [hd] at hm; cases hm)).trans hd⟩
  · rintro s X Y row ⟨c, hi, hx, hd⟩ hg' hr
    have hlx := (Array.getElem?_eq_some_iff.1 hx).1
    have hdx := (Array.getElem?_eq_some_iff.1 hd).1
    exact ⟨c, hIx c s X Y row hi hg' (fun r e => .inr ⟨(by have := (hr r e).1; simp at this; omega), by obtain ⟨m, s1, se, c1, hm⟩ := (hr r e).2; exact ⟨_, hm, rfl⟩⟩), (hg'.block l hlx (fun e => by obtain ⟨m, s1, se, c1, hm⟩ := (hr l e.symm).2; rw [hx] at hm; cases hm)).trans hx, (hg'.block D hdx (fun e => by obtain ⟨m, s1, se, c1, hm⟩ := (hr D e.symm).2; rw [hd] at hm; cases hm)).trans hd⟩
  · -- one round
    rintro pre x W ⟨hi, hx, hd⟩ hpre
    have hlx : l < W.heap.size := (Array.getElem?_eq_some_iff.1 hx).1
    have hy := run_yield (P := P) (args := encs x) hx (by rw [hrec]; exact hps x)
    have e1 : (rec .ready none).fn = fn := by rw [hrec]
    have e2 : (rec .ready none).params = ps := by rw [hrec]
    have e3 : (rec .ready none).tmps = a.tmps := by rw [hrec]
    have e4 : (rec .ready none).assign = assign := by rw [hrec]
    have e5 : (rec .ready none).body = body := by rw [hrec]
    rw [e1, e2, e3, e4, e5] at hy
    refine ⟨fn, _, assign, body, hy, roundIn_of_wpIn hfn (wpIn_mono (hassign l pre x W hi hpre (by omega)) ?_)⟩
    rintro e a₁ W₁ hq
    cases e with
    | normal =>
      obtain ⟨hk1, hp1, hm1⟩ := hq
      have hx1 := hk1.same l _ (by omega) hx rfl
      have hd1 := hk1.same D _ (by omega) hd rfl
      have hl1 := (Array.getElem?_eq_some_iff.1 hx1).1
      refine ⟨_, run_beginRound hx1 (by rw [hrec]), ?_⟩
      obtain ⟨W₂, hW₂⟩ : ∃ W₂, W₂ = W₁.putObj l (.loop { rec .ready none with state := .busy }) := ⟨_, rfl⟩
      rw [← hW₂]
      have hg2 : W₁.grownBy W₂ (some l) := by rw [hW₂]; exact grownBy_putObj' W₁ l _
      have hx2 : W₂.heap[l]? = some (.loop { rec .ready none with state := .busy }) := by rw [hW₂]; exact World.putObj_heap_same hl1
      have hd2 : W₂.heap[D]? = some (.deferred (some [])) := by rw [hW₂]; exact (World.putObj_heap_other (by omega)).trans hd1
      have hm2 : M pre x a₁ W₂ := hM pre x a₁ () _ _ _ hm1 hg2 (fun r e => by cases e; exact .inr ⟨by omega, _, hx1, rfl⟩)
      have hp2 : Kp W W₂ := hKt hp1 (hKb _ _ _ (by omega) hg2 (fun r e => by cases e; exact ⟨by omega, _, hx1⟩))
      have hz2 : w.heap.size ≤ W₂.heap.size := by have := hg2.size; omega
      refine wpIn_mono (hbody l pre x a₁ W₂ hm2 hpre hz2) ?_
      have fin : ∀ (jump : Option Code) (W3 : World), KeepsFrom w.heap.size W₂ W3 → ∃ W4, (Instr.endRound l jump).run P W3 = .ok (.bool jump.isNone) W4 ∧ W3.grownBy W4 (some l) ∧ W3.heap[l]? = some (.loop { rec .ready none with state := .busy }) ∧
          W4.heap[l]? = some (.loop (rec (if jump.isNone then .ready else .done) jump)) ∧ W4.heap[D]? = some (.deferred (some [])) := by
        intro jump W3 hk3
        have hx3 := hk3.same l _ (by omega) hx2 rfl
        have hd3 := hk3.same D _ (by omega) hd2 rfl
        have hl3 := (Array.getElem?_eq_some_iff.1 hx3).1
        refine ⟨_, run_endRound jump hx3, grownBy_putObj' W3 l _, hx3, ?_, (World.putObj_heap_other (by omega)).trans hd3⟩
        rw [World.putObj_heap_same hl3, hrec]
      rintro e a3 W3 hp
      cases e with
      | normal =>
        obtain ⟨hk3, hp3, hi3⟩ := hp
        obtain ⟨W4, hr4, hg4, hx3, hx4, hd4⟩ := fin none W3 hk3
        refine ⟨_, W4, hr4, .inl ⟨rfl, ⟨hI _ _ _ _ hi3 hg4 (fun r e => by cases e; exact .inr ⟨by omega, _, hx3, rfl⟩), hx4, hd4⟩, hKt (hKt hp2 hp3) (hKb _ _ _ (by have := (Array.getElem?_eq_some_iff.1 hx3).1; omega) hg4 (fun r e => by cases e; exact ⟨by omega, _, hx3⟩))⟩⟩
      | ret =>
        obtain ⟨hk3, hi3⟩ := hp
        obtain ⟨W4, hr4, hg4, hx3, hx4, hd4⟩ := fin (some .ret) W3 hk3
        exact ⟨_, W4, hr4, .inr ⟨rfl, .ret, hIx _ _ _ _ _ hi3 hg4 (fun r e => by cases e; exact .inr ⟨by omega, _, hx3, rfl⟩), hx4, hd4⟩⟩
      | exit id =>
        obtain ⟨hk3, hi3⟩ := hp
        obtain ⟨W4, hr4, hg4, hx3, hx4, hd4⟩ := fin (some (.exit id)) W3 hk3
        exact ⟨_, W4, hr4, .inr ⟨rfl, .exit id, hIx _ _ _ _ _ hi3 hg4 (fun r e => by cases e; exact .inr ⟨by omega, _, hx3, rfl⟩), hx4, hd4⟩⟩
      | goto t =>
        obtain ⟨hk3, hi3⟩ := hp
        obtain ⟨W4, hr4, hg4, hx3, hx4, hd4⟩ := fin (some (.goto t)) W3 hk3
        exact ⟨_, W4, hr4, .inr ⟨rfl, .goto t, hIx _ _ _ _ _ hi3 hg4 (fun r e => by cases e; exact .inr ⟨by omega, _, hx3, rfl⟩), hx4, hd4⟩⟩
      | panic ch => exact hp.elim
      | outgrown => exact hp.elim
    | exit id => exact hq.elim
    | goto t => exact hq.elim
    | ret => exact hq.elim
    | panic chain => exact hq.elim
    | outgrown => exact hq.elim
  · -- behind the iterator
    rintro e W2 ⟨⟨v, rfl⟩, (⟨L, hL, hi, hx, hd⟩ | ⟨pre, c, hi, hx, hd⟩)⟩
    · have hend := run_endLoop (P := P) hx (by rw [hrec]; simp)
      have e6 : (rec .ready none).pending = none := by rw [hrec]
      rw [e6] at hend
      refine ⟨none, _, hend, hdone D _ (by omega) ⟨L, hL, hI _ _ _ _ hi (grownBy_putObj' W2 l _) (fun r e => by cases e; exact .inr ⟨by omega, _, hx, rfl⟩)⟩ ((World.putObj_heap_other (by omega)).trans hd)⟩
    · have hend := run_endLoop (P := P) hx (by rw [hrec]; simp)
      have e6 : (rec .done (some c)).pending = some c := by rw [hrec]
      rw [e6] at hend
      refine ⟨some c, _, hend, hstop D c pre _ (by omega) (hIx c _ _ _ _ hi (grownBy_putObj' W2 l _) (fun r e => by cases e; exact .inr ⟨by omega, _, hx, rfl⟩)) ((World.putObj_heap_other (by omega)).trans hd)⟩

end Go.Proofs.Ythhcfocmaiacoaa
namespace Go.Proofs.Ythhcfocmaiacoaa
open Go.RowKit Go.Shelf
open Go.ChangeMaps (setBlock heap_setBlock_same heap_setBlock_other)

attribute [local go_sem] Oper.semAt_some

/-- a map's iterator: what has been handed out -/
def IterL (w : World) (r b : Nat) (es : List (Lab × Value)) (pre : List Lab) (cnt : Nat) : Prop :=
  ∃ seen, w.heap[r]? = some (.mapIter (some b) es.length seen es.length) ∧ (∀ i (h : i < es.length), seen.contains i = true ↔ es[i].1 ∈ pre) ∧ pre.Nodup ∧ (∀ x ∈ pre, x ∈ es.map (·.1)) ∧ (leftOf (mE es 0).toArray seen).size = cnt
theorem IterL.left_eq {w : World} {r b cnt : Nat} {es : List (Lab × Value)} {pre : List Lab} (h : IterL w r b es pre cnt) (hm : MapL w b es) : w.rangeLeft b r = cnt := by
  obtain ⟨seen, hr, _, _, _, hc⟩ := h
  simp only [World.rangeLeft, hm.blk, hr]
  exact hc
theorem IterL.at_ {w : World} {r b cnt : Nat} {es : List (Lab × Value)} {pre : List Lab} (h : IterL w r b es pre cnt) : IterAt w r := by
  obtain ⟨seen, hr, _⟩ := h
  exact ⟨_, _, _, _, hr⟩
theorem run_rangeL {w : World} {b : Nat} {es : List (Lab × Value)} (h : MapL w b es) :
    (Instr.range 111 (.map (some b))).run Try.prog w = .ok (.pointer (some ⟨w.heap.size, 0, none⟩)) (w.alloc (.mapIter (some b) es.length #[] es.length)) :=
  run_range_map w _ _ _ b _ _ Try.underlying111 h.blk
theorem IterL.made {w : World} {b : Nat} {es : List (Lab × Value)} : IterL (w.alloc (.mapIter (some b) es.length #[] es.length)) w.heap.size b es [] (leftOf (mE es 0).toArray #[]).size :=
  ⟨#[], (MapKept.heap_alloc w _).1, fun i h => by simp, by simp, by simp, rfl⟩
theorem run_nextL {w : World} {r b cnt : Nat} {es : List (Lab × Value)} {pre : List Lab} (hm : MapL w b es) (h : IterL w r b es pre cnt) (ty : TypeId) :
    ((∀ x, x ∈ es.map (·.1) → x ∈ pre) ∧ (Instr.next (.pointer (some ⟨r, 0, none⟩)) false ty).run Try.prog w = .ok (.tuple #[.bool false]) w) ∨
    ∃ i, ∃ hi : i < es.length, ∃ w' cnt', es[i].1 ∉ pre ∧ (Instr.next (.pointer (some ⟨r, 0, none⟩)) false ty).run Try.prog w = .ok (.tuple #[.bool true, kv es[i].1, es[i].2]) w' ∧
      IterL w' r b es (pre ++ [es[i].1]) cnt' ∧ cnt' < cnt ∧ w.grownBy w' (some r) ∧ w'.heap.size = w.heap.size ∧ (Instr.entry (.pointer (some ⟨r, 0, none⟩))).run Try.prog w' = .ok (.tuple #[kv es[i].1, es[i].2]) w' := by
  obtain ⟨seen, hr, hs, hnd, hin, rfl⟩ := h
  have hold : ∀ x ∈ (mE es 0).toArray.toList, x.born < es.length := fun x hx => by
    obtain ⟨i, hi, rfl⟩ := mE_mem (by simpa using hx)
    simpa using hi
  rcases run_next_at (P := Try.prog) w ty r b es.length es.length seen (mE es 0).toArray es.length hr hm.blk hold (Nat.le_refl _) with ⟨h0, hrun⟩ | ⟨e, he, w1, hal, hrun⟩
  · refine .inl ⟨fun x hx => ?_, hrun⟩
    obtain ⟨p, hp, rfl⟩ := List.mem_map.1 hx
    obtain ⟨i, hi, rfl⟩ := List.mem_iff_getElem.1 hp
    have := all_seen _ seen h0 ⟨kv es[i].1, es[i].2, 0 + i⟩ (by simpa using List.mem_of_getElem? (mE_get es 0 i hi))
    exact (hs i hi).1 (by simpa using this)
  · obtain ⟨hem, hes⟩ := mem_left he
    have hshr := left_shrinks _ seen e he
    obtain ⟨i, hi, rfl⟩ := mE_mem (by simpa using hem)
    have hr1 : w1.heap[r]? = some (.mapIter (some b) es.length seen es.length) := by rcases hal with rfl | rfl <;> exact hr
    have hb1 : w1.heap[b]? = some (.map (mE es 0).toArray es.length) := by rcases hal with rfl | rfl <;> exact hm.blk
    have hne : r ≠ b := fun e => by rw [e, hb1] at hr1; cases hr1
    have hset0 := MapKept.heap_set (o' := .mapIter (some b) es.length (seen.push (0 + i)) es.length) hr1
    have hset : (setBlock w1 r (.mapIter (some b) es.length (seen.push (0 + i)) es.length)).heap[r]? = some (.mapIter (some b) es.length (seen.push (0 + i)) es.length) := hset0.1
    have hb' : (setBlock w1 r (.mapIter (some b) es.length (seen.push (0 + i)) es.length)).heap[b]? = some (.map (mE es 0).toArray es.length) := (hset0.2 b (fun e1 => hne e1.symm)).trans hb1
    have hnot : es[i].1 ∉ pre := fun hp => by
      have := (hs i hi).2 hp
      simp only [Nat.zero_add] at hes
      rw [hes] at this; cases this
    refine .inr ⟨i, hi, _, _, hnot, hrun, ⟨seen.push (0 + i), hset, fun j hj => ?_, ?_, ?_, rfl⟩, hshr, ?_, ?_, run_entry_at _ r b _ seen (mE es 0).toArray es.length ⟨kv es[i].1, es[i].2, 0 + i⟩ hset hb' (by simpa using hem) (by simpa using mE_nodup es 0)⟩
    · rw [contains_push, List.mem_append, List.mem_singleton, Nat.zero_add, Bool.or_eq_true, hs j hj]
      refine or_congr Iff.rfl ?_
      constructor
      · intro h
        have : j = i := by simpa using h
        subst this; rfl
      · intro h
        have := hm.idx hj hi h
        simp [this]
    · refine List.nodup_append.2 ⟨hnd, by simp, fun a ha c hc => ?_⟩
      rw [List.mem_singleton.1 hc]
      exact fun e => hnot (e ▸ ha)
    · intro x hx
      rcases List.mem_append.1 hx with h | h
      · exact hin x h
      · rw [List.mem_singleton.1 h]
        exact List.mem_map.2 ⟨es[i], List.getElem_mem hi, rfl⟩
    · rcases hal with rfl | rfl <;> exact ⟨rfl, rfl, rfl, by simp [setBlock], fun k _ hk => hset0.2 k (fun e1 => hk (by rw [e1]))⟩
    · rcases hal with rfl | rfl <;> simp [setBlock]
def encL (x : Lab) : Array Value := #[kv x]
/-- what the iterator leans on: the blocks below B, and maps' iterators -/
def KpM (B : Nat) (X Y : World) : Prop := Below B X Y ∧ ∀ (r : Nat) m s se c, X.heap[r]? = some (Obj.mapIter m s se c) → Y.heap[r]? = some (Obj.mapIter m s se c)
def PreK (es : List (Lab × Value)) (l : List Lab) : Prop := l.Nodup ∧ ∀ x ∈ l, x ∈ es.map (·.1)
def FullK (es : List (Lab × Value)) (l : List Lab) : Prop := l.Nodup ∧ ∀ x, x ∈ l ↔ x ∈ es.map (·.1)
set_option maxRecDepth 100000 in
set_option maxHeartbeats 4000000 in
theorem keys_yields (n bx b B : Nat) (es : List (Lab × Value)) (w : World) (hw : Boxed w bx 111 (.map (some b))) (hm : MapL w b es) (hbx : bx < B) (hbB : b < B) (hB : B ≤ w.heap.size) :
    YieldsP n Try.prog 104 #[.pointer (some ⟨bx, 0, none⟩)] encL (KpM B) (PreK es) (FullK es) w := by
  intro q J Jx W hK hJ hJx hround h0
  obtain ⟨hK, -⟩ := hK
  have hsz := hK.size
  have hW : Boxed W bx 111 (.map (some b)) := (hK.block bx hbx).trans hw
  have hM : MapL W b es := hm.at_ (hK.block b hbB)
  have Hround := Kept.mk hround
  have hc0 := hW.cell
  have HJ := Kept.mk hJ
  clear hw hK hround hJ hJx hm
  refine callsIn_wide.2 ?_
  go_enter Try.func104, Try.ntmps104
  have hrg := run_rangeL hM
  have hM0 : MapL (W.alloc (Obj.mapIter (some b) es.length #[] es.length)) b es := hM.at_ (Below.heap_alloc _ _ _ hM.lt)
  have hI0 : Kept (∃ cnt, IterL (W.alloc (Obj.mapIter (some b) es.length #[] es.length)) W.heap.size b es [] cnt) := ⟨_, IterL.made⟩
  have hj0 : Kept (J [] (W.alloc (Obj.mapIter (some b) es.length #[] es.length))) := ⟨HJ.out _ _ _ none h0 (World.grownBy_alloc _ _ none) (fun r e => by cases e)⟩
  have hb0 : Below B W (W.alloc (Obj.mapIter (some b) es.length #[] es.length)) := (Below.refl _ W).alloc (by omega) _
  clear h0 hM
  go_wp2
  have hBR : B ≤ W.heap.size := by omega
  generalize W.alloc (Obj.mapIter (some b) es.length #[] es.length) = W0 at *
  clear hrg hc0
  generalize hR : W.heap.size = R at *
  have HR := Kept.mk hR
  clear hR
  go_loopw [] (fun wr => MapL wr b es ∧ Below B W wr ∧ Kept (∃ pre cnt, IterL wr R b es pre cnt ∧ J pre wr)) (fun wr => wr.rangeLeft b R)
  case atStart => exact ⟨hM0, hb0, ⟨by obtain ⟨cnt, h⟩ := hI0.out; exact ⟨_, _, h, hj0.out⟩⟩⟩
  case round =>
    clear hM0 hb0 hI0 hj0
    obtain ⟨hm, hb, hk⟩ := hrel
    obtain ⟨pre, cnt, hi, hj⟩ := hk.out
    have hleft := hi.left_eq hm
    rcases run_nextL hm hi 0 with ⟨hall, hrun⟩ | ⟨i, hil, w1, cnt1, hnot, hrun, hi1, hlt, hg1, hs1, hen⟩
    · have hF : Kept (FullK es pre ∧ J pre wr) := ⟨⟨by obtain ⟨_, _, _, h, _⟩ := hi; exact h, fun x => ⟨by obtain ⟨_, _, _, _, h, _⟩ := hi; exact h x, hall x⟩⟩, hj⟩
      clear hall hi hj hk hleft
      go_wp2
      go_end0
      exact ⟨⟨_, rfl⟩, .inl ⟨_, hF.out.1, hF.out.2⟩⟩
    · have hj1 := HJ.out _ _ _ _ hj hg1 (fun r e => by cases e; exact ⟨by omega, hi.at_⟩)
      have hm1 : MapL w1 b es := hm.at_ (hg1.block b hm.lt (fun e => by cases e; omega))
      have hz1 : wr.heap.size ≤ w1.heap.size := by omega
      have hb1 : Below B W w1 := hb.grown hg1 (by have h1 := hb.size; rw [HR.out] at h1; omega) (fun g e => by cases e; omega)
      have hi1' := Kept.mk hi1
      have hj1' := Kept.mk hj1
      have hp : Kept (PreK es (pre ++ [es[i].1])) := ⟨by obtain ⟨_, _, _, h1, h2, _⟩ := hi1; exact ⟨h1, h2⟩⟩
      have HL := Kept.mk (And.intro hleft hlt)
      clear hi hj hk hs1 hi1 hj1 hg1 hm hb hnot hleft hlt
      generalize es[i].2 = v at *
      generalize es[i].1 = x at *
      unfold kv at hrun hen
      go_upto_region 3 with (fail)
      have hjA : J pre (w1.alloc (Obj.cells #[.string x.n, .string x.v] 67)) := HJ.out _ _ _ none hj1'.out (World.grownBy_alloc _ _ none) (fun r e => by cases e)
      obtain ⟨fn, tmps, assign, body, hy, hri⟩ := Hround.out pre x _ hjA hp.out
      unfold encL kv at hy
      have c0 : (w1.alloc (Obj.cells #[.string x.n, .string x.v] 67)).cell? ⟨w1.heap.size, 0, none⟩ = some (.string x.n) := World.cell?_alloc_mark w1 _ _ _ 0
      have c1 : (w1.alloc (Obj.cells #[.string x.n, .string x.v] 67)).cell? ⟨w1.heap.size, 1, none⟩ = some (.string x.v) := World.cell?_alloc_mark w1 _ _ _ 1
      have hb3 : Below B W (w1.alloc (Obj.cells #[.string x.n, .string x.v] 67)) := hb1.alloc (by have h1 := hb1.size; rw [HR.out] at h1; omega) _
      have hm3 : MapL (w1.alloc (Obj.cells #[.string x.n, .string x.v] 67)) b es := hm1.at_ (Below.heap_alloc _ _ _ hm1.lt)
      have hi3 : Kept (IterL (w1.alloc (Obj.cells #[.string x.n, .string x.v] 67)) R b es (pre ++ [x]) cnt1) := ⟨by
        obtain ⟨seen, h1, h2⟩ := hi1'.out
        exact ⟨seen, (Below.heap_alloc _ _ _ (Array.getElem?_eq_some_iff.1 h1).1).trans h1, h2⟩⟩
      clear hjA hm1 hi1' hj1' hen hrun hb1
      generalize w1.heap.size = Z at *
      generalize w1.alloc (Obj.cells #[.string x.n, .string x.v] 67) = w3 at *
      have H3 := Kept.mk (And.intro hb3 hm3)
      clear hb3 hm3
      refine (wpIn_wide (n := n)).1 ?_
      gi_wp2
      refine ⟨(fun h => by simp [Fence.wide] at h), hri.mono ?_⟩
      rintro e W' (⟨rfl, hj', hb'⟩ | ⟨rfl, hjx⟩)
      · have B2 := Kept.mk hb'
        have J2 := Kept.mk hj'
        clear hj' hb' c0 c1 hy hri
        gi_wp2
        go_wp2
        go_roundw
        case rel =>
          have hm4 : MapL W' b es := H3.out.2.at_ (B2.out.1.block b hbB)
          refine ⟨hm4, H3.out.1.trans B2.out.1, ⟨_, cnt1, ?_, J2.out⟩⟩
          obtain ⟨seen, h1, h2⟩ := hi3.out
          exact ⟨seen, B2.out.2 _ _ _ _ _ h1, h2⟩
        case measure =>
          have hm4 : MapL W' b es := H3.out.2.at_ (B2.out.1.block b hbB)
          have hi4 : IterL W' R b es (pre ++ [x]) cnt1 := by
            obtain ⟨seen, h1, h2⟩ := hi3.out
            exact ⟨seen, B2.out.2 _ _ _ _ _ h1, h2⟩
          rw [hi4.left_eq hm4, HL.out.1]
          exact HL.out.2
      · have X2 := Kept.mk hjx
        clear hjx c0 c1 hy hri
        gi_wp2
        go_wp2
        exact bodyPost_ret (results_none rfl _ _ _) rfl ⟨⟨_, rfl⟩, .inr ⟨_, X2.out⟩⟩
end Go.Proofs.Ythhcfocmaiacoaa
namespace Go.Proofs.Ythhcfocmaiacoaa
open Go.RowKit Go.Shelf

attribute [local go_sem] Oper.semAt_some

theorem nodup_len {α : Type} [DecidableEq α] : ∀ (l m : List α), l.Nodup → (∀ x ∈ l, x ∈ m) → l.length ≤ m.length
  | [], _, _, _ => Nat.zero_le _
  | a :: l, m, hn, hs => by
    obtain ⟨h1, h2⟩ := List.nodup_cons.1 hn
    have ha := hs a (by simp)
    have := nodup_len l (m.erase a) h2 (fun x hx => (List.mem_erase_of_ne (show x ≠ a from fun e => h1 (by rw [← e]; exact hx))).2 (hs x (by simp [hx])))
    rw [List.length_erase_of_mem ha] at this
    have := List.length_pos_of_mem ha
    simp only [List.length_cons]
    omega
/-- what lies between two rounds of AppendSeq -/
def AppL (w : World) (pre : List Lab) (W : World) : Prop :=
  ∃ A n c, Boxed W w.heap.size 69 (.slice A n c) ∧ OwnL W (w.heap.size + 1) A n c pre ∧ Below w.heap.size w W
theorem AppL.own {w : World} : MindsOwn (w.heap.size + 1) (fun _ => False) (AppL w) := by
  rintro s W W' row ⟨A, n, c, hb, ho, hbel⟩ hg hr
  have hrow : ∀ r, row = some r → w.heap.size < r := fun r e => by
    rcases hr r e with h | ⟨h, _⟩
    · exact h.elim
    · omega
  refine ⟨A, n, c, hb.kept hg (fun e => by have := hrow _ e.symm; omega), own_aside ho hg (fun r e => ?_), hbel.grown hg hbel.size (fun g e => by have := hrow g e; omega)⟩
  rcases hr r e with h | ⟨_, h⟩
  · exact h.elim
  · exact .inr h
/-- a label in a block of its own -/
def LabAt (W : World) (q : Nat) (x : Lab) : Prop := W.heap[q]? = some (Obj.cells #[.string x.n, .string x.v] 67)
theorem LabAt.own {B : Nat} {W W' : World} {q : Nat} {x : Lab} {row : Option Nat} (h : LabAt W q x) (hg : W.grownBy W' row) (hr : ∀ r, row = some r → False ∨ (B ≤ r ∧ ∃ o : Obj, W.heap[r]? = some o ∧ o.isCells = false)) : LabAt W' q x := by
  unfold LabAt at h ⊢
  rw [hg.block q (Array.getElem?_eq_some_iff.1 h).1]
  · exact h
  · intro e
    rcases hr q e.symm with h1 | ⟨_, o, ho, hoc⟩
    · exact h1
    · rw [h] at ho; cases ho; cases hoc
theorem LabAt.cells {W : World} {q : Nat} {x : Lab} (h : LabAt W q x) : W.cell? ⟨q, 0, none⟩ = some (.string x.n) ∧ W.cell? ⟨q, 1, none⟩ = some (.string x.v) := by
  unfold LabAt at h
  refine ⟨?_, ?_⟩ <;> simp [World.cell?, h]
theorem RdL.one (w : World) (x : Lab) : Rd (w.alloc (.cells #[.string x.n, .string x.v] 67)) (w.heap.size + 1) 2 (some ⟨w.heap.size, 0, none⟩) 1 1 [.string x.n, .string x.v] :=
  RdL.lit w [x] (0, 0) (by simp)
theorem KpM.others {B : Nat} {W W' : World} (hb : Below B W W') (hk : KeepsOthers W W') : KpM B W W' :=
  ⟨hb, fun r _ _ _ _ h => hk.same r _ h rfl⟩
/-- what a round of AppendSeq leaves -/
theorem AppL.push {w W w5 : World} {A A4 : Option Addr} {n c c4 : Nat} {pre : List Lab} {x : Lab} {tmp : Obj} (hW : w.heap.size + 1 ≤ W.heap.size) (hb : Boxed W w.heap.size 69 (.slice A n c)) (ho : OwnL W (w.heap.size + 1) A n c pre) (hbel : Below w.heap.size w W)
    (hown : w5.ownsRow (w.heap.size + 1) 67 2 (.slice A4 (n + 1) c4) (n + 1) (lbs pre ++ [.string x.n, .string x.v])) (hg : (W.alloc tmp).grownBy w5 (ab A)) :
    KeepsFrom (w.heap.size + 1) W (w5.setCell ⟨w.heap.size, 0, none⟩ (.slice A4 (n + 1) c4)) ∧ KpM w.heap.size W (w5.setCell ⟨w.heap.size, 0, none⟩ (.slice A4 (n + 1) c4)) ∧ AppL w (pre ++ [x]) (w5.setCell ⟨w.heap.size, 0, none⟩ (.slice A4 (n + 1) c4)) := by
  have hlt : ∀ g, ab A = some g → w.heap.size + 1 ≤ g := fun g e => (own_lt ho g e).1
  have hlt4 : ∀ g, ab A4 = some g → w.heap.size + 1 ≤ g := fun g e => (own_lt hown g e).1
  have hcl : ∀ j o, ab A = some j → (W.alloc tmp).heap[j]? = some o → o.isCells = true := own_cellsAny (World.ownsRow.alloc ho tmp)
  have gs := grownBy_setCell' w5 w.heap.size (.slice A4 (n + 1) c4)
  have hb1 : Below w.heap.size W w5 := ((Below.refl _ W).alloc (by omega) tmp).grown hg (by simp; omega) (fun g e => by have := hlt g e; omega)
  have hb2 : Below w.heap.size W (w5.setCell ⟨w.heap.size, 0, none⟩ (.slice A4 (n + 1) c4)) := hb1.setCell (p := ⟨w.heap.size, 0, none⟩) (Nat.le_refl _) _
  have hko : KeepsOthers W (w5.setCell ⟨w.heap.size, 0, none⟩ (.slice A4 (n + 1) c4)) := ((KeepsOthers.alloc W _).trans (KeepsOthers.of_grownBy hg hcl)).trans (KeepsOthers.setCell _ _ _)
  refine ⟨hko.from _, KpM.others hb2 hko, A4, n + 1, c4, ?_, ?_, hbel.trans hb2⟩
  · refine Boxed.set _ ((hb.alloc tmp).kept hg (fun e => ?_))
    have := hlt _ e.symm; omega
  · have e : lbs pre ++ [.string x.n, .string x.v] = lbs (pre ++ [x]) := by rw [lbs_append]; rfl
    rw [e] at hown
    exact own_aside hown gs (fun r e => .inl fun e2 => by cases e; have := hlt4 _ e2; omega)
set_option maxRecDepth 100000 in
set_option maxHeartbeats 4000000 in
theorem appendSeqL_any (bx b : Nat) (es : List (Lab × Value)) (w : World) (hw : Boxed w bx 111 (.map (some b))) (hm : MapL w b es) (hn : es.length ≤ 1000000) :
    Calls Try.prog 117 #[.slice none 0 0, .func (.func 104) #[] #[.pointer (some ⟨bx, 0, none⟩)]] w fun e w' => ∃ A2 n2 c2 l, e = .returned (.slice A2 n2 c2) ∧ FullK es l ∧ OwnL w' w.heap.size A2 n2 c2 l ∧ Below w.heap.size w w' := by
  have hbx := hw.lt
  have hbb := hm.lt
  have YV : Kept (∀ o o', YieldsP 8 Try.prog 104 #[.pointer (some ⟨bx, 0, none⟩)] encL (KpM w.heap.size) (PreK es) (FullK es) ((w.alloc o).alloc o')) :=
    ⟨fun o o' => keys_yields 8 bx b w.heap.size es _ ((hw.alloc o).alloc o') (hm.at_ ((Below.heap_alloc _ _ _ (by simp; omega)).trans (Below.heap_alloc _ _ _ hbb))) hbx hbb (by simp; omega)⟩
  have HN := Kept.mk hn
  clear hw hm hn
  refine (callsIn_wide (n := 9)).1 ?_
  refine callsIn_of_wp_marks Try.func117 rfl trivial ?_ rfl
  simp only [Try.ntmps117, List.size_toArray, List.length_cons, List.length_nil, Nat.reduceAdd, Nat.reduceSub, Array.replicate_succ, Array.replicate_zero, List.push_toArray, List.append_toArray, List.nil_append, List.cons_append]
  refine wpIn_wide.2 ?_
  go_wp2
  have bB := Boxed.new w 69 (.slice none 0 0)
  have hsz : (w.alloc (.cells #[.slice none 0 0] 69)).heap.size = w.heap.size + 1 := by simp
  have g0 : Below w.heap.size w (w.alloc (.cells #[.slice none 0 0] 69)) := (Below.refl _ _).alloc (Nat.le_refl _) _
  have Y4 := YV.out (.cells #[.slice none 0 0] 69)
  clear YV
  generalize w.alloc (.cells #[.slice none 0 0] 69) = w4 at *
  refine (wpIn_wide (n := 9)).1 ?_
  refine wp_rangeP (by decide) (gf := 104) (lb := #[.pointer (some ⟨bx, 0, none⟩)]) rfl (enters_of Try.func104 (by kernel_rfl) rfl)
    (encs := encL) (Kp := KpM w.heap.size) (Pre := PreK es) (Full := FullK es) Y4
    (fun h k => ⟨h.1.trans k.1, fun r m s se c hr => k.2 r m s se c (h.2 r m s se c hr)⟩)
    (fun W W' row hW hg hr => ⟨(Below.refl _ W).grown hg (by omega) (fun g e => by have := (hr g e).1; omega), fun r m s se c h => (hg.block r (Array.getElem?_eq_some_iff.1 h).1 (fun e => by obtain ⟨_, L, hL⟩ := hr r e.symm; rw [h] at hL; cases hL)).trans h⟩) (fun _ => rfl)
    (AppL w) (fun _ _ _ => False)
    (fun pre x a₁ W => AppL w pre W ∧ ∃ q, LabAt W q x ∧
      a₁ = { tmps := #[.slice none 0 0, .func (.func 104) #[] #[.pointer (some ⟨bx, 0, none⟩)], .pointer (some ⟨w.heap.size, 0, none⟩), undef, .slice none 0 0, .pointer (some ⟨q, 0, none⟩), .func (.func 104) #[] #[.pointer (some ⟨bx, 0, none⟩)],
        kv x, undef, undef, undef, undef, undef], defers := [] })
    ?hI (fun _ _ _ _ _ h _ _ => h) ?hM ?h0 ?assign ?body ?done ?stop
  case hI => rw [hsz]; exact AppL.own
  case hM =>
    rw [hsz]
    rintro pre p a₁ u W W' row ⟨hI, q, hq, ha⟩ hgr hr
    exact ⟨AppL.own _ _ _ _ hI hgr hr, q, hq.own hgr hr, ha⟩
  case h0 => exact ⟨none, 0, 0, bB, World.ownsRow_nil _ _ _ _, g0⟩
  case assign =>
    rintro q pre x W hI hpre hW
    unfold encL kv
    gi_wp2
    have hk := KeepsOthers.alloc W (Obj.cells #[.string x.n, .string x.v] 67)
    exact ⟨hk.from _, KpM.others ((Below.refl _ W).alloc (by omega) _) hk, AppL.own _ _ _ none hI (World.grownBy_alloc _ _ none) (fun r e => by cases e), W.heap.size, (MapKept.heap_alloc W _).1, rfl⟩
  case body =>
    rintro q pre x a₁ W ⟨⟨A', n', c', hb, ho, hbel⟩, z, hz, rfl⟩ hpre hW
    have hl1 : n' ≤ 1000000 := by
      have h1 := ho.len
      have h2 : (pre ++ [x]).length ≤ (es.map (·.1)).length := nodup_len _ _ hpre.1 hpre.2
      have h3 := HN.out
      simp at h2
      omega
    have hcO := hb.cell
    have Hb := Kept.mk hb
    have Ho' := Kept.mk ho
    have HB := Kept.mk hbel
    have hlo : ∀ g, ab A' = some g → w.heap.size + 1 ≤ g := fun g e => (own_lt ho g e).1
    have HLO := Kept.mk hlo
    obtain ⟨hz0', hz1'⟩ := hz.cells
    clear hb ho hbel hlo hz
    unfold kv
    obtain ⟨i0, hi0, hz0, hz1, hz2⟩ := info_parts infoL
    have h1c : Kept (∀ u ∈ [Value.string x.n, Value.string x.v], u.oneCell' = true) := ⟨by simp; exact ⟨rfl, rfl⟩⟩
    gi_wp2_with (gi_at_builtin; refine wpListIn_app _ rfl (.tmp 8) (.tmp 10) _ rfl (w.heap.size + 1) 67 i0 (.agg #[.string ByteArray.empty, .string ByteArray.empty]) 2 32 Try.underlying69 hi0 hz0 hz1 hz2 rfl (by decide) A' n' c' _ rfl (World.ownsRow.alloc Ho'.out _) (W.heap.size + 1) _ _ _ [.string x.n, .string x.v] rfl (RdL.one W x) h1c.out (by unfold maxLen; omega) (by omega) (by simp; omega) ?_; intro A4 c4 w5 hown4 hgrow4 hat4; have hbO5 : Boxed w5 w.heap.size 69 (.slice A' n' c') := (Hb.out.alloc _).kept hgrow4 (fun e => by have := HLO.out _ e.symm; omega); have hcO5 := hbO5.cell; have hfO5 := hbO5.frozen)
    rw [hsz]
    exact AppL.push (by omega) Hb.out Ho'.out HB.out hown4 hgrow4
  case done =>
    rintro D W hD ⟨L, hF, A', n', c', hb, ho, hbel⟩ hK
    have hc := hb.cell
    have Ho' := Kept.mk ho
    have HB := Kept.mk hbel
    have HF := Kept.mk hF
    clear ho hbel hF
    go_wp2
    refine ⟨by simp, .inl ⟨_, _, rfl, run_takeDeferred hK, ?_⟩⟩
    have hgo : W.grownBy (W.putObj D (.deferred none)) (some D) := grownBy_putObj' W D _
    have hb2 := own_aside Ho'.out hgo (fun r e => by cases e; exact .inr ⟨_, hK, rfl⟩)
    refine ⟨_, results_tmp rfl _ _ _, A', n', c', L, rfl, HF.out, ?_, HB.out.grown hgo HB.out.size (fun g e => by cases e; omega)⟩
    exact ⟨hb2.1, hb2.2.imp id fun ⟨g, cap, cur, h1, h2, h3⟩ => ⟨g, cap, cur, h1, by omega, h3⟩⟩
  case stop =>
    rintro D c pre W _ h _
    exact h.elim
set_option maxHeartbeats 1000000 in
theorem collectL_any (bx b : Nat) (es : List (Lab × Value)) (w : World) (hw : Boxed w bx 111 (.map (some b))) (hm : MapL w b es) (hn : es.length ≤ 1000000) :
    Calls Try.prog 102 #[.func (.func 104) #[] #[.pointer (some ⟨bx, 0, none⟩)]] w fun e w' => ∃ A2 n2 c2 l, e = .returned (.slice A2 n2 c2) ∧ FullK es l ∧ OwnL w' w.heap.size A2 n2 c2 l ∧ Below w.heap.size w w' := by
  have AP := Kept.mk (appendSeqL_any bx b es w hw hm hn)
  clear hw hm hn
  go_enter Try.func102, Try.ntmps102
  go_wp2_with (go_at_call 117; refine AP.out.mono ?_; rintro e w1 ⟨A2, n2, c2, l, rfl, hf, ho, hb⟩; have O := Kept.mk ho; have B := Kept.mk hb; have F := Kept.mk hf; clear ho hb hf)
  go_ret
  exact ⟨A2, n2, c2, l, rfl, F.out, O.out, B.out⟩
theorem keysL_any (b : Nat) (w : World) : Calls Try.prog 71 #[.map (some b)] w fun e w' =>
    e = .returned (.func (.func 104) #[] #[.pointer (some ⟨w.heap.size, 0, none⟩)]) ∧ w' = w.alloc (.cells #[.map (some b)] 111) := by
  go_enter Try.func71, Try.ntmps71
  go_wp2
  go_ret
  exact ⟨rfl, rfl⟩
end Go.Proofs.Ythhcfocmaiacoaa
