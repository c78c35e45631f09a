/- A range over a function whose iterator keeps state of its own in boxes (the blocks O): what the iterator promises, what the loop's body owes, and the statement's law. -/
import Derived.Test.YthhcfocmaiacoaaMem
import Derived.RangeFuncNested
import Derived.RangeFuncBound
import Derived.RangeFuncCalls
import Derived.RangeFuncLeaves
import Derived.RangeFuncBox
import Derived.Shelf.Abstract
import Derived.OwnWalkIn
import Derived.TacticsInMore
import Derived.LoopNIn
import Derived.LoopIn
namespace Go.Proofs.Ythhcfocmaiacoaa
open Go.RowKit Go.Shelf

/-- J does not mind new blocks, and turns of the iterator's own blocks. -/
def Minds (O : Nat → Prop) {β : Type} (J : β → World → Prop) : Prop :=
  ∀ s W W' row, J s W → W.grownBy W' row → (∀ r, row = some r → O r) → J s W'
/-- I does not mind new blocks, turns of the iterator's own blocks, and of blocks from B on that hold no cells. -/
def MindsOwn (B : Nat) (O : Nat → Prop) {β : Type} (I : β → World → Prop) : Prop :=
  ∀ s W W' row, I s W → W.grownBy W' row → (∀ r, row = some r → O r ∨ (B ≤ r ∧ ∃ o : Obj, W.heap[r]? = some o ∧ o.isCells = false)) → I s W'
theorem MindsOwn.weak {B : Nat} {O : Nat → Prop} {β : Type} {I : β → World → Prop} (h : MindsOwn B O I) : Minds O I :=
  fun s W W' row hs hg hr => h s W W' row hs hg (fun r e => .inl (hr r e))

/-- The function value gf with lb captured yields the elements of L, in order: each round may go on (Kp keeps what the iterator leans on) or say no more. -/
def Yields {α : Type} (n : Nat) (P : Program) (gf : Nat) (lb : Array Value) (encs : α → Array Value) (O : Nat → Prop) (Kp : World → World → Prop) (L : List α) (w : World) : Prop :=
  ∀ (l : Nat) (J Jx : List α → World → Prop) (W : World), Kp w W → Minds O J → Minds O Jx →
    (∀ pre x W1, J pre W1 → pre ++ [x] <+: L → YieldAt Fence.wide (n - 1) P l (encs x) W1 fun e W' =>
      (e = .returned (.bool true) ∧ J (pre ++ [x]) W' ∧ Kp W1 W') ∨ (e = .returned (.bool false) ∧ Jx (pre ++ [x]) W')) →
    J [] W →
    CallsIn Fence.wide n P gf (#[.func (.yield l) #[] #[]] ++ lb) W fun e W' => (∃ v, e = .returned v) ∧ (J L W' ∨ (∃ pre, pre <+: L ∧ Jx pre W'))

/-- how a round's body may be left -/
def leftBy {α : Type} (B : Nat) (Kp : World → World → Prop) (I : List α → World → Prop) (Ix : Code → List α → World → Prop) (xs : List α) (W : World) : Exit → Act → World → Prop
  | .normal, _, W' => KeepsFrom B W W' ∧ Kp W W' ∧ I xs W'
  | .ret, _, W' => KeepsFrom B W W' ∧ Ix .ret xs W'
  | .exit id, _, W' => KeepsFrom B W W' ∧ Ix (.exit id) xs W'
  | .goto t, _, W' => KeepsFrom B W W' ∧ Ix (.goto t) xs W'
  | .panic _, _, _ => False
  | .outgrown, _, _ => False

theorem wp_range {α : Type} {n : Nat} {P : Program} {g : Operand} {ps : Array Tmp} {assign body : Code} {Q : Exit → Act → World → Prop} {a : Act} {w : World}
    (h1 : 1 ≤ n) {gf : Nat} {lb : Array Value} (hg : a.eval g = .func (.func gf) #[] lb) (eg : ∀ args w, (callFunc gf args).run P w = .ok (.enter gf args) w)
    {encs : α → Array Value} {O : Nat → Prop} {Kp : World → World → Prop} {L : List α} (hseq : Yields (n - 1) P gf lb encs O Kp L w)
    (hO : ∀ r, O r → r < w.heap.size)
    (hKt : ∀ {A B C : World}, Kp A B → Kp B C → Kp A C)
    (hKb : ∀ (W W' : World) (row : Option Nat), w.heap.size ≤ W.heap.size → W.grownBy W' row → (∀ r, row = some r → w.heap.size ≤ r) → Kp W W')
    (hps : ∀ x, (encs x).size = ps.size)
    (I : List α → World → Prop) (Ix : Code → List α → World → Prop) (M : List α → α → Act → World → Prop)
    (hI : MindsOwn w.heap.size O I) (hIx : ∀ c, MindsOwn w.heap.size O (Ix c)) (hM : ∀ pre x a, MindsOwn w.heap.size O (fun (_ : Unit) W => M pre x a W)) (h0 : I [] w)
    (hassign : ∀ (l : Nat) (pre : List α) (x : α) (W : World), I pre W → pre ++ [x] <+: L → w.heap.size ≤ W.heap.size →
      assign.wpIn (Fence.wide.inRound l) (n - 1 - 1) P (Exit.then (fun a₁ W₁ => KeepsFrom w.heap.size W W₁ ∧ Kp W W₁ ∧ M pre x a₁ W₁) (fun _ _ _ => False))
        { tmps := (ps.zip (encs x)).foldl (fun t (p, v) => t.setIfInBounds p v) a.tmps, defers := [] } W)
    (hbody : ∀ (l : Nat) (pre : List α) (x : α) (a₁ : Act) (W : World), M pre x a₁ W → pre ++ [x] <+: L → w.heap.size ≤ W.heap.size →
      body.wpIn (Fence.wide.inRound l) (n - 1 - 1) P (leftBy w.heap.size Kp I Ix (pre ++ [x]) W) a₁ W)
    (hdone : ∀ (D : Nat) (W : World), w.heap.size ≤ D → I L W → W.heap[D]? = some (.deferred (some [])) → Q .normal { a with defers := { target := .collected D, args := #[] } :: a.defers } W)
    (hstop : ∀ (D : Nat) (c : Code) (pre : List α) (W : World), w.heap.size ≤ D → pre <+: L → Ix c pre W → W.heap[D]? = some (.deferred (some [])) → c.wpIn Fence.wide n P Q { a with defers := { target := .collected D, args := #[] } :: a.defers } W) :
    (Code.rangeFunc g ps assign body).wpIn Fence.wide n P Q a w := by
  refine wpIn_rangeFunc fun fn hfn => ?_
  obtain ⟨rec, hrec⟩ : ∃ rec : LoopState → Option Code → Loop, rec = fun st pe => { state := st, pending := pe, fn, tmps := a.tmps, params := ps, assign, body, defers := w.heap.size } := ⟨_, rfl⟩
  obtain ⟨l, hl0⟩ : ∃ l, l = w.heap.size + 1 := ⟨_, rfl⟩
  obtain ⟨D, hD0⟩ : ∃ D, D = w.heap.size := ⟨_, rfl⟩
  obtain ⟨W1, hW1⟩ : ∃ W1, W1 = (w.alloc (.deferred (some []))).alloc (.loop (rec .ready none)) := ⟨_, rfl⟩
  have hsz1 : W1.heap.size = w.heap.size + 2 := by rw [hW1]; simp
  have hL1 : W1.heap[l]? = some (.loop (rec .ready none)) := by
    rw [hW1, hl0]
    have := World.alloc_heap_new (w.alloc (.deferred (some []))) (.loop (rec .ready none))
    rwa [World.size_alloc] at this
  have hK1 : W1.heap[D]? = some (.deferred (some [])) := by
    rw [hW1, hD0]
    exact (Below.heap_alloc _ _ _ (by simp)).trans (World.alloc_heap_new w _)
  have hgr : w.grownBy W1 none := by
    rw [hW1]
    exact ⟨rfl, rfl, rfl, by simp; omega, fun k hk _ => (Below.heap_alloc _ _ _ (by simp; omega)).trans (Below.heap_alloc _ _ _ hk)⟩
  have hI1 : I [] W1 := hI _ _ _ _ h0 hgr (fun r e => by cases e)
  have hnl : ∀ r, O r → r ≠ l := fun r hr => by have := hO r hr; omega
  have hnD : ∀ r, O r → r ≠ D := fun r hr => by have := hO r hr; omega
  refine ⟨l, [{ target := .collected D, args := #[] }], W1, { target := .fn (.func gf) lb, args := #[.func (.yield l) #[] #[]] }, W1, gf, #[.func (.yield l) #[] #[]] ++ lb, W1, ?_, ?_, fun _ _ => trivial, ?_, fun _ => h1, ?_⟩
  · rw [hW1, hl0, hD0, hrec]; exact run_enterLoop_outer _ _ _ _ _
  · simp only [resolve, hg]
    simp [go_sem]
  · simp [invoke, go_sem, eg]
  refine (hseq l
    (fun pre W => I pre W ∧ W.heap[l]? = some (.loop (rec .ready none)) ∧ W.heap[D]? = some (.deferred (some [])))
    (fun pre W => ∃ c, Ix c pre W ∧ W.heap[l]? = some (.loop (rec .done (some c))) ∧ W.heap[D]? = some (.deferred (some [])))
    W1 (hKb _ _ _ (Nat.le_refl _) hgr (fun r e => by cases e)) ?_ ?_ ?_ ⟨hI1, hL1, hK1⟩).mono ?_
  · rintro s X Y row ⟨hi, hx, hd⟩ hg' hr
    have hlx := (Array.getElem?_eq_some_iff.1 hx).1
    have hdx := (Array.getElem?_eq_some_iff.1 hd).1
    exact ⟨hI s X Y row hi hg' (fun r e => .inl (hr r e)), (hg'.block l hlx (fun e => hnl l (hr l e.symm) rfl)).trans hx, (hg'.block D hdx (fun e => hnD D (hr D e.symm) rfl)).trans hd⟩
  · rintro s X Y row ⟨c, hi, hx, hd⟩ hg' hr
    have hlx := (Array.getElem?_eq_some_iff.1 hx).1
    have hdx := (Array.getElem?_eq_some_iff.1 hd).1
    exact ⟨c, hIx c s X Y row hi hg' (fun r e => .inl (hr r e)), (hg'.block l hlx (fun e => hnl l (hr l e.symm) rfl)).trans hx, (hg'.block D hdx (fun e => hnD D (hr D e.symm) rfl)).trans hd⟩
  · -- one round
    rintro pre x W ⟨hi, hx, hd⟩ hpre
    have hlx : l < W.heap.size := (Array.getElem?_eq_some_iff.1 hx).1
    have hy := run_yield (P := P) (args := encs x) hx (by rw [hrec]; exact hps x)
    have e1 : (rec .ready none).fn = fn := by rw [hrec]
    have e2 : (rec .ready none).params = ps := by rw [hrec]
    have e3 : (rec .ready none).tmps = a.tmps := by rw [hrec]
    have e4 : (rec .ready none).assign = assign := by rw [hrec]
    have e5 : (rec .ready none).body = body := by rw [hrec]
    rw [e1, e2, e3, e4, e5] at hy
    refine ⟨fn, _, assign, body, hy, roundIn_of_wpIn hfn (wpIn_mono (hassign l pre x W hi hpre (by omega)) ?_)⟩
    rintro e a₁ W₁ hq
    cases e with
    | normal =>
      obtain ⟨hk1, hp1, hm1⟩ := hq
      have hx1 := hk1.same l _ (by omega) hx rfl
      have hd1 := hk1.same D _ (by omega) hd rfl
      have hl1 := (Array.getElem?_eq_some_iff.1 hx1).1
      refine ⟨_, run_beginRound hx1 (by rw [hrec]), ?_⟩
      obtain ⟨W₂, hW₂⟩ : ∃ W₂, W₂ = W₁.putObj l (.loop { rec .ready none with state := .busy }) := ⟨_, rfl⟩
      rw [← hW₂]
      have hg2 : W₁.grownBy W₂ (some l) := by rw [hW₂]; exact grownBy_putObj' W₁ l _
      have hx2 : W₂.heap[l]? = some (.loop { rec .ready none with state := .busy }) := by rw [hW₂]; exact World.putObj_heap_same hl1
      have hd2 : W₂.heap[D]? = some (.deferred (some [])) := by rw [hW₂]; exact (World.putObj_heap_other (by omega)).trans hd1
      have hm2 : M pre x a₁ W₂ := hM pre x a₁ () _ _ _ hm1 hg2 (fun r e => by cases e; exact .inr ⟨by omega, _, hx1, rfl⟩)
      have hp2 : Kp W W₂ := hKt hp1 (hKb _ _ _ (by omega) hg2 (fun r e => by cases e; omega))
      have hz2 : w.heap.size ≤ W₂.heap.size := by have := hg2.size; omega
      refine wpIn_mono (hbody l pre x a₁ W₂ hm2 hpre hz2) ?_
      have fin : ∀ (jump : Option Code) (W3 : World), KeepsFrom w.heap.size W₂ W3 → ∃ W4, (Instr.endRound l jump).run P W3 = .ok (.bool jump.isNone) W4 ∧ W3.grownBy W4 (some l) ∧ W3.heap[l]? = some (.loop { rec .ready none with state := .busy }) ∧
          W4.heap[l]? = some (.loop (rec (if jump.isNone then .ready else .done) jump)) ∧ W4.heap[D]? = some (.deferred (some [])) := by
        intro jump W3 hk3
        have hx3 := hk3.same l _ (by omega) hx2 rfl
        have hd3 := hk3.same D _ (by omega) hd2 rfl
        have hl3 := (Array.getElem?_eq_some_iff.1 hx3).1
        refine ⟨_, run_endRound jump hx3, grownBy_putObj' W3 l _, hx3, ?_, (World.putObj_heap_other (by omega)).trans hd3⟩
        rw [World.putObj_heap_same hl3, hrec]
      rintro e a3 W3 hp
      cases e with
      | normal =>
        obtain ⟨hk3, hp3, hi3⟩ := hp
        obtain ⟨W4, hr4, hg4, hx3, hx4, hd4⟩ := fin none W3 hk3
        refine ⟨_, W4, hr4, .inl ⟨rfl, ⟨hI _ _ _ _ hi3 hg4 (fun r e => by cases e; exact .inr ⟨by omega, _, hx3, rfl⟩), hx4, hd4⟩, hKt (hKt hp2 hp3) (hKb _ _ _ (by have := (Array.getElem?_eq_some_iff.1 hx3).1; omega) hg4 (fun r e => by cases e; omega))⟩⟩
      | ret =>
        obtain ⟨hk3, hi3⟩ := hp
        obtain ⟨W4, hr4, hg4, hx3, hx4, hd4⟩ := fin (some .ret) W3 hk3
        exact ⟨_, W4, hr4, .inr ⟨rfl, .ret, hIx _ _ _ _ _ hi3 hg4 (fun r e => by cases e; exact .inr ⟨by omega, _, hx3, rfl⟩), hx4, hd4⟩⟩
      | exit id =>
        obtain ⟨hk3, hi3⟩ := hp
        obtain ⟨W4, hr4, hg4, hx3, hx4, hd4⟩ := fin (some (.exit id)) W3 hk3
        exact ⟨_, W4, hr4, .inr ⟨rfl, .exit id, hIx _ _ _ _ _ hi3 hg4 (fun r e => by cases e; exact .inr ⟨by omega, _, hx3, rfl⟩), hx4, hd4⟩⟩
      | goto t =>
        obtain ⟨hk3, hi3⟩ := hp
        obtain ⟨W4, hr4, hg4, hx3, hx4, hd4⟩ := fin (some (.goto t)) W3 hk3
        exact ⟨_, W4, hr4, .inr ⟨rfl, .goto t, hIx _ _ _ _ _ hi3 hg4 (fun r e => by cases e; exact .inr ⟨by omega, _, hx3, rfl⟩), hx4, hd4⟩⟩
      | panic ch => exact hp.elim
      | outgrown => exact hp.elim
    | exit id => exact hq.elim
    | goto t => exact hq.elim
    | ret => exact hq.elim
    | panic chain => exact hq.elim
    | outgrown => exact hq.elim
  · -- behind the iterator
    rintro e W2 ⟨⟨v, rfl⟩, (⟨hi, hx, hd⟩ | ⟨pre, hpre, c, hi, hx, hd⟩)⟩
    · have hend := run_endLoop (P := P) hx (by rw [hrec]; simp)
      have e6 : (rec .ready none).pending = none := by rw [hrec]
      rw [e6] at hend
      refine ⟨none, _, hend, hdone D _ (by omega) (hI _ _ _ _ hi (grownBy_putObj' W2 l _) (fun r e => by cases e; exact .inr ⟨by omega, _, hx, rfl⟩)) ((World.putObj_heap_other (by omega)).trans hd)⟩
    · have hend := run_endLoop (P := P) hx (by rw [hrec]; simp)
      have e6 : (rec .done (some c)).pending = some c := by rw [hrec]
      rw [e6] at hend
      refine ⟨some c, _, hend, hstop D c pre _ (by omega) hpre (hIx c _ _ _ _ hi (grownBy_putObj' W2 l _) (fun r e => by cases e; exact .inr ⟨by omega, _, hx, rfl⟩)) ((World.putObj_heap_other (by omega)).trans hd)⟩

theorem wpListIn_app {F : Fence} {n₁ : Nat} {P : Program} (w : World) {ops : Array Oper} {rest : List Oper} {o : Oper} {a : Act} {Q : Exit → Act → World → Prop} (hg : o.guard = none) (s x : Operand) (t : TypeId)
    (ho : o.op = .call { callee := .builtin .append, args := #[s, x], argTypes := #[t, t] })
    (base : Nat) (e : TypeId) (i : TypeInfo) (z : Value) (size bytes : Nat) (ht : P.underlying t = some (.slice e)) (hi : P.info? e = some i) (hz : i.zero = some z)
    (hsize : i.size = size) (hby : i.bytes = bytes) (hzs : z.cells.size = size) (hsz : 0 < size)
    (A : Option Addr) (n c : Nat) (xs : List Value) (hs : a.eval s = .slice A n c) (hown : w.ownsRow base e size (.slice A n c) n xs)
    (B : Nat) (S : Option Addr) (m d : Nat) (news : List Value) (hx : a.eval x = .slice S m d) (hr : Rd w B size S m d news) (h1 : ∀ u ∈ news, u.oneCell' = true)
    (h63 : n + m ≤ maxLen) (hbytes : (n + m) * bytes ≤ 140737488355328) (hbase : base ≤ w.heap.size)
    (h : ∀ A2 c2 w', w'.ownsRow base e size (.slice A2 (n + m) c2) (n + m) (xs ++ news) → w.grownBy w' (ab A) → (ab A2 = ab A ∨ ab A2 = some w.heap.size) → wpListIn F n₁ P ops Q rest (a.put o.dst (.slice A2 (n + m) c2)) w') : wpListIn F n₁ P ops Q (o :: rest) a w := by
  refine wpListIn_plain hg fun K hK' => ?_
  obtain ⟨A2, c2, w', hrun, h2, h3, h4⟩ := run_app (P := P) w base t o.type e i z size bytes ht hi hz hsize hby hzs hsz A n c xs hown B S m d news hr h1 h63 hbytes hbase
  unfold Oper.wpIn
  refine ⟨?_, ?_⟩
  · simp [Oper.about, ho, resolve, Target.leads, Sem.run_pure]
  · rw [Oper.semAt_plain F _ _ (by rw [ho]; intro c hc'; cases hc')]
    simp [execOp, ho, resolve, invoke, builtin, hs, hx, hrun, Result.andThen]
    exact hK' _ _ (h A2 c2 w' h2 h3 h4)
end Go.Proofs.Ythhcfocmaiacoaa
