/- Part 2. -/
import Derived.Test.YtjcpmfphnodaaaaGreatDoorZTAA
import Derived.RangeFuncNested
import Derived.RangeFuncBound
import Derived.Shelf.Abstract
import Derived.OwnWalkIn
import Derived.TacticsInMore
import Derived.LoopNIn
import Derived.LoopIn
import Derived.Deep.CutBlock
namespace Go.Proofs.YtjcpmfphnodaaaaGreatDoor
set_option maxRecDepth 100000
set_option maxHeartbeats 0
open _root_.Go.Proofs.Tryz
section
namespace Vi
def zI (x:Nat):List (Nat×Bool):=if x<128 then[(x,true)]else(x%128,false)::zI (x/128)
termination_by x
def enc1 (p:Nat×Bool):UInt8:=UInt8.ofNat (if p.2 then p.1 else p.1+128)
def enc (x:Nat):List UInt8:=(zI x).map enc1
theorem oK {x} (h:x<128):zI x=[(x,true)]:=by rw[zI,Ps0 h]
theorem xK {x} (h:128≤x):zI x=(x%128,false)::zI (x/128):=by rw[zI,Ng om]
theorem xL {x} (h:x<128):enc x=[UInt8.ofNat x]:=by rw[enc,oK h];rfl
theorem Gw {x} (h:128≤x):enc x=UInt8.ofNat (x%128+128)::enc (x/128):=by
 rw[enc,xK h];rfl
theorem xM:∀(n x),x<128^ (n+1)→(zI x).length≤n+1
 |0,x,h=>by rw[oK (by simpa using h)];simp
 |n+1,x,h=>by
  by_cases hx:x<128
  ·rw[oK hx];simp
  ·rw[xK om,Lc];have:=xM n (x/128) (by rw[BQ]at h;exact Nat.div_lt_of_lt_mul om);omega
theorem bC (x) (h:x<18446744073709551616):(enc x).length≤10:=by
 rw[enc,fu];exact xM 9 x om
theorem bO (x):0< (enc x).length:=by
 by_cases h:x<128
 ·rw[xL h];simp
 ·rw[Gw om];simp
theorem Tc (x):∀p∈zI x,p.1<128:=by
 have:∀m,x≤m→∀p∈zI x,p.1<128:=by
  intro m
  induction m generalizing x with
  |zero=>intro h p hp;rw[oK om]at hp;simp at hp;rw[hp];omega
  |succ m ih=>
   intro h p hp;by_cases hx:x<128
   ·rw[oK hx]at hp;simp at hp;rw[hp];exact hx
   ·rw[xK om]at hp;rcases iM.1 hp with rfl|hp
    ·exact Nat.mod_lt _ om
    ·exact ih (x/128) om p hp
 exact this x Ai
def dP:List UInt8→Nat→Nat→Nat×Nat×Nat
 |[],_,_=>(0,0,3)
 |c::l,i,x=>
  if i=9∧1<c.toNat then(0,0,6)
  else if c.toNat=0∧0<i then(0,0,5)
  else if c.toNat<128 then(x+c.toNat%128*128^i,i+1,0)
  else dP l (i+1) (x+c.toNat%128*128^i)
def get (l:List UInt8) (at_:Int):Nat×Int×Nat:=
 if at_<0∨(l.length:Int)<at_ then(0,0,2)
 else
  let r:=dP (l.drop at_.toNat) 0 0
  if r.2.2=0 then(r.1,at_+r.2.1,0)else(0,0,r.2.2)
theorem bQ (c) (l) (i x):dP (c::l) i x=
  if i=9∧1<c.toNat then(0,0,6)
  else if c.toNat=0∧0<i then(0,0,5)
  else if c.toNat<128 then(x+c.toNat%128*128^i,i+1,0)
  else dP l (i+1) (x+c.toNat%128*128^i):=rfl
theorem Xp (x y i) (hx:x<128^i):x|||y*128^i=x+y*128^i:=by
 have e:(128:Nat)^i=2^ (7*i):=by rw[Nat.pow_mul]
 rw[e]at hx⊢;rw[←BH,Nat.or_comm,←Nat.shiftLeft_add_eq_or_of_lt hx,Nat.add_comm]
theorem Td {x i c} (hx:x<128^i) (hi:i≤9) (hc:¬(i=9∧1<c)):x+c%128*128^i<18446744073709551616:=by
 by_cases h9:i=9
 ·subst h9;have h1:c≤1:=om;have h2:c%128≤1:=om;have h3:c%128*128^9≤1*128^9:=Ct _ h2;have h4:(128:Nat)^9=9223372036854775808:=Ah;omega
 ·have h1:i≤8:=by omega
  have h2:(128:Nat)^i≤128^8:=j5 om h1;have h4:(128:Nat)^8=72057594037927936:=Ah;have h3:c%128*128^i≤127*128^i:=Ct _ om;omega
theorem NW {x i c} (hx:x<128^i):x+c%128*128^i<128^ (i+1):=by
 have h3:c%128*128^i≤127*128^i:=Ct _ om;rw[BQ];omega
theorem toNat_ofNat {x:Nat} (h:x<256):(UInt8.ofNat x).toNat=x:=by simp;omega
theorem zP:∀(n x i a) (r),x<128^n→i+n≤9∨(i+n=10∧x*128^i<18446744073709551616)→(0<i→0<x)→dP (enc x++r) i a=(a+x*128^i,i+(enc x).length,0)
 |0,x,i,a,r,h,hi,h0=>by
  have hx:x=0:=by simpa using h
  subst hx;have hi0:i=0:=by
   rcases nz i with h|h
   ·exact h
   ·exact absurd (h0 h) om
  subst hi0;rw[xL om]
  rfl
 |n+1,x,i,a,r,h,hi,h0=>by
  have h9:i≤9:=om;have h128:i=9→x≤1:=by
   intro e;subst e;rcases hi with h'|h'
   ·omega
   ·have h4:(128:Nat)^9=9223372036854775808:=by decide
    rw[h4]at h';omega
  by_cases hx:x<128
  ·rw[xL hx,List.singleton_append,bQ,toNat_ofNat om,Ng om,Ng om,Ps0 hx,jA hx]
   rfl
  ·have hi9:i≠9:=fun e=>by have:=h128 e;omega
   rw[Gw om,AU,bQ,toNat_ofNat om,Ng om,Ng om,Ng om,zP n (x/128) (i+1) _ r (by rw[BQ]at h;exact Nat.div_lt_of_lt_mul om) ?_ om]
   ·rw[Lc];have e1:(x%128+128)%128=x%128:=om;have e2:x/128*128^ (i+1)=x/128*128*128^i:=by rw[BQ,Nat.mul_assoc,Dm 128]
    have e3:x%128*128^i+x/128*128*128^i=x*128^i:=by rw[←Nat.add_mul];congr 1;omega
    rw[e1,e2,gM,e3];simp only[ay,true_and,Bi];omega
   ·rcases hi with h'|⟨h1,h2⟩
    ·exact .inl om
    ·refine .inr ⟨om,DC ?_ h2⟩;rw[BQ,Dm _ 128,←Nat.mul_assoc];exact Ct _ om
theorem xN (l) (x) (r) (hx:x<18446744073709551616):get (l++enc x++r) (l.length:Int)=(x,((l.length+(enc x).length:Nat):Int),0):=by
 unfold get;rw[Ng (by simp;omega)];have e:(l++enc x++r).drop (l.length:Int).toNat=enc x++r:=by
  rw[lS,Af,CW]
 rw[e];rw[zP 10 x 0 0 r om (.inr ⟨rfl,om⟩) om];simp
end Vi
end
section
section
open Go.RowKit Go.Shelf
def wy (O:Nat→Prop) {β:Type} (J:β→World→Prop):Prop:=
 ∀s W W' row,J s W→W.grownBy W' row→(∀r,row=some r→O r)→J s W'
def aJ (B:Nat) (O:Nat→Prop) {β:Type} (I:β→World→Prop):Prop:=
 ∀s W W' row,I s W→W.grownBy W' row→(∀r,row=some r→O r∨(B≤r∧∃o:Obj,W.heap[r]? =some o∧o.isCells=false))→I s W'
def Yields {α:Type} (n:Nat) (P:Program) (gf:Nat) (lb:Array Value) (encs:α→Array Value) (O:Nat→Prop) (Kp:World→World→Prop) (L:List α) (w:World):Prop:=
 ∀(l:Nat) (J Jx:List α→World→Prop) (W:World),Kp w W→wy O J→wy O Jx→
  (∀pre x W1,J pre W1→pre++[x]<+:L→YieldAt Fence.wide (n-1) P l (encs x) W1 fun e W'=>
   (e= .returned (.bool true)∧J (pre++[x]) W'∧Kp W1 W')∨(e= .returned (.bool false)∧Jx (pre++[x]) W'))→
  J [] W→
  CallsIn Fence.wide n P gf (#[.func (.yield l) #[] #[]]++lb) W fun e W'=>(∃v,e= .returned v)∧(J L W'∨(∃pre,pre<+:L∧Jx pre W'))
def xO {α:Type} (B:Nat) (Kp:World→World→Prop) (I:List α→World→Prop) (Ix:Code→List α→World→Prop) (xs:List α) (W:World):Exit→Act→World→Prop
 | .normal,_,W'=>KeepsFrom B W W'∧Kp W W'∧I xs W'
 | .ret,_,W'=>KeepsFrom B W W'∧Ix .ret xs W'
 | .exit id,_,W'=>KeepsFrom B W W'∧Ix (.exit id) xs W'
 | .goto t,_,W'=>KeepsFrom B W W'∧Ix (.goto t) xs W'
 | .panic _,_,_=>False
 | .outgrown,_,_=>False
theorem eF {F} {n₁} {P} (w) {ops} {rest} {o} {a} {Q} (hg:o.guard=none) (s x) (t)
  (ho:o.op= .call {callee:= .builtin .append,args:= #[s,x],argTypes:= #[t,t]})
  (base) (e) (i) (z) (size bytes) (ht:P.underlying t=some (.slice e)) (hi:P.info? e=some i) (hz:i.zero=some z)
  (hsize:i.size=size) (hby:i.bytes=bytes) (hzs:z.cells.size=size) (hsz:0<size)
  (A) (n c) (xs) (hs:a.eval s= .slice A n c) (hown:w.ownsRow base e size (.slice A n c) n xs)
  (B) (S) (m d) (news) (hx:a.eval x= .slice S m d) (hr:Rd w B size S m d news) (h1:∀u∈news,u.oneCell'=true)
  (h63:n+m≤maxLen) (hbytes:(n+m)*bytes≤140737488355328) (hbase:base≤w.heap.size)
  (h:∀A2 c2 w',w'.ownsRow base e size (.slice A2 (n+m) c2) (n+m) (xs++news)→w.grownBy w' (ab A)→(ab A2=ab A∨ab A2=some w.heap.size)→wpListIn F n₁ P ops Q rest (a.put o.dst (.slice A2 (n+m) c2)) w'):wpListIn F n₁ P ops Q (o::rest) a w:=by
 refine wpListIn_plain hg fun K hK'=>?_
 obtain⟨A2,c2,w',hrun,h2,h3,h4⟩:=JM (P:=P) w base t o.type e i z size bytes ht hi hz hsize hby hzs hsz A n c xs hown B S m d news hr h1 h63 hbytes hbase;unfold Oper.wpIn;refine⟨?_,?_⟩
 ·simp[Oper.about,ho,resolve,Target.leads,Sem.run_pure]
 ·rw[Oper.semAt_plain F _ _ (by rw[ho];intro c hc';cases hc')];simp[execOp,ho,resolve,invoke,builtin,hs,hx,hrun,Result.andThen];exact hK' _ _ (h A2 c2 w' h2 h3 h4)
end
end
section
section
open Go.RowKit Go.Shelf
def ru {α:Type} (n:Nat) (P:Program) (gf:Nat) (lb:Array Value) (encs:α→Array Value) (O:Nat→Prop) (Kp:World→World→Prop) (L:List α) (w:World) (X:List α→World→Prop):Prop:=
 ∀(l:Nat) (J Jx:List α→World→Prop) (W:World),Kp w W→wy O J→wy O Jx→(∀pre W',Jx pre W'→X pre W')→
  (∀pre x W1,J pre W1→pre++[x]<+:L→YieldAt Fence.wide (n-1) P l (encs x) W1 fun e W'=>
   (e= .returned (.bool true)∧J (pre++[x]) W'∧Kp W1 W')∨(e= .returned (.bool false)∧Jx (pre++[x]) W'))→
  J [] W→
  CallsIn Fence.wide n P gf (#[.func (.yield l) #[] #[]]++lb) W fun e W'=>(∃v,e= .returned v)∧(J L W'∨(∃pre,pre<+:L∧Jx pre W'))
def JO {α:Type} (n:Nat) (P:Program) (gf:Nat) (lb:Array Value) (En:α→Array Value→World→Prop) (O:Nat→Prop) (Kp:World→World→Prop) (L:List α) (w:World) (X:List α→World→Prop):Prop:=
 ∀(l:Nat) (J Jx:List α→World→Prop) (W:World),Kp w W→wy O J→wy O Jx→(∀pre W',Jx pre W'→X pre W')→
  (∀pre x args W1,J pre W1→En x args W1→pre++[x]<+:L→YieldAt Fence.wide (n-1) P l args W1 fun e W'=>
   (e= .returned (.bool true)∧J (pre++[x]) W'∧Kp W1 W')∨(e= .returned (.bool false)∧Jx (pre++[x]) W'))→
  J [] W→
  CallsIn Fence.wide n P gf (#[.func (.yield l) #[] #[]]++lb) W fun e W'=>(∃v,e= .returned v)∧(J L W'∨(∃pre,pre<+:L∧Jx pre W'))
theorem wB {α:Type} {n:Nat} {P:Program} {g:Operand} {ps:Array Tmp} {assign body:Code} {Q:Exit→Act→World→Prop} {a:Act} {w:World}
  (h1:1≤n) {gf:Nat} {lb:Array Value} (hg:a.eval g= .func (.func gf) #[] lb) (eg:∀args w,(callFunc gf args).run P w= .ok (.enter gf args) w)
  {En:α→Array Value→World→Prop} {O:Nat→Prop} {Kp:World→World→Prop} {L:List α}
  (hO:∀r,O r→r<w.heap.size)
  (hKt:∀{A B C:World},Kp A B→Kp B C→Kp A C)
  (hKb:∀(W W':World) (row:Option Nat),w.heap.size≤W.heap.size→W.grownBy W' row→(∀r,row=some r→w.heap.size≤r∧∃o:Obj,W.heap[r]? =some o∧o.isCells=false)→Kp W W')
  (hps:∀x args W,En x args W→args.size=ps.size)
  (I:List α→World→Prop) (Ix:Code→List α→World→Prop) (M:List α→α→Act→World→Prop) (hseq:JO (n-1) P gf lb En O Kp L w (fun pre W=>∃c,Ix c pre W))
  (hI:aJ w.heap.size O I) (hIx:∀c,aJ w.heap.size O (Ix c)) (hM:∀pre x a,aJ w.heap.size O (fun(_:Unit) W=>M pre x a W)) (h0:I [] w)
  (hassign:∀(l:Nat) (pre:List α) (x:α) (args:Array Value) (W:World),I pre W→En x args W→pre++[x]<+:L→w.heap.size≤W.heap.size→
   assign.wpIn (Fence.wide.inRound l) (n-1-1) P (Exit.then (fun a₁ W₁=>KeepsFrom w.heap.size W W₁∧Kp W W₁∧M pre x a₁ W₁) (fun _ _ _=>False))
    {tmps:=(ps.zip args).foldl (fun t (p,v)=>t.setIfInBounds p v) a.tmps,defers:=[]} W)
  (hbody:∀(l:Nat) (pre:List α) (x:α) (a₁:Act) (W:World),M pre x a₁ W→pre++[x]<+:L→w.heap.size≤W.heap.size→
   body.wpIn (Fence.wide.inRound l) (n-1-1) P (xO w.heap.size Kp I Ix (pre++[x]) W) a₁ W)
  (hdone:∀(D:Nat) (W:World),w.heap.size≤D→I L W→W.heap[D]? =some (.deferred (some []))→Q .normal {a with defers:={target:= .collected D,args:= #[]}::a.defers} W)
  (hstop:∀(D:Nat) (c:Code) (pre:List α) (W:World),w.heap.size≤D→pre<+:L→Ix c pre W→W.heap[D]? =some (.deferred (some []))→c.wpIn Fence.wide n P Q {a with defers:={target:= .collected D,args:= #[]}::a.defers} W):
  (Code.rangeFunc g ps assign body).wpIn Fence.wide n P Q a w:=by
 refine wpIn_rangeFunc fun fn hfn=>?_
 obtain⟨rec,hrec⟩:∃rec:LoopState→Option Code→Loop,rec=fun st pe=>{state:=st,pending:=pe,fn,tmps:=a.tmps,params:=ps,assign,body,defers:=w.heap.size}:=⟨_,rfl⟩
 obtain⟨l,hl0⟩:∃l,l=w.heap.size+1:=⟨_,rfl⟩
 obtain⟨D,hD0⟩:∃D,D=w.heap.size:=⟨_,rfl⟩
 obtain⟨W1,hW1⟩:∃W1,W1=(w.alloc (.deferred (some []))).alloc (.loop (rec .ready none)):=⟨_,rfl⟩
 have hsz1:W1.heap.size=w.heap.size+2:=by rw[hW1];simp
 have hL1:W1.heap[l]? =some (.loop (rec .ready none)):=by
  rw[hW1,hl0];have:=World.alloc_heap_new (w.alloc (.deferred (some []))) (.loop (rec .ready none));rwa[AO]at this
 have hK1:W1.heap[D]? =some (.deferred (some [])):=by
  rw[hW1,hD0];exact(Aw _ _ _ sm).trans (World.alloc_heap_new w _)
 have hgr:w.grownBy W1 none:=by
  rw[hW1];exact⟨rfl,rfl,rfl,by simp;omega,fun k hk _=>(Aw _ _ _ (by simp;omega)).trans (Aw _ _ _ hk)⟩
 have hI1:I [] W1:=hI _ _ _ _ h0 hgr (fun r e=>by cases e);have hnl:∀r,O r→r≠l:=fun r hr=>by have:=hO r hr;omega
 have hnD:∀r,O r→r≠D:=fun r hr=>by have:=hO r hr;omega
 refine⟨l,[{target:= .collected D,args:= #[]}],W1,{target:= .fn (.func gf) lb,args:= #[.func (.yield l) #[] #[]]},W1,gf,#[.func (.yield l) #[] #[]]++lb,W1,?_,?_,fun _ _=>trivial,?_,fun _=>h1,?_⟩
 ·rw[hW1,hl0,hD0,hrec];exact run_enterLoop_outer _ _ _ _ _
 ·simp only[resolve,hg];simp[go_sem]
 ·simp[invoke,go_sem,eg]
 refine(hseq l
  (fun pre W=>I pre W∧W.heap[l]? =some (.loop (rec .ready none))∧W.heap[D]? =some (.deferred (some [])))
  (fun pre W=>∃c,Ix c pre W∧W.heap[l]? =some (.loop (rec .done (some c)))∧W.heap[D]? =some (.deferred (some [])))
  W1 (hKb _ _ _ Ai hgr (fun r e=>by cases e)) ?_ ?_ (fun pre W' ⟨c,hc,_⟩=>⟨c,hc⟩) ?_ ⟨hI1,hL1,hK1⟩).mono ?_
 ·rintro s X Y row ⟨hi,hx,hd⟩ hg' hr;have hlx:=(Ge.1 hx).1;have LQ:=(Ge.1 hd).1;exact⟨hI s X Y row hi hg' (fun r e=> .inl (hr r e)),(hg'.block l hlx (fun e=>hnl l (hr l e.symm) rfl)).trans hx,(hg'.block D LQ (fun e=>hnD D (hr D e.symm) rfl)).trans hd⟩
 ·rintro s X Y row ⟨c,hi,hx,hd⟩ hg' hr;have hlx:=(Ge.1 hx).1;have LQ:=(Ge.1 hd).1;exact⟨c,hIx c s X Y row hi hg' (fun r e=> .inl (hr r e)),(hg'.block l hlx (fun e=>hnl l (hr l e.symm) rfl)).trans hx,(hg'.block D LQ (fun e=>hnD D (hr D e.symm) rfl)).trans hd⟩
 ·
  rintro pre x args W ⟨hi,hx,hd⟩ hen hpre;have hlx:l<W.heap.size:=(Ge.1 hx).1;have hy:=run_yield (P:=P) (args:=args) hx (by rw[hrec];exact hps x args W hen);have e1:(rec .ready none).fn=fn:=by rw[hrec]
  have e2:(rec .ready none).params=ps:=by rw[hrec]
  have e3:(rec .ready none).tmps=a.tmps:=by rw[hrec]
  have e4:(rec .ready none).assign=assign:=by rw[hrec]
  have e5:(rec .ready none).body=body:=by rw[hrec]
  rw[e1,e2,e3,e4,e5]at hy;refine⟨fn,_,assign,body,hy,roundIn_of_wpIn hfn (wpIn_mono (hassign l pre x args W hi hen hpre om) ?_)⟩;rintro e a₁ W₁ hq;cases e with
  |normal=>
   obtain⟨hk1,hp1,hm1⟩:=hq;have hx1:=hk1.same l _ om hx rfl;have hd1:=hk1.same D _ om hd rfl;have hl1:=(Ge.1 hx1).1;refine⟨_,run_beginRound hx1 (by rw[hrec]),?_⟩;obtain⟨W₂,Te⟩:∃W₂,W₂=W₁.putObj l (.loop {rec .ready none with state:= .busy}):=⟨_,rfl⟩
   rw[←Te];have hg2:W₁.grownBy W₂ (some l):=by rw[Te];exact grownBy_putObj' W₁ l _
   have hx2:W₂.heap[l]? =some (.loop {rec .ready none with state:= .busy}):=by rw[Te];exact World.putObj_heap_same hl1
   have hd2:W₂.heap[D]? =some (.deferred (some [])):=by rw[Te];exact(World.putObj_heap_other om).trans hd1
   have hm2:M pre x a₁ W₂:=hM pre x a₁ () _ _ _ hm1 hg2 (fun r e=>by cases e;exact .inr ⟨om,_,hx1,rfl⟩);have hp2:Kp W W₂:=hKt hp1 (hKb _ _ _ om hg2 (fun r e=>by cases e;exact⟨om,_,hx1,rfl⟩));have hz2:w.heap.size≤W₂.heap.size:=by have:=hg2.size;omega
   refine wpIn_mono (hbody l pre x a₁ W₂ hm2 hpre hz2) ?_;have fin:∀(jump:Option Code) (W3:World),KeepsFrom w.heap.size W₂ W3→∃W4,(Instr.endRound l jump).run P W3= .ok (.bool jump.isNone) W4∧W3.grownBy W4 (some l)∧W3.heap[l]? =some (.loop {rec .ready none with state:= .busy})∧
     W4.heap[l]? =some (.loop (rec (if jump.isNone then .ready else .done) jump))∧W4.heap[D]? =some (.deferred (some [])):=by
    intro jump W3 hk3;have hx3:=hk3.same l _ om hx2 rfl;have hd3:=hk3.same D _ om hd2 rfl;have hl3:=(Ge.1 hx3).1;refine⟨_,run_endRound jump hx3,grownBy_putObj' W3 l _,hx3,?_,(World.putObj_heap_other om).trans hd3⟩;rw[World.putObj_heap_same hl3,hrec]
   rintro e a3 W3 hp;cases e with
   |normal=>
    obtain⟨hk3,hp3,hi3⟩:=hp;obtain⟨W4,hr4,hg4,hx3,hx4,hd4⟩:=fin none W3 hk3;refine⟨_,W4,hr4,.inl ⟨rfl,⟨hI _ _ _ _ hi3 hg4 (fun r e=>by cases e;exact .inr ⟨om,_,hx3,rfl⟩),hx4,hd4⟩,hKt (hKt hp2 hp3) (hKb _ _ _ (by have:=(Ge.1 hx3).1;omega) hg4 (fun r e=>by cases e;exact⟨om,_,hx3,rfl⟩))⟩⟩
   |ret=>
    obtain⟨hk3,hi3⟩:=hp;obtain⟨W4,hr4,hg4,hx3,hx4,hd4⟩:=fin (some .ret) W3 hk3;exact⟨_,W4,hr4,.inr ⟨rfl,.ret,hIx _ _ _ _ _ hi3 hg4 (fun r e=>by cases e;exact .inr ⟨om,_,hx3,rfl⟩),hx4,hd4⟩⟩
   |exit id=>
    obtain⟨hk3,hi3⟩:=hp;obtain⟨W4,hr4,hg4,hx3,hx4,hd4⟩:=fin (some (.exit id)) W3 hk3;exact⟨_,W4,hr4,.inr ⟨rfl,.exit id,hIx _ _ _ _ _ hi3 hg4 (fun r e=>by cases e;exact .inr ⟨om,_,hx3,rfl⟩),hx4,hd4⟩⟩
   |goto t=>
    obtain⟨hk3,hi3⟩:=hp;obtain⟨W4,hr4,hg4,hx3,hx4,hd4⟩:=fin (some (.goto t)) W3 hk3;exact⟨_,W4,hr4,.inr ⟨rfl,.goto t,hIx _ _ _ _ _ hi3 hg4 (fun r e=>by cases e;exact .inr ⟨om,_,hx3,rfl⟩),hx4,hd4⟩⟩
   |panic ch=>exact hp.elim
   |outgrown=>exact hp.elim
  |exit id=>exact hq.elim
  |goto t=>exact hq.elim
  |ret=>exact hq.elim
  |panic chain=>exact hq.elim
  |outgrown=>exact hq.elim
 ·
  rintro e W2 ⟨⟨v,rfl⟩,(⟨hi,hx,hd⟩|⟨pre,hpre,c,hi,hx,hd⟩)⟩
  ·have hend:=run_endLoop (P:=P) hx (by rw[hrec];simp);have e6:(rec .ready none).pending=none:=by rw[hrec]
   rw[e6]at hend;refine⟨none,_,hend,hdone D _ om (hI _ _ _ _ hi (grownBy_putObj' W2 l _) (fun r e=>by cases e;exact .inr ⟨om,_,hx,rfl⟩)) ((World.putObj_heap_other om).trans hd)⟩
  ·have hend:=run_endLoop (P:=P) hx (by rw[hrec];simp);have e6:(rec .done (some c)).pending=some c:=by rw[hrec]
   rw[e6]at hend;refine⟨some c,_,hend,hstop D c pre _ om hpre (hIx c _ _ _ _ hi (grownBy_putObj' W2 l _) (fun r e=>by cases e;exact .inr ⟨om,_,hx,rfl⟩)) ((World.putObj_heap_other om).trans hd)⟩
theorem iX {α:Type} {n:Nat} {P:Program} {g:Operand} {ps:Array Tmp} {assign body:Code} {Q:Exit→Act→World→Prop} {a:Act} {w:World}
  (h1:1≤n) {gf:Nat} {lb:Array Value} (hg:a.eval g= .func (.func gf) #[] lb) (eg:∀args w,(callFunc gf args).run P w= .ok (.enter gf args) w)
  {encs:α→Array Value} {O:Nat→Prop} {Kp:World→World→Prop} {L:List α}
  (hO:∀r,O r→r<w.heap.size)
  (hKt:∀{A B C:World},Kp A B→Kp B C→Kp A C)
  (hKb:∀(W W':World) (row:Option Nat),w.heap.size≤W.heap.size→W.grownBy W' row→(∀r,row=some r→w.heap.size≤r)→Kp W W')
  (hps:∀x,(encs x).size=ps.size)
  (I:List α→World→Prop) (Ix:Code→List α→World→Prop) (M:List α→α→Act→World→Prop) (hseq:ru (n-1) P gf lb encs O Kp L w (fun pre W=>∃c,Ix c pre W))
  (hI:aJ w.heap.size O I) (hIx:∀c,aJ w.heap.size O (Ix c)) (hM:∀pre x a,aJ w.heap.size O (fun(_:Unit) W=>M pre x a W)) (h0:I [] w)
  (hassign:∀(l:Nat) (pre:List α) (x:α) (W:World),I pre W→pre++[x]<+:L→w.heap.size≤W.heap.size→
   assign.wpIn (Fence.wide.inRound l) (n-1-1) P (Exit.then (fun a₁ W₁=>KeepsFrom w.heap.size W W₁∧Kp W W₁∧M pre x a₁ W₁) (fun _ _ _=>False))
    {tmps:=(ps.zip (encs x)).foldl (fun t (p,v)=>t.setIfInBounds p v) a.tmps,defers:=[]} W)
  (hbody:∀(l:Nat) (pre:List α) (x:α) (a₁:Act) (W:World),M pre x a₁ W→pre++[x]<+:L→w.heap.size≤W.heap.size→
   body.wpIn (Fence.wide.inRound l) (n-1-1) P (xO w.heap.size Kp I Ix (pre++[x]) W) a₁ W)
  (hdone:∀(D:Nat) (W:World),w.heap.size≤D→I L W→W.heap[D]? =some (.deferred (some []))→Q .normal {a with defers:={target:= .collected D,args:= #[]}::a.defers} W)
  (hstop:∀(D:Nat) (c:Code) (pre:List α) (W:World),w.heap.size≤D→pre<+:L→Ix c pre W→W.heap[D]? =some (.deferred (some []))→c.wpIn Fence.wide n P Q {a with defers:={target:= .collected D,args:= #[]}::a.defers} W):
  (Code.rangeFunc g ps assign body).wpIn Fence.wide n P Q a w:=
 wB (Kp:=Kp) (En:=fun x args _=>args=encs x) h1 hg eg hO hKt (fun W W' row g1 g2 g3=>hKb W W' row g1 g2 fun r e=>(g3 r e).1) (fun x args W e=>by rw[e];exact hps x) I Ix M
  (fun l J Jx W hk m1 m2 hx hr=>hseq l J Jx W hk m1 m2 hx fun pre x W1 hj hp=>hr pre x _ W1 hj rfl hp) hI hIx hM h0 (fun l pre x args W hi e hp hz=>by subst e;exact hassign l pre x W hi hp hz) hbody hdone hstop
theorem rV {α:Type} {n:Nat} {P:Program} {g:Operand} {ps:Array Tmp} {assign body:Code} {Q:Exit→Act→World→Prop} {a:Act} {w:World}
  (h1:1≤n) {gf:Nat} {lb:Array Value} (hg:a.eval g= .func (.func gf) #[] lb) (eg:∀args w,(callFunc gf args).run P w= .ok (.enter gf args) w)
  {encs:α→Array Value} {O:Nat→Prop} {Kp:World→World→Prop} {L:List α} (hseq:Yields (n-1) P gf lb encs O Kp L w)
  (hO:∀r,O r→r<w.heap.size)
  (hKt:∀{A B C:World},Kp A B→Kp B C→Kp A C)
  (hKb:∀(W W':World) (row:Option Nat),w.heap.size≤W.heap.size→W.grownBy W' row→(∀r,row=some r→w.heap.size≤r)→Kp W W')
  (hps:∀x,(encs x).size=ps.size)
  (I:List α→World→Prop) (Ix:Code→List α→World→Prop) (M:List α→α→Act→World→Prop)
  (hI:aJ w.heap.size O I) (hIx:∀c,aJ w.heap.size O (Ix c)) (hM:∀pre x a,aJ w.heap.size O (fun(_:Unit) W=>M pre x a W)) (h0:I [] w)
  (hassign:∀(l:Nat) (pre:List α) (x:α) (W:World),I pre W→pre++[x]<+:L→w.heap.size≤W.heap.size→
   assign.wpIn (Fence.wide.inRound l) (n-1-1) P (Exit.then (fun a₁ W₁=>KeepsFrom w.heap.size W W₁∧Kp W W₁∧M pre x a₁ W₁) (fun _ _ _=>False))
    {tmps:=(ps.zip (encs x)).foldl (fun t (p,v)=>t.setIfInBounds p v) a.tmps,defers:=[]} W)
  (hbody:∀(l:Nat) (pre:List α) (x:α) (a₁:Act) (W:World),M pre x a₁ W→pre++[x]<+:L→w.heap.size≤W.heap.size→
   body.wpIn (Fence.wide.inRound l) (n-1-1) P (xO w.heap.size Kp I Ix (pre++[x]) W) a₁ W)
  (hdone:∀(D:Nat) (W:World),w.heap.size≤D→I L W→W.heap[D]? =some (.deferred (some []))→Q .normal {a with defers:={target:= .collected D,args:= #[]}::a.defers} W)
  (hstop:∀(D:Nat) (c:Code) (pre:List α) (W:World),w.heap.size≤D→pre<+:L→Ix c pre W→W.heap[D]? =some (.deferred (some []))→c.wpIn Fence.wide n P Q {a with defers:={target:= .collected D,args:= #[]}::a.defers} W):
  (Code.rangeFunc g ps assign body).wpIn Fence.wide n P Q a w:=
 iX (Kp:=Kp) h1 hg eg hO hKt hKb hps I Ix M (fun l J Jx W hk m1 m2 _ hr=>hseq l J Jx W hk m1 m2 hr) hI hIx hM h0 hassign hbody hdone hstop
end
end
section
section
open Go.RowKit Go.Shelf
attribute [local go_sem] Oper.semAt_some
def NY (p:Nat×Bool):Array Value:= #[.int .u8 (p.1:Int),.bool p.2]
def Xq:Option Value→Nat
 |some (.int _ n)=>n.toNat
 |_=>0
def zJ (B bx:Nat) (X Y:World):Prop:=Below B X Y∧Y.heap[bx]? =X.heap[bx]?
theorem zJ.trans {B bx} {X Y Z} (h:zJ B bx X Y) (k:zJ B bx Y Z):zJ B bx X Z:=⟨h.1.trans k.1,k.2.trans h.2⟩
theorem zJ.grown {B bx M} {W W'} {row} (hM:M≤W.heap.size) (hB:B≤M) (ha:bx<M) (g:W.grownBy W' row) (hr:∀r,row=some r→M≤r):zJ B bx W W':=
 ⟨(Ae _ _).grown g om (fun r e=>by have:=hr r e;omega),g.block _ om (fun e=>by have:=hr _ e.symm;omega)⟩
theorem vo (n bx B N x:Nat) (w) (X) (hw:Boxed w bx 125 (.int .u64 (x:Int))) (hN:N≤w.heap.size) (hx:x<18446744073709551616) (hX:∀pre W,¬X pre W):
  ru n prog 246 #[.pointer (some ⟨bx,0,none⟩)] NY (fun r=>r=bx) (zJ B bx) (Vi.zI x) w X:=by
 intro l J Jx W hK hJ hJx NZ bz h0;have hW:Boxed W bx 125 (.int .u64 (x:Int)):=hK.2.trans hw;have hNW:N≤W.heap.size:=Lt hN hK.1.size;have df:=Aj bz;have HX:Kept (∀pre W,¬Jx pre W):=⟨fun pre W h=>hX pre W (NZ pre W h)⟩
 have hJ2:=Aj hJ;have Hx:=Aj hx;clear hw hK hN bz hJ hX NZ hx;refine Bd.2 ?_;go_enter func246,ntmps246;go_wp2;go_loopw [] (fun wr=>∃pre x',Boxed wr bx 125 (.int .u64 ((x':Nat):Int))∧Kept (x'<18446744073709551616)∧N≤wr.heap.size∧Kept (Vi.zI x=pre++Vi.zI x')∧Kept (J pre wr)) (fun wr=>Xq (wr.cell? ⟨bx,0,none⟩))
 case atStart=>exact⟨[],x,hW,Hx,hNW,⟨rfl⟩,⟨h0⟩⟩
 case round=>
  clear hW Hx h0 hNW;obtain⟨pre,x',hb,hx,hNr,hm,hj⟩:=hrel;have hc:=hb.cell;have hf:=hb.frozen;have Hb:=Aj hb;clear hb;by_cases hlt:x'<128
  ·have hlt':(x':Int)<128:=by omega
   have hm2:Kept (Vi.zI x=pre++[(x',true)]):=⟨by rw[hm.1,Vi.oK hlt]⟩
   obtain⟨fn,tmps,assign,body,hy,qx⟩:=df.1 pre (x',true) wr hj.1 ⟨[],by rw[hm2.1];simp⟩;unfold NY at hy;refine(Bl (n:=n)).1 ?_
   gi_wp2
   refine⟨fun f h=>(by cases h),?_⟩
   gi_wp2
   refine(Bl (n:=n)).1 ?_
   gi_wp2
   refine⟨(fun h=>by simp[Fence.wide]at h),qx.mono ?_⟩;rintro e W' (⟨rfl,hj',hb'⟩|⟨rfl,rW⟩)
   ·gi_wp2
    go_end0;exact⟨⟨_,rfl⟩,.inl (by rw[hm2.1];exact hj')⟩
   ·exact absurd rW (HX.1 _ _)
  ·have hge':(128:Int)≤(x':Int):=by omega
   have hm2:Kept (Vi.zI x=pre++[(x'%128,false)]++Vi.zI (x'/128)):=⟨by rw[hm.1,Vi.xK om];simp⟩
   obtain⟨fn,tmps,assign,body,hy,qx⟩:=df.1 pre (x'%128,false) wr hj.1 ⟨Vi.zI (x'/128),by rw[hm2.1]⟩;unfold NY at hy;have ee:(((x'%128:Nat)):Int)=(x':Int)%128:=om;simp only[ee]at hy;refine(Bl (n:=n)).1 ?_
   gi_wp2
   refine⟨(fun h=>by simp[Fence.wide]at h),qx.mono ?_⟩;rintro e W' (⟨rfl,hj',hb'⟩|⟨rfl,rW⟩)
   ·have hb2:Boxed W' bx 125 (.int .u64 (x':Int)):=hb'.2.trans Hb.1;have hc':=hb2.cell;have hf':=hb2.frozen;have Hb2:=Aj hb2;have hz':=hb'.1.size;have V3:=Aj hj';have hn0:Kept (Xq (wr.cell? ⟨bx,0,none⟩)=x'):=⟨by rw[hc];rfl⟩
    clear hj' hb' hb2 hc hf
    gi_wp2
    go_roundw
    case rel=>
     refine⟨pre++[(x'%128,false)],x'/128,?_,⟨by have:=hx.1;omega⟩,by simp;omega,⟨hm2.1⟩,⟨hJ2.1 _ _ _ (some bx) V3.1 (grownBy_setCell' _ _ _) (fun r e=>by cases e;rfl)⟩⟩;rw[show((x'/128:Nat):Int)=(x':Int)/128 from om];exact Hb2.1.set _
    case measure=>
     rw[hn0.1,(Hb2.1.set _).cell];show((x':Int)/128).toNat<x';omega
   ·exact absurd rW (HX.1 _ _)
theorem u8_or128 (c:Nat) (h:c<128):bits .or .u8 (c:Int) 128=((c+128:Nat):Int):=by
 have:∀c:Fin 128,bits .or .u8 ((c.val:Nat):Int) 128=((c.val+128:Nat):Int):=by decide+kernel
 exact this ⟨c,h⟩
theorem ah.apart {w w'} {base n c} {A} {l} {row} (h:ah w base A n c l) (hg:w.grownBy w' row)
  (hr:∀r,row=some r→ab A≠some r∨∃o:Obj,w.heap[r]? =some o∧o.isCells=false):ah w' base A n c l:=by
 refine⟨h.1,?_⟩;rcases h.2 with hn|⟨g,cap,cur,hv,h1,h2,rest⟩
 ·exact .inl hn
 ·refine .inr ⟨g,cap,cur,hv,h1,?_,rest⟩;rw[hg.block g (Ge.1 h2).1]
  ·exact h2
  ·intro e';rcases hr g e'.symm with h3|⟨o,ho,hoc⟩
   ·injection hv with hv
    rw[hv]at h3;exact h3 rfl
   ·rw[h2]at ho;cases ho;cases hoc
theorem Gx (x) (w):Calls prog 199 #[.int .u64 x] w fun e w'=>
  e= .returned (.func (.func 246) #[] #[.pointer (some ⟨w.heap.size,0,none⟩)])∧w'=w.alloc (.cells #[.int .u64 x] 125):=by
 go_enter func199,ntmps199;go_wp2;go_ret;exact⟨rfl,rfl⟩
def vv (w:World) (A:Option Addr) (base:Nat) (l:List UInt8) (pre:List (Nat×Bool)) (W:World):Prop:=
 ∃A' n' c',Boxed W w.heap.size 22 (.slice A' n' c')∧ah W base A' n' c' (l++pre.map Vi.enc1)∧(ab A'=ab A∨∃g,ab A'=some g∧w.heap.size+2≤g)∧w.grownBy W (ab A)
theorem vv.own {w} {A} {base} {l} (hA:∀g,ab A=some g→g<w.heap.size):aJ (w.heap.size+2) (fun r=>r=w.heap.size+1) (vv w A base l):=by
 rintro s W W' row ⟨A',n',c',hb,ho,hab,hg0⟩ hg hr;have hrow:∀r,row=some r→w.heap.size<r:=fun r e=>by
  rcases hr r e with h|⟨h,_⟩<;>omega
 refine⟨A',n',c',hb.kept hg (fun e=>by have:=hrow _ e.symm;omega),ho.apart hg (fun r e=>?_),hab,hg0.andThen hg (fun r e=> .inl (by have:=hrow r e;omega))⟩;rcases hr r e with h|⟨_,h⟩
 ·left
  intro e2;rcases hab with h3|⟨g,h3,h4⟩
  ·rw[h3]at e2;have:=hA _ e2;omega
  ·rw[h3]at e2;cases e2;omega
 ·exact .inr h
theorem N8 (w:World) (v) (t):Rd (w.alloc (.cells #[v] t)) (w.heap.size+1) 1 (some ⟨w.heap.size,0,none⟩) 1 1 [v]:=
 ⟨Nr _,by unfold maxLen;omega,rfl,fun _=>⟨_,0,rfl,om,fun i u hu=>by
  match i,hu with
  |0,hu=>simp at hu;subst hu;exact Au w _ _ _ 0⟩⟩
theorem LU {w} {base n c} {A} {l} (h:ah w base A n c l):∀j o,ab A=some j→w.heap[j]? =some o→o.isCells=true:=by
 intro j o ej hj;rcases h.2 with⟨hv,_⟩|⟨g',cap,cur,hv,_,hgb,_⟩
 ·injection hv with hv1;rw[hv1]at ej;cases ej
 ·injection hv with hv1
  rw[hv1]at ej;obtain rfl:g'=j:=by simpa[ab]using ej
  rw[hgb]at hj;cases hj;rfl
theorem vv.push {w W w5} {A A' A4} {base n' c' c4} {l} {pre} {p} {v} {tmp} (hA:∀g,ab A=some g→g<w.heap.size)
  (hW:w.heap.size+2≤W.heap.size) (hb:Boxed W w.heap.size 22 (.slice A' n' c')) (ho:ah W base A' n' c' (l++pre.map Vi.enc1)) (hab:ab A'=ab A∨∃g,ab A'=some g∧w.heap.size+2≤g) (hg0:w.grownBy W (ab A))
  (hv:[v]=iW [Vi.enc1 p])
  (hown:w5.ownsRow base 5 1 (.slice A4 (n'+1) c4) (n'+1) (iW (l++pre.map Vi.enc1)++[v])) (hg:(W.alloc tmp).grownBy w5 (ab A')) (hat:ab A4=ab A'∨ab A4=some (W.alloc tmp).heap.size):
  KeepsFrom (w.heap.size+2) W (w5.setCell ⟨w.heap.size,0,none⟩ (.slice A4 (n'+1) c4))∧zJ 0 (w.heap.size+1) W (w5.setCell ⟨w.heap.size,0,none⟩ (.slice A4 (n'+1) c4))∧
   vv w A base l (pre++[p]) (w5.setCell ⟨w.heap.size,0,none⟩ (.slice A4 (n'+1) c4)):=by
 have hlt:∀g,ab A'=some g→g<w.heap.size∨w.heap.size+2≤g:=by
  intro g hg;rcases hab with h|⟨g',h,h'⟩
  ·rw[h]at hg;exact .inl (hA g hg)
  ·rw[h]at hg;cases hg;exact .inr h'
 have Gy:∀g,ab A4=some g→g<w.heap.size∨w.heap.size+2≤g:=by
  intro g hg;rcases hat with h|h
  ·rw[h]at hg;exact hlt g hg
  ·rw[h]at hg;cases hg;right;simp;omega
 have hcl:∀j o,ab A'=some j→(W.alloc tmp).heap[j]? =some o→o.isCells=true:=LU (ho.apart (Ga W tmp none) (fun r e=>by cases e));have hs1:(W.alloc tmp).heap.size=W.heap.size+1:=sm;have hs5:=hg.size;have gs:=grownBy_setCell' w5 w.heap.size (.slice A4 (n'+1) c4);refine⟨(((KeepsOthers.alloc W _).trans (KeepsOthers.of_grownBy hg hcl)).trans (KeepsOthers.setCell _ _ _)).from _,⟨⟨?_,?_,?_,?_,fun k hk=>absurd hk om⟩,?_⟩,A4,n'+1,c4,?_,?_,?_,?_⟩
 ·rw[gs.os,hg.os];rfl
 ·rw[gs.tape,hg.tape];rfl
 ·rw[gs.output,hg.output];rfl
 ·have:=gs.size;omega
 ·rw[gs.block _ om sm,hg.block _ om (fun e=>by rcases hlt _ e.symm with h|h<;>omega)];exact Aw _ _ _ om
 ·refine Boxed.set _ ((hb.alloc tmp).kept hg (fun e=>?_));rcases hlt _ e.symm with h|h<;>omega
 ·have e:iW (l++pre.map Vi.enc1)++[v]=iW (l++(pre++[p]).map Vi.enc1):=by rw[hv,←jy];simp
  rw[e]at hown;refine ah.apart hown gs (fun r e=> .inl fun e2=>?_);cases e;rcases Gy _ e2 with h|h<;>omega
 ·rcases hat with h|h
  ·rw[h];exact hab
  ·exact .inr ⟨_,h,om⟩
 ·refine((hg0.trans (Ga W tmp _)).andThen hg (fun j hj=>?_)).andThen gs (fun j hj=> .inl ?_)
  ·rcases hab with h|⟨g',h,h'⟩
   ·rw[h]at hj;exact .inr hj
   ·rw[h]at hj;cases hj;exact .inl om
  ·cases hj;omega
theorem dh (A) (n c base x:Nat) (l) (w) (ho:ah w base A n c l) (hB:base≤w.heap.size) (hx:x<18446744073709551616) (hn:n≤140737488355000):
  Calls prog 145 #[.slice A n c,.int .u64 (x:Int)] w fun e w'=>∃A3 n3 c3,e= .returned (.slice A3 n3 c3)∧ah w' base A3 n3 c3 (l++Vi.enc x)∧w.grownBy w' (ab A)∧(ab A3=ab A∨∃g,ab A3=some g∧w.heap.size≤g):=by
 have hlen:=Aj ho.len;have hgl:=Aj (Vi.xM 9 x om);have hgb:=Aj (Vi.Tc x);have hA:=Aj (fun g hg=>(ae ho g hg).2);have Ho:=Aj ho;have Hx:=Aj hx;clear ho hx;refine(Bd (n:=9)).1 ?_;refine callsIn_of_wp_marks func145 rfl trivial ?_ rfl;simp only[ntmps145,Ca,Lc,AB,Nat.reduceAdd,Nat.reduceSub,Cg,Ch,Cz,Cm,Ay,AU];refine Bl.2 ?_;go_wp2_with (go_at_call 199;refine(Gx _ _).mono ?_;rintro e w2 ⟨rfl,rfl⟩);have bB:=(Boxed.new w 22 (.slice A n c)).alloc (.cells #[.int .u64 (x:Int)] 125);have bX:=Boxed.new (w.alloc (.cells #[.slice A n c] 22)) 125 (.int .u64 (x:Int));have hsz:((w.alloc (.cells #[.slice A n c] 22)).alloc (.cells #[.int .u64 (x:Int)] 125)).heap.size=w.heap.size+2:=sm;have g0:w.grownBy ((w.alloc (.cells #[.slice A n c] 22)).alloc (.cells #[.int .u64 (x:Int)] 125)) (ab A):=(Ga w _ _).trans (Ga _ _ _);have hO4:ah ((w.alloc (.cells #[.slice A n c] 22)).alloc (.cells #[.int .u64 (x:Int)] 125)) base A n c l:=(Ho.1.apart (Ga w _ none) (fun r e=>by cases e)).apart (Ga _ _ none) (fun r e=>by cases e);simp only[AO]at bX;generalize (w.alloc (.cells #[.slice A n c] 22)).alloc (.cells #[.int .u64 (x:Int)] 125)=w4 at*;refine(Bl (n:=9)).1 ?_;refine iX Ah (gf:=246) (lb:= #[.pointer (some ⟨w.heap.size+1,0,none⟩)]) rfl (enters_of func246 kr rfl)
  (encs:=NY) (O:=fun r=>r=w.heap.size+1) (Kp:=zJ 0 (w.heap.size+1)) (L:=Vi.zI x)
  (by rintro r rfl;omega) (fun h k=>h.trans k) (fun W W' row hW hg hr=>zJ.grown hW om om hg hr) (fun _=>rfl)
  (vv w A base l) (fun _ _ _=>False)
  (fun pre p a₁ W=>vv w A base l pre W∧
   a₁={tmps:= #[.slice A n c,.int .u64 (x:Int),.pointer (some ⟨w.heap.size,0,none⟩),undef,.slice none 0 0,.int .u8 (p.1:Int),.bool p.2,.int .u64 (x:Int),.func (.func 246) #[] #[.pointer (some ⟨w.heap.size+1,0,none⟩)],
    .int .u8 (p.1:Int),.bool p.2,undef,undef,undef,undef,undef,undef,undef,undef,undef],defers:=[]})
  (vo 8 (w.heap.size+1) 0 (w.heap.size+2) x w4 _ bX om Hx.1 (fun pre W ⟨_,h⟩=>h))
  ?hI (fun _ _ _ _ _ h _ _=>h) ?hM ?h0 ?assign ?body ?done ?stop
 case hI=>rw[hsz];exact vv.own hA.1
 case hM=>
  rw[hsz];rintro pre p a₁ u W W' row ⟨hI,ha⟩ hgr hr;exact⟨vv.own hA.1 _ _ _ _ hI hgr hr,ha⟩
 case h0=>exact⟨A,n,c,bB,by simpa using hO4,.inl rfl,g0⟩
 case assign=>
  rintro l pre ⟨x,f⟩ W hI hpre hW;unfold NY
  gi_wp2
  exact⟨⟨Nr _,fun _ _ _ h _=>h⟩,⟨Ae _ _,rfl⟩,hI,trivial⟩
 case body=>
  rintro l pre ⟨x,f⟩ a₁ W ⟨⟨A',n',c',hb,ho,hab,hg0⟩,rfl⟩ hpre hW;have hl1:n'≤140737488355100:=by
   have h1:=ho.len;have h2:=hpre.length_le;have h3:=hgl.1;have h4:=hlen.1;simp at h1 h2;omega
  have hx:x<128:=hgb.1 (x,f) (hpre.subset sm);have aiy:=hb.lt;have hcO:=hb.cell;have Hb:=Aj hb;have vw:=Aj ho;have Hg0:=Aj hg0;clear hb ho hg0;obtain⟨i0,hi0,hz0,hz1,hz2⟩:=AX JN;cases f with
  |true=>
   have hv:Kept ([Value.int .u8 (x:Int)]=iW [Vi.enc1 (x,true)]):=⟨by simp[iW,bv,Vi.enc1];omega⟩
   have h1c:Kept (∀u∈[Value.int .u8 (x:Int)],u.oneCell'=true):=⟨by simp;rfl⟩
   gi_wp2_with (gi_at_builtin;refine eF _ rfl (.tmp 15) (.tmp 17) _ rfl base 5 i0 (.int .u8 0) 1 1 underlying22 hi0 hz0 hz1 hz2 rfl Ah A' n' c' _ rfl (Oa vw.1 _) (W.heap.size+1) _ _ _ [.int .u8 (x:Int)] rfl (N8 W _ _) h1c.1 (by unfold maxLen;omega) om (by simp;omega) ?_;intro A4 c4 w5 ax aj di;have nA:Boxed w5 w.heap.size 22 (.slice A' n' c'):=(Hb.1.alloc _).kept aj (fun e=>by have:=hA.1;rcases hab with h|⟨g,h,h'⟩<;>rw[h]at e<;>first|(have:=this _ e.symm;omega)|(cases e;omega));have Tf:=nA.cell;have Tg:=nA.frozen)
   rw[hsz];exact vv.push hA.1 om Hb.1 vw.1 hab Hg0.1 hv.1 ax aj di
  |false=>
   have e128:=u8_or128 x hx;have hv:Kept ([Value.int .u8 ((x+128:Nat):Int)]=iW [Vi.enc1 (x,false)]):=⟨by simp[iW,bv,Vi.enc1];omega⟩
   have h1c:Kept (∀u∈[Value.int .u8 ((x+128:Nat):Int)],u.oneCell'=true):=⟨by simp;rfl⟩
   generalize x+128=y at*
   gi_wp2_with (gi_at_builtin;refine eF _ rfl (.tmp 15) (.tmp 17) _ rfl base 5 i0 (.int .u8 0) 1 1 underlying22 hi0 hz0 hz1 hz2 rfl Ah A' n' c' _ rfl (Oa vw.1 _) (W.heap.size+1) _ _ _ [.int .u8 (y:Int)] rfl (N8 W _ _) h1c.1 (by unfold maxLen;omega) om (by simp;omega) ?_;intro A4 c4 w5 ax aj di;have nA:Boxed w5 w.heap.size 22 (.slice A' n' c'):=(Hb.1.alloc _).kept aj (fun e=>by have:=hA.1;rcases hab with h|⟨g,h,h'⟩<;>rw[h]at e<;>first|(have:=this _ e.symm;omega)|(cases e;omega));have Tf:=nA.cell;have Tg:=nA.frozen)
   rw[hsz];exact vv.push hA.1 om Hb.1 vw.1 hab Hg0.1 hv.1 ax aj di
 case done=>
  rintro D W hD ⟨A',n',c',hb,ho,hab,hg0⟩ hK;have hc:=hb.cell;have vw:=Aj ho;have Hg0:=Aj hg0;have Hab:=Aj hab;clear ho hg0 hab;go_wp2;refine⟨sm,.inl ⟨_,_,rfl,run_takeDeferred hK,?_⟩⟩;have hgo:W.grownBy (W.putObj D (.deferred none)) (some D):=grownBy_putObj' W D _;refine⟨_,results_tmp rfl _ _ _,A',n',c',rfl,vw.1.apart hgo (fun r e=>by cases e;exact .inr ⟨_,hK,rfl⟩),Hg0.1.andThen hgo (fun j e=> .inl (by cases e;omega)),?_⟩;rcases Hab.1 with h|⟨g,h,h'⟩
  ·exact .inl h
  ·exact .inr ⟨g,h,om⟩
 case stop=>
  rintro D c pre W _ _ h _;exact h.elim
end
end
section
section
open Go.RowKit Go.Shelf
theorem aam (x m k:Nat) (h:x<128^k) (hlt:x+m%128*128^k<18446744073709551616):
  bits .or .u64 (x:Int) (IntKind.u64.wrap ((m:Int)%128*2^ (7*k)))=((x+m%128*128^k:Nat):Int):=by
 have e1:(m:Int)%128*2^ (7*k)=((m%128*128^k:Nat):Int):=by
  rw[Int.natCast_mul,Int.natCast_pow,Int.natCast_emod,Int.pow_mul]
  rfl
 have e2:IntKind.u64.wrap ((m%128*128^k:Nat):Int)=((m%128*128^k:Nat):Int):=by
  rw[Bb];omega
 rw[e1,e2,bits_or_u64_nat _ _ om om,Vi.Xp x (m%128) k h]
def zQ (r:Nat×Int×Nat):Value:= .tuple #[.int .u64 (r.1:Int),.int .i64 r.2.1,.int .i64 (r.2.2:Int)]
theorem nC (A) (n c B) (l) (at_) (w) (hv:aN w B A n c l) (h0: -9223372036854775808≤at_) (h1:at_≤9223372036854775807):
  Calls prog 118 #[.slice A n c,.int .i64 at_] w fun e w'=>e= .returned (zQ (Vi.get l at_))∧w=w':=by
 have hlen:=Aj hv.len;have hlc:=hv.1;have hcm:=hv.2.1;unfold maxLen at hcm;have Hv:=Aj hv;clear hv;obtain⟨r,hr⟩:∃r,Vi.get l at_=r:=⟨_,rfl⟩
 rw[hr];have Hr:=Aj hr;clear hr;by_cases hneg:at_<0
 ·have hfin:Kept (r=(0,0,2)):=⟨by rw[←Hr.1,Vi.get,Ps0 (.inl hneg)]⟩
  go_enter func118,ntmps118;go_wp2;go_ret3;exact⟨by rw[hfin.1];rfl,rfl⟩
 ·obtain⟨a,rfl⟩:=Ce (show 0≤at_ from om);by_cases hbig:n<a
  ·have hfin:Kept (r=(0,0,2)):=⟨by rw[←Hr.1,Vi.get,Ps0 (.inr (by have:=hlen.1;omega))]⟩
   go_enter func118,ntmps118;go_wp2;go_ret3;exact⟨by rw[hfin.1];rfl,rfl⟩
  ·have hget:Kept (Vi.get l (a:Int)=if(Vi.dP (l.drop a) 0 0).2.2=0 then((Vi.dP (l.drop a) 0 0).1,(a:Int)+(Vi.dP (l.drop a) 0 0).2.1,0)else(0,0,(Vi.dP (l.drop a) 0 0).2.2)):=⟨by
    rw[Vi.get,Ng (by have:=hlen.1;omega)]
    rfl⟩
   obtain⟨q,hq⟩:∃q,Vi.dP (l.drop a) 0 0=q:=⟨_,rfl⟩
   have Hq:=Aj hq;have Hd:=Aj (Hv.1.drop (k:=a) om);have hfin:Kept (r=if q.2.2=0 then(q.1,(a:Int)+q.2.1,0)else(0,0,q.2.2)):=⟨by rw[←Hr.1,hget.1,hq]⟩
   clear hq hget;have hnn:(0:Int)≤(n:Int)-(a:Int):=om;by_cases hna:n=a
   ·subst hna;have hq0:Kept (q=(0,0,3)):=⟨by
     rw[←Hq.1,oL (by have:=hlen.1;omega)]
     rfl⟩
    by_cases hca:c=n
    ·subst hca;go_enter func118,ntmps118;go_wp2;go_loop [7,22] (fun x i=>x= .int .u64 0∧i= .int .i64 0) (fun _ _=>0)
     case atStart=>exact⟨rfl,rfl⟩
     case round=>
      obtain⟨rfl,rfl⟩:=hrel;go_wp2;go_ret3;exact⟨by rw[hfin.1,hq0.1];rfl,rfl⟩
    ·have hlt1:(n:Int)< (c:Int):=by omega
     go_enter func118,ntmps118;go_wp2;go_loop [7,22] (fun x i=>x= .int .u64 0∧i= .int .i64 0) (fun _ _=>0)
     case atStart=>exact⟨rfl,rfl⟩
     case round=>
      obtain⟨rfl,rfl⟩:=hrel;go_wp2;go_ret3;exact⟨by rw[hfin.1,hq0.1];rfl,rfl⟩
   ·obtain⟨b,off,rfl,hb,-⟩:=Hv.1.at_ (k:=a) (by have:=hlen.1;omega);rw[Ng om]at Hd;simp only[DV,add_plain]at Hd;have hlt1:(a:Int)< (c:Int):=om;have hlt2:(a:Int)< (n:Int):=om;have hcn:(n:Int)-(a:Int)≤(c:Int)-(a:Int):=om;go_enter func118,ntmps118;go_wp2;go_loop [7,22] (fun xv i=>∃k x:Nat,k≤9∧k≤n-a∧i= .int .i64 k∧xv= .int .u64 x∧Kept (x<128^k)∧Kept (Vi.dP (l.drop (a+k)) k x=q)) (fun _ i=>n-a-(intOf i).toNat)
    case atStart=>exact⟨0,0,om,om,rfl,rfl,⟨Ah⟩,⟨Hq.1⟩⟩
    case round=>
     obtain⟨k,x,hk9,hk,rfl,rfl,hx,hg⟩:=hrel;by_cases hlt:k<n-a
     ·have hkl:k< (l.drop a).length:=by rw[jX];have:=hlen.1;omega
      obtain⟨b',off',e,_,hcell⟩:=Hd.1.at_ hkl;simp only[gV,BP,Bi]at e;obtain⟨rfl,rfl⟩:=e;have hak:a+k<l.length:=by have:=hlen.1;omega
      have hgc:Kept (Vi.dP (l[a+k]::l.drop (a+k+1)) k x=q):=⟨by rw[←oN hak];exact hg.1⟩
      rw[Dq]at hcell;have hki:(k:Int)< (n:Int)-(a:Int):=om;have hch:=l[a+k].toNat_lt;generalize l[a+k]=ch at*;by_cases h9:k=9∧1<ch.toNat
      ·obtain⟨rfl,h91⟩:=h9;have hq6:Kept (q=(0,0,6)):=⟨by rw[←hgc.1,Vi.bQ,Ps0 ⟨rfl,h91⟩]⟩
       have aiD:(1:Int)< (ch.toNat:Int):=om;go_wp2;go_ret3;exact⟨by rw[hfin.1,hq6.1];rfl,rfl⟩
      ·have Xr:Kept (ch.toNat=0∧0<k∧q=(0,0,5)∨¬(ch.toNat=0∧0<k)∧ch.toNat<128∧q=(x+ch.toNat%128*128^k,k+1,0)∨
         128≤ch.toNat∧Vi.dP (l.drop (a+(k+1))) (k+1) (x+ch.toNat%128*128^k)=q):=⟨by
        have h:=hgc.1;rw[Vi.bQ,Ng h9]at h;by_cases c1:ch.toNat=0∧0<k
        ·rw[Ps0 c1]at h;exact .inl ⟨c1.1,c1.2,h.symm⟩
        ·rw[Ng c1]at h;by_cases c2:ch.toNat<128
         ·rw[Ps0 c2]at h;exact .inr (.inl ⟨c1,c2,h.symm⟩)
         ·rw[Ng c2]at h;exact .inr (.inr ⟨om,h⟩)⟩
       have V5:=Aj (Vi.Td hx.1 hk9 h9);have Xt:=Aj (Vi.NW (c:=ch.toNat) hx.1);have hor:=Aj (aam x ch.toNat k hx.1 V5.1);clear hgc hg;generalize ch.toNat=m at*;by_cases hm0:m=0∧0<k
       ·obtain⟨rfl,hk0⟩:=hm0;have hq5:Kept (q=(0,0,5)):=⟨by
         rcases Xr.1 with⟨_,_,h⟩|⟨h,_⟩|⟨h,_⟩
         ·exact h
         ·exact absurd ⟨rfl,hk0⟩ h
         ·omega⟩
        have hk0':(0:Int)< (k:Int):=om;by_cases Ti:k=9
        ·subst Ti;go_wp2;go_ret3;exact⟨by rw[hfin.1,hq5.1];rfl,rfl⟩
        ·have Tj:((k:Int)==9)=false:=by simp;omega
         go_wp2;go_ret3;exact⟨by rw[hfin.1,hq5.1];rfl,rfl⟩
       ·by_cases hm:m<128
        ·have hq3:Kept (q=(x+m%128*128^k,k+1,0)):=⟨by
          rcases Xr.1 with⟨h1,h2,_⟩|⟨_,_,h⟩|⟨h,_⟩
          ·exact absurd ⟨h1,h2⟩ hm0
          ·exact h
          ·omega⟩
         have hm':(m:Int)<128:=om;have hend:Kept (.tuple #[.int .u64 ((x+m%128*128^k:Nat):Int),.int .i64 ((a:Int)+(k:Int)+1),.int .i64 0]=zQ r):=⟨by
          rw[hfin.1,hq3.1,Ps0 rfl,zQ,Int.natCast_add k 1,Int.add_assoc];rfl⟩
         by_cases adK:m=0
         ·have Xu:((m:Int)==0)=true:=by simp;omega
          have hk0:(k:Int)≤0:=om;have Tj:((k:Int)==9)=false:=by simp;omega
          clear adK hm0;go_wp2;go_ret3;exact⟨by show Ending.returned (.tuple #[.int .u64 (bits .or .u64 (x:Int) (IntKind.u64.wrap ((m:Int)%128*2^ (7*k)))),.int .i64 ((a:Int)+(k:Int)+1),.int .i64 0])=_;rw[hor.1,hend.1],rfl⟩
         ·have Xu:((m:Int)==0)=false:=by simp;omega
          by_cases Ti:k=9
          ·have hm1:(m:Int)≤1:=by omega
           have Tj:((k:Int)==9)=true:=by simp;omega
           clear Ti hm0;go_wp2;go_ret3;exact⟨by show Ending.returned (.tuple #[.int .u64 (bits .or .u64 (x:Int) (IntKind.u64.wrap ((m:Int)%128*2^ (7*k)))),.int .i64 ((a:Int)+(k:Int)+1),.int .i64 0])=_;rw[hor.1,hend.1],rfl⟩
          ·have Tj:((k:Int)==9)=false:=by simp;omega
           clear Ti hm0;go_wp2;go_ret3;exact⟨by show Ending.returned (.tuple #[.int .u64 (bits .or .u64 (x:Int) (IntKind.u64.wrap ((m:Int)%128*2^ (7*k)))),.int .i64 ((a:Int)+(k:Int)+1),.int .i64 0])=_;rw[hor.1,hend.1],rfl⟩
        ·have Tj:((k:Int)==9)=false:=by simp;omega
         have hm':(128:Int)≤(m:Int):=om;have Xu:((m:Int)==0)=false:=by simp;omega
         have aiE:(k:Int)≤8:=om;have hnext:Kept (Vi.dP (l.drop (a+(k+1))) (k+1) (x+m%128*128^k)=q):=⟨by
          rcases Xr.1 with⟨h1,h2,_⟩|⟨_,h,_⟩|⟨_,h⟩
          ·exact absurd ⟨h1,h2⟩ hm0
          ·omega
          ·exact h⟩
         go_wp2;go_round
         case rel=>exact⟨k+1,x+m%128*128^k,om,om,by go_num,by rw[hor.1],Xt,hnext⟩
         case measure=>simp[intOf];omega
     ·have hq0:Kept (q=(0,0,3)):=⟨by
       rw[←hg.1,oL (by have:=hlen.1;omega)]
       rfl⟩
      obtain rfl:k=n-a:=om;go_wp2;go_ret3;exact⟨by rw[hfin.1,hq0.1];rfl,rfl⟩
end
end
section
section
open Go.RowKit Go.Shelf
theorem ah.Xv (w:World) (v) (x) (hv:v=bv x):ah (w.alloc (.cells #[v] 5)) w.heap.size (some ⟨w.heap.size,0,none⟩) 1 1 [x]:=by
 subst hv;exact⟨rfl,.inr ⟨w.heap.size,1,#[bv x],rfl,Nr _,Av w _,Nr _,by unfold maxLen;omega,rfl,rfl⟩⟩
end
end
end Go.Proofs.YtjcpmfphnodaaaaGreatDoor
