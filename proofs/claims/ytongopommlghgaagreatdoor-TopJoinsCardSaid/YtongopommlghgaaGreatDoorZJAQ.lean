/- Part 17. -/
import Derived.Test.YtongopommlghgaaGreatDoorZJAP
import Derived.Lib.AppendZerosOnto
namespace Go.Proofs.YtongopommlghgaaGreatDoor
set_option maxRecDepth 100000
set_option maxHeartbeats 0
open _root_.Go.Proofs.Tryz
section
open Go.RowKit Go.Shelf
def zZ (t:TypeId):Prop:=t=55∨t=127∨t=24∨t=171∨t=54∨t=76
def iV (B:Nat) (W W':World):Prop:=Below B W W'∧∀(r:Nat) (cs:Array Value) (t:TypeId) (q:Nat×Nat),zZ t→W.heap[r]? =some (Obj.cells cs t q)→W'.heap[r]? =some (Obj.cells cs t q)
theorem iV.refl (B W):iV B W W:=⟨Ae _ _,fun _ _ _ _ _ h=>h⟩
theorem iV.trans {B W W' W''} (h:iV B W W') (h':iV B W' W''):iV B W W'':=⟨h.1.trans h'.1,fun r cs t q ht hr=>h'.2 r cs t q ht (h.2 r cs t q ht hr)⟩
theorem iV.grown {B W W' row} (hB:B≤W.heap.size) (hg:W.grownBy W' row) (hr:∀r,row=some r→B≤r∧∀(cs) (t) (q),W.heap[r]? =some (Obj.cells cs t q)→¬zZ t):iV B W W':=
 ⟨(Ae _ _).grown hg hB (fun r e=>(hr r e).1),fun r cs t q ht h=>(hg.block r (Ge.1 h).1 (fun e=>(hr r e.symm).2 cs t q h ht)).trans h⟩
theorem iV.none {B:Nat} {W W':World} (hB:B≤W.heap.size) (hg:W.grownBy W' none):iV B W W':=iV.grown hB hg (fun r e=>by cases e)
theorem iV.noc {B W W' row} (hB:B≤W.heap.size) (hg:W.grownBy W' row) (hr:∀r,row=some r→B≤r∧∃o:Obj,W.heap[r]? =some o∧o.isCells=false):iV B W W':=
 iV.grown hB hg (fun r e=>⟨(hr r e).1,fun _ _ _ h=>by obtain⟨_,o,ho,hc⟩:=hr r e;rw[ho]at h;cases h;cases hc⟩)
theorem iV.below {B W W'} (hb:Below W.heap.size W W') (hB:B≤W.heap.size):iV B W W':=
 ⟨hb.mono hB,fun r _ _ _ _ h=>(hb.block r (Ge.1 h).1).trans h⟩
theorem iV.own {B base n c sz W W' A xs t} (h:iV B W W') (ho:W.ownsRow base t sz (.slice A n c) n xs) (ht:zZ t):W'.ownsRow base t sz (.slice A n c) n xs:=by
 refine⟨ho.1,?_⟩;rcases ho.2 with hn|⟨g,cap,cur,hv,h1,h2,rest⟩
 ·exact .inl hn
 ·exact .inr ⟨g,cap,cur,hv,h1,h.2 _ _ _ _ ht h2,rest⟩
theorem iV.box {B bx W W' t v} (h:iV B W W') (hb:Boxed W bx t v) (ht:zZ t):Boxed W' bx t v:=h.2 _ _ _ _ ht hb
theorem dQ {w:World} {base n c sz g A xs t t' cs fr} (h:w.ownsRow base t sz (.slice A n c) n xs) (hg:w.heap[g]? =some (Obj.cells cs t' fr)) (ht:t'≠t):ab A≠some g:=by
 rcases h.2 with⟨hv,_⟩|⟨g2,cap,cur,hv,_,hgb,_⟩
 ·injection hv with hv1;rw[hv1];exact fun e=>by cases e
 ·injection hv with hv1
  rw[hv1];intro e;obtain rfl:g2=g:=by simpa[ab]using e
  rw[hg]at hgb;simp only[gU,DY]at hgb;exact ht hgb.2.1
theorem Mw {w:World} {base n c sz A xs t} (h:w.ownsRow base t sz (.slice A n c) n xs) (ht:¬zZ t):∀r,ab A=some r→base≤r∧∀(cs) (t) (q),w.heap[r]? =some (Obj.cells cs t q)→¬zZ t:=fun r e=>by
 refine⟨(ae h r e).1,fun cs t' q hr hi=>?_⟩;by_cases he:t'=t
 ·subst he;exact ht hi
 ·exact dQ h hr he e
theorem Mx {w:World} {g:Nat} {t cs q B} (h:w.heap[g]? =some (Obj.cells cs t q)) (ht:¬zZ t) (hB:B≤g):∀r,some g=some r→B≤r∧∀(cs) (t) (q),w.heap[r]? =some (Obj.cells cs t q)→¬zZ t:=fun r e=>by
 cases e;exact⟨hB,fun cs' t' q' hr=>by rw[h]at hr;cases hr;exact ht⟩
abbrev qj:TypeId:=146
structure Es (base gd gl p n:Nat) (LS:Nat→Value) (D:List UInt8) (C:Nat→List Int) (W:World):Prop where
 dat:∃A m c,Boxed W gd 22 (.slice A m c)∧ah W base A m c D
 box:Boxed W gl 138 (.slice (some ⟨p,0,none⟩) n n)
 row:∃(cs:Array Value) (As:Nat→Option Addr) (ns ks:Nat→Nat),W.heap[p]? =some (Obj.cells cs qj (0,0))∧cs.size=n*2∧
  (∀i,i<n→cs[i*2]? =some (LS i)∧cs[i*2+1]? =some (.slice (As i) (ns i) (ks i))∧aO W base (As i) (ns i) (ks i) (C i))∧
  ∀i j,i<n→j<n→i≠j→ab (As i)=none∨ab (As i)≠ab (As j)
section
variable {base gd gl p n:Nat} {LS:Nat→Value} {D:List UInt8} {C:Nat→List Int} {W W':World}
theorem Es.kept {row} (h:Es base gd gl p n LS D C W) (hg:W.grownBy W' row) (hr:∀r,row=some r→∃o:Obj,W.heap[r]? =some o∧o.isCells=false):Es base gd gl p n LS D C W':=by
 have hk:∀(r:Nat) (cs:Array Value) (t:TypeId) (q:Nat×Nat),W.heap[r]? =some (Obj.cells cs t q)→W'.heap[r]? =some (Obj.cells cs t q):=fun r cs t q hx=>(hg.block r (Ge.1 hx).1 (fun e=>by
  obtain⟨o,ho,hc⟩:=hr r e.symm;rw[hx]at ho;cases ho;cases hc)).trans hx
 have ho:∀{t:TypeId} {sz m c:Nat} {A:Option Addr} {xs:List Value},W.ownsRow base t sz (.slice A m c) m xs→W'.ownsRow base t sz (.slice A m c) m xs:=fun hx=>rW hx hg (fun r e=> .inr (hr r e))
 obtain⟨⟨A,m,c,d1,d2⟩,hb,cs,As,ns,ks,r1,r2,r3,r4⟩:=h;exact⟨⟨A,m,c,hk _ _ _ _ d1,ho d2⟩,hk _ _ _ _ hb,cs,As,ns,ks,hk _ _ _ _ r1,r2,fun i hi=>⟨(r3 i hi).1,(r3 i hi).2.1,ho (r3 i hi).2.2⟩,r4⟩
theorem Es.below (h:Es base gd gl p n LS D C W) (hb:Below W.heap.size W W'):Es base gd gl p n LS D C W':=by
 have hk:∀(r:Nat) (cs:Array Value) (t:TypeId) (q:Nat×Nat),W.heap[r]? =some (Obj.cells cs t q)→W'.heap[r]? =some (Obj.cells cs t q):=fun r cs t q hx=>(hb.block r (Ge.1 hx).1).trans hx
 have ho:∀{t:TypeId} {sz m c:Nat} {A:Option Addr} {xs:List Value},W.ownsRow base t sz (.slice A m c) m xs→W'.ownsRow base t sz (.slice A m c) m xs:=fun hx=>aQ hx hb
 obtain⟨⟨A,m,c,d1,d2⟩,hb',cs,As,ns,ks,r1,r2,r3,r4⟩:=h;exact⟨⟨A,m,c,hk _ _ _ _ d1,ho d2⟩,hk _ _ _ _ hb',cs,As,ns,ks,hk _ _ _ _ r1,r2,fun i hi=>⟨(r3 i hi).1,(r3 i hi).2.1,ho (r3 i hi).2.2⟩,r4⟩
theorem Es.push (h:Es base gd gl p n LS D C W) {A A2 m c m2 c2 L} (hA:Boxed W gd 22 (.slice A m c)) (ho:ah W base A m c D) (hg:W.grownBy W' (ab A)) (ho':ah W' base A2 m2 c2 (D++L)) (hB:base≤gd):
  W'.cell? ⟨gd,0,none⟩=some (.slice A m c)∧W'.frozen? ⟨gd,0,none⟩=false∧Es base gd gl p n LS (D++L) C (W'.setCell ⟨gd,0,none⟩ (.slice A2 m2 c2))∧iV base W (W'.setCell ⟨gd,0,none⟩ (.slice A2 m2 c2))∧KeepsOthers W (W'.setCell ⟨gd,0,none⟩ (.slice A2 m2 c2)):=by
 have hnt:∀{r:Nat} {cs:Array Value} {t:TypeId} {q:Nat×Nat},W.heap[r]? =some (Obj.cells cs t q)→t≠5→W'.heap[r]? =some (Obj.cells cs t q):=fun hx ht=>(hg.block _ (Ge.1 hx).1 (fun e=>dQ ho hx ht e.symm)).trans hx
 have hgd:=hnt hA Ai;have wB:=av W' ⟨gd,0,none⟩ (.slice A2 m2 c2);have TK:∀{r:Nat} {cs:Array Value} {t:TypeId} {q:Nat×Nat},W'.heap[r]? =some (Obj.cells cs t q)→t≠22→(W'.setCell ⟨gd,0,none⟩ (.slice A2 m2 c2)).heap[r]? =some (Obj.cells cs t q):=fun{r} {_} {_} {_} hx ht=>(wB.block _ (Ge.1 hx).1 (fun e=>by
  have e:r=gd:=Oj e;subst e;rw[hgd]at hx;cases hx;exact ht rfl)).trans hx
 have hzb:base≤W.heap.size:=by have:=(Ge.1 hA).1;omega
 obtain⟨-,hb,cs,As,ns,ks,r1,r2,r3,r4⟩:=h;refine⟨Co _ _ 0 _ _ _ hgd,Fr _ _ 0 _ _ hgd,⟨⟨A2,m2,c2,Boxed.set _ hgd,ag ho' wB (.inr (dQ ho' hgd Ai))⟩,TK (hnt hb Ai) Ai,cs,As,ns,ks,TK (hnt r1 Ai) Ai,r2,fun i hi=>?_,r4⟩,?_,(C9 hg (zy ho)).trans (CB _ _ _)⟩
 ·obtain⟨q1,q2,q3⟩:=r3 i hi;have q4:aO W' base (As i) (ns i) (ks i) (C i):=ag q3 hg (eF q3 ho Ai);exact⟨q1,q2,ag q4 wB (.inr (dQ q4 hgd Ai))⟩
 ·exact(iV.grown hzb hg (Mw ho (by unfold zZ;decide))).trans (iV.grown (by have:=hg.size;omega) wB (Mx hgd (by unfold zZ;decide) hB))
theorem Es.note (h:Es base gd gl p n LS D C W) {i} (hi:i<n) (hB:base≤p):∃A m c,W.cell? ⟨p,i*2+1,none⟩=some (.slice A m c)∧W.frozen? ⟨p,i*2+1,none⟩=false∧aO W base A m c (C i)∧
  ∀(W1 W2) (A2) (m2 c2) (x),W.grownBy W1 none→W1.grownBy W2 (ab A)→aO W2 base A2 m2 c2 (C i++[x])→(ab A2=ab A∨ab A2=some W1.heap.size)→
   W2.cell? ⟨p,i*2+1,none⟩=some (.slice A m c)∧W2.frozen? ⟨p,i*2+1,none⟩=false∧
   Es base gd gl p n LS D (fun j=>if j=i then C i++[x]else C j) (W2.setCell ⟨p,i*2+1,none⟩ (.slice A2 m2 c2))∧iV base W (W2.setCell ⟨p,i*2+1,none⟩ (.slice A2 m2 c2))∧KeepsOthers W (W2.setCell ⟨p,i*2+1,none⟩ (.slice A2 m2 c2)):=by
 obtain⟨⟨A,m,c,d1,d2⟩,hb,cs,As,ns,ks,r1,r2,r3,r4⟩:=h;obtain⟨q1,q2,q3⟩:=r3 i hi;refine⟨As i,ns i,ks i,(Co _ _ _ _ _ _ r1).trans q2,Fr _ _ _ _ _ r1,q3,fun W1 W2 A2 m2 c2 x hg1 hg2 ho2 hat=>?_⟩;have hk1:∀{r:Nat} {o:Obj},W.heap[r]? =some o→W1.heap[r]? =some o:=fun hx=>(hg1.block _ (Ge.1 hx).1 (fun e=>by cases e)).trans hx
 have q31:aO W1 base (As i) (ns i) (ks i) (C i):=ag q3 hg1 (by rcases ab (As i)with _|r;exact .inl rfl;exact .inr (fun e=>by cases e));have hnt:∀{r:Nat} {cs:Array Value} {t:TypeId} {q:Nat×Nat},W.heap[r]? =some (Obj.cells cs t q)→t≠3→W2.heap[r]? =some (Obj.cells cs t q):=fun hx ht=>(hg2.block _ (Ge.1 (hk1 hx)).1 (fun e=>dQ q31 (hk1 hx) ht e.symm)).trans (hk1 hx)
 have wB:=hnt r1 Ai;have MB:=av W2 ⟨p,i*2+1,none⟩ (.slice A2 m2 c2);have TK:∀{r:Nat} {cs':Array Value} {t:TypeId} {q:Nat×Nat},W2.heap[r]? =some (Obj.cells cs' t q)→t≠qj→(W2.setCell ⟨p,i*2+1,none⟩ (.slice A2 m2 c2)).heap[r]? =some (Obj.cells cs' t q):=fun{r} {_} {_} {_} hx ht=>(MB.block _ (Ge.1 hx).1 (fun e=>by
  have e:r=p:=Oj e;subst e;rw[wB]at hx;cases hx;exact ht rfl)).trans hx
 have hzb:base≤W.heap.size:=by have:=(Ge.1 r1).1;omega
 have hset:=Ag W2 p (i*2+1) cs qj (.slice A2 m2 c2) wB;have keep:∀{t:TypeId} {sz m' c':Nat} {A':Option Addr} {xs:List Value},W.ownsRow base t sz (.slice A' m' c') m' xs→(ab A'=none∨ab A'≠ab (As i))→t≠qj→(W2.setCell ⟨p,i*2+1,none⟩ (.slice A2 m2 c2)).ownsRow base t sz (.slice A' m' c') m' xs:=fun{t} {sz} {m'} {c'} {A'} {xs} hx hne ht=>by
  have x1:W1.ownsRow base t sz (.slice A' m' c') m' xs:=ag hx hg1 (by rcases ab A' with _|r;exact .inl rfl;exact .inr (fun e=>by cases e));have x2:W2.ownsRow base t sz (.slice A' m' c') m' xs:=ag x1 hg2 hne;exact ag x2 MB (.inr (dQ x2 wB (fun e=>ht e.symm)))
 refine⟨(Co _ _ _ _ _ _ wB).trans q2,Fr _ _ _ _ _ wB,⟨⟨A,m,c,TK (hnt d1 Ai) Ai,keep d2 (eF d2 q3 Ai) Ai⟩,TK (hnt hb Ai) Ai,
  _,fun j=>if j=i then A2 else As j,fun j=>if j=i then m2 else ns j,fun j=>if j=i then c2 else ks j,hset,by simp[r2],fun j hj=>?_,fun j k hj hk hjk=>?_⟩,?_,((C9 hg1 (fun _ _ e=>by cases e)).trans (C9 hg2 (zy q31))).trans (CB _ _ _)⟩
 ·obtain⟨s1,s2,s3⟩:=r3 j hj;by_cases e:j=i
  ·subst e;refine⟨by rw[zM,Ng om];exact s1,?_,?_⟩
   ·rw[zM,Ps0 rfl,Ps0 om];simp
   ·simp only[Ps0];exact ag ho2 MB (.inr (dQ ho2 wB Ai))
  ·refine⟨by rw[zM,Ng om];exact s1,?_,?_⟩
   ·rw[zM,Ng om];simp only[Ng e];exact s2
   ·simp only[Ng e];exact keep s3 (r4 j i hj hi e) Ai
 ·have hlt:∀j,j<n→∀r,ab (As j)=some r→r<W1.heap.size:=fun j hj r e=>jE (ae (r3 j hj).2.2 r e).2 hg1.size
  by_cases ej:j=i
  ·subst ej;have ek:¬k=j:=fun e=>hjk e.symm
   simp only[Ps0,Ng ek];rcases hat with e|e
   ·rw[e];exact r4 j k hj hk hjk
   ·rw[e];exact .inr (fun q=>by have:=hlt k hk _ q.symm;omega)
  ·by_cases ek:k=i
   ·subst ek;simp only[Ps0,Ng ej];rcases hat with e|e
    ·rw[e];exact r4 j k hj hk hjk
    ·rw[e];exact .inr (fun q=>by have:=hlt j hj _ q;omega)
   ·simp only[Ng ej,Ng ek];exact r4 j k hj hk hjk
 ·exact(iV.none hzb hg1).trans ((iV.grown (by have:=hg1.size;omega) hg2 (Mw q31 (by unfold zZ;decide))).trans (iV.grown (by have:=hg1.size;have:=hg2.size;omega) MB (Mx wB (by unfold zZ;decide) hB)))
end
end
section
open Go.RowKit Go.Shelf
attribute [local go_sem] Oper.semAt_some
theorem OY (A n c B) (l:Cs.fI) (w) (hv:fO w B A n c l) (hB:B≤w.heap.size) (hm:n≤1000000000):
  Calls prog 139 #[.slice A n c] w fun e w'=>∃A2 n2 c2 A3 c3,e= .returned (.slice A2 n2 c2)∧w'.ownsRow w.heap.size 55 1 (.slice A2 n2 c2) n2 ((List.range (Ck.oO n)).map (Ck.Gw A3 n))∧aH w' w.heap.size A3 n c3 l∧Below w.heap.size w w':=by
 have CL:=Al (JQ A n c B l w hv hB om);clear hv;go_enter func139,ntmps139;go_wp2_with (first
  |(go_at_call 188;refine(JR A3 n c3 w1).mono ?_;rintro e w2 ⟨rfl,rfl⟩)
  |(go_at_call 189;refine CL.1.mono ?_;rintro e w1 ⟨A3,c3,rfl,ho,hb⟩;have O1:=Al ho;have B1:=Al hb;clear ho hb CL))
 have hbx:Boxed ((w1.alloc (.cells #[.slice A3 n c3] 55)).alloc (.cells #[.int .i64 120] 3)) w1.heap.size 55 (.slice A3 n c3):=(Bo w1 _ _).alloc _;have hbk:Boxed ((w1.alloc (.cells #[.slice A3 n c3] 55)).alloc (.cells #[.int .i64 120] 3)) (w1.heap.size+1) 3 (.int .i64 120):=by
  have:=Bo (w1.alloc (.cells #[.slice A3 n c3] 55)) 3 (.int .i64 120);simpa using this
 have hb2:Below w1.heap.size w1 ((w1.alloc (.cells #[.slice A3 n c3] 55)).alloc (.cells #[.int .i64 120] 3)):=((Ae _ w1).alloc Aj _).alloc Ah _;have hr2:=(O1.1.rd.below hb2).more hb2.size;have CO:=Al (zC _ _ A3 n c3 l _ hbx hbk hr2 hm);have R2:=Al hr2;have B2:=Al hb2;clear hbx hbk hr2 hb2;go_wp2_with (go_at_call 187;refine CO.1.mono ?_;rintro e w4 ⟨A4,n4,c4,rfl,ho,hb⟩;have O4:=Al ho;have B4:=Al hb;clear ho hb CO);go_ret;have h1:=B1.1.size;have h2:=B2.1.size;have h3:=B4.1.size;refine⟨A4,n4,c4,A3,c3,rfl,zJ O4.1 (Lt h1 h2),?_,B1.1.trans ((B2.1.mono B1.1.size).trans (B4.1.mono (Lt h1 h2)))⟩;have q1:aH _ w.heap.size A3 n c3 l:=aQ O1.1 B2.1;exact aQ q1 B4.1
def EnR (x:Nat×List UInt8) (args:Array Value) (W:World):Prop:=∃A n c,args= #[.int .i64 (x.1:Int),.slice A n c]∧aY W W.heap.size A n c x.2
theorem En.Xj (b:Bk.gN) {k} (hk:k<b.length) {j} (hj:j< (Ck.jw b[k].2).length):
  (En.all 0 (b.take k)++((Ck.jw b[k].2).take j).map (fun c=>(k,Ck.enc c)))++[(k,Ck.enc (Ck.jw b[k].2)[j])]=En.all 0 (b.take k)++((Ck.jw b[k].2).take (j+1)).map (fun c=>(k,Ck.enc c)):=by
 rw[Ts hj,dN,Af]
 rfl
theorem En.aaC (b) {k} (hk:k<b.length) (j):En.all 0 (b.take k)++((Ck.jw b[k].2).take j).map (fun c=>(k,Ck.enc c))<+:En.all 0 b:=by
 refine List.IsPrefix.trans ?_ (En.Wt b (k+1));rw[En.Gv b hk];obtain⟨t,ht⟩:=List.take_prefix j (Ck.jw b[k].2);refine⟨t.map fun c=>(k,Ck.enc c),?_⟩;rw[Af,←dN,ht]
theorem En.Xk:∀(k) (s:Cs.fI),s.length≤k→∀c∈Ck.jw s,1≤c.length∧c.length≤120∧∀p∈c,p∈s:=by
 intro k
 induction k with
 |zero=>
  intro s hs c hc;rw[qU (show s.length=0 from om),Ck.dS]at hc;cases hc
 |succ k ih=>
  intro s hs c hc;by_cases h0:s=[]
  ·rw[h0,Ck.dS]at hc;cases hc
  ·rw[Ck.jP h0]at hc;have hp:=mH.2 h0;rcases iW.1 hc with rfl|hc
   ·rw[jD];exact⟨om,om,fun p hp=>List.mem_of_mem_take hp⟩
   ·obtain⟨h1,h2,h3⟩:=ih (s.drop 120) (by rw[kz];omega) c hc;exact⟨h1,h2,fun p hp=>List.mem_of_mem_drop (h3 p hp)⟩
theorem wL (n bx B m c A b w w0 X) (hw:Boxed w bx 24 (.slice A m c)) (hr:fK w B A m c b) (hB:B≤w.heap.size)
  (hin:∀s∈b,Cs.In s.2) (hsm:∀s∈b,s.2.length≤1000000000) (hG:Gl w0) (h0:w0.heap.size=B) (hw0:Below B w0 w) (hX:∀pre W,¬X pre W):
  KJ n prog 138 #[.pointer (some ⟨bx,0,none⟩)] EnR (fun _=>False) (iV B) (En.all 0 b) w X:=by
 intro lp J Jx W hK hJ hJx PQ bC hj0;have hW:Boxed W bx 24 (.slice A m c):=hK.box hw (by unfold zZ;simp);have hR:fK W B A m c b:=hr.below hK.1;have hBW:B≤W.heap.size:=Lt hB hK.1.size;have dh:=Al bC;have HX:Kept (∀pre W,¬Jx pre W):=⟨fun pre W h=>hX pre W (PQ pre W h)⟩
 have GG:Kept (∀W',iV B W W'→Gl W'):=⟨fun W' h=>hG.below (by rw[h0];exact hw0.trans (hK.1.trans h.1))⟩
 have hln:=Al hr.len;obtain⟨hc1,hc2⟩:=hr.cap;unfold maxLen at hc2;have HJ:=Al hJ;have ME:=Al hin;have HSM:=Al hsm;have HR:=Al hR;have hcb:=hW.cell;have HJ0:=Al hj0;clear hw hK hB bC hJ hX PQ hr hJx hin hsm hG h0 hw0 hR hW hj0;refine Bu.2 ?_;go_enter func138,ntmps138;go_wp2;go_loopw [11] (fun i wr=>∃k:Nat,k≤m∧i= .int .i64 k∧iV B W wr∧Kept (J (En.all 0 (b.take k)) wr)) (fun i _=>m-(intOf i).toNat)
 case atStart=>exact⟨0,bf _,rfl,iV.refl _ _,HJ0⟩
 case round=>
  clear HJ0;obtain⟨k,hk,rfl,hK,hj⟩:=hrel;have HK:=Al hK;have HRr:=HR.1.below hK.1;have hBr:B≤wr.heap.size:=Lt hBW hK.1.size;by_cases hlt:k<m
  ·have hkl:k<b.length:=by rw[←hln.1];exact hlt
   obtain⟨b0,off,A1,n1,c1,A3,n3,c3,rfl,-,hM,hc⟩:=HRr.cells hBr hkl;obtain⟨r0,r1⟩:=hc wr (Ae _ _);have hin:=ME.1 b[k] (dR hkl);have hsm:=HSM.1 b[k] (dR hkl);have hal:=hK.trans (iV.below (W':=wr.alloc (.cells #[.slice A1 n1 c1,.slice A3 n3 c3] 57)) ((Ae _ wr).alloc Aj _) hBr);have SO:=Al (OY A3 n3 c3 B b[k].2 (wr.alloc (.cells #[.slice A1 n1 c1,.slice A3 n3 c3] 57)) (hM.below (((Ae _ wr).alloc Aj _).mono hBr)) (by simp;omega) (by rw[hM.len];exact hsm));have rD:=Al hM.len;have PRE:=Al (fun j (h:j< (Ck.jw b[k].2).length)=>En.Xj b hkl h);have PRL:=Al (fun j=>En.aaC b hkl j);have LAST:=Al (En.Gv b hkl);have MEM:=Al (fun c (h:c∈Ck.jw b[k].2)=>En.Xk _ b[k].2 Aj c h);have HIK:=Al hin;have agY:=Al hsm;have HAL:=Al hal;have hj2:=Al (HJ.1 _ _ _ none hj.1 (Ga wr (.cells #[.slice A1 n1 c1,.slice A3 n3 c3] 57) none) (fun r e=>by cases e));clear hK hj HRr hc hM hin hsm hal;generalize b[k].2=l at*;go_wp2_with (go_at_call 139;refine SO.1.mono ?_;rintro e w2 ⟨A4,n4,c4,A5,c5,rfl,o4,o5,hb2⟩;have O4:=Al o4;have O5:=Al o5;have B2:=Al hb2;clear o4 o5 hb2 SO);have hz2:=HAL.1.1.size;have hj3:=Al (HJ.1 _ _ _ none hj2.1 (aD B2.1) (fun r e=>by cases e));have HK2:=Al (HAL.1.trans (iV.below B2.1 (Lt hBW hz2)));have hcnt:Kept (n4=(Ck.jw l).length):=⟨by
    have:=(Rd.bz O4.1).2.2.1;rw[fM]at this;rw[Ck.uB,fM,←rD.1];omega⟩
   have hn4:n4≤1000000000:=by
    have:=(Rd.bz O4.1).2.2.1;rw[fM,CR]at this;have h1:=rD.1;unfold Ck.oO at this;have:=agY.1;omega
   clear hj2 B2 HAL;go_loopw [20] (fun j wi=>∃jj:Nat,jj≤n4∧j= .int .i64 jj∧iV B W wi∧Kept (∃base,wi.ownsRow base 55 1 (.slice A4 n4 c4) n4 ((List.range (Ck.oO n3)).map (Ck.Gw A5 n3))∧aH wi base A5 n3 c5 l)∧
    Kept (J (En.all 0 (b.take k)++((Ck.jw l).take jj).map (fun c=>(k,Ck.enc c))) wi)) (fun j _=>n4-(intOf j).toNat)
   case atStart=>exact⟨0,bf _,rfl,HK2.1,⟨_,O4.1,O5.1⟩,⟨by simpa using hj3.1⟩⟩
   case round=>
    clear hj3 HK2 O4 O5 HK;obtain⟨jj,hjj,rfl,hKi,hown,hji⟩:=hrel;have HKi:=Al hKi;by_cases hlj:jj<n4
    ·have hjl:jj< (Ck.jw l).length:=by rw[←hcnt.1];exact hlj
     obtain⟨base,ho1,ho2⟩:=hown.1;have hrr:=nz.chunks ho2.rd Aj (Rd.bz ho1);obtain⟨b1,rz,A6,n6,c6,rfl,-,hcell,hrd⟩:=hrr.at_ hjl;obtain⟨m1,m2,m3⟩:=MEM.1 _ (dR hjl);have rF:=hrd.len;have CE:=Al (Ha A6 n6 c6 wr.heap.size (Ck.jw l)[jj] wr hrd Aj (fun p hp=>HIK.1 p (m3 p hp)) om om (GG.1 wr hKi));have HP1:=Al (PRE.1 jj hjl);have hpl:Kept (En.all 0 (b.take k)++((Ck.jw l).take jj).map (fun c=>(k,Ck.enc c))++[(k,Ck.enc (Ck.jw l)[jj])]<+:En.all 0 b):=⟨by rw[HP1.1];exact PRL.1 (jj+1)⟩
     have HOWN:=Al (And.intro ho1 ho2);have hzi:B≤wr.heap.size:=Lt hBW hKi.1.size;clear hrr hrd m1 m2 m3 rF ho1 ho2 hown hKi;generalize Ck.enc (Ck.jw l)[jj]=ec at*;go_upto_region 7 with(go_at_call 140;refine CE.1.mono ?_;rintro e w3 ⟨A7,n7,c7,rfl,o7,hb3⟩;have O7:=Al o7.rd;have B3:=Al hb3;clear o7 hb3 CE)
     have hj3:=HJ.1 _ _ _ none hji.1 (aD B3.1) (fun r e=>by cases e);obtain⟨fn,tmps,assign,body,hy,qx⟩:=dh.1 _ (k,ec) #[.int .i64 (k:Int),.slice A7 n7 c7] w3 hj3 ⟨A7,n7,c7,rfl,O7.1⟩ hpl.1;have HK3:=Al (HKi.1.trans (iV.below B3.1 hzi));have HO3:=Al (And.intro (aQ HOWN.1.1 B3.1) (show aH w3 base A5 n3 c5 l from aQ HOWN.1.2 B3.1));clear hj3 O7 B3 HOWN hji;refine(BM (n:=n)).1 ?_
     gi_wp2
     refine⟨(fun h=>by simp[Fence.wide]at h),qx.mono ?_⟩;rintro e W' (⟨rfl,hj',hk'⟩|⟨rfl,qV⟩)
     ·have HK4:=Al (HK3.1.trans hk');have HO4:Kept (∃base,W'.ownsRow base 55 1 (.slice (some ⟨b1,rz,none⟩) n4 c4) n4 ((List.range (Ck.oO n3)).map (Ck.Gw A5 n3))∧aH W' base A5 n3 c5 l):=⟨base,hk'.own HO3.1.1 (by unfold zZ;simp),hk'.own HO3.1.2 (by unfold zZ;simp)⟩
      have XY:=Al hj';rw[HP1.1]at XY;clear hj' hk' qx hy HK3 HO3
      gi_wp2
      go_wp2;go_roundw
      case rel=>exact⟨jj+1,om,by go_num,HK4.1,HO4,XY⟩
      case measure=>simp[intOf];omega
     ·exact absurd qV (HX.1 _ _)
    ·have hjn:n4=jj:=by omega
     subst hjn;have hj4:Kept (J (En.all 0 (b.take (k+1))) wr):=⟨by
      have:=hji.1;rw[show(Ck.jw l).take n4=Ck.jw l from jc (by rw[←hcnt.1];exact Nr _)]at this;rw[LAST.1];exact this⟩
     clear hji hown hKi;go_wp2;go_roundw
     case rel=>exact⟨k+1,om,by go_num,HKi.1,hj4⟩
     case measure=>simp[intOf];omega
  ·obtain rfl:k=m:=by omega
   have hj4:Kept (J (En.all 0 b) wr):=⟨by
    have:=hj.1;rwa[jc (by rw[←hln.1];exact Nr _)]at this⟩
   clear hj hK HRr;go_wp2;go_end0;exact⟨⟨_,rfl⟩,.inl hj4.1⟩
theorem Hz (A n c w):Calls prog 84 #[.slice A n c] w fun e w'=>
  e= .returned (.func (.func 138) #[] #[.pointer (some ⟨w.heap.size,0,none⟩)])∧w'=w.alloc (.cells #[.slice A n c] 24):=by
 have hmf:∀(fn:Fn) (first cap:Array Value) (w:World),(Instr.makeFunc fn first cap).run prog w= .ok (.func fn first cap) w:=fun _ _ _ _=>rfl
 go_enter func84,ntmps84;go_wp2;go_ret;exact⟨rfl,rfl⟩
end
section
section
open Go.RowKit
theorem aaE (w a b):Quiet w ((w.drewN a).drewN b):=⟨a+b,by rw[World.drewN_drewN]⟩
theorem J9 (A1 A2 n1 n2 c1 c2 l1 l2 w B1 B2) (h1:jF w B1 A1 n1 c1 l1) (h2:jF w B2 A2 n2 c2 l2):
  Calls prog 128 #[.slice A1 n1 c1,.slice A2 n2 c2] w fun e w'=>e= .returned (.bool (decide (l1=l2)))∧Quiet w w':=by
 have al9:=h1.1;have Nv:=h2.1;have hcm1:=h1.2.1;have hcm2:=h2.2.1;have hn1:=Al h1.len;have hn2:=Al h2.len;have H1:=hide h1;have H2:=hide h2;unfold maxLen at hcm1 hcm2;clear h1 h2;by_cases hnn:n1=n2
 ·subst hnn;have ht:((n1:Int) !=(n1:Int))=false:=Ah;go_enter func128,ntmps128;go_wp2;go_loopw [13] (fun i wr=>∃k:Nat,k≤n1∧i= .int .i64 k∧Kept (l1.take k=l2.take k)∧Quiet w wr) (fun i _=>n1-(intOf i).toNat)
  case atStart=>exact⟨0,om,rfl,⟨rfl⟩,⟨0,rfl⟩⟩
  case round=>
   obtain⟨k,hk,rfl,hs,nq1,rfl⟩:=hrel;by_cases hlt:k<n1
   ·have nT:k<l1.length:=by rw[←hn1.out];exact hlt
    have vQ:k<l2.length:=by rw[←hn2.out];exact hlt
    obtain⟨b1,rz,rfl,hb1,hc1⟩:=H1.out.at_ nT;obtain⟨b2,vM,rfl,hb2,hc2⟩:=H2.out.at_ vQ;obtain⟨x,hx⟩:∃x,x=l1[k]:=⟨_,rfl⟩
    obtain⟨y,hy⟩:∃y,y=l2[k]:=⟨_,rfl⟩
    rw[←hx]at hc1;rw[←hy]at hc2;have Hx:=Al hx;have Hy:=Al hy;clear hx hy;by_cases hxy:x=y
    ·have ht2:(x !=y)=false:=by simp[hxy]
     have hs2:Kept (l1.take (k+1)=l2.take (k+1)):=⟨by
      rw[Ts nT,Ts vQ,hs.out,←Hx.out,←Hy.out,hxy]⟩
     clear hxy;go_wp2;go_quiet (fail);go_wp2;go_roundw
     case rel=>exact⟨k+1,om,by go_num,hs2,⟨_,rfl⟩⟩
     case measure=>simp[intOf];omega
    ·have ht2:(x !=y)=true:=by simp[hxy]
     have hf:Kept (decide (l1=l2)=false):=⟨by
      rw[decide_eq_false_iff_not];intro e;subst e;exact hxy (Hx.out.trans Hy.out.symm)⟩
     clear hxy;go_wp2;go_quiet (fail);go_wp2;go_ret;exact⟨kE hf.out.symm,aaE _ _ _⟩
   ·obtain rfl:k=n1:=by omega
    have hf:Kept (decide (l1=l2)=true):=⟨by
     rw[Em];have:=hs.out;rwa[jc (by rw[←hn1.out];omega),jc (by rw[←hn2.out];omega)]at this⟩
    go_wp2;go_ret;exact⟨kE hf.out.symm,⟨_,rfl⟩⟩
 ·have ht:((n1:Int) !=(n2:Int))=true:=by rw[bne_iff_ne];omega
  have hf:Kept (decide (l1=l2)=false):=⟨by
   rw[decide_eq_false_iff_not];intro e;subst e;exact hnn (hn1.out.trans hn2.out.symm)⟩
  clear hnn;go_enter func128,ntmps128;go_wp2;go_ret;exact⟨kE hf.out.symm,⟨0,rfl⟩⟩
end
end
section
section
open Go.RowKit
def qm (w:World) (B:Nat) (A:Option Addr) (n c:Nat) (LL:List (List Int)):Prop:=
 ∃vs:List Value,Rd w B 1 A n c vs∧vs.length=LL.length∧∀(i:Nat) (l:List Int),LL[i]? =some l→∃A' n' c',vs[i]? =some (.slice A' n' c')∧jF w B A' n' c' l
section
variable {w w':World} {B n c:Nat} {A:Option Addr} {LL:List (List Int)}
theorem qm.more {B'} (h:qm w B A n c LL) (hB:B≤B'):qm w B' A n c LL:=by
 obtain⟨vs,h1,h2,h3⟩:=h;refine⟨vs,h1.more hB,h2,fun i l hl=>?_⟩;obtain⟨A',n',c',e,hr⟩:=h3 i l hl;exact⟨A',n',c',e,hr.more hB⟩
theorem qm.len (h:qm w B A n c LL):n=LL.length:=by
 obtain⟨vs,h1,h2,_⟩:=h;have:=h1.2.2.1;omega
theorem qm.cap (h:qm w B A n c LL):n≤c∧c≤maxLen:=by
 obtain⟨vs,h1,_⟩:=h;exact⟨h1.1,h1.2.1⟩
theorem qm.at_ {k} (h:qm w B A n c LL) (hk:k<LL.length):
  ∃b off A' n' c',A=some ⟨b,off,none⟩∧b<B∧w.cell? ⟨b,off+k,none⟩=some (.slice A' n' c')∧jF w B A' n' c' LL[k]:=by
 have hn:=h.len;obtain⟨vs,h1,h2,h3⟩:=h;obtain⟨b,off,u,e,hb,hu,hc⟩:=h1.at_ (k:=k) om;obtain⟨A',n',c',e',hr⟩:=h3 k LL[k] (kC hk);rw[hu]at e'
 injection e' with e'
 subst e';exact⟨b,off,A',n',c',e,hb,hc,hr⟩
end
def Ls.tot (LL:List (List Int)):Nat:=(LL.map List.length).sum
theorem Ls.kM {LL:List (List Int)} {k} (h:k<LL.length):Ls.tot (LL.take (k+1))=Ls.tot (LL.take k)+LL[k].length:=by
 unfold Ls.tot;rw[Ts h,dN,Dx];simp
theorem Ls.kZ (LL k):Ls.tot (LL.take k)≤Ls.tot LL:=by
 unfold Ls.tot
 conv=>rhs;rw[←je k LL,dN,Dx]
 omega
end
end
section
open Go.RowKit Go.Shelf
theorem eqL (x y:aU) (w):Sem.run prog (binOp .eql 59 (.agg #[.string x.n,.string x.v]) (.agg #[.string y.n,.string y.v])) w= .ok (.bool (decide (x=y))) w:=by
 have u3:=underlying9;have a3:=Tryz.isAgg9;have z3:=Tryz.sizeOf9;have hS:prog.underlying 59=some (.struct (prog.fieldsOf 59)):=kr;have hp:prog.stoodInHeld 59=false:=kr;rw[run_eql_struct,show(10000:Nat)=9999+1 from rfl,run_equalIn_agg w 9999 59 _ _ hS hp];simp only[Program.fieldsOf,underlying59];go_simp;by_cases h1:x.n=y.n
 ·by_cases h2:x.v=y.v
  ·rw[Ps0 (by rw[h1]),Ps0 (by rw[h2]),BI (Lb.ext h1 h2)]
  ·rw[Ps0 (by rw[h1]),Ng (fun e=>h2 (St.yC e)),AA (fun e=>h2 (by rw[e]))]
 ·rw[Ng (fun e=>h1 (St.yC e)),AA (fun e=>h1 (by rw[e]))]
theorem aaF:(prog.info? 62).map (fun i=>(i.zero,i.size,i.bytes))=some (some (.slice none 0 0),1,24):=kr
end
section
open Go.RowKit Go.Shelf
theorem Gr.quiet {a b c} (h:Gr a b) (q:Quiet b c):Gr a c:=by
 obtain⟨n,rfl⟩:=q;exact h.drewN n
theorem OZ (y z:aU) (s1 s2 A1 A2 n1 c1 n2 c2 B1 B2 w) (h1:jF w B1 A1 n1 c1 s1) (h2:jF w B2 A2 n2 c2 s2) (hB1:B1≤w.heap.size) (hB2:B2≤w.heap.size):
  Calls prog 127 #[.agg #[.string y.n,.string y.v,.slice A1 n1 c1],.agg #[.string z.n,.string z.v,.slice A2 n2 c2]] w fun r w'=>r= .returned (.bool (decide ((y,s1)=(z,s2))))∧Gr w w':=by
 have EQ:=fun W=>eqL y z W
 have Hr:=Al (show jF ((w.alloc (Obj.cells #[.string y.n,.string y.v,.slice A1 n1 c1] 163)).alloc (Obj.cells #[.string z.n,.string z.v,.slice A2 n2 c2] 163)) B1 A1 n1 c1 s1 from(h1.alloc hB1 _).alloc (by simp;omega) _);have Hs:=Al (show jF ((w.alloc (Obj.cells #[.string y.n,.string y.v,.slice A1 n1 c1] 163)).alloc (Obj.cells #[.string z.n,.string z.v,.slice A2 n2 c2] 163)) B2 A2 n2 c2 s2 from(h2.alloc hB2 _).alloc (by simp;omega) _);clear h1 h2;by_cases hyz:y=z
 ·have hd:∀W,Sem.run prog (binOp .eql 59 (.agg #[.string y.n,.string y.v]) (.agg #[.string z.n,.string z.v])) W= .ok (.bool true) W:=fun W=>by rw[EQ W,BI hyz]
  have Hd:Kept (decide ((y,s1)=(z,s2))=decide (s1=s2)):=⟨decide_eq_decide.2 (by rw[aA];simp[hyz])⟩
  clear EQ hyz;go_enter func127,ntmps127;go_wp2_with (go_at_call 128;refine(J9 A1 A2 n1 n2 c1 c2 s1 s2 _ B1 B2 Hr.1 Hs.1).mono ?_;rintro e w3 ⟨rfl,hq⟩;have Hq:=Al hq;clear hq);go_ret;exact⟨by rw[Hd.1];rfl,(((Gr.refl w).alloc _).alloc _).quiet Hq.1⟩
 ·have hd:∀W,Sem.run prog (binOp .eql 59 (.agg #[.string y.n,.string y.v]) (.agg #[.string z.n,.string z.v])) W= .ok (.bool false) W:=fun W=>by rw[EQ W,AA hyz]
  have Hd:Kept (decide ((y,s1)=(z,s2))=false):=⟨AA (by rw[aA];simp[hyz])⟩
  clear EQ hyz;go_enter func127,ntmps127;go_wp2;go_ret;exact⟨by rw[Hd.1];rfl,((Gr.refl w).alloc _).alloc _⟩
end
section
open Go.RowKit Go.Shelf
theorem Xl (A1 A2 n1 c1 n2 c2 E1 E2 w) (h1:gL w w.heap.size A1 n1 c1 E1) (h2:gL w w.heap.size A2 n2 c2 E2):
  Calls prog 126 #[.slice A1 n1 c1,.slice A2 n2 c2,.func (.func 127) #[] #[]] w fun r w'=>r= .returned (.bool (decide (E1=E2)))∧Gr w w':=by
 have hc1:=h1.cap;have hc2:=h2.cap;unfold maxLen at hc1 hc2;have N1:=Al h1.len;have N2:=Al h2.len;have V1:=Al h1;have V2:=Al h2;clear h1 h2;by_cases hl:n1=n2
 ·subst hl;go_enter func126,ntmps126;go_wp2;go_loopw [17] (fun i wr=>∃k:Nat,k≤n1∧i= .int .i64 k∧Kept (E1.take k=E2.take k)∧Kept (Gr w wr)) (fun i _=>n1-(intOf i).toNat)
  case atStart=>exact⟨0,om,rfl,⟨rfl⟩,⟨Gr.refl w⟩⟩
  case round=>
   obtain⟨k,hk,rfl,He,G⟩:=hrel;by_cases hlt:k<n1
   ·have k1:k<E1.length:=by rw[←N1.1];exact hlt
    have k2:k<E2.length:=by rw[←N2.1];exact hlt
    obtain⟨b1,o1,P1,m1,d1,rfl,hb1,hS1,hC1⟩:=V1.1.cells Aj k1;obtain⟨b2,o2,P2,m2,d2,rfl,hb2,hS2,hC2⟩:=V2.1.cells Aj k2;have T1:=Ts k1;have T2:=Ts k2;have Ia:Kept (E1[k]≠E2[k]→E1≠E2):=⟨fun h e=>h (by subst e;rfl)⟩
    generalize E1[k]=x1 at hS1 hC1 T1 Ia;generalize E2[k]=x2 at hS2 hC2 T2 Ia;have HT:Kept (x1=x2→E1.take (k+1)=E2.take (k+1)):=⟨fun h=>by rw[T1,T2,He.1,h]⟩
    obtain⟨y,s1⟩:=x1;obtain⟨z,s2⟩:=x2;simp only[]at hS1 hC1 hS2 hC2;obtain⟨ca,cb,cc⟩:=hC1 wr G.1.below;have G1:Kept (Gr w (wr.alloc (Obj.cells #[.string y.n,.string y.v,.slice P1 m1 d1] 163))):=⟨G.1.alloc _⟩
    obtain⟨da,db,dc⟩:=hC2 _ G1.1.below;have G2:Kept (Gr w ((wr.alloc (Obj.cells #[.string y.n,.string y.v,.slice P1 m1 d1] 163)).alloc (Obj.cells #[.string z.n,.string z.v,.slice P2 m2 d2] 163))):=⟨G1.1.alloc _⟩
    have CL:=Al (OZ y z s1 s2 P1 P2 m1 d1 m2 d2 _ _ _ (p9 hS1 G2.1.below).rd (p9 hS2 G2.1.below).rd Aj Aj);clear T1 T2 hS1 hS2 hC1 hC2 He k1 k2;by_cases hq:(y,s1)=(z,s2)
    ·have ht:=HT.1 hq;have HE:=Al ht;have CL2:=CL;rw[BI hq]at CL2;clear ht CL hq HT Ia;go_wp2_with (go_at_call 127;refine CL2.1.mono ?_;rintro e w3 ⟨rfl,hg⟩;have Hg:=Al (G2.1.trans hg);clear hg);go_roundw
     case rel=>exact⟨k+1,om,by go_num,HE,Hg⟩
     case measure=>simp[intOf];try omega
    ·have HE:=Al (Ia.1 hq);have CL2:=CL;rw[AA hq]at CL2;clear CL hq HT Ia;go_wp2_with (go_at_call 127;refine CL2.1.mono ?_;rintro e w3 ⟨rfl,hg⟩;have Hg:=Al (G2.1.trans hg);clear hg);go_ret;exact⟨by rw[AA HE.1];rfl,Hg.1⟩
   ·obtain rfl:k=n1:=by omega
    have HE:Kept (E1=E2):=⟨by have:=He.1;rwa[jc (Nat.le_of_eq N1.1.symm),jc (Nat.le_of_eq N2.1.symm)]at this⟩
    clear hlt hk;go_wp2;go_ret;exact⟨by rw[BI HE.1];rfl,G.1⟩
 ·have HE:Kept (E1≠E2):=⟨fun e=>hl (by rw[N1.1,N2.1,e])⟩
  have hne:((n1:Int) !=(n2:Int))=true:=by simp;omega
  clear hl;go_enter func126,ntmps126;go_wp2;go_ret;exact⟨by rw[AA HE.1];rfl,Gr.refl w⟩
theorem wM (A1 A2 n1 c1 n2 c2 E1 E2 w) (h1:gL w w.heap.size A1 n1 c1 E1) (h2:gL w w.heap.size A2 n2 c2 E2):
  Calls prog 75 #[.slice A1 n1 c1,.slice A2 n2 c2] w fun r w'=>r= .returned (.bool (decide (E1=E2)))∧Gr w w':=by
 have C:=Al (Xl A1 A2 n1 c1 n2 c2 E1 E2 w h1 h2);clear h1 h2;generalize decide (E1=E2)=b at*;go_enter func75,ntmps75;go_wp2_with (go_at_call 126;refine C.1.mono ?_;rintro e w3 ⟨rfl,hg⟩);go_ret;exact⟨rfl,hg⟩
end
section
open Go.RowKit Go.Shelf
def Fl (e:Int):PanicEntry:={v:= .iface 211 (.agg #[.int .i64 e]),recovered:=false}
theorem lX (w):Calls prog 72 #[.int .i64 0] w fun r w'=>r= .returned (.tuple #[])∧w'=w:=by
 go_enter func72,ntmps72;go_wp2;go_end0;exact⟨rfl,rfl⟩
theorem gD (e) (he:e≠0) (w):Calls prog 72 #[.int .i64 e] w fun r w'=>r= .panicked [Fl e]∧w'=w:=by
 have h:(e !=0)=true:=by simp[he]
 go_enter func72,ntmps72;go_wp2;exact⟨rfl,rfl,rfl⟩
theorem uV (v w):Calls prog 67 #[v,.int .i64 0] w fun r w'=>r= .returned v∧w'=w:=by
 go_enter func67,ntmps67;go_wp2_with (go_at_call 72;refine(lX _).mono ?_;rintro e w1 ⟨rfl,rfl⟩);go_ret;exact⟨rfl,rfl⟩
theorem Ka (v e) (he:e≠0) (w):Calls prog 67 #[v,.int .i64 e] w fun r w'=>r= .panicked [Fl e]∧w'=w:=by
 have H:=Al he;clear he;go_enter func67,ntmps67;go_wp2_with (go_at_call 72;refine(gD e H.1 _).mono ?_;rintro r w1 ⟨rfl,rfl⟩);exact⟨rfl,rfl,rfl⟩
theorem Ib (v w):Calls prog 69 #[v,.int .i64 0] w fun r w'=>r= .returned v∧w'=w:=by
 go_enter func69,ntmps69;go_wp2_with (go_at_call 72;refine(lX _).mono ?_;rintro e w1 ⟨rfl,rfl⟩);go_ret;exact⟨rfl,rfl⟩
theorem Kb (v e) (he:e≠0) (w):Calls prog 69 #[v,.int .i64 e] w fun r w'=>r= .panicked [Fl e]∧w'=w:=by
 have H:=Al he;clear he;go_enter func69,ntmps69;go_wp2_with (go_at_call 72;refine(gD e H.1 _).mono ?_;rintro r w1 ⟨rfl,rfl⟩);exact⟨rfl,rfl,rfl⟩
theorem TN (v w):Calls prog 73 #[v,.int .i64 0] w fun r w'=>r= .returned v∧w'=w:=by
 go_enter func73,ntmps73;go_wp2_with (go_at_call 72;refine(lX _).mono ?_;rintro e w1 ⟨rfl,rfl⟩);go_ret;exact⟨rfl,rfl⟩
theorem Kc (v e) (he:e≠0) (w):Calls prog 73 #[v,.int .i64 e] w fun r w'=>r= .panicked [Fl e]∧w'=w:=by
 have H:=Al he;clear he;go_enter func73,ntmps73;go_wp2_with (go_at_call 72;refine(gD e H.1 _).mono ?_;rintro r w1 ⟨rfl,rfl⟩);exact⟨rfl,rfl,rfl⟩
theorem TP (v w):Calls prog 76 #[v,.int .i64 0] w fun r w'=>r= .returned v∧w'=w:=by
 go_enter func76,ntmps76;go_wp2_with (go_at_call 72;refine(lX _).mono ?_;rintro e w1 ⟨rfl,rfl⟩);go_ret;exact⟨rfl,rfl⟩
theorem Ke (v e) (he:e≠0) (w):Calls prog 76 #[v,.int .i64 e] w fun r w'=>r= .panicked [Fl e]∧w'=w:=by
 have H:=Al he;clear he;go_enter func76,ntmps76;go_wp2_with (go_at_call 72;refine(gD e H.1 _).mono ?_;rintro r w1 ⟨rfl,rfl⟩);exact⟨rfl,rfl,rfl⟩
theorem Kg (p q w):Calls prog 66 #[.nilIface,p,q] w fun r w'=>r= .returned (.tuple #[])∧w'=w:=by
 have hn:∀W:World,(binOp BinOp.eql 20 .nilIface .nilIface).run prog W= .ok (.bool true) W:=fun _=>kr
 go_enter func66,ntmps66;go_wp2
 first|go_end0|refine Bg (Cm rfl _ _ _) rfl ?_
 exact⟨rfl,rfl⟩
def CaP (w:World) (b d:Nat) (e:Int) (B:Nat) (w':World):Prop:=
 Below B w w'∧w'.cell? ⟨b,0,none⟩=some (.slice none 0 0)∧w'.cell? ⟨d,0,none⟩=some (.int .i64 e)
theorem Ic (e b d B v1 v2 w) (hB:B≤b) (hd:B≤d) (hne:b≠d) (hb1:w.cell? ⟨b,0,none⟩=some v1) (hd1:w.cell? ⟨d,0,none⟩=some v2) (fb:w.frozen? ⟨b,0,none⟩=false) (fd:w.frozen? ⟨d,0,none⟩=false):
  Calls prog 66 #[(Fl e).v,.pointer (some ⟨b,0,none⟩),.pointer (some ⟨d,0,none⟩)] w fun r w'=>r= .returned (.tuple #[])∧CaP w b d e B w':=by
 have hta:∀W:World,(Instr.typeAssert (.iface 211 (.agg #[.int .i64 e])) 20 211 true).run prog W= .ok (.tuple #[.agg #[.int .i64 e],.bool true]) W:=fun _=>kr
 have hnn:∀W:World,(binOp BinOp.eql 20 (.iface 211 (.agg #[.int .i64 e])) .nilIface).run prog W= .ok (.bool false) W:=fun _=>kr
 have lb:=Bd w ⟨b,0,none⟩ hb1;have ld:=Bd w ⟨d,0,none⟩ hd1;obtain⟨W,hW⟩:∃W,W=w.alloc (.cells #[.int .i64 e] 211):=⟨_,rfl⟩
 have k1:W.cell? ⟨b,0,none⟩=some v1:=by rw[hW];exact(AR w _ ⟨b,0,none⟩ lb).trans hb1
 have k2:W.cell? ⟨d,0,none⟩=some v2:=by rw[hW];exact(AR w _ ⟨d,0,none⟩ ld).trans hd1
 have hbW:Below w.heap.size w W:=by rw[hW];exact(Ae _ _).alloc Aj _
 have k3:W.frozen? ⟨b,0,none⟩=false:=(hbW.frozen (p:=⟨b,0,none⟩) lb).trans fb;have k4:W.frozen? ⟨d,0,none⟩=false:=(hbW.frozen (p:=⟨d,0,none⟩) ld).trans fd;have k5:W.cell? ⟨w.heap.size,0,none⟩=some (.int .i64 e):=by rw[hW];exact Aq w _ _ _ 0
 unfold Fl;go_enter func66,ntmps66;go_wp2;rw[←hW];clear hW;go_region
 all_goals
  first|go_end0|refine Bg (Cm rfl _ _ _) rfl ?_
  refine⟨rfl,?_,?_,?_⟩
  ·exact(((hbW.mono om).setCell (p:=⟨b,0,none⟩) hB _).setCell (p:=⟨d,0,none⟩) hd _).drew
  ·exact(AO _ _ _ _ (by intro h;cases h;exact hne rfl)).trans (World.cell?_setCell_same _ _ _ k1)
  ·exact World.cell?_setCell_same _ _ _ ((AO _ _ _ _ (by intro h;cases h;exact hne rfl)).trans k2)
theorem O0 (p q w):
  CallsD prog 65 #[.pointer (some p),.pointer (some q)] .returning w fun e u' w'=>e= .returned (.tuple #[])∧u'= .returning∧w'=w:=by
 have C:=Al (Kg (.pointer (some p)) (.pointer (some q)) w);refine callsD_of_wpS func65 rfl fun c₀ cs hu=>?_
 apply wpS_region;simp[wpOpsS,go_sem,recoverD,hu,ntmps65];refine C.1.mono ?_;rintro e w'' ⟨rfl,rfl⟩;cases c₀;simp_all [bodyPostS,results,Tryz.results65]
theorem Pb (f b d B v1 v2 older w) (hB:B≤b) (hd:B≤d) (hne:b≠d) (hb1:w.cell? ⟨b,0,none⟩=some v1) (hd1:w.cell? ⟨d,0,none⟩=some v2) (fb:w.frozen? ⟨b,0,none⟩=false) (fd:w.frozen? ⟨d,0,none⟩=false):
  CallsD prog 65 #[.pointer (some ⟨b,0,none⟩),.pointer (some ⟨d,0,none⟩)] (.panicking (Fl f::older)) w fun e u' w'=>e= .returned (.tuple #[])∧u'= .panicking ({v:=(Fl f).v,recovered:=true}::older)∧CaP w b d f B w':=by
 have C:=Al (Ic f b d B v1 v2 w hB hd hne hb1 hd1 fb fd);clear hB hd hne hb1 hd1 fb fd;refine callsD_of_wpS func65 rfl fun c₀ cs hu=>?_
 unfold Fl at hu C;apply wpS_region;simp[wpOpsS,go_sem,recoverD,hu,ntmps65];refine C.1.mono ?_;rintro e w'' ⟨rfl,XZ⟩;cases c₀;simp_all [bodyPostS,results,Tryz.results65,Fl]
end
section
open Go.RowKit Go.Shelf
theorem Pd (n:Nat) (w) (hn:n≤20000000):
  Calls prog 212 #[.slice none 0 0,.int .i64 n] w fun e w'=>∃A c,e= .returned (.slice A 0 c)∧aO w' w.heap.size A 0 c []∧Below w.heap.size w w':=by
 by_cases h0:n=0
 ·subst h0;go_enter func212,ntmps212;go_wp2;go_ret;exact⟨none,0,rfl,Bb _ _ _ _,Ae _ _⟩
 ·obtain⟨i0,hi0,hz0,hz1,hz2⟩:=AY Qt;have hp:(0:Int)< (n:Int):=om;have hrz:∀ty,(Builtin.append_ #[62,3] ty #[.slice none 0 0,.int .i64 (n:Int)]).run prog w=
    .ok (.slice (some ⟨w.heap.size,0,none⟩) (0+n) (grownCap w (0+n) 0 3)) (w.drew.alloc (.cells (([]:List Value).toArray++Builtin.zeroCells (Value.int .i64 0).cells n++Builtin.zeroCells (Value.int .i64 0).cells (grownCap w (0+n) 0 3-(0+n))) 3)):=fun ty=>by
   refine Lib.run_append_grow_zeros w 62 3 ty 3 i0 (.int .i64 0) .i64 .i64 underlying62 underlying3 hi0 hz0 none 0 0 [] (run_firstCells_none w.drew i0.size 0 0 0) n om om om om (by rw[hz2];omega) ?_;rw[hz2];exact growslice_fits om om
  have hlo:=grownCap_ge w (0+n) 0 3;have hhi:=grownCap_le_maxLen w (0+n) 0 3 (by unfold maxLen;omega);have hsz:(([]:List Value).toArray++Builtin.zeroCells (Value.int .i64 0).cells n++Builtin.zeroCells (Value.int .i64 0).cells (grownCap w (0+n) 0 3-(0+n))).size=grownCap w (0+n) 0 3:=by
   rw[bO]at hlo⊢;simp[Builtin.zeroCells,Value.cells];omega
  generalize (([]:List Value).toArray++Builtin.zeroCells (Value.int .i64 0).cells n++Builtin.zeroCells (Value.int .i64 0).cells (grownCap w (0+n) 0 3-(0+n)))=C at*;generalize grownCap w (0+n) 0 3=G at*;have ho:(w.drew.alloc (.cells C 3)).ownsRow w.heap.size 3 1 (.slice (some ⟨w.heap.size,0,none⟩) 0 G) 0 []:=World.ownsRow_made w.drew C G Aj hhi om;have hb:Below w.heap.size w (w.drew.alloc (.cells C 3)):=((Ae _ w).drew).alloc Aj _;unfold maxLen at hhi;rw[bO]at hrz hlo;have Ho:=Al ho;have Hb:=Al hb;clear ho hb hsz hz0 hz1 hz2 hi0;have hn':(n:Int)≤20000000:=om;have ag0:(n:Int)≤(G:Int):=om;clear hn hlo;go_enter func212,ntmps212;go_wp2_with (at_builtin;refine Lib.wpList_append_run _ rfl _ _ _ _ rfl _ _ rfl rfl _ _ (hrz _) ?_)
  all_goals
   go_ret;exact⟨_,G,rfl,Ho.1,Hb.1⟩
theorem Xm {LL:List (List Int)} {k} (h:k<LL.length):(LL.take (k+1)).flatten=(LL.take k).flatten++LL[k]:=by
 rw[←List.take_append_getElem h,ED];simp
theorem Ie (A n c B LL w) (hv:qm w B A n c LL) (hB:B≤w.heap.size) (hl:Ls.tot LL≤10000000):
  Calls prog 176 #[.slice A n c] w fun e w'=>∃A3 n3 c3,e= .returned (.slice A3 n3 c3)∧aO w' w.heap.size A3 n3 c3 LL.flatten∧Below w.heap.size w w':=by
 have HN:=Al hv.len;have hcap:=hv.cap;unfold maxLen at hcap;have HV:=Al hv;clear hv;have HL:=Al hl;have hl':(Ls.tot LL:Int)≤10000000:=om;clear hl;go_enter func176,ntmps176;go_wp2;go_loop [3,11] (fun s i=>∃k t:Nat,k≤n∧i= .int .i64 k∧s= .int .i64 t∧Kept (t=Ls.tot (LL.take k))∧(t:Int)≤10000000) (fun _ i=>n-(intOf i).toNat)
 case atStart=>exact⟨0,0,om,rfl,rfl,⟨rfl⟩,om⟩
 case round=>
  obtain⟨k,t,hk,rfl,rfl,Ht,ht2⟩:=hrel;by_cases hlt:k<n
  ·have hkn:k<LL.length:=by rw[←HN.1];exact hlt
   obtain⟨b,off,A',n',c',rfl,ni,hcell,hr⟩:=HV.1.at_ hkn;have Ig:=hr.len;have htk:=Ls.kM hkn;have hle:=Ls.kZ LL (k+1);have ht:=Ht.1;have hs:((t+n':Nat):Int)≤10000000:=om;have E1:=Al (show t+n'=Ls.tot (LL.take (k+1))from om);have E2:=Al hr;clear htk hle ht Ig hr;go_wp2;go_round
   case rel=>exact⟨k+1,t+n',om,by go_num,by go_num,E1,hs⟩
   case measure=>simp[intOf];try omega
  ·obtain rfl:k=n:=by omega
   have HT:=Al (show t=Ls.tot LL by rw[Ht.1,HN.1,jc Aj]);clear Ht hlt hk;go_wp2_with (go_at_call 212;refine(Pd t _ om).mono ?_;rintro e w1 ⟨A0,c0,rfl,ho,hb⟩);go_loopw [6,27] (fun o i wr=>∃j n3 A3 c3,j≤k∧i= .int .i64 (j:Nat)∧o= .slice A3 n3 c3∧aO wr w.heap.size A3 n3 c3 (LL.take j).flatten∧Below w.heap.size w wr∧Kept (n3=Ls.tot (LL.take j))∧(n3:Int)≤10000000) (fun _ i _=>k-(intOf i).toNat)
   case atStart=>exact⟨0,0,A0,c0,om,rfl,rfl,ho,hb,⟨rfl⟩,om⟩
   case round=>
    clear ho hb;obtain⟨j,n3,A3,c3,hj,rfl,rfl,ho,hb,Hn3,U6⟩:=hrel;by_cases hlt2:j<k
    ·have hjn:j<LL.length:=by rw[←HN.1];exact hlt2
     obtain⟨b,off,A',n',c',rfl,ni,hcell,hr⟩:=HV.1.at_ hjn;have hl0:=(hb.cell (p:=⟨b,off+j,none⟩) (by show b<_;omega)).trans hcell;have hz:=hb.size;have hA:=Al (ae ho);have R1:=Al ((jF.more hr hB).below hb);have Ig:=hr.len;have rD:=Hn3.1;have htk:=Ls.kM hjn;have hle:=Ls.kZ LL (j+1);have hs:((n3+n':Nat):Int)≤10000000:=om;have hs3:n3+n'≤17592186044416:=om;have E1:=Al (show n3+n'=Ls.tot (LL.take (j+1))from om);have E2:=Al Ig;clear rD htk hle U6 Ig;go_wp2_with (at_builtin;refine eD rfl (.tmp 31) (.tmp 32) rfl w.heap.size A3 n3 c3 _ rfl ho w.heap.size A' n' c' LL[j] rfl R1.1 hs3 hz ?_;intro A4 c4 w4 au af bT);have hb4:Below w.heap.size w w4:=hb.grown af hz (fun g hg=>(hA.1 g hg).1);rw[←Xm hjn]at au;go_roundw
     case rel=>exact⟨j+1,n3+n',A4,c4,om,by go_num,rfl,au,hb4,⟨E1.1⟩,hs⟩
     case measure=>simp[intOf];try omega
    ·obtain rfl:j=k:=by omega
     clear hlt2 hj;go_wp2;go_ret;refine⟨A3,n3,c3,rfl,?_,hb⟩;rw[HN.1,jc Aj]at ho;exact ho
end
section
open Go.RowKit Go.Shelf
namespace Cs
def fit:List Int→Int→Bool
 |[],n=>decide (n=0)
 |c::r,n=>if c<0∨n<c then false else fit r (n-c)
theorem TS:∀(l) (n:Nat),(∀c∈l,0≤c)→fit l n=decide ((l.map Int.toNat).sum=n)
 |[],n,_=>by
  rw[fit];refine decide_eq_decide.2 ?_;simp;omega
 |c::r,n,h=>by
  have hc:=h c Ah;rw[fit,AJ,Bv];by_cases h1:(n:Int)<c
  ·rw[Ps0 (.inr h1),eq_comm,decide_eq_false_iff_not];omega
  ·rw[Ng om,show(n:Int)-c=((n-c.toNat:Nat):Int)from om,TS r _ (fun z hz=>h z (by simp[hz]))];refine decide_eq_decide.2 ?_;omega
end Cs
theorem xK (A n c B LL) (m:Nat) (w) (hv:qm w B A n c LL) (hB:B≤w.heap.size) (hl:Ls.tot LL≤10000000) (hm:m≤4000000000):
  Calls prog 124 #[.int .i64 m,.slice A n c] w fun e w'=>e= .returned (.bool (Cs.fit LL.flatten m))∧Below w.heap.size w w':=by
 have HV:=Al hv;have HL:=Al hl;have hm':(m:Int)≤4000000000:=om;clear hv hl hm;generalize hr:Cs.fit LL.flatten m=res;have HR:=Al hr;clear hr;go_enter func124,ntmps124;go_wp2_with (go_at_call 176;refine(Ie _ _ _ _ LL _ HV.1 om HL.1).mono ?_;rintro e w1 ⟨A0,n0,c0,rfl,ho,hb⟩);have hcap:=ho.rd.1;have hcm:=ho.rd.2.1;unfold maxLen at hcm;have HN:=Al ho.len;have HO:=Al ho.rd;have Hb:=Al hb;have hsz:=hb.size;clear ho hb;generalize LL.flatten=l at*;go_loop [0,10] (fun s i=>∃k t:Nat,k≤n0∧i= .int .i64 k∧s= .int .i64 t∧t≤m∧Kept (Cs.fit (l.drop k) t=res)) (fun _ i=>n0-(intOf i).toNat)
 case atStart=>exact⟨0,m,om,rfl,rfl,om,⟨HR.1⟩⟩
 case round=>
  obtain⟨k,t,hk,rfl,rfl,ht,Ht⟩:=hrel;by_cases hlt:k<n0
  ·have hkn:k<l.length:=by rw[←HN.1];exact hlt
   obtain⟨b,off,rfl,ni,hcell⟩:=HO.1.at_ hkn;have e1:=Ht.1;rw[oQ hkn,Cs.fit]at e1;have E1:=Al e1;generalize l[k]=x at hcell E1;clear e1;by_cases h1:x<0
   ·have e2:=E1.1;rw[Ps0 (.inl h1)]at e2;have E2:=Al e2;clear e2 E1;go_wp2;go_ret;obtain rfl:=E2.1;exact⟨rfl,Hb.1⟩
   ·by_cases h2:(t:Int)<x
    ·have e2:=E1.1;rw[Ps0 (.inr h2)]at e2;have E2:=Al e2;clear e2 E1;go_wp2;go_ret;obtain rfl:=E2.1;exact⟨rfl,Hb.1⟩
    ·have e2:=E1.1;rw[Ng om]at e2;obtain⟨y,rfl⟩:∃y:Nat,x=(y:Int):=⟨x.toNat,om⟩
     have hyt:y≤t:=om;have E2:=Al (show Cs.fit (l.drop (k+1)) ((t-y:Nat):Int)=res by rw[←e2];congr 1;omega);clear e2 E1 h1;go_wp2;go_round
     case rel=>exact⟨k+1,t-y,om,by go_num,by go_num,om,E2⟩
     case measure=>simp[intOf];try omega
  ·obtain rfl:k=n0:=by omega
   clear hlt hk;have e1:=Ht.1;rw[HN.1,Ei Aj,Cs.fit]at e1;have E1:=Al e1;clear e1;by_cases h3:t=0
   ·subst h3;go_wp2;go_ret;obtain rfl:=E1.1;exact⟨rfl,Hb.1⟩
   ·go_wp2;go_ret;obtain rfl:=E1.1;rw[AA om];exact⟨by show Ending.returned (.bool ((t:Int)==0))=_;rw[show((t:Int)==0)=false by simp;omega],Hb.1⟩
end
section
open Go.RowKit Go.Shelf
def UH (w:World) (g hi n:Nat) (LL:List Cs.fI):Prop:=
 ∃cs:Array Value,w.heap[g]? =some (.cells cs 55 (0,0))∧cs.size=n∧(∀(i:Nat) (l:Cs.fI),LL[i]? =some l→∃A' n' c',cs[i]? =some (Value.slice A' n' c')∧aH w (g+1) A' n' c' l∧∀p,ab A'=some p→p<hi)∧
  ∀i:Nat,LL.length≤i→i<n→cs[i]? =some (Value.slice none 0 0)
def Ih (w:World) (g hi n:Nat) (LL:List Cs.fI) (A:Option Addr) (m c:Nat) (acc:Cs.fI):Prop:=
 ∃cs:Array Value,w.heap[g]? =some (.cells cs 55 (0,0))∧cs.size=n∧(∀(i:Nat) (l:Cs.fI),LL[i]? =some l→∃A' n' c',cs[i]? =some (Value.slice A' n' c')∧aH w (g+1) A' n' c' l∧∀p,ab A'=some p→p<hi)∧
  cs[LL.length]? =some (Value.slice A m c)∧aH w hi A m c acc∧(∀i:Nat,LL.length<i→i<n→cs[i]? =some (Value.slice none 0 0))∧g<hi∧LL.length<n
section
variable {w w':World} {g hi n m c:Nat} {LL:List Cs.fI} {A:Option Addr} {acc:Cs.fI}
theorem UH.start (h:UH w g hi n LL) (hg:g<w.heap.size) (hh:hi≤w.heap.size) (hk:LL.length<n):Ih w g w.heap.size n LL none 0 0 []:=by
 obtain⟨cs,h1,h2,h3,h4⟩:=h;refine⟨cs,h1,h2,fun i l hl=>?_,h4 _ Aj hk,aH.nil _ _,fun i hi hn=>h4 i om hn,hg,hk⟩;obtain⟨A',n',c',e1,e2,e3⟩:=h3 i l hl;exact⟨A',n',c',e1,e2,fun p hp=>by have:=e3 p hp;omega⟩
theorem Ih.below (h:Ih w g hi n LL A m c acc) (hb:Below w.heap.size w w'):Ih w' g hi n LL A m c acc:=by
 obtain⟨cs,h1,h2,h3,h4,h5,h6,h7,h8⟩:=h;have hg:g<w.heap.size:=(Ge.1 h1).1;refine⟨cs,(hb.block g hg).trans h1,h2,fun i l hl=>?_,h4,aQ h5 hb,h6,h7,h8⟩;obtain⟨A',n',c',e1,e2,e3⟩:=h3 i l hl;exact⟨A',n',c',e1,aQ e2 hb,e3⟩
theorem Ih.cell (h:Ih w g hi n LL A m c acc):w.cell? ⟨g,LL.length,none⟩=some (Value.slice A m c):=by
 obtain⟨cs,h1,h2,h3,h4,_⟩:=h;exact(Co w g _ cs _ (0,0) h1).trans h4
theorem Ih.frozen (h:Ih w g hi n LL A m c acc) (k):w.frozen? ⟨g,k,none⟩=false:=by
 obtain⟨cs,h1,_⟩:=h;exact Fr w g k _ _ h1
theorem Ih.own (h:Ih w g hi n LL A m c acc):aH w hi A m c acc:=by
 obtain⟨cs,_,_,_,_,h5,_⟩:=h;exact h5
theorem Ih.grown {A4 m4 c4} {adt:Cs.fI} (h:Ih w g hi n LL A m c acc) (hg:w.grownBy w' (ab A)) (ho:aH w' hi A4 m4 c4 adt):
  (∃v,w'.cell? ⟨g,LL.length,none⟩=some v)∧w'.frozen? ⟨g,LL.length,none⟩=false∧Ih (w'.setCell ⟨g,LL.length,none⟩ (.slice A4 m4 c4)) g hi n LL A4 m4 c4 adt:=by
 obtain⟨cs,h1,h2,h3,h4,h5,h6,h7,h8⟩:=h;have hgs:g<w.heap.size:=(Ge.1 h1).1;have hne:some g≠ab A:=fun e=>by have:=(ae h5 g e.symm).1;omega
 have h1':=(hg.block g hgs hne).trans h1;have hset:=Ag w' g LL.length cs 55 (.slice A4 m4 c4) h1';refine⟨⟨_,(Co w' g _ cs _ (0,0) h1').trans h4⟩,Fr w' g _ _ _ h1',?_⟩;refine⟨_,hset,by simp[h2],fun i l hl=>?_,by rw[zM,Ps0 rfl,Ps0 om],aS ho (fun p hp e=>by have:=(ae ho p hp).1;omega),fun i hi hn=>?_,h7,h8⟩
 ·obtain⟨A',n',c',e1,e2,e3⟩:=h3 i l hl;have hil:i<LL.length:=by
   rcases Cy i LL.length with h|h
   ·exact h
   ·rw[Ca h]at hl;cases hl
  refine⟨A',n',c',by rw[zM,Ng om];exact e1,?_,e3⟩;have e2':aH w' (g+1) A' n' c' l:=ag e2 hg (by
   rcases hA:ab A' with _|p
   ·exact .inl rfl
   ·refine .inr fun e=>?_
    have:=e3 p hA;have:=(ae h5 p e.symm).1;omega)
  exact aS e2' (fun p hp e=>by have:=(ae e2' p hp).1;omega)
 ·rw[zM,Ng om];exact h6 i hi hn
theorem Ih.done (h:Ih w g hi n LL A m c acc):UH w g w.heap.size n (LL++[acc]):=by
 obtain⟨cs,h1,h2,h3,h4,h5,h6,h7,h8⟩:=h;refine⟨cs,h1,h2,fun i l hl=>?_,fun i hi hn=>h6 i (by simp at hi;omega) hn⟩;rw[List.getElem?_append]at hl;split at hl
 ·obtain⟨A',n',c',e1,e2,e3⟩:=h3 i l hl;exact⟨A',n',c',e1,e2,fun p hp=>(ae e2 p hp).2⟩
 ·rename_i hi
  obtain rfl:i=LL.length:=by
   rcases Cy LL.length i with h|h
   ·rw[Ca (by simp;omega)]at hl;cases hl
   ·omega
  simp at hl;subst hl;exact⟨A,m,c,h4,zJ h5 om,fun p hp=>(ae h5 p hp).2⟩
theorem UH.rd (h:UH w g hi n LL) (hn:LL.length=n) (hm:n≤maxLen):nz w w.heap.size (some ⟨g,0,none⟩) n n LL:=by
 obtain⟨cs,h1,h2,h3,h4⟩:=h;have hg:g<w.heap.size:=(Ge.1 h1).1;refine⟨cs.toList,⟨Nr _,hm,by simp[h2],fun _=>⟨g,0,rfl,hg,fun i u hu=>?_⟩⟩,by simp[h2,hn],fun i l hl=>?_⟩
 ·rw[DW]at hu;rw[bO];exact(Co w g _ cs _ (0,0) h1).trans hu
 ·obtain⟨A',n',c',e1,e2,_⟩:=h3 i l hl;exact⟨A',n',c',by rw[DW];exact e1,aH.rd e2⟩
theorem UH.made (w:World) (n):UH (w.alloc (.cells (madeCells #[.slice none 0 0] n) 55)) w.heap.size (w.heap.size+1) n []:=by
 refine⟨_,AL w _,by simp[madeCells],fun i l hl=>by simp at hl,fun i _ hn=>?_⟩;rw[Array.getElem?_eq_getElem (by simp[madeCells];exact hn)];simp[madeCells,Nat.mod_one]
end
theorem TT (n:Nat) (hn:n≤1000000) (w):(Instr.makeSlice 147 (.int .i64 n) (.int .i64 n)).run prog w= .ok (.slice (some ⟨w.heap.size,0,none⟩) n n) (w.alloc (.cells (madeCells #[.slice none 0 0] n) 55)):=by
 obtain⟨i0,hi0,hz0,hz1,hz2⟩:=AY Sm;have:=Eb (P:=prog) w 147 55 i0 (.slice none 0 0) underlying147 hi0 hz0 .i64 .i64 (n:Int) (n:Int) om om (by rw[hz1];simp;omega) (by rw[hz2];omega) om;rw[hz1]at this;simpa[Value.cells]using this
end
section
open Go.RowKit Go.Shelf
def ChP (w:World) (R:List Cs.fI×Int) (e:Ending) (w':World):Prop:=
 ∃A n c,e= .returned (.tuple #[.slice A n c,.int .i64 R.2])∧nz w' w'.heap.size A n c R.1∧Below w.heap.size w w'∧∀p,ab A=some p→w.heap.size≤p
theorem nz.nil (w B):nz w B none 0 0 []:=
 ⟨[],⟨Nr _,by unfold maxLen;omega,rfl,fun h=>absurd h om⟩,rfl,fun i l h=>by simp at h⟩
theorem ChP.bad {w w' R f} (h:R=([],f)) (hb:Below w.heap.size w w'):ChP w R (.returned (.tuple #[.slice none 0 0,.int .i64 f])) w':=by
 subst h;exact⟨none,0,0,rfl,nz.nil _ _,hb,fun p hp=>by simp[ab]at hp⟩
namespace Cs
def vD (LN:List (List Nat)):List (List Int):=LN.map (·.map Int.ofNat)
theorem TU {LN k} (h:k<LN.length):(vD LN)[k]'(by simpa[vD]using h)=LN[k].map Int.ofNat:=by simp[vD]
theorem TV (LN):((vD LN).flatten.map Int.toNat)=LN.flatten:=by
 induction LN with
 |nil=>rfl
 |cons l r ih=>
  rw[show vD (l::r)=l.map Int.ofNat::vD r from rfl,Cg,dN,ih,Cg]
  congr 1
  clear ih
  induction l with
  |nil=>rfl
  |cons x l ih=>rw[AJ,AJ,ih];rfl
theorem aaH (LN):∀c∈(vD LN).flatten,0≤c:=by
 intro c hc;obtain⟨l,hl,hc⟩:=List.mem_flatten.1 hc;obtain⟨q,_,rfl⟩:=dV.1 hl;obtain⟨z,_,rfl⟩:=dV.1 hc;exact Int.natCast_nonneg z
theorem Xn (LN) (n:Nat):fit (vD LN).flatten n=decide (LN.flatten.sum=n):=by
 rw[TS _ _ (aaH LN),TV]
theorem Xp {L} (h:(Ck.dec L).2=0):(Ck.dec L).1.length≤120:=
 (Ck.iG (L:=L) (l:=(Ck.dec L).1) (by rw[←h])).1.2.1
end Cs
theorem Kh (A DA n c dn dc B LN D w) (hv:qm w B A n c (Cs.vD LN)) (hd:aY w B DA dn dc D) (hB:B≤w.heap.size)
  (hl:Ls.tot (Cs.vD LN)≤10000000) (hn:n≤1000000) (hdn:dn≤100000000) (hG:Gl w):
  Calls prog 74 #[.slice DA dn dc,.slice A n c] w (ChP w (if LN.flatten.sum≠D.length then([],23)else Cs.IK LN [] D)):=by
 have HV:=Al (hv.more hB);have HD:=Al (hd.more hB);have HL:=Al hl;have hnl:n=LN.length:=by rw[hv.len];simp[Cs.vD]
 have HN:=Al hnl;have hcap:=hv.cap;unfold maxLen at hcap;have hdl:dn=D.length:=hd.len;have HDL:=Al hdl;generalize hR:(if LN.flatten.sum≠D.length then([],23)else Cs.IK LN [] D)=R;have HG:=Al hG;have Hf:=Al (Cs.Xn LN dn);have hn':(n:Int)≤1000000:=om;have ag2:(dn:Int)≤100000000:=om;have Hmk:=Al (fun W=>TT n hn W);have HB:=Al hB;clear hv hd hl hnl hdl hG hn hB;by_cases hfit:LN.flatten.sum=dn
 ·have Hf2:Kept (Cs.fit (Cs.vD LN).flatten dn=true):=⟨by rw[Hf.1];simp[hfit]⟩
  rw[Ng (by rw[←HDL.1];omega)]at hR;have HR:=Al hR;have HF:=Al hfit;clear hR Hf hfit;go_enter func74,ntmps74;have hmk:=Hmk.1;go_wp2_with (go_at_call 124;refine(xK A n c w.heap.size (Cs.vD LN) dn w HV.1 Aj HL.1 om).mono ?_;rintro e w1 ⟨rfl,hb1⟩;rw[Hf2.1]);have Hb1:=Al hb1;have hz1:=hb1.size;clear hb1;have Hm:=Al (UH.made w1 n);have hb2:=Hb1.1.alloc hz1 (.cells (madeCells #[.slice none 0 0] n) 55);generalize hw2:w1.alloc (.cells (madeCells #[.slice none 0 0] n) 55)=w2 at*;have hs2:w1.heap.size<w2.heap.size:=by rw[←hw2];simp
  have Hs2:Kept (w2.heap.size=w1.heap.size+1):=⟨by rw[←hw2];simp⟩
  obtain⟨g,hg⟩:∃g,g=w1.heap.size:=⟨_,rfl⟩
  have Hg:=Al hg;have Hb2:=Al hb2;have Hm2:Kept (UH w2 g w2.heap.size n []):=⟨by rw[hg,Hs2.1];exact Hm.1⟩
  have hwg:w.heap.size≤g:=om;have hgw:g<w2.heap.size:=om;rw[←hg];clear hg hs2 hb2 hw2 Hm Hs2 hz1 hmk Hb1;go_loopw [0,23] (fun d i wr=>∃k A0 n0 c0 D0 done,k≤n∧i= .int .i64 (k:Nat)∧d= .slice A0 n0 c0∧Kept (aY w w.heap.size A0 n0 c0 D0)∧Kept (List.length done=k)∧Kept ((LN.drop k).flatten.sum=D0.length)∧Kept (Cs.IK (LN.drop k) done D0=R)∧
   Kept (UH wr g wr.heap.size n done)∧Kept (Below w.heap.size w wr)∧g<wr.heap.size∧(n0:Int)≤100000000) (fun _ i _=>n-(intOf i).toNat)
  case atStart=>exact⟨0,DA,dn,dc,D,[],om,rfl,rfl,HD,⟨rfl⟩,⟨by rw[←HDL.1];exact HF.1⟩,HR,Hm2,Hb2,hgw,ag2⟩
  case round=>
   clear Hm2 Hb2 hgw HR HF HD HDL Hf2;obtain⟨k,A0,n0,c0,D0,done,hk,rfl,rfl,HD0,Hdn,ag3,HR,Hrw,Hb,hgr,hn0⟩:=hrel;by_cases hlt:k<n
   ·have hkn:k<LN.length:=by rw[←HN.1];exact hlt
    have hkn2:k< (Cs.vD LN).length:=by simpa[Cs.vD]using hkn
    obtain⟨b,off,A',n',c',rfl,ni,hcell,hr⟩:=HV.1.at_ hkn2;have hl0:=(Hb.1.cell (p:=⟨b,off+k,none⟩) (by show b<_;exact ni)).trans hcell;rw[Cs.TU hkn]at hr;have e1:=HR.1;have e2:=ag3.1;rw[oQ hkn]at e1 e2;rw[Cs.IK]at e1;rw[Cg,Dx]at e2;have Htl:=Al (Ls.kM hkn2);generalize hrest:(LN.drop (k+1)).flatten.sum=rest at e2;generalize hln:LN[k]=ln at hr e1 e2;have adu:=Al hrest;have HRw:=Al hr;have hnl:=hr.len;rw[fM]at hnl;have Hnl:=Al hnl;have hn1:n'≤10000000:=by
     have h1:=Htl.1;have h2:=Ls.kZ (Cs.vD LN) (k+1);have h3:=HL.1;have h4:((Cs.vD LN)[k]).length=n':=by rw[Cs.TU hkn,hln,fM,hnl]
     omega
    have hn1':(n':Int)≤10000000:=om;generalize hR1:Cs.FD ln [] D0=R1 at e1;have HR1:=Al hR1;have HE1:=Al e1;have HE2:=Al e2;have ame:=Al hr.1;have Hcm:=Al hr.2.1;have HC:Kept (Ih wr g wr.heap.size n done none 0 0 []):=⟨Hrw.1.start hgr Aj (by rw[Hdn.1];exact hlt)⟩
    obtain⟨S,hS⟩:∃S,S=wr.heap.size:=⟨_,rfl⟩
    have HS:=Al hS;rw[←hS]at HC;clear e1 e2 hrest hln hr hnl hR1 hkn hkn2 Htl hcell HR hS Hrw hn1;go_wp2;go_loopw [0,30] (fun d i wi=>∃j A1 n1 c1 D1 AC mc cc acc,j≤n'∧i= .int .i64 (j:Nat)∧d= .slice A1 n1 c1∧Kept (aY w w.heap.size A1 n1 c1 D1)∧Kept ((ln.drop j).sum+rest=D1.length)∧Kept (Cs.FD (ln.drop j) acc D1=R1)∧
     Kept (List.length acc≤120*j)∧Kept (Ih wi g S n done AC mc cc acc)∧Kept (Below w.heap.size w wi)∧Kept (S≤wi.heap.size)∧(n1:Int)≤100000000) (fun _ i _=>n'-(intOf i).toNat)
    case atStart=>exact⟨0,A0,n0,c0,D0,none,0,0,[],om,rfl,rfl,HD0,⟨HE2.1⟩,HR1,⟨Ah⟩,HC,Hb,⟨Nat.le_of_eq HS.1⟩,hn0⟩
    case round=>
     obtain⟨j,A1,n1,c1,D1,AC,mc,cc,acc,hj,rfl,rfl,HD1,Hs1,Hd1,Hac,HCu,YO,HSi,ag8⟩:=hrel;by_cases hlt2:j<n'
     ·have hjl:j<ln.length:=by rw[←Hnl.1];exact hlt2
      obtain⟨b2,vM,rfl,adw,hcell2⟩:=HRw.1.at_ (k:=j) (by rw[fM];exact hjl);rw[DL]at hcell2;have hl2:=(YO.1.cell (p:=⟨b2,vM+j,none⟩) (by show b2<_;exact adw)).trans hcell2;have e1:=Hd1.1;have e2:=Hs1.1;rw[oQ hjl]at e1 e2;rw[Cs.FD]at e1;rw[Bv]at e2;generalize hx:ln[j]=x at hl2 e1 e2;have hxl:x≤D1.length:=om;have ag9:n1=D1.length:=HD1.1.len;have hxn:x≤n1:=om;have hx2:(x:Int)≤(n1:Int):=om;have hcl:=Al HD1.1.1;have hcm:=HD1.1.2.1;unfold maxLen at hcm;have hc1:(n1:Int)≤(c1:Int):=by have:=hcl.1;omega
      have HT:=Al ((HD1.1.take hxn).below YO.1);have HDr:=Al (HD1.1.drop hxn);generalize hQ:Ck.dec (D1.take x)=Q at e1;have HQ:=Al hQ;have HE:=Al e1;have HE3:=Al (show(ln.drop (j+1)).sum+rest=(D1.drop x).length by rw[kz];omega);have hzi:=YO.1.size;have HGi:=Al (HG.1.below YO.1);have hx1:(x:Int)≤100000000:=om;have Hzi:=Al hzi;clear e1 e2 hxl ag9 hQ hcell2 hx hjl Hs1 Hd1 hzi hl0;obtain⟨ql,qe⟩:=Q;by_cases hqe:qe=0
      ·subst hqe;have hq:((0:Int) !=0)=false:=rfl;have hql:ql.length≤120:=by have:=Cs.Xp (L:=D1.take x) (by rw[HQ.1]);rw[HQ.1]at this;exact this
       have hgo:(ln.drop (j+1)≠[]∧ql.length≠120)∨¬(ln.drop (j+1)≠[]∧ql.length≠120):=Classical.em _;have hdr:ln.drop (j+1)≠[]↔j+1<n':=by rw[ne_eq,List.drop_eq_nil_iff,←Hnl.1];omega
       rw[hdr]at hgo;have hmc:mc=acc.length:=HCu.1.own.len;have aaK:mc≤120*j:=by rw[hmc];exact Hac.1
       have Hmc:=Al aaK;by_cases hbad:j+1<n'∧ql.length≠120
       ·have HRr:Kept (R=([],23)):=⟨by
         have e3:=HE.1;rw[Ng Ah,Ps0 ⟨hdr.2 hbad.1,hbad.2⟩]at e3;have e4:=HE1.1;rw[←e3,Ps0 Ah]at e4;exact e4.symm⟩
        have h1:(j:Int)< (n':Int)-1:=om;have h2:(((ql.length:Nat):Int) !=120)=true:=by simp;omega
        clear hgo hdr hmc aaK hbad hql;go_wp2_with (go_at_call 125;refine(kY A1 x c1 w.heap.size (D1.take x) _ HT.1 Hzi.1 om HGi.1).mono ?_;rintro e w3 ⟨A2,n2,c2,rfl,hown,hb3⟩;rw[HQ.1]at hown⊢;obtain rfl:n2=ql.length:=aH.len hown;have aaL:=Al (aH.rd hown);have Hb3:=Al hb3;have PM:=Al (HCu.1.below hb3);have hc3:=PM.1.cell;have hf3:=PM.1.frozen k;rw[Hdn.1]at hc3;have hz3:S≤w3.heap.size:=Lt HSi.1 hb3.size;have ho3:=PM.1.own;clear hown hb3);go_ret2;exact ChP.bad HRr.1 ((YO.1.trans (Hb3.1.mono Hzi.1)))
       ·have aje:mc≤1200000000:=by omega
        have HEg:Kept (Cs.FD (ln.drop (j+1)) (acc++ql) (D1.drop x)=R1):=⟨by
         have e3:=HE.1;rw[Ng Ah,Ng (by rw[hdr];exact hbad)]at e3;exact e3⟩
        have Hql:=Al hql;have hcs:(¬(j:Int)< (n':Int)-1)∨((j:Int)< (n':Int)-1∧(((ql.length:Nat):Int) !=120)=false):=by
         by_cases h1:j+1<n'
         ·refine .inr ⟨om,?_⟩;have:ql.length=120:=Dl fun h=>hbad ⟨h1,h⟩
          rw[this]
          rfl
         ·exact .inl om
        have amj:(ql.length:Int)≤120:=om;clear hgo hdr hmc aaK hbad hql;rcases hcs with h1|⟨h1,h2⟩
        all_goals
         go_wp2_with first
          |(at_builtin;refine kK rfl (.tmp 62) (.tmp 63) rfl S AC mc cc acc rfl ho3 w3.heap.size A2 ql.length c2 ql rfl aaL.1 (by have:=Hmc.1;omega) hz3 ?_;intro A4 c4 w4 au Ii bT;obtain⟨⟨v4,hv4⟩,hf4,TY⟩:=PM.1.grown Ii au;rw[Hdn.1]at hv4 hf4 TY;have adx:=Al Ii;have Hlt:=Al (ae ho3);have ahc:=Al TY;clear TY Ii au)
          |(go_at_call 125;refine(kY A1 x c1 w.heap.size (D1.take x) _ HT.1 Hzi.1 om HGi.1).mono ?_;rintro e w3 ⟨A2,n2,c2,rfl,hown,hb3⟩;rw[HQ.1]at hown⊢;obtain rfl:n2=ql.length:=aH.len hown;have aaL:=Al (aH.rd hown);have Hb3:=Al hb3;have PM:=Al (HCu.1.below hb3);have hc3:=PM.1.cell;have hf3:=PM.1.frozen k;rw[Hdn.1]at hc3;have hz3:S≤w3.heap.size:=Lt HSi.1 hb3.size;have ho3:=PM.1.own;clear hown hb3)
         have hb4:Below w.heap.size w w4:=(YO.1.trans (Hb3.1.mono Hzi.1)).grown adx.1 (Lt Hzi.1 Hb3.1.size) (fun p hp=>by have:=(Hlt.1 p hp).1;have:=HS.1;have:=Hb.1.size;omega);have hb5:=hb4.setCell (p:=⟨g,k,none⟩) (by show w.heap.size≤g;exact hwg) (.slice A4 (mc+ql.length) c4);have hz5:S≤(w4.setCell ⟨g,k,none⟩ (.slice A4 (mc+ql.length) c4)).heap.size:=by have:=adx.1.size;simp[World.setCell];omega
         go_roundw
         case rel=>exact⟨j+1,_,n1-x,c1-x,D1.drop x,A4,mc+ql.length,c4,acc++ql,om,by go_num,rfl,HDr,HE3,HEg,⟨by have:=Hac.1;have:=Hql.1;rw[La];omega⟩,ahc,⟨hb5⟩,⟨hz5⟩,om⟩
         case measure=>simp[intOf];try omega
      ·have HRr:Kept (R=([],qe)):=⟨by
        have e3:=HE.1;rw[Ps0 hqe]at e3;have e4:=HE1.1;rw[←e3,Ps0 hqe]at e4;exact e4.symm⟩
       have hq:(qe !=0)=true:=by simp[hqe]
       clear hqe;go_wp2_with (go_at_call 125;refine(kY A1 x c1 w.heap.size (D1.take x) _ HT.1 Hzi.1 om HGi.1).mono ?_;rintro e w3 ⟨A2,n2,c2,rfl,hown,hb3⟩;rw[HQ.1]at hown⊢;obtain rfl:n2=ql.length:=aH.len hown;have aaL:=Al (aH.rd hown);have Hb3:=Al hb3;have PM:=Al (HCu.1.below hb3);have hc3:=PM.1.cell;have hf3:=PM.1.frozen k;rw[Hdn.1]at hc3;have hz3:S≤w3.heap.size:=Lt HSi.1 hb3.size;have ho3:=PM.1.own;clear hown hb3);go_ret2;exact ChP.bad HRr.1 ((YO.1.trans (Hb3.1.mono Hzi.1)))
     ·obtain rfl:j=n':=by omega
      clear hlt2 hj;have e1:=Hd1.1;have e2:=Hs1.1;rw[Hnl.1,Ei Aj]at e1 e2;rw[Cs.FD]at e1;rw[List.sum_nil,bO]at e2;have e3:=HE1.1;rw[←e1,Ng Ah]at e3;have E3:=Al e3;have E2:=Al (adu.1.trans e2);clear e1 e2 e3 hcap;have hgi:=jE (show g<S by have:=HS.1;omega) HSi.1;go_wp2;go_roundw
      case rel=>exact⟨k+1,A1,n1,c1,D1,done++[acc],om,by go_num,rfl,HD1,⟨by rw[La,Hdn.1];rfl⟩,E2,E3,⟨HCu.1.done⟩,YO,hgi,ag8⟩
      case measure=>simp[intOf];try omega
   ·obtain rfl:k=n:=by omega
    clear hlt hk;have e1:=HR.1;rw[HN.1,Ei Aj,Cs.IK]at e1;have E1:=Al e1;clear e1;go_wp2;go_ret2;obtain rfl:=E1.1;exact⟨_,_,_,rfl,Hrw.1.rd Hdn.1 (by unfold maxLen;omega),Hb.1,fun p hp=>by simp[ab]at hp;omega⟩
 ·have Hf2:Kept (Cs.fit (Cs.vD LN).flatten dn=false):=⟨by rw[Hf.1];simp[hfit]⟩
  rw[Ps0 (by rw[←HDL.1];omega)]at hR;have HR:=Al hR;clear hR Hf hfit;go_enter func74,ntmps74;go_wp2_with (go_at_call 124;refine(xK A n c w.heap.size (Cs.vD LN) dn w HV.1 Aj HL.1 om).mono ?_;rintro e w1 ⟨rfl,hb1⟩;rw[Hf2.1]);go_ret2;exact ChP.bad HR.1.symm hb1
end
section
open Go.RowKit Go.Shelf
open Go.Maps (Keyed)
open Go.WideMaps (keyOf_string_mk)
theorem mg {H P e} (he:P.underlying e=some .bool) {v} {z:DataW H×List MemPlace} (h:plainElem P e v=some z):∃x,v= .bool x∧z=(.lit (.bool x),[]):=by
 unfold plainElem at h;rw[he]at h;split at h
 ·cases h;exact⟨_,rfl,rfl⟩
 ·rename_i h1;cases h1
 ·rename_i h1;cases h1
 ·cases h
theorem fH {H P} (w) {ops rest o a Q}
  (hg:o.guard=none) (m x t) (hop:o.op=Op.lookup t m x false)
  (k e) (K:Keyed P k) (ht:P.underlying t=some (.map k e)) (he:P.underlying e=some .bool) (hz:(zeroValue e).run P w= .ok (.bool false) w) (b n) (D:DataW H)
  (hm:a.eval m= .map (some b)) (hown:w.ownsMap P k (plainElem P e) b n D) (key kl) (hx:a.eval x=key) (hkey:keyOf P k key=some kl) (c) (hc:D.atKey kl (.lit (.bool false))= .lit (.bool c))
  (hK:wpList P ops Q rest (a.put o.dst (.bool c)) w):
  wpList P ops Q (o::rest) a w:=by
 refine wpList_plain hg fun K' hK'=>?_
 obtain⟨v,ps,hrun,hv⟩:=hown.lookup K ht hz (plainElem_bool he false) hkey;obtain⟨c',rfl,hv'⟩:=mg he hv;have:c'=c:=by
  simp only[aA]at hv';rw[hc]at hv';have:=hv'.1
  injection this with this
  injection this with this
  exact this.symm
 subst this;unfold Oper.wp;simp[execOp,hop,hm,hx,hrun,Result.andThen];exact hK' _ _ hK
namespace Us
def ky (s:ByteArray):Lit:= .string s.data.toList
def D (ss:List ByteArray):DataW Unit:=ss.foldl (fun D s=>D.put (ky s) (.lit (.bool true))) (.map [])
theorem TZ (ss s):D (ss++[s])=(D ss).put (ky s) (.lit (.bool true)):=by unfold D;rw[List.foldl_append];rfl
theorem aaM {a b} (h:ky a=ky b):a=b:=by
 unfold ky at h
 injection h with h
 exact ByteArray.ext (Array.toList_inj.1 h)
theorem ady (ss):Go.Maps.IsMap (D ss):=by
 unfold D;have key:∀(ss:List ByteArray) (d:DataW Unit),Go.Maps.IsMap d→Go.Maps.IsMap (ss.foldl (fun D s=>D.put (ky s) (.lit (.bool true))) d):=fun ss=>by
  induction ss with
  |nil=>intro d h;exact h
  |cons s ss ih=>intro d h;exact ih _ (h.put _ _)
 exact key ss _ ⟨[],rfl⟩
theorem ahd (ss s):(D ss).atKey (ky s) (.lit (.bool false))= .lit (.bool (ss.any fun t=>decide (t=s))):=by
 have key:∀(n:Nat) (ss:List ByteArray),ss.length=n→(D ss).atKey (ky s) (.lit (.bool false))= .lit (.bool (ss.any fun t=>decide (t=s))):=fun n=>by
  induction n with
  |zero=>
   intro ss h;obtain rfl:=qU h
   rfl
  |succ n ih=>
   intro ss h;rcases List.eq_nil_or_concat ss with h0|⟨l,x,rfl⟩
   ·rw[h0]at h;cases h
   rw[DV]at h⊢;rw[TZ];by_cases e:s=x
   ·subst e;rw[Go.Maps.atKey_put_same (ady l) (by trivial)];simp
   ·rw[Go.Maps.atKey_put_other (fun h=>e (aaM h)),ih l (by simp at h;exact h)];rw[List.any_append];simp[show¬x=s from fun h=>e h.symm]
 exact key ss.length ss rfl
def pre (rs:List jL) (k:Nat):List ByteArray:=(rs.take k).flatMap fun r=>Lb.strs r.1
theorem iA (rs k) (h:k<rs.length):pre rs (k+1)=pre rs k++Lb.strs rs[k].1:=by
 unfold pre;rw[Ts h,nH];simp
theorem nJ (rs k):(pre rs k).length≤(rs.flatMap fun r=>Lb.strs r.1).length:=by
 have h:(rs.flatMap fun r=>Lb.strs r.1)=pre rs k++((rs.drop k).flatMap fun r=>Lb.strs r.1):=by
  unfold pre;rw[←nH,je]
 rw[h,La];omega
end Us
theorem aaN:Keyed prog 9:=Go.Maps.string_keyed underlying9
theorem Ij (w):(zeroValue 4).run prog w= .ok (.bool false) w:=kr
def ahe (w:World) (T:List ByteArray) (rs:List jL) (e:Ending) (w':World):Prop:=
 Below w.heap.size w w'∧((Bk.used T rs=true∧e= .returned (.int .i64 (-1)))∨(Bk.used T rs=false∧∃k:Nat,e= .returned (.int .i64 (k:Int))))
theorem uW (TA A tn tc n c B T rs w) (hT:bM w B TA tn tc T) (hv:vC w B A n c rs) (hB:B≤w.heap.size) (hm:(rs.flatMap fun r=>Lb.strs r.1).length≤1000000) (hf:∀s∈rs.flatMap fun r=>Lb.strs r.1,s.size≤maxLen) (hfT:∀s∈T,s.size≤maxLen):
  Calls prog 71 #[.slice TA tn tc,.slice A n c] w (ahe w T rs):=by
 obtain⟨hlc,hcm⟩:=hv.cap;unfold maxLen at hcm;have htc:=hT.1;have htm:=hT.2.1;unfold maxLen at htm;have V:=Al hv;have VT:=Al hT;have HN:=Al hv.len;have HTN:=Al hT.len;have HM:=Al hm;have HF:=Al hf;have HFT:=Al hfT;clear hv hT hm hf hfT;have hmm:= @run_makeMap prog;go_enter func71,ntmps71;go_wp2;go_loopw [15] (fun i wr=>∃k:Nat,k≤n∧i= .int .i64 k∧wr.ownsMap prog 9 (plainElem prog 4) w.heap.size (Us.pre rs k).length (Us.D (Us.pre rs k))∧Below w.heap.size w wr) (fun i _=>n-(intOf i).toNat)
 case atStart=>exact⟨0,om,rfl,World.ownsMap_made _ _ _ _,(Ae _ _).alloc Aj _⟩
 case round=>
  obtain⟨k,hk,rfl,hm,hb⟩:=hrel;by_cases hlt:k<n
  ·have hkl:k<rs.length:=by rw[←HN.1];exact hlt
   obtain⟨b,off,A3,n3,c3,A4,n4,c4,rfl,hL,hC,hc⟩:=V.1.cells hB hkl;obtain⟨r0,r1⟩:=hc wr hb;have hps:=Al (Us.iA rs k hkl);have hpl:=Us.nJ rs (k+1);have hln:(Lb.strs rs[k].1).length≤1000000:=by have:=HM.1;rw[hps.1,La]at hpl;omega
   have hsl:=Lb.aV rs[k].1;have h3l:=hL.len;have hc3:=hL.1;have Jy:=hL.2.1;unfold maxLen at Jy;have HL:=Al hL;have BK:=Al hb;have MP:=Al hm;have HLN:=Al hln;have rD:n3≤1000000:=om;have hsz:Kept (∀s∈Lb.strs rs[k].1,s.size≤maxLen):=⟨fun s hs=>HF.1 s (l6.2 ⟨rs[k],dR hkl,hs⟩)⟩
   have HPL:=Al hpl;clear hL hC hc hb hm hpl hln hsl h3l;generalize rs[k].1=m at*;have W1:∀o,Below w.heap.size w (wr.alloc o):=fun o=>BK.1.alloc BK.1.size _
   go_upto_region 6 with(go_at_call 123;refine(jK A3 n3 c3 m _ ((HL.1.below ((W1 _).mono hB)).more (Lt hB (W1 _).size)) om).mono ?_;rintro e w3 ⟨A6,n6,c6,rfl,ho,hb⟩;have O3:=Al ho;have B3:=Al hb;clear ho hb)
   have rf:=BK.1.size;have M3:Kept (w3.ownsMap prog 9 (plainElem prog 4) w.heap.size (Us.pre rs k).length (Us.D (Us.pre rs k))):=⟨(MP.1.alloc _).kept (aD (row:=none) B3.1) Ah⟩
   have BB:=Al ((W1 _).trans (B3.1.mono (W1 _).size));have vN:=MP.1.lt;have H6:=Al O3.1.len;have h62:n6≤1000000:=by have:=H6.1;have:=HLN.1;omega
   have hbase:w.heap.size< (wr.alloc (.cells #[.slice A3 n3 c3,.slice A4 n4 c4] 146)).heap.size:=by simp;omega
   generalize (wr.alloc (.cells #[.slice A3 n3 c3,.slice A4 n4 c4] 146)).heap.size=Z at*;clear r0 r1 B3 MP W1 rf vN;go_loopw [23] (fun i wi=>∃j:Nat,j≤n6∧i= .int .i64 j∧wi.ownsMap prog 9 (plainElem prog 4) w.heap.size ((Us.pre rs k).length+j) (Us.D (Us.pre rs k++(Lb.strs m).take j))∧Below w.heap.size w wi∧aR wi Z A6 n6 c6 (Lb.strs m)) (fun i _=>n6-(intOf i).toNat)
   case atStart=>exact⟨0,om,rfl,by rw[Eg,Bh];exact M3.1,BB.1,O3.1⟩
   case round=>
    clear M3 BB O3;obtain⟨j,hj,rfl,hm,hb,ho⟩:=hrel;have keep:∀W,wr.grownBy W (some w.heap.size)→Below w.heap.size w W∧aR W Z A6 n6 c6 (Lb.strs m):=fun W hg=>⟨hb.grown hg hb.size (fun g e=>by cases e;exact Nr _),ag ho hg (by
     rcases hA:ab A6 with _|g'
     ·exact .inl rfl
     ·exact .inr fun e=>by have:=(ae ho g' hA).1;have:=Oj e;omega)⟩
    have KEEP:=Al keep;by_cases hlt2:j<n6
    ·have hjl:j< (Lb.strs m).length:=by rw[←H6.1];exact hlt2
     obtain⟨b4,ZF,rfl,-,z0⟩:=ho.rd.at_ hjl;have MP:=Al hm;have HT:=Al (Ts hjl);have hk1:=keyOf_string_mk (k:=9) (P:=prog) underlying9 (hsz.1 _ (dR hjl));have HK1:=Al hk1;have hcnt:(Us.pre rs k).length+j<1000000000:=by have h1:=Us.nJ rs k;have h2:=HM.1;omega
     have HCN:=Al hcnt;clear hb ho hm keep hk1 hcnt;generalize (Lb.strs m)[j]=s at*;go_wp2_with (at_mapUpdate;refine wpList_mapUpdate_own _ rfl _ _ _ 221 rfl 9 4 aaN underlying221 _ w.heap.size ((Us.pre rs k).length+j) _ rfl MP.1 (by have:=HCN.1;unfold maxLen;omega) _ _ _ rfl rfl HK1.1 _ [] (plainElem_bool underlying4 true) ?_;intro w1 hown1 hgrow1;have K1:=Al (KEEP.1 _ hgrow1);have M1:=Al hown1;clear hown1 hgrow1);go_roundw
     case rel=>exact⟨j+1,om,by go_num,by rw[HT.1,←Af,Us.TZ];exact M1.1,K1.1.1,K1.1.2⟩
     case measure=>simp[intOf];omega
    ·obtain⟨MP⟩:Nonempty (PLift (wr.ownsMap prog 9 (plainElem prog 4) w.heap.size (Us.pre rs (k+1)).length (Us.D (Us.pre rs (k+1))))):=⟨⟨by
      have e:j=(Lb.strs m).length:=by have:=H6.1;omega
      rw[e,List.take_length,←La,←hps.1]at hm;exact hm⟩⟩
     have B2:=Al hb;clear hb ho hm keep;go_wp2;go_roundw
     case rel=>exact⟨k+1,om,by go_num,MP.down,B2.1⟩
     case measure=>simp[intOf];omega
  ·have hpk:Us.pre rs k=rs.flatMap fun r=>Lb.strs r.1:=by unfold Us.pre;rw[jc (by have:=HN.1;omega)]
   rw[hpk]at hm;have HU:Kept (Bk.used T rs=T.all fun s=>(rs.flatMap fun r=>Lb.strs r.1).any fun t=>decide (t=s)):=⟨rfl⟩
   clear hpk;generalize (rs.flatMap fun r=>Lb.strs r.1)=ss at*;have MP:=Al hm;have B2:=Al hb;clear hb hm;go_upto_region 12 with fail;go_loopw [33] (fun i wi=>∃j:Nat,j≤tn∧i= .int .i64 j∧wi.ownsMap prog 9 (plainElem prog 4) w.heap.size ss.length (Us.D ss)∧Below w.heap.size w wi∧Kept (∀(q:Nat) (hq:q<T.length),q<j→(ss.any fun t=>decide (t=T[q]))=true)) (fun i _=>tn-(intOf i).toNat)
   case atStart=>exact⟨0,om,rfl,MP.1,B2.1,⟨fun q _ h=>om⟩⟩
   case round=>
    clear MP B2;obtain⟨j,hj,rfl,hm,hb,hd⟩:=hrel;by_cases hlt:j<tn
    ·have hjl:j<T.length:=by rw[←HTN.1];exact hlt
     obtain⟨b4,ZF,rfl,-,z0⟩:=(VT.1.below (hb.mono hB)).at_ hjl;have MP:=Al hm;have B2:=Al hb;have hk1:=keyOf_string_mk (k:=9) (P:=prog) underlying9 (HFT.1 _ (dR hjl));have HK1:=Al hk1;have HAT:=Al (Us.ahd ss T[j]);obtain⟨fb,Fx⟩:∃fb,fb=ss.any fun t=>decide (t=T[j]):=⟨_,rfl⟩
     rw[←Fx]at HAT;have HFB:=Al Fx;clear hb hm hk1 Fx;generalize hTj:T[j]=s at HAT HK1 z0;have HTJ:=Al hTj;clear hTj;cases fb with
     |true=>
      go_wp2_with (at_lookup;refine fH _ rfl _ _ 221 rfl 9 4 aaN underlying221 underlying4 (Ij _) w.heap.size ss.length _ rfl MP.1 _ _ rfl HK1.1 true HAT.1 ?_);go_roundw
      case rel=>
       refine⟨j+1,om,by go_num,MP.1,B2.1,⟨fun q hq hqj=>?_⟩⟩;by_cases e:q=j
       ·subst e;exact HFB.1.symm
       ·exact hd.1 q hq om
      case measure=>simp[intOf];omega
     |false=>
      go_wp2_with (at_lookup;refine fH _ rfl _ _ 221 rfl 9 4 aaN underlying221 underlying4 (Ij _) w.heap.size ss.length _ rfl MP.1 _ _ rfl HK1.1 false HAT.1 ?_);go_ret;refine⟨B2.1,.inr ⟨?_,j,rfl⟩⟩;rw[HU.1,List.all_eq_false];exact⟨T[j],dR hjl,by rw[←HFB.1];simp⟩
    ·have B2:=Al hb;have hall:Kept (Bk.used T rs=true):=⟨by
      rw[HU.1,Ef];intro s hs;obtain⟨q,hq,rfl⟩:=iC.1 hs;exact hd.1 q hq (by have:=HTN.1;omega)⟩
     clear hb hm;go_wp2;go_ret;exact⟨B2.1,.inl ⟨hall.1,rfl⟩⟩
end
section
open Go.RowKit Go.Shelf
structure Sx (w W:World) (As:Nat→Option Addr) (ns cs:Nat→Nat) (v:Value):Prop where
 aX:Below w.heap.size w W
 JZ:w.heap.size+3≤W.heap.size
 sec:∀i,i<4→W.cell? ⟨w.heap.size,i,none⟩=some (.slice (As i) (ns i) (cs i))
 out:W.heap[w.heap.size+1]? =some (.cells #[v] 24 (0,0))
 err:W.heap[w.heap.size+2]? =some (.cells #[.int .i64 0] 25 (0,0))
section
variable {w W W':World} {As:Nat→Option Addr} {ns cs:Nat→Nat} {v:Value}
theorem Sx.on (h:Sx w W As ns cs v) (hb:Below W.heap.size W W'):Sx w W' As ns cs v:=by
 have hz:=h.JZ;exact⟨h.aX.trans (hb.mono om),by have:=hb.size;omega,fun i hi=>(hb.cell (p:=⟨w.heap.size,i,none⟩) (by show w.heap.size<_;omega)).trans (h.sec i hi),(hb.block _ om).trans h.out,(hb.block _ om).trans h.err⟩
theorem Sx.door (h:Sx w W As ns cs v) {f tmps R}
  (h2:tmps[2]?.getD undef= .pointer (some ⟨w.heap.size+1,0,none⟩)) (h3:tmps[3]?.getD undef= .pointer (some ⟨w.heap.size+2,0,none⟩))
  (hR:∀w',Below w.heap.size w w'→R (.returned (.tuple #[.slice none 0 0,.int .i64 f])) w'):
  bodyPostD prog Tryz.f35 R (Exit.panic [Fl f]) {tmps:=tmps,defers:=[{target:=Target.fn (Fn.func 65) #[.pointer (some ⟨w.heap.size+1,0,none⟩),.pointer (some ⟨w.heap.size+2,0,none⟩)],args:= #[]}]} W:=by
 refine leaves_cons (f:=65) (args:= #[.pointer (some ⟨w.heap.size+1,0,none⟩),.pointer (some ⟨w.heap.size+2,0,none⟩)]) Ah (by simp[go_sem]) ?_;refine(Pb f (w.heap.size+1) (w.heap.size+2) w.heap.size v (.int .i64 0) [] W om om om (Co _ _ 0 _ _ _ h.out) (Co _ _ 0 _ _ _ h.err) (Fr _ _ 0 _ _ h.out) (Fr _ _ 0 _ _ h.err)).mono ?_;rintro e u' w'' ⟨rfl,rfl,hb,hc1,hc2⟩;have:=hR w'' (h.aX.trans hb);simp[Leaves,settle,results,Tryz.results35,go_sem,h2,h3,hc1,hc2];exact this
end
end
section
open Go.RowKit Go.Shelf
namespace Rc
theorem T9 {α:Type} (f:α→List UInt8) (hf:∀x,0< (f x).length) (l:List α):l.length≤(l.flatMap f).length:=by
 induction l with
 |nil=>simp
 |cons x l ih=>rw[Av,La,Lc];have:=hf x;omega
theorem Xq (T r):1+r.1.length≤(jy T r).length∧(Lb.strs r.1).length≤(jy T r).length∧r.2.length≤(jy T r).length:=by
 have h1:=T9 (dP T) (fun s=>Vi.cK _) (Lb.strs r.1);have h2:=T9 Yo (fun n=>Vi.cK _) r.2;have h3:(Lb.strs r.1).length=2*r.1.length:=Lb.aV _;have h4:=Vi.cK r.1.length;have h5:=Vi.cK r.2.length;unfold jy;simp only[La];omega
theorem Xr (T rs):Ps.wt (rs.map (·.1))≤(aM T rs).length∧(rs.flatMap fun r=>Lb.strs r.1).length≤(aM T rs).length∧Ls.tot (rs.map (·.2))≤(aM T rs).length∧rs.length≤(aM T rs).length:=by
 have key:Ps.wt (rs.map (·.1))≤(rs.flatMap (jy T)).length∧(rs.flatMap fun r=>Lb.strs r.1).length≤(rs.flatMap (jy T)).length∧Ls.tot (rs.map (·.2))≤(rs.flatMap (jy T)).length∧rs.length≤(rs.flatMap (jy T)).length:=by
  induction rs with
  |nil=>simp[Ps.wt,Ls.tot]
  |cons r rs ih=>
   obtain⟨i1,i2,i3,i4⟩:=ih;obtain⟨h1,h2,h3⟩:=Xq T r;have t1:Ps.wt ((r::rs).map (·.1))=1+r.1.length+Ps.wt (rs.map (·.1)):=by simp[Ps.wt]
   have t2:Ls.tot ((r::rs).map (·.2))=r.2.length+Ls.tot (rs.map (·.2)):=by simp[Ls.tot]
   rw[t1,t2,Av,Av,La,La,Lc];omega
 unfold aM;rw[La];omega
end Rc
structure Xt (T:List ByteArray) (rs:List jL):Prop where
 wt:Ps.wt (rs.map (·.1))≤1000000
 cnt:(rs.flatMap fun r=>Lb.strs r.1).length≤1000000
 tot:Ls.tot (rs.map (·.2))≤1000000
 len:rs.length≤1000000
 JZ:∀s∈rs.flatMap fun r=>Lb.strs r.1,s.size≤maxLen
 szT:∀s∈T,s.size≤maxLen
 fit:∀r∈rs,Lb.Fit r.1
 ofn:rs.map (·.2)=Cs.vD (rs.map Bk.ln)
theorem adA {D0 D1 T rs} (h0:D0.length≤1000000) (h1:D1.length≤1000000) (hT:Sy.dec D0=(T,0)) (hR:Rc.dec T D1=(rs,0)):Xt T rs:=by
 have hmx:1000000≤Rc.mx:=by unfold Rc.mx;omega
 obtain⟨s1,s2,s3,s4⟩:=Sy.pR hT;obtain⟨r1,r2,r3,r4⟩:=Rc.pR s1 om hR;have hre:Rc.err T rs=0:=by
  unfold Rc.enc at r1;by_cases q:Rc.err T rs=0
  ·exact q
  ·rw[Ng q]at r1;exact absurd (congrArg Prod.snd r1) q
 obtain⟨NG,q1,q2⟩:=Rc.Q7 (fun r hr=>⟨by have:=(r4 r hr).1;omega,by have:=(r4 r hr).2;omega⟩) hre;obtain⟨g1,g2,g3,g4⟩:=Rc.Xr T rs;rw[r2]at g1 g2 g3 g4;have vz:(65535:Nat)≤maxLen:=by unfold maxLen;omega
 have hmem:∀r∈rs,∀x∈r.1,x.n∈T∧x.v∈T:=by
  intro r hr x hx;rw[q1]at hr;obtain⟨p,hp,rfl⟩:=dV.1 hr;obtain⟨hn,hv⟩:=(q2 p hp).1.1.2 x hx;constructor
  ·cases hi:Sy.idx T x.n with
   |none=>rw[hi]at hn;cases hn
   |some k=>obtain⟨hk,e,_⟩:=Sy.jo hi;rw[←e];exact dR hk
  ·cases hi:Sy.idx T x.v with
   |none=>rw[hi]at hv;cases hv
   |some k=>obtain⟨hk,e,_⟩:=Sy.jo hi;rw[←e];exact dR hk
 have hfit:∀r∈rs,Lb.Fit r.1:=fun r hr x hx=>by
  obtain⟨a,b⟩:=hmem r hr x hx;exact⟨Lt (s4 _ a) vz,Lt (s4 _ b) vz⟩
 refine⟨om,om,om,om,fun s hs=>?_,fun s hs=>Lt (s4 s hs) vz,hfit,?_⟩
 ·obtain⟨r,hr,hs⟩:=l6.1 hs;unfold Lb.strs at hs;obtain⟨x,hx,hs⟩:=l6.1 hs;simp only[iW,List.not_mem_nil,or_false]at hs;rcases hs with rfl|rfl
  ·exact(hfit r hr x hx).1
  ·exact(hfit r hr x hx).2
 ·rw[q1];unfold Cs.vD;rw[BQ,BQ,BQ];refine Dy fun p _=>?_
  show p.2.map Int.ofNat=(Bk.ln (Rc.bY p)).map Int.ofNat;rw[Bk.RS]
end
section
open Go.RowKit Go.Shelf
theorem Rd.adB {w p v t} (h:w.heap[p]? =some (.cells #[v] t (0,0))):Rd w (p+1) 1 (some ⟨p,0,none⟩) 1 1 [v]:=
 ⟨Nr _,by unfold maxLen;omega,rfl,fun _=>⟨p,0,rfl,om,fun i u hu=>by
  match i,hu with
  |0,hu=>rw[Co _ _ _ _ _ _ h];simpa using hu⟩⟩
theorem xL {w ops o a K Q E} (hgd:o.guard=none) (s x t e)
  (ho:o.op= .call {callee:= .builtin .append,args:= #[s,x],argTypes:= #[t,t]}) (ht:prog.underlying t=some (.slice e))
  (hi:(prog.info? e).map (fun i=>(i.zero,i.size,i.bytes))=some (some (.slice none 0 0),1,24))
  (base A n c xs) (hs:a.eval s= .slice A n c) (hown:w.ownsRow base e 1 (.slice A n c) n xs)
  (v) (hxr:∃p,a.eval x= .slice (some ⟨p,0,none⟩) 1 1∧w.heap[p]? =some (.cells #[v] e (0,0))) (h1:v.oneCell'=true)
  (hlen:n≤10000000) (hbase:base≤w.heap.size)
  (h:∀A2 c2 w',w'.ownsRow base e 1 (.slice A2 (n+1) c2) (n+1) (xs++[v])→w.grownBy w' (ab A)→(ab A2=ab A∨ab A2=some w.heap.size)→K (a.put o.dst (.slice A2 (n+1) c2)) w'):
  if Region.wanted o (yielded ops a.tmps)=true then Oper.wp prog o a w K Q else E:=by
 have hw:Region.wanted o (yielded ops a.tmps)=true:=by simp[Region.wanted,hgd]
 rw[Ps0 hw];obtain⟨i0,hi0,hz0,hz1,hz2⟩:=AY hi;obtain⟨p,hx,hp⟩:=hxr;exact mG w s x t ho base e i0 (.slice none 0 0) 1 24 ht hi0 hz0 hz1 hz2 rfl Ai A n c xs hs hown (p+1) (some ⟨p,0,none⟩) 1 1 [v] hx (Rd.adB hp) (by simpa using h1) (by unfold maxLen;omega) om hbase h
theorem Rd.but {w w' B sz n c g A xs v t} (h:Rd w B sz A n c xs) (hB:B≤w.heap.size) (hg:w.heap[g]? =some (.cells #[v] t (0,0)))
  (hv:∀u∈xs,u≠v) (hgr:w.grownBy w' (some g)):Rd w' B sz A n c xs:=by
 obtain⟨h1,h2,h3,h4⟩:=h;refine⟨h1,h2,h3,fun hn=>?_⟩;obtain⟨b,off,e,hb,hc⟩:=h4 hn;refine⟨b,off,e,hb,fun i u hu=>?_⟩;have hci:=hc i u hu;have hne:some b≠some g:=fun e=>by
  obtain rfl:=Oj e;rw[Co _ _ _ _ _ _ hg]at hci;obtain⟨hi,hx⟩:=Ge.1 hci;refine hv u (List.mem_of_getElem? hu) ?_;rw[←hx];simp at hi;simp[hi]
 exact(AU (a:=⟨b,off+i,none⟩) (hgr.block b om hne)).trans hci
structure Lp (S:Nat) (w:World) (LA:Option Addr) (lc:Nat) (SA:Option Addr) (sc k:Nat) (hs:List (Value×Value)):Prop where
 o1:w.ownsRow S 62 1 (.slice LA k lc) k ((hs.take k).map (·.2))
 o2:w.ownsRow S 54 1 (.slice SA k sc) k ((hs.take k).map (·.1))
theorem Lp.nil (S w hs):Lp S w none 0 none 0 0 hs:=⟨Bb _ _ _ _,Bb _ _ _ _⟩
section
variable {S:Nat} {w w4:World} {LA SA L4:Option Addr} {lc sc k l4:Nat} {hs:List (Value×Value)}
theorem Lp.alloc (h:Lp S w LA lc SA sc k hs) (o):Lp S (w.alloc o) LA lc SA sc k hs:=⟨Oa h.o1 o,Oa h.o2 o⟩
theorem Lp.drew (h:Lp S w LA lc SA sc k hs):Lp S w.drew LA lc SA sc k hs:=⟨h.o1,h.o2⟩
theorem Lp.MF (h:Lp S w LA lc SA sc k hs) (hg:w.grownBy w4 (ab LA)):w4.ownsRow S 54 1 (.slice SA k sc) k ((hs.take k).map (·.1)):=
 ag h.o2 hg (eF h.o2 h.o1 Ai)
theorem MG {n m c d A B xs ys} (h1:w.ownsRow S 62 1 (.slice A n c) n xs) (h2:w.ownsRow S 54 1 (.slice B m d) m ys) (hg:w.grownBy w4 (ab B)):w4.ownsRow S 62 1 (.slice A n c) n xs:=
 ag h1 hg (eF h1 h2 Ai)
theorem Lp.ints {w5} {rs:List jL} (h:Lp S w LA lc SA sc k hs) (hk:k=rs.length) (hl:hs.length=rs.length)
  (h3:∀(i) (h:i<hs.length) (h':i<rs.length),∃A1 n1 c1 A2 n2 c2,hs[i]=(.slice A1 n1 c1,.slice A2 n2 c2)∧dH w5 S A1 n1 c1 rs[i].1∧jF w5 S A2 n2 c2 rs[i].2)
  (hb:Below S w5 w) (hS:S≤w.heap.size):qm w w.heap.size LA k lc (rs.map (·.2))∧l8 w w.heap.size SA k sc (rs.map (·.1)):=by
 have o1:=h.o1;have o2:=h.o2;rw[jc om]at o1 o2;refine⟨⟨_,Rd.bz o1,by simp[hl],fun i l hi=>?_⟩,⟨_,Rd.bz o2,by simp[hl],fun i l hi=>?_⟩⟩
 ·rw[Df]at hi;obtain⟨r,hr,rfl⟩:=DC.1 hi;obtain⟨hir,e⟩:=l5.1 hr;obtain⟨A1,n1,c1,A2,n2,c2,eh,_,q⟩:=h3 i om hir;rw[e]at q;exact⟨A2,n2,c2,by rw[Df,kC om,eh];rfl,(q.below hb).more hS⟩
 ·rw[Df]at hi;obtain⟨r,hr,rfl⟩:=DC.1 hi;obtain⟨hir,e⟩:=l5.1 hr;obtain⟨A1,n1,c1,A2,n2,c2,eh,q,_⟩:=h3 i om hir;rw[e]at q;exact⟨A1,n1,c1,by rw[Df,kC om,eh];rfl,(q.below hb).more hS⟩
end
end
section
open Go.RowKit Go.Shelf
theorem xM {w ops o a K Q E} (hgd:o.guard=none) (s x)
  (ho:o.op= .call {callee:= .builtin .append,args:= #[s,x],argTypes:= #[24,24]})
  (base A n c xs) (hs:a.eval s= .slice A n c) (hown:w.ownsRow base 57 2 (.slice A n c) n xs)
  (u v) (hxr:∃p,a.eval x= .slice (some ⟨p,0,none⟩) 1 1∧w.heap[p]? =some (.cells #[u,v] 57 (0,0))) (h1:u.oneCell'=true) (h2:v.oneCell'=true)
  (hlen:n≤10000000) (hbase:base≤w.heap.size)
  (h:∀A2 c2 w',w'.ownsRow base 57 2 (.slice A2 (n+1) c2) (n+1) (xs++[u,v])→w.grownBy w' (ab A)→(ab A2=ab A∨ab A2=some w.heap.size)→K (a.put o.dst (.slice A2 (n+1) c2)) w'):
  if Region.wanted o (yielded ops a.tmps)=true then Oper.wp prog o a w K Q else E:=by
 have hw:Region.wanted o (yielded ops a.tmps)=true:=by simp[Region.wanted,hgd]
 rw[Ps0 hw];obtain⟨i0,hi0,hz0,hz1,hz2⟩:=AY FF;obtain⟨p,hx,hp⟩:=hxr;have hr:Rd w (p+1) 2 (some ⟨p,0,none⟩) 1 1 [u,v]:=⟨Nr _,by unfold maxLen;omega,rfl,fun _=>⟨p,0,rfl,om,fun i y hy=>by
  rw[bO,Co _ _ _ _ _ _ hp];simpa using hy⟩⟩
 exact mG w s x _ ho base 57 i0 (.agg #[.slice none 0 0,.slice none 0 0]) 2 48 underlying24 hi0 hz0 hz1 hz2 rfl Ai A n c xs hs hown (p+1) (some ⟨p,0,none⟩) 1 1 [u,v] hx hr (by intro y hy;simp at hy;rcases hy with rfl|rfl<;>assumption) (by unfold maxLen;omega) om hbase h
structure L2 (w6 wr:World) (g:Nat) (BA:Option Addr) (bc k:Nat) (ps:List (Value×Value)):Prop where
 own:wr.ownsRow w6.heap.size 57 2 (.slice BA k bc) k (ax (ps.take k))
 gr:w6.grownBy wr (some g)
 var:wr.heap[g]? =some (.cells #[.slice BA k bc] 24 (0,0))
theorem L2.start {w6 g ps} (h:w6.heap[g]? =some (.cells #[.slice none 0 0] 24 (0,0))):L2 w6 w6 g none 0 0 ps:=
 ⟨Bb _ _ _ _,⟨rfl,rfl,rfl,Nr _,fun _ _ _=>rfl⟩,h⟩
theorem L2.push {w6 wr w8 W:World} {g bc k c4 BA B4 ps u v} (h:L2 w6 wr g BA bc k ps) (hg:g<w6.heap.size) (hk:k<ps.length) (hps:ps[k]=(u,v))
  (hW:∀i,i<wr.heap.size→W.heap[i]? =wr.heap[i]?) (hWz:wr.heap.size≤W.heap.size) (hWo:W.os=wr.os) (hWt:W.tape=wr.tape) (hWp:W.output=wr.output)
  (hgr:W.grownBy w8 (ab BA)) (ho:w8.ownsRow w6.heap.size 57 2 (.slice B4 (k+1) c4) (k+1) (ax (ps.take k)++[u,v])):
  L2 w6 (w8.setCell ⟨g,0,none⟩ (.slice B4 (k+1) c4)) g B4 c4 (k+1) ps∧w8.cell? ⟨g,0,none⟩=some (.slice BA k bc)∧w8.frozen? ⟨g,0,none⟩=false:=by
 have hgw:g<wr.heap.size:=jE hg h.gr.size;have hlt:=ae h.own;have hne:some g≠ab BA:=fun e=>by have:=(hlt g e.symm).1;omega
 have h8:=(hgr.block g om hne).trans ((hW g hgw).trans h.var);refine⟨⟨?_,⟨?_,?_,?_,?_,fun i hi hig=>?_⟩,?_⟩,Co _ _ 0 _ _ _ h8,Fr _ _ 0 _ _ h8⟩
 ·rw[Ts hk,hps,pE];exact aS ho (fun p hp e=>by have:=(ae ho p hp).1;omega)
 ·exact hgr.os.trans (hWo.trans h.gr.os)
 ·exact hgr.tape.trans (hWt.trans h.gr.tape)
 ·exact hgr.output.trans (hWp.trans h.gr.output)
 ·have h1:=h.gr.size;have h2:=hgr.size;show w6.heap.size≤(w8.setCell _ _).heap.size;simp[World.setCell];omega
 ·have ahg:i≠g:=fun e=>hig (by rw[e])
  rw[AQ _ _ _ _ ahg];have hiw:=h.gr.size;exact(hgr.block i om (fun e=>by have:=(hlt i e.symm).1;omega)).trans ((hW i om).trans (h.gr.block i hi hig))
 ·have:=Ag w8 g 0 #[.slice BA k bc] 24 (.slice B4 (k+1) c4) h8;simpa using this
theorem Rd.off {w w' B sz n c g A xs} (h:Rd w B sz A n c xs) (hB:B≤w.heap.size) (hA:∀p,ab A=some p→p≠g) (hgr:w.grownBy w' (some g)):Rd w' B sz A n c xs:=by
 obtain⟨h1,h2,h3,h4⟩:=h;refine⟨h1,h2,h3,fun hn=>?_⟩;obtain⟨b,off,e,hb,hc⟩:=h4 hn;refine⟨b,off,e,hb,fun i u hu=>?_⟩;exact(AU (a:=⟨b,off+i,none⟩) (hgr.block b om (fun q=>hA b (by rw[e];rfl) (Oj q)))).trans (hc i u hu)
theorem Ua (l A n c):∀u∈mQ l,u≠ .slice A n c:=by
 intro u hu e;subst e;unfold mQ at hu;simp[mi]at hu
theorem aaO (l A n c):∀u∈kD l,u≠ .slice A n c:=by
 intro u hu e;subst e;unfold kD at hu;simp[IJ]at hu
theorem L2.rd {w6 wr g bc k B BA ps rs} (h:L2 w6 wr g BA bc k ps) (hk:k=ps.length) (hl:ps.length=rs.length) (hB:B≤w6.heap.size)
  (hg:w6.heap[g]? =some (.cells #[.slice none 0 0] 24 (0,0)))
  (h3:∀(i) (h:i<ps.length) (h':i<rs.length),∃A1 n1 c1 A2 n2 c2,ps[i]=(.slice A1 n1 c1,.slice A2 n2 c2)∧dH w6 B A1 n1 c1 rs[i].1∧fO w6 B A2 n2 c2 rs[i].2):fK wr wr.heap.size BA k bc rs:=by
 have o:=h.own;rw[jc om]at o;have hz:=h.gr.size;refine⟨ps,Rd.bz o,hl,fun i a b=>?_⟩;obtain⟨A1,n1,c1,A2,n2,c2,e,p,q⟩:=h3 i a b;exact⟨A1,n1,c1,A2,n2,c2,e,dH.more (Rd.but p hB hg (Ua _ _ _ _) h.gr) om,fO.more (Rd.but q hB hg (aaO _ _ _ _) h.gr) om⟩
theorem uX {w:World} {g v t} (h:w.heap[g]? =some (.cells #[v] t (0,0))):w.setCell ⟨g,0,none⟩ v=w:=by
 have hh:(w.setCell ⟨g,0,none⟩ v).heap=w.heap:=by
  refine Array.ext_getElem? fun i=>?_
  by_cases hi:i=g
  ·subst hi;rw[Ag w i 0 #[v] t v h,h];simp
  ·exact AQ _ _ _ _ hi
 show{w with heap:=(w.setCell ⟨g,0,none⟩ v).heap}=w;rw[hh]
theorem Sx.home {w W As ns cs v} (h:Sx w W As ns cs v) {tmps R}
  (h2:tmps[2]?.getD undef= .pointer (some ⟨w.heap.size+1,0,none⟩)) (h3:tmps[3]?.getD undef= .pointer (some ⟨w.heap.size+2,0,none⟩)) (hR:R (.returned (.tuple #[v,.int .i64 0])) W):
  bodyPostD prog Tryz.f35 R Exit.ret {tmps:=tmps,defers:=[{target:=Target.fn (Fn.func 65) #[.pointer (some ⟨w.heap.size+1,0,none⟩),.pointer (some ⟨w.heap.size+2,0,none⟩)],args:= #[]}]} W:=by
 have hc1:=Co _ _ 0 _ _ _ h.out;have hc2:=Co _ _ 0 _ _ _ h.err;simp at hc1 hc2;refine leaves_cons (f:=65) (args:= #[.pointer (some ⟨w.heap.size+1,0,none⟩),.pointer (some ⟨w.heap.size+2,0,none⟩)]) Ah (by simp[go_sem]) ?_;refine(O0 ⟨w.heap.size+1,0,none⟩ ⟨w.heap.size+2,0,none⟩ _).mono ?_;rintro e u' w'' ⟨rfl,rfl,rfl⟩;simp[Leaves,settle,results,Tryz.results35,go_sem,h2,h3,hc1,hc2];exact hR
theorem aaP (l A n c):∀u∈oL l,u≠ .slice A n c:=by
 intro u hu e;subst e;unfold oL at hu;simp[sv]at hu
theorem L2.strs {w6 wr g bc k n c BA A ps T} (h:L2 w6 wr g BA bc k ps) (hg:w6.heap[g]? =some (.cells #[.slice none 0 0] 24 (0,0))) (hT:bM w6 w6.heap.size A n c T):bM wr wr.heap.size A n c T:=
 bM.more (Rd.but hT Aj hg (aaP _ _ _ _) h.gr) h.gr.size
theorem Sx.upd {w W W' As ns cs v BA bc k ps} (h:Sx w W As ns cs v) (hl:L2 W W' (w.heap.size+1) BA bc k ps):Sx w W' As ns cs (.slice BA k bc):=by
 have hz:=h.JZ;refine⟨h.aX.grown hl.gr h.aX.size (fun p hp=>by have:=Oj hp;omega),by have:=hl.gr.size;omega,fun i hi=>?_,hl.var,?_⟩
 ·exact(AU (a:=⟨w.heap.size,i,none⟩) (hl.gr.block w.heap.size om (fun e=>by have:=Oj e;omega))).trans (h.sec i hi)
 ·exact(hl.gr.block (w.heap.size+2) om (fun e=>by have:=Oj e;omega)).trans h.err
theorem Cs.MH:∀(LN) (acc) (d) (out),Cs.IK LN acc d=(out,0)→out.length=acc.length+LN.length
 |[],acc,d,out,h=>by
  simp only[Cs.IK,aA,BO]at h;rw[←h];simp
 |l::ls,acc,d,out,h=>by
  rw[Cs.IK]at h;split at h
  ·rename_i h1
   exact absurd (congrArg Prod.snd h) h1
  ·have:=Cs.MH ls _ _ _ h;rw[this];simp;omega
theorem Ck.Ub (l):l.length≤120*(Ck.jw l).length:=by
 by_cases h:l=[]
 ·subst h;simp
 ·have ih:=Ck.Ub (l.drop 120);rw[kz]at ih;rw[Ck.jP h,Lc];omega
termination_by l.length
decreasing_by
 have:=mH.2 h;rw[kz];omega
theorem aaQ (b:List Cs.fI):(b.map List.length).sum≤120*((b.map Cs.lens).flatten).length:=by
 induction b with
 |nil=>simp
 |cons x b ih=>
  have:=Ck.Ub x;have h2:(Cs.lens x).length=(Ck.jw x).length:=by unfold Cs.lens;simp
  rw[AJ,Bv,AJ,Cg,La,h2];omega
theorem aaR (l):Ls.tot l=l.flatten.length:=by
 induction l with
 |nil=>rfl
 |cons x l ih=>rw[show Ls.tot (x::l)=x.length+Ls.tot l by simp[Ls.tot],ih,Cg,La]
theorem Xu (LN):(Cs.vD LN).flatten.length=LN.flatten.length:=by
 rw[←Cs.TV LN,fM]
theorem MI:∀(m:List (List aU)) (ch),Bk.bu (m.zip ch)≤(ch.map List.length).sum
 |[],_=>by simp[Bk.bu]
 |_::_,[]=>by simp[Bk.bu]
 |y::m,x::ch=>by
  have:=MI m ch;have e:Bk.bu ((y::m).zip (x::ch))=x.length+Bk.bu (m.zip ch):=by simp[Bk.bu]
  rw[e,AJ,Bv];omega
theorem Uc {T rs d ch} (ho:Xt T rs) (h:Bk.oD rs d=(ch,0)):Bk.bu ((rs.map (·.1)).zip ch)≤1000000000000:=by
 unfold Bk.oD at h;split at h
 ·exact absurd (congrArg Prod.snd h) Ah
 ·rename_i hs
  obtain⟨b,e1,_,e3,_⟩:=Cs.QX _ [] _ ch (by simpa using hs) h;rw[AB]at e1;subst e1;have h1:=aaQ ch;rw[←e3,←Xu,←ho.ofn,←aaR]at h1;have h2:=ho.tot;have h3:=MI (rs.map (·.1)) ch;omega
theorem Ud {rs d ch} (h:Bk.oD rs d=(ch,0)):ch.length=rs.length:=by
 unfold Bk.oD at h;split at h
 ·exact absurd (congrArg Prod.snd h) Ah
 ·have:=Cs.MH _ _ _ _ h;simpa using this
end
end Go.Proofs.YtongopommlghgaaGreatDoor
