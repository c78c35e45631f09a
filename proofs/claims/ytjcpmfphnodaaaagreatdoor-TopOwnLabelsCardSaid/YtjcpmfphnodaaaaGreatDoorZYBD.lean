/- Part 30. -/
import Derived.Test.YtjcpmfphnodaaaaGreatDoorZYAR
namespace Go.Proofs.YtjcpmfphnodaaaaGreatDoor
set_option maxRecDepth 100000
set_option maxHeartbeats 0
open _root_.Go.Proofs.Tryz
section
section
open Go.RowKit
theorem ZZ (w a b):Quiet w ((w.drewN a).drewN b):=⟨a+b,by rw[World.drewN_drewN]⟩
theorem JP (A1 A2 n1 n2 c1 c2 l1 l2 w B1 B2) (h1:bM w B1 A1 n1 c1 l1) (h2:bM w B2 A2 n2 c2 l2):
  Calls prog 128 #[.slice A1 n1 c1,.slice A2 n2 c2] w fun e w'=>e= .returned (.bool (decide (l1=l2)))∧Quiet w w':=by
 have agk:=h1.1;have MU:=h2.1;have hcm1:=h1.2.1;have hcm2:=h2.2.1;have hn1:=Aj h1.len;have hn2:=Aj h2.len;have H1:=hide h1;have H2:=hide h2;unfold maxLen at hcm1 hcm2;clear h1 h2;by_cases hnn:n1=n2
 ·subst hnn;have ht:((n1:Int) !=(n1:Int))=false:=sm;go_enter func128,ntmps128;go_wp2;go_loopw [13] (fun i wr=>∃k:Nat,k≤n1∧i= .int .i64 k∧Kept (l1.take k=l2.take k)∧Quiet w wr) (fun i _=>n1-(intOf i).toNat)
  case atStart=>exact⟨0,om,rfl,⟨rfl⟩,⟨0,rfl⟩⟩
  case round=>
   obtain⟨k,hk,rfl,hs,nq1,rfl⟩:=hrel;by_cases hlt:k<n1
   ·have nN:k<l1.length:=by rw[←hn1.out];exact hlt
    have vM:k<l2.length:=by rw[←hn2.out];exact hlt
    obtain⟨b1,ru,rfl,hb1,hc1⟩:=H1.out.at_ nN;obtain⟨b2,qU,rfl,hb2,hc2⟩:=H2.out.at_ vM;obtain⟨x,hx⟩:∃x,x=l1[k]:=⟨_,rfl⟩
    obtain⟨y,hy⟩:∃y,y=l2[k]:=⟨_,rfl⟩
    rw[←hx]at hc1;rw[←hy]at hc2;have Hx:=Aj hx;have Hy:=Aj hy;clear hx hy;by_cases hxy:x=y
    ·have ht2:(x !=y)=false:=by simp[hxy]
     have hs2:Kept (l1.take (k+1)=l2.take (k+1)):=⟨by
      rw[Ts nN,Ts vM,hs.out,←Hx.out,←Hy.out,hxy]⟩
     clear hxy;go_wp2;go_quiet (fail);go_wp2;go_roundw
     case rel=>exact⟨k+1,om,by go_num,hs2,⟨_,rfl⟩⟩
     case measure=>simp[intOf];omega
    ·have ht2:(x !=y)=true:=by simp[hxy]
     have hf:Kept (decide (l1=l2)=false):=⟨by
      rw[Ed];intro e;subst e;exact hxy (Hx.out.trans Hy.out.symm)⟩
     clear hxy;go_wp2;go_quiet (fail);go_wp2;go_ret;exact⟨kN hf.out.symm,ZZ _ _ _⟩
   ·obtain rfl:k=n1:=by omega
    have hf:Kept (decide (l1=l2)=true):=⟨by
     rw[Em];have:=hs.out;rwa[iL (by rw[←hn1.out];omega),iL (by rw[←hn2.out];omega)]at this⟩
    go_wp2;go_ret;exact⟨kN hf.out.symm,⟨_,rfl⟩⟩
 ·have ht:((n1:Int) !=(n2:Int))=true:=by rw[bne_iff_ne];omega
  have hf:Kept (decide (l1=l2)=false):=⟨by
   rw[Ed];intro e;subst e;exact hnn (hn1.out.trans hn2.out.symm)⟩
  clear hnn;go_enter func128,ntmps128;go_wp2;go_ret;exact⟨kN hf.out.symm,⟨0,rfl⟩⟩
end
end
section
section
open Go.RowKit
theorem bM.zero (w B A) {m c} (hm:m=0) (hc:c≤maxLen):bM w B A m c []:=by subst hm;exact Rd.nil w B 1 c A hc
theorem oh {w:World} {base base' n c sz A xs e} (h:w.ownsRow base e sz (.slice A n c) n xs) (hb:base'≤base):w.ownsRow base' e sz (.slice A n c) n xs:=by
 refine⟨h.1,?_⟩;rcases h.2 with hn|⟨g,cap,cur,hv,h1,rest⟩
 ·exact .inl hn
 ·exact .inr ⟨g,cap,cur,hv,om,rest⟩
end
end
section
section
open Go.RowKit
def iO (w:World) (B:Nat) (A:Option Addr) (n c:Nat) (LL:List (List Int)):Prop:=
 ∃vs:List Value,Rd w B 1 A n c vs∧vs.length=LL.length∧∀(i:Nat) (l:List Int),LL[i]? =some l→∃A' n' c',vs[i]? =some (.slice A' n' c')∧bM w B A' n' c' l
section
variable {w w':World} {B n c:Nat} {A:Option Addr} {LL:List (List Int)}
theorem iO.more {B'} (h:iO w B A n c LL) (hB:B≤B'):iO w B' A n c LL:=by
 obtain⟨vs,h1,h2,h3⟩:=h;refine⟨vs,h1.more hB,h2,fun i l hl=>?_⟩;obtain⟨A',n',c',e,hr⟩:=h3 i l hl;exact⟨A',n',c',e,hr.more hB⟩
theorem iO.len (h:iO w B A n c LL):n=LL.length:=by
 obtain⟨vs,h1,h2,_⟩:=h;have:=h1.2.2.1;omega
theorem iO.cap (h:iO w B A n c LL):n≤c∧c≤maxLen:=by
 obtain⟨vs,h1,_⟩:=h;exact⟨h1.1,h1.2.1⟩
theorem iO.at_ {k} (h:iO w B A n c LL) (hk:k<LL.length):
  ∃b off A' n' c',A=some ⟨b,off,none⟩∧b<B∧w.cell? ⟨b,off+k,none⟩=some (.slice A' n' c')∧bM w B A' n' c' LL[k]:=by
 have hn:=h.len;obtain⟨vs,h1,h2,h3⟩:=h;obtain⟨b,off,u,e,hb,hu,hc⟩:=h1.at_ (k:=k) om;obtain⟨A',n',c',e',hr⟩:=h3 k LL[k] (kK hk);rw[hu]at e'
 injection e' with e'
 subst e';exact⟨b,off,A',n',c',e,hb,hc,hr⟩
theorem iO.drop (h:iO w B A n c LL) {k} (hk:k≤n):iO w B (if c=k then A else A.map (·.add k)) (n-k) (c-k) (LL.drop k):=by
 have hn:=h.len;obtain⟨vs,h1,h2,h3⟩:=h;have:=h1.drop hk;rw[C8]at this;refine⟨_,this,by simp[h2],fun i l hl=>?_⟩;rw[List.getElem?_drop]at hl;obtain⟨A',n',c',e',hr⟩:=h3 _ l hl;exact⟨A',n',c',by rw[List.getElem?_drop];exact e',hr⟩
end
def Ls.tot (LL:List (List Int)):Nat:=(LL.map List.length).sum
theorem Ls.il {LL:List (List Int)} {k} (h:k<LL.length):Ls.tot (LL.take (k+1))=Ls.tot (LL.take k)+LL[k].length:=by
 unfold Ls.tot;rw[Ts h,dW,Dx];simp
theorem Ls.gH (LL k):Ls.tot (LL.take k)≤Ls.tot LL:=by
 unfold Ls.tot
 conv=>rhs;rw[←jH k LL,dW,Dx]
 omega
end
end
section
section
open Go.RowKit
theorem uQ (A n c B l w) (hv:bM w B A n c l) (hB:B≤w.heap.size) (hl:n≤1000000):
  Calls prog 102 #[.slice A n c] w fun e w'=>∃A3 c3,e= .returned (.slice A3 n c3)∧ax w' w.heap.size A3 n c3 l∧Below w.heap.size w w':=by
 have hlc:=hv.1;have hcm:=hv.2.1;unfold maxLen at hcm;have Hv:=hide hv;have hn:=Aj hv.len;clear hv;have qT:∀(w:World) (a:Option Addr) (n c n' c':Nat),(binOp .eql 62 (.slice a n c) (.slice none n' c')).run prog w= .ok (.bool a.isNone) w:=fun w a n c n' c'=>Lib.run_eql_slice_nil w _ _ a n c n' c' underlying62
 cases A with
 |none=>
  have h0:n=0:=by
   rcases l5 n with h|h
   ·exact h
   ·obtain⟨b,off,e,_⟩:=Hv.out.2.2.2 h;cases e
  subst h0;obtain rfl:l=[]:=oG hn.out.symm;go_enter func102,ntmps102;go_wp2;go_ret;exact⟨none,0,rfl,ax.nil _ _,Ae _ _⟩
 |some a=>
  go_enter func102,ntmps102;go_wp2_with (at_builtin;refine bN rfl (.tmp 5) (.tmp 6) rfl w.heap.size _ _ _ [] rfl (ax.made w _ Ai) B _ _ _ l rfl (Rd.alloc Hv.out hB _) om sm ?_;intro A2 c2 w1 hown1 hgrow1 UA;have hb1:Below w.heap.size w w1:=((Ae _ w).alloc Ai _).grown hgrow1 sm (by simp[ab]));rw[Az,bZ]at hown1;go_ret;exact⟨A2,c2,rfl,hown1,hb1⟩
end
end
section
section
open Go.RowKit Go.Shelf
def Z5 (p:Int×Bool×Bool):Array Value:= #[.int .i64 p.1,.agg #[.bool p.2.1,.bool p.2.2]]
def Ol:Option Value→Nat
 |some (.slice _ n _)=>n
 |_=>0
structure uR (w:World) (B ba bb:Nat) (Aa Ab:Option Addr) (na nb ca cb:Nat) (a b:List Int):Prop where
 c1:w.cell? ⟨ba,0,none⟩=some (.slice Aa na ca)
 c2:w.cell? ⟨bb,0,none⟩=some (.slice Ab nb cb)
 f1:w.frozen? ⟨ba,0,none⟩=false
 f2:w.frozen? ⟨bb,0,none⟩=false
 r1:bM w B Aa na ca a
 r2:bM w B Ab nb cb b
def wI (B ba bb:Nat) (X Y:World):Prop:=Below B X Y∧Y.heap[ba]? =X.heap[ba]?∧Y.heap[bb]? =X.heap[bb]?
theorem wI.trans {B ba bb X Y Z} (h:wI B ba bb X Y) (k:wI B ba bb Y Z):wI B ba bb X Z:=⟨h.1.trans k.1,k.2.1.trans h.2.1,k.2.2.trans h.2.2⟩
theorem wI.grown {B ba bb M W W' row} (hM:M≤W.heap.size) (hB:B≤M) (ha:ba<M) (hb:bb<M) (g:W.grownBy W' row) (hr:∀r,row=some r→M≤r):wI B ba bb W W':=
 ⟨(Ae _ _).grown g om (fun r e=>by have:=hr r e;omega),g.block _ om (fun e=>by have:=hr _ e.symm;omega),g.block _ om (fun e=>by have:=hr _ e.symm;omega)⟩
theorem uR.kp {w w' B ba bb Aa Ab na nb ca cb a b} (h:uR w B ba bb Aa Ab na nb ca cb a b) (hb:wI B ba bb w w'):
  uR w' B ba bb Aa Ab na nb ca cb a b:=
 ⟨(AR hb.2.1).trans h.c1,(AR hb.2.2).trans h.c2,(World.frozen?_of_block hb.2.1).trans h.f1,(World.frozen?_of_block hb.2.2).trans h.f2,h.r1.below hb.1,h.r2.below hb.1⟩
structure Two (p q:Nat) (w w':World):Prop where
 os:w'.os=w.os
 tape:w'.tape=w.tape
 output:w'.output=w.output
 size:w.heap.size≤w'.heap.size
 block:∀k,k<w.heap.size→k≠p→k≠q→w'.heap[k]? =w.heap[k]?
theorem Two.of {p q w w'} (g:w.grownBy w' none):Two p q w w':=⟨g.os,g.tape,g.output,g.size,fun k hk _ _=>g.block k hk sm⟩
theorem Two.drewN {p q w w'} (g:Two p q w w') (n):Two p q w (w'.drewN n):=⟨g.os,g.tape,g.output,g.size,g.block⟩
theorem Two.set {p q w w'} (g:Two p q w w') (x v) (hx:x.block=p∨x.block=q∨w.heap.size≤x.block):Two p q w (w'.setCell x v):=
 ⟨g.os,g.tape,g.output,by have:=g.size;simpa using this,fun k hk h1 h2=>(AL w' x v k om).trans (g.block k hk h1 h2)⟩
theorem qp.two {β} {J:β→World→Prop} {p q} (hJ:qp (fun r=>r=p∨r=q) J) {s w w'} (h:J s w) (g:Two p q w w'):J s w':=by
 by_cases hq:q<w.heap.size
 ·have hq':q<w'.heap.size:=ku hq g.size;obtain⟨X,hX⟩:∃X,X=w.putObj q (w'.heap[q]):=⟨_,rfl⟩
  have g1:w.grownBy X (some q):=by rw[hX];exact Bd w q _
  refine hJ s X w' (some p) (hJ s w X (some q) h g1 (fun r e=>by cases e;exact .inr rfl)) ⟨?_,?_,?_,?_,?_⟩ (fun r e=>by cases e;exact .inl rfl)
  ·rw[g1.os,g.os]
  ·rw[g1.tape,g.tape]
  ·rw[g1.output,g.output]
  ·have:X.heap.size=w.heap.size:=by rw[hX];simp[World.putObj]
   rw[this];exact g.size
  ·intro k hk hkp;have hs:X.heap.size=w.heap.size:=by rw[hX];simp[World.putObj]
   rw[hs]at hk;by_cases hkq:k=q
   ·subst hkq;rw[hX,Eh hq];exact DR hq'
   ·rw[g.block k hk (fun e=>hkp (by rw[e])) hkq,hX,BN hkq]
 ·refine hJ s w w' (some p) h ⟨g.os,g.tape,g.output,g.size,fun k hk hkp=>g.block k hk (fun e=>hkp (by rw[e])) om⟩ (fun r e=>by cases e;exact .inl rfl)
section
variable {w1:World} {p o i k:Nat} {v u v0:Value}
theorem zC (hpo:p≠o) (hc:w1.cell? ⟨p,0,none⟩=some v0):(((w1.drewN k).setCell ⟨p,0,none⟩ v).setCell ⟨o,i,none⟩ u).cell? ⟨p,0,none⟩=some v:=by
 rw[AJ _ _ _ _ (fun e=>by injection e with e1;exact hpo e1.symm),World.cell?_setCell_same' _ _ _ (by show(w1.cell? _).isSome=true;rw[hc];rfl)]
theorem zD (hpo:p≠o) (hc:w1.cell? ⟨o,i,none⟩=some v0):(((w1.drewN k).setCell ⟨p,0,none⟩ v).setCell ⟨o,i,none⟩ u).cell? ⟨o,i,none⟩=some u:=by
 rw[World.cell?_setCell_same'];rw[AJ _ _ _ _ (fun e=>by injection e with e1;exact hpo e1)];show(w1.cell? _).isSome=true;rw[hc];rfl
theorem cK {q j} (h1:q≠p) (h2:q≠o∨j≠i):(((w1.drewN k).setCell ⟨p,0,none⟩ v).setCell ⟨o,i,none⟩ u).cell? ⟨q,j,none⟩=w1.cell? ⟨q,j,none⟩:=by
 rw[AJ _ _ _ _ (fun e=>by injection e with e1 e2;rcases h2 with h2|h2;exact h2 e1.symm;exact h2 e2.symm),AJ _ _ _ _ (fun e=>by injection e with e1;exact h1 e1.symm)]
 rfl
theorem aM {q j}:(((w1.drewN k).setCell ⟨p,0,none⟩ v).setCell ⟨o,i,none⟩ u).frozen? ⟨q,j,none⟩=w1.frozen? ⟨q,j,none⟩:=by
 rw[World.frozen?_setCell,World.frozen?_setCell];rfl
theorem gI {B A n c l} (h:bM w1 B A n c l) (hp:B≤p) (ho:B≤o):bM (((w1.drewN k).setCell ⟨p,0,none⟩ v).setCell ⟨o,i,none⟩ u) B A n c l:=
 ((h.drewN k).setCell (p:=⟨p,0,none⟩) hp v).setCell (p:=⟨o,i,none⟩) ho u
end
section
variable {w1:World} {p q o k:Nat} {v v' u u' a0 b0 c0 d0:Value}
theorem WQ (hpq:p≠q) (hpo:p≠o) (hp:w1.cell? ⟨p,0,none⟩=some a0):
  (((((w1.drewN k).setCell ⟨p,0,none⟩ v).setCell ⟨q,0,none⟩ v').setCell ⟨o,0,none⟩ u).setCell ⟨o,1,none⟩ u').cell? ⟨p,0,none⟩=some v:=by
 rw[AJ _ _ _ _ (fun e=>by injection e with e1;exact hpo e1.symm),AJ _ _ _ _ (fun e=>by injection e with e1;exact hpo e1.symm)];exact zC hpq hp
theorem WR (hpq:p≠q) (hqo:q≠o) (hq:w1.cell? ⟨q,0,none⟩=some a0):
  (((((w1.drewN k).setCell ⟨p,0,none⟩ v).setCell ⟨q,0,none⟩ v').setCell ⟨o,0,none⟩ u).setCell ⟨o,1,none⟩ u').cell? ⟨q,0,none⟩=some v':=by
 rw[AJ _ _ _ _ (fun e=>by injection e with e1;exact hqo e1.symm),AJ _ _ _ _ (fun e=>by injection e with e1;exact hqo e1.symm)];exact zD hpq hq
theorem Mk (hpo:o≠p) (hqo:o≠q) (h:w1.cell? ⟨o,0,none⟩=some a0):
  (((((w1.drewN k).setCell ⟨p,0,none⟩ v).setCell ⟨q,0,none⟩ v').setCell ⟨o,0,none⟩ u).setCell ⟨o,1,none⟩ u').cell? ⟨o,0,none⟩=some u:=by
 rw[AJ _ _ _ _ (fun e=>by injection e with _ e2;cases e2),World.cell?_setCell_same'];rw[cK hpo (.inl hqo),h];rfl
theorem Ml (hpo:o≠p) (hqo:o≠q) (h:w1.cell? ⟨o,1,none⟩=some a0):
  (((((w1.drewN k).setCell ⟨p,0,none⟩ v).setCell ⟨q,0,none⟩ v').setCell ⟨o,0,none⟩ u).setCell ⟨o,1,none⟩ u').cell? ⟨o,1,none⟩=some u':=by
 rw[World.cell?_setCell_same'];rw[AJ _ _ _ _ (fun e=>by injection e with _ e2;cases e2),cK hpo (.inl hqo),h];rfl
theorem eH {b j}:(((((w1.drewN k).setCell ⟨p,0,none⟩ v).setCell ⟨q,0,none⟩ v').setCell ⟨o,0,none⟩ u).setCell ⟨o,1,none⟩ u').frozen? ⟨b,j,none⟩=w1.frozen? ⟨b,j,none⟩:=by
 rw[World.frozen?_setCell,World.frozen?_setCell,aM]
theorem qO {B A n c l} (h:bM w1 B A n c l) (hp:B≤p) (hq:B≤q) (ho:B≤o):
  bM (((((w1.drewN k).setCell ⟨p,0,none⟩ v).setCell ⟨q,0,none⟩ v').setCell ⟨o,0,none⟩ u).setCell ⟨o,1,none⟩ u') B A n c l:=
 ((gI h hp hq).setCell (p:=⟨o,0,none⟩) ho u).setCell (p:=⟨o,1,none⟩) ho u'
end
theorem Ls.rW (x a b) (h:∀y∈b.head?,x<y):Ls.iK (x::a) b=(x,true,false)::Ls.iK a b:=by
 match b,h with
 |[],_=>rw[Ls.iK]
 |y::b,h=>rw[Ls.iK,Ps0 (h y rfl)]
theorem Ls.rX (y a b) (h:∀x∈a.head?,y<x):Ls.iK a (y::b)=(y,false,true)::Ls.iK a b:=by
 match a,h with
 |[],_=>rw[Ls.iK]
 |x::a,h=>
  have:=h x rfl;rw[Ls.iK,Ng om,Ps0 this]
theorem Ls.oo (x a b):Ls.iK (x::a) (x::b)=(x,true,true)::Ls.iK a b:=by
 rw[Ls.iK,Ng om,Ng om]
theorem zF (n ba bb B N Aa Ab na nb ca cb a b w) (hw:uR w B ba bb Aa Ab na nb ca cb a b)
  (hab:ba≠bb) (hBa:B≤ba) (hBb:B≤bb) (haN:ba<N) (hbN:bb<N) (hl:na+nb≤2000000) (hN:N≤w.heap.size):
  Yields n prog 206 #[.pointer (some ⟨ba,0,none⟩),.pointer (some ⟨bb,0,none⟩)] Z5 (fun r=>r=ba∨r=bb) (wI B ba bb) (Ls.iK a b) w:=by
 intro l J Jx W hK hJ hJx aU h0;have hW:=hw.kp hK;have Xx:N≤W.heap.size:=Lt hN hK.1.size;have bJ:=hide aU;have hJ2:=hide hJ;clear hw hK hN aU hJ;refine Bj.2 ?_;go_enter func206,ntmps206;go_wp2;go_loopw [] (fun wr=>∃pre Aa Ab na nb ca cb a' b',uR wr B ba bb Aa Ab na nb ca cb a' b'∧na+nb≤2000000∧N≤wr.heap.size∧Kept (Ls.iK a b=pre++Ls.iK a' b')∧Kept (J pre wr)) (fun wr=>Ol (wr.cell? ⟨ba,0,none⟩)+Ol (wr.cell? ⟨bb,0,none⟩))
 case atStart=>exact⟨[],Aa,Ab,na,nb,ca,cb,a,b,hW,hl,Xx,⟨rfl⟩,⟨h0⟩⟩
 case round=>
  clear hW hl h0 Xx;obtain⟨pre,Aa,Ab,na,nb,ca,cb,a',b',hx,hl,hNr,hm,hj⟩:=hrel;obtain⟨hc1,hc2,hf1,hf2,hr1,hr2⟩:=hx;have agk:=hr1.1;have MU:=hr2.1;have hcm1:=hr1.2.1;have hcm2:=hr2.2.1;have hn1:=Aj hr1.len;have hn2:=Aj hr2.len;have Hr1:=hide hr1;have V8:=hide hr2;clear hr1 hr2;unfold maxLen at hcm1 hcm2;by_cases hz:na+nb=0
  ·obtain rfl:na=0:=by omega
   obtain rfl:nb=0:=om;obtain rfl:a'=[]:=oG hn1.out.symm;obtain rfl:b'=[]:=oG hn2.out.symm;go_wp2
   first|go_end0|go_ret
   have e:pre=Ls.iK a b:=by rw[hm.out,Ls.iK,Bg]
   exact⟨⟨_,rfl⟩,.inl (e▸hj.out)⟩
  ·go_upto_block 2 with fail;go_cut [5] (fun xv wx=>∃(p:Int×Bool×Bool) (Aa2 Ab2:Option Addr) (na2 nb2 ca2 cb2:Nat) (a2 b2:List Int),xv= .int .i64 p.1∧uR wx B ba bb Aa2 Ab2 na2 nb2 ca2 cb2 a2 b2∧na2+nb2<na+nb∧N≤wx.heap.size∧
    Kept (Ls.iK a' b'=p::Ls.iK a2 b2)∧Kept (J pre wx)∧wx.cell? ⟨wr.heap.size,0,none⟩=some (.bool p.2.1)∧wx.cell? ⟨wr.heap.size,1,none⟩=some (.bool p.2.2))
   case first=>
    clear bJ;have g1:wr.grownBy (wr.alloc (.cells #[.bool false,.bool false] 192)) none:=⟨rfl,rfl,rfl,sm,fun k hk _=>Aw _ _ _ hk⟩
    have hg:=Aj (Two.of (p:=ba) (q:=bb) g1);have d1:(wr.alloc (.cells #[.bool false,.bool false] 192)).cell? ⟨ba,0,none⟩=_:=(AB wr _ ⟨ba,0,none⟩ (by show ba<_;omega)).trans hc1;have d2:(wr.alloc (.cells #[.bool false,.bool false] 192)).cell? ⟨bb,0,none⟩=_:=(AB wr _ ⟨bb,0,none⟩ (by show bb<_;omega)).trans hc2;have e1:(wr.alloc (.cells #[.bool false,.bool false] 192)).frozen? ⟨ba,0,none⟩=_:=(World.frozen?_of_block (Aw wr _ ba om)).trans hf1;have e2:(wr.alloc (.cells #[.bool false,.bool false] 192)).frozen? ⟨bb,0,none⟩=_:=(World.frozen?_of_block (Aw wr _ bb om)).trans hf2;have o1:(wr.alloc (.cells #[.bool false,.bool false] 192)).heap[wr.heap.size]? =some (.cells #[.bool false,.bool false] 192 (0,0)):=Av wr _;have Om:=hide (Hr1.out.alloc om (.cells #[.bool false,.bool false] 192));have Oo:=hide (V8.out.alloc om (.cells #[.bool false,.bool false] 192));have o2:(wr.alloc (.cells #[.bool false,.bool false] 192)).cell? ⟨wr.heap.size,0,none⟩=some (.bool false):=Co _ _ _ _ _ _ o1;have o3:(wr.alloc (.cells #[.bool false,.bool false] 192)).cell? ⟨wr.heap.size,1,none⟩=some (.bool false):=Co _ _ _ _ _ _ o1;have o4:(wr.alloc (.cells #[.bool false,.bool false] 192)).frozen? ⟨wr.heap.size,0,none⟩=false:=Fr _ _ _ _ _ o1;have o5:(wr.alloc (.cells #[.bool false,.bool false] 192)).frozen? ⟨wr.heap.size,1,none⟩=false:=Fr _ _ _ _ _ o1;have hs1:Kept (N≤(wr.alloc (.cells #[.bool false,.bool false] 192)).heap.size):=⟨by simp;omega⟩
    have hne1:ba≠wr.heap.size:=om;have hne2:bb≠wr.heap.size:=om;have ry:wr.heap.size≠ba:=om;have rz:wr.heap.size≠bb:=om;have Oq:bb≠ba:=fun e=>hab e.symm
    clear o1 hc1 hc2 hf1 hf2 Hr1 V8 g1;generalize wr.alloc (.cells #[.bool false,.bool false] 192)=w1 at*;by_cases hnb:nb=0
    ·have hpos:(0:Int)< (na:Int):=by omega
     have hnb':((nb:Int)==0)=true:=by simp;omega
     obtain rfl:b'=[]:=oG (by have:=hn2.out;omega);obtain⟨x,a2,rfl⟩:∃x a2,a'=x::a2:=by
      match a',hn1.out with
      |x::a2,_=>exact⟨x,a2,rfl⟩
      |[],h=>simp at h;omega
     obtain⟨bA,oA,rfl,VF,Z6⟩:=Om.out.at_ (k:=0) sm;simp only[BH,Cr]at Z6;by_cases GI:ca=1
     ·obtain rfl:na=1:=by omega
      subst GI;obtain rfl:a2=[]:=by have:=hn1.out;simp at this;exact this
      have rA:=Aj (bM.zero w1 B (some ⟨bA,oA,none⟩) (m:=0) (c:=0) rfl (by unfold maxLen;omega));go_wp2_with fail;go_quiet (fail);go_wp2_with fail;go_region;go_wp2_with fail;go_meet;exact⟨(x,true,false),(some ⟨bA,oA,none⟩),_,0,_,0,_,[],_,rfl,⟨zC hne1 d1,(cK Oq (.inl hne2)).trans d2,aM.trans e1,aM.trans e2,gI rA.out hBa om,gI Oo.out hBa om⟩,om,by simpa using hs1.out,⟨Ls.rW _ _ _ (fun y hy=>by cases hy)⟩,
       ⟨hJ2.out.two hj.out (((hg.out.drewN _).set _ _ (.inl rfl)).set _ _ (.inr (.inr Ai)))⟩,zD hne1 o2,(cK ry (.inr Ah)).trans o3⟩
     ·have rA:=Om.out.drop (k:=1) om;rw[Ng GI]at rA;simp only[BZ,add_plain,AY,Bq]at rA;replace rA:=Aj rA;go_wp2_with fail;go_quiet (fail);go_wp2_with fail;go_region;go_wp2_with fail;go_meet;exact⟨(x,true,false),(some ⟨bA,oA+1,none⟩),_,(na-1),_,(ca-1),_,a2,_,rfl,⟨zC hne1 d1,(cK Oq (.inl hne2)).trans d2,aM.trans e1,aM.trans e2,gI rA.out hBa om,gI Oo.out hBa om⟩,om,by simpa using hs1.out,⟨Ls.rW _ _ _ (fun y hy=>by cases hy)⟩,
       ⟨hJ2.out.two hj.out (((hg.out.drewN _).set _ _ (.inl rfl)).set _ _ (.inr (.inr Ai)))⟩,zD hne1 o2,(cK ry (.inr Ah)).trans o3⟩
    ·have hnb':((nb:Int)==0)=false:=by simp;omega
     by_cases hna:na=0
     ·have hpos:(0:Int)< (nb:Int):=by omega
      have agq:((na:Int)==0)=true:=by simp;omega
      have agr:decide ((0:Int)< (na:Int))=false:=by simp;omega
      obtain rfl:a'=[]:=oG (by have:=hn1.out;omega);obtain⟨y,b2,rfl⟩:∃y b2,b'=y::b2:=by
       match b',hn2.out with
       |y::b2,_=>exact⟨y,b2,rfl⟩
       |[],h=>simp at h;omega
      obtain⟨bB,oB,rfl,jT,Z7⟩:=Oo.out.at_ (k:=0) sm;simp only[BH,Cr]at Z7;by_cases uS:cb=1
      ·obtain rfl:nb=1:=by omega
       subst uS;obtain rfl:b2=[]:=by have:=hn2.out;simp at this;exact this
       have mZ:=Aj (bM.zero w1 B (some ⟨bB,oB,none⟩) (m:=0) (c:=0) rfl (by unfold maxLen;omega));go_wp2_with fail;go_quiet (fail);go_wp2_with fail;go_quiet (fail);go_wp2_with fail;go_region;go_wp2_with fail;go_meet;exact⟨(y,false,true),_,(some ⟨bB,oB,none⟩),_,0,_,0,_,[],rfl,⟨(cK hab (.inl hne1)).trans d1,zC hne2 d2,aM.trans e1,aM.trans e2,gI Om.out hBb om,gI mZ.out hBb om⟩,om,by simpa using hs1.out,⟨Ls.rX _ _ _ (fun y hy=>by cases hy)⟩,
        ⟨hJ2.out.two hj.out (((hg.out.drewN _).set _ _ (.inr (.inl rfl))).set _ _ (.inr (.inr Ai)))⟩,(cK rz (.inr Ah)).trans o2,zD hne2 o3⟩
      ·have mZ:=Oo.out.drop (k:=1) om;rw[Ng uS]at mZ;simp only[BZ,add_plain,AY,Bq]at mZ;replace mZ:=Aj mZ;go_wp2_with fail;go_quiet (fail);go_wp2_with fail;go_quiet (fail);go_wp2_with fail;go_region;go_wp2_with fail;go_meet;exact⟨(y,false,true),_,(some ⟨bB,oB+1,none⟩),_,(nb-1),_,(cb-1),_,b2,rfl,⟨(cK hab (.inl hne1)).trans d1,zC hne2 d2,aM.trans e1,aM.trans e2,gI Om.out hBb om,gI mZ.out hBb om⟩,om,by simpa using hs1.out,⟨Ls.rX _ _ _ (fun y hy=>by cases hy)⟩,
        ⟨hJ2.out.two hj.out (((hg.out.drewN _).set _ _ (.inr (.inl rfl))).set _ _ (.inr (.inr Ai)))⟩,(cK rz (.inr Ah)).trans o2,zD hne2 o3⟩
     ·have hpos:(0:Int)< (nb:Int):=by omega
      have aiG:(0:Int)< (na:Int):=om;have agq:((na:Int)==0)=false:=by simp;omega
      have agr:decide ((0:Int)< (na:Int))=true:=by simp;omega
      have alv:decide (0<na)=true:=by simp;omega
      obtain⟨x,a2,rfl⟩:∃x a2,a'=x::a2:=by
       match a',hn1.out with
       |x::a2,_=>exact⟨x,a2,rfl⟩
       |[],h=>simp at h;omega
      obtain⟨bA,oA,rfl,VF,Z6⟩:=Om.out.at_ (k:=0) sm;simp only[BH,Cr]at Z6;obtain⟨y,b2,rfl⟩:∃y b2,b'=y::b2:=by
       match b',hn2.out with
       |y::b2,_=>exact⟨y,b2,rfl⟩
       |[],h=>simp at h;omega
      obtain⟨bB,oB,rfl,jT,Z7⟩:=Oo.out.at_ (k:=0) sm;simp only[BH,Cr]at Z7;by_cases hxy:x<y
      ·have hxy':decide (x<y)=true:=by simp;omega
       by_cases GI:ca=1
       ·obtain rfl:na=1:=by omega
        subst GI;obtain rfl:a2=[]:=by have:=hn1.out;simp at this;exact this
        have rA:=Aj (bM.zero w1 B (some ⟨bA,oA,none⟩) (m:=0) (c:=0) rfl (by unfold maxLen;omega));go_wp2_with fail;go_quiet (fail);go_wp2_with fail;go_region;go_wp2_with fail;go_meet;exact⟨(x,true,false),(some ⟨bA,oA,none⟩),_,0,_,0,_,[],_,rfl,⟨zC hne1 d1,(cK Oq (.inl hne2)).trans d2,aM.trans e1,aM.trans e2,gI rA.out hBa om,gI Oo.out hBa om⟩,om,by simpa using hs1.out,⟨Ls.rW _ _ _ (fun z hz=>by cases hz;exact hxy)⟩,
         ⟨hJ2.out.two hj.out (((hg.out.drewN _).set _ _ (.inl rfl)).set _ _ (.inr (.inr Ai)))⟩,zD hne1 o2,(cK ry (.inr Ah)).trans o3⟩
       ·have rA:=Om.out.drop (k:=1) om;rw[Ng GI]at rA;simp only[BZ,add_plain,AY,Bq]at rA;replace rA:=Aj rA;go_wp2_with fail;go_quiet (fail);go_wp2_with fail;go_region;go_wp2_with fail;go_meet;exact⟨(x,true,false),(some ⟨bA,oA+1,none⟩),_,(na-1),_,(ca-1),_,a2,_,rfl,⟨zC hne1 d1,(cK Oq (.inl hne2)).trans d2,aM.trans e1,aM.trans e2,gI rA.out hBa om,gI Oo.out hBa om⟩,om,by simpa using hs1.out,⟨Ls.rW _ _ _ (fun z hz=>by cases hz;exact hxy)⟩,
         ⟨hJ2.out.two hj.out (((hg.out.drewN _).set _ _ (.inl rfl)).set _ _ (.inr (.inr Ai)))⟩,zD hne1 o2,(cK ry (.inr Ah)).trans o3⟩
      ·by_cases hyx:y<x
       ·have hxy':decide (x<y)=false:=by simp;omega
        have ags:decide (y<x)=true:=by simp;omega
        by_cases uS:cb=1
        ·obtain rfl:nb=1:=by omega
         subst uS;obtain rfl:b2=[]:=by have:=hn2.out;simp at this;exact this
         have mZ:=Aj (bM.zero w1 B (some ⟨bB,oB,none⟩) (m:=0) (c:=0) rfl (by unfold maxLen;omega));go_wp2_with fail;go_quiet (fail);go_wp2_with fail;go_quiet (fail);go_wp2_with fail;go_region;go_wp2_with fail;go_meet;exact⟨(y,false,true),_,(some ⟨bB,oB,none⟩),_,0,_,0,_,[],rfl,⟨(cK hab (.inl hne1)).trans d1,zC hne2 d2,aM.trans e1,aM.trans e2,gI Om.out hBb om,gI mZ.out hBb om⟩,om,by simpa using hs1.out,⟨Ls.rX _ _ _ (fun z hz=>by cases hz;exact hyx)⟩,
          ⟨hJ2.out.two hj.out (((hg.out.drewN _).set _ _ (.inr (.inl rfl))).set _ _ (.inr (.inr Ai)))⟩,(cK rz (.inr Ah)).trans o2,zD hne2 o3⟩
        ·have mZ:=Oo.out.drop (k:=1) om;rw[Ng uS]at mZ;simp only[BZ,add_plain,AY,Bq]at mZ;replace mZ:=Aj mZ;go_wp2_with fail;go_quiet (fail);go_wp2_with fail;go_quiet (fail);go_wp2_with fail;go_region;go_wp2_with fail;go_meet;exact⟨(y,false,true),_,(some ⟨bB,oB+1,none⟩),_,(nb-1),_,(cb-1),_,b2,rfl,⟨(cK hab (.inl hne1)).trans d1,zC hne2 d2,aM.trans e1,aM.trans e2,gI Om.out hBb om,gI mZ.out hBb om⟩,om,by simpa using hs1.out,⟨Ls.rX _ _ _ (fun z hz=>by cases hz;exact hyx)⟩,
          ⟨hJ2.out.two hj.out (((hg.out.drewN _).set _ _ (.inr (.inl rfl))).set _ _ (.inr (.inr Ai)))⟩,(cK rz (.inr Ah)).trans o2,zD hne2 o3⟩
       ·have hxy':decide (x<y)=false:=by simp;omega
        have ags:decide (y<x)=false:=by simp;omega
        obtain rfl:x=y:=om;by_cases GI:ca=1
        ·obtain rfl:na=1:=by omega
         subst GI;obtain rfl:a2=[]:=by have:=hn1.out;simp at this;exact this
         have rA:=Aj (bM.zero w1 B (some ⟨bA,oA,none⟩) (m:=0) (c:=0) rfl (by unfold maxLen;omega));by_cases uS:cb=1
         ·obtain rfl:nb=1:=by omega
          subst uS;obtain rfl:b2=[]:=by have:=hn2.out;simp at this;exact this
          have mZ:=Aj (bM.zero w1 B (some ⟨bB,oB,none⟩) (m:=0) (c:=0) rfl (by unfold maxLen;omega));go_wp2_with fail;go_quiet (fail);go_wp2_with fail;go_quiet (fail);go_wp2_with fail;go_region;go_wp2_with fail;go_meet;exact⟨(x,true,true),(some ⟨bA,oA,none⟩),(some ⟨bB,oB,none⟩),0,0,0,0,[],[],rfl,⟨WQ hab hne1 d1,WR hab hne2 d2,eH.trans e1,eH.trans e2,qO rA.out hBa hBb om,qO mZ.out hBa hBb om⟩,om,by simpa using hs1.out,⟨Ls.oo _ _ _⟩,
           ⟨hJ2.out.two hj.out (((((hg.out.drewN _).set _ _ (.inl rfl)).set _ _ (.inr (.inl rfl))).set _ _ (.inr (.inr Ai))).set _ _ (.inr (.inr Ai)))⟩,Mk ry rz o2,Ml ry rz o3⟩
         ·have mZ:=Oo.out.drop (k:=1) om;rw[Ng uS]at mZ;simp only[BZ,add_plain,AY,Bq]at mZ;replace mZ:=Aj mZ;go_wp2_with fail;go_quiet (fail);go_wp2_with fail;go_quiet (fail);go_wp2_with fail;go_region;go_wp2_with fail;go_meet;exact⟨(x,true,true),(some ⟨bA,oA,none⟩),(some ⟨bB,oB+1,none⟩),0,(nb-1),0,(cb-1),[],b2,rfl,⟨WQ hab hne1 d1,WR hab hne2 d2,eH.trans e1,eH.trans e2,qO rA.out hBa hBb om,qO mZ.out hBa hBb om⟩,om,by simpa using hs1.out,⟨Ls.oo _ _ _⟩,
           ⟨hJ2.out.two hj.out (((((hg.out.drewN _).set _ _ (.inl rfl)).set _ _ (.inr (.inl rfl))).set _ _ (.inr (.inr Ai))).set _ _ (.inr (.inr Ai)))⟩,Mk ry rz o2,Ml ry rz o3⟩
        ·have rA:=Om.out.drop (k:=1) om;rw[Ng GI]at rA;simp only[BZ,add_plain,AY,Bq]at rA;replace rA:=Aj rA;by_cases uS:cb=1
         ·obtain rfl:nb=1:=by omega
          subst uS;obtain rfl:b2=[]:=by have:=hn2.out;simp at this;exact this
          have mZ:=Aj (bM.zero w1 B (some ⟨bB,oB,none⟩) (m:=0) (c:=0) rfl (by unfold maxLen;omega));go_wp2_with fail;go_quiet (fail);go_wp2_with fail;go_quiet (fail);go_wp2_with fail;go_region;go_wp2_with fail;go_meet;exact⟨(x,true,true),(some ⟨bA,oA+1,none⟩),(some ⟨bB,oB,none⟩),(na-1),0,(ca-1),0,a2,[],rfl,⟨WQ hab hne1 d1,WR hab hne2 d2,eH.trans e1,eH.trans e2,qO rA.out hBa hBb om,qO mZ.out hBa hBb om⟩,om,by simpa using hs1.out,⟨Ls.oo _ _ _⟩,
           ⟨hJ2.out.two hj.out (((((hg.out.drewN _).set _ _ (.inl rfl)).set _ _ (.inr (.inl rfl))).set _ _ (.inr (.inr Ai))).set _ _ (.inr (.inr Ai)))⟩,Mk ry rz o2,Ml ry rz o3⟩
         ·have mZ:=Oo.out.drop (k:=1) om;rw[Ng uS]at mZ;simp only[BZ,add_plain,AY,Bq]at mZ;replace mZ:=Aj mZ;go_wp2_with fail;go_quiet (fail);go_wp2_with fail;go_quiet (fail);go_wp2_with fail;go_region;go_wp2_with fail;go_meet;exact⟨(x,true,true),(some ⟨bA,oA+1,none⟩),(some ⟨bB,oB+1,none⟩),(na-1),(nb-1),(ca-1),(cb-1),a2,b2,rfl,⟨WQ hab hne1 d1,WR hab hne2 d2,eH.trans e1,eH.trans e2,qO rA.out hBa hBb om,qO mZ.out hBa hBb om⟩,om,by simpa using hs1.out,⟨Ls.oo _ _ _⟩,
           ⟨hJ2.out.two hj.out (((((hg.out.drewN _).set _ _ (.inl rfl)).set _ _ (.inr (.inl rfl))).set _ _ (.inr (.inr Ai))).set _ _ (.inr (.inr Ai)))⟩,Mk ry rz o2,Ml ry rz o3⟩
   case rest=>
    obtain⟨⟨x,f,s⟩,Aa2,Ab2,na2,nb2,ca2,cb2,a2,b2,rfl,hx2,hlt,hNx,hm2,hj2,alx,aly⟩:=hcut;have hpre:pre++[(x,f,s)]<+:Ls.iK a b:=⟨Ls.iK a2 b2,by rw[hm.out,hm2.out];simp⟩
    have Ff:Kept (Ls.iK a b=(pre++[(x,f,s)])++Ls.iK a2 b2):=⟨by rw[hm.out,hm2.out];simp⟩
    obtain⟨fn,tmps,assign,body,hy,ow⟩:=bJ.out pre (x,f,s) wc hj2.out hpre;have acW:Kept (Ol (wr.cell? ⟨ba,0,none⟩)+Ol (wr.cell? ⟨bb,0,none⟩)=na+nb):=⟨by rw[hc1,hc2];rfl⟩
    unfold Z5 at hy;have agt:=hide hpre;clear hc1 hc2 hf1 hf2 hpre
    rename_i a1
    refine a1 _ _ ?_;refine(Bu (n:=n)).1 ?_
    gi_wp2
    refine⟨(fun h=>by simp[Fence.wide]at h),ow.mono ?_⟩;rintro e W' (⟨rfl,hj',hb'⟩|⟨rfl,qQ⟩)
    ·have hx3:=hx2.kp hb';have hsz:=hb'.1.size;have hlen1:Kept (Ol (W'.cell? ⟨ba,0,none⟩)+Ol (W'.cell? ⟨bb,0,none⟩)=na2+nb2):=⟨by rw[hx3.c1,hx3.c2];rfl⟩
     gi_wp2
     go_roundw
     case rel=>exact⟨pre++[(x,f,s)],Aa2,Ab2,na2,nb2,ca2,cb2,a2,b2,hx3,om,om,Ff,⟨hj'⟩⟩
     case measure=>rw[acW.out,hlen1.out];exact hlt
    ·gi_wp2
     refine Bh (CJ rfl _ _ _) rfl ?_;exact⟨⟨_,rfl⟩,.inr ⟨_,agt.out,qQ⟩⟩
end
end
end Go.Proofs.YtjcpmfphnodaaaaGreatDoor
