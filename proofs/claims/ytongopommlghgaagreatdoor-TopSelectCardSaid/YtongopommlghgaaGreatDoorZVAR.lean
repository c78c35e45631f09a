/- Part 18. -/
import Derived.Test.YtongopommlghgaaGreatDoorZVAL
import Derived.Lib.AppendZerosOnto
namespace Go.Proofs.YtongopommlghgaaGreatDoor
set_option maxRecDepth 100000
set_option maxHeartbeats 0
open _root_.Go.Proofs.Tryz
section
section
open Go.RowKit
theorem aaU (w a b):Quiet w ((w.drewN a).drewN b):=⟨a+b,by rw[World.drewN_drewN]⟩
theorem Kt (A1 A2 n1 n2 c1 c2 l1 l2 w B1 B2) (h1:bQ w B1 A1 n1 c1 l1) (h2:bQ w B2 A2 n2 c2 l2):
  Calls prog 128 #[.slice A1 n1 c1,.slice A2 n2 c2] w fun e w'=>e= .returned (.bool (decide (l1=l2)))∧Quiet w w':=by
 have ahg:=h1.1;have NV:=h2.1;have hcm1:=h1.2.1;have hcm2:=h2.2.1;have hn1:=Aj h1.len;have hn2:=Aj h2.len;have H1:=hide h1;have H2:=hide h2;unfold maxLen at hcm1 hcm2;clear h1 h2;by_cases hnn:n1=n2
 ·subst hnn;have ht:((n1:Int) !=(n1:Int))=false:=sm;go_enter func128,ntmps128;go_wp2;go_loopw [13] (fun i wr=>∃k:Nat,k≤n1∧i= .int .i64 k∧Kept (l1.take k=l2.take k)∧Quiet w wr) (fun i _=>n1-(intOf i).toNat)
  case atStart=>exact⟨0,om,rfl,⟨rfl⟩,⟨0,rfl⟩⟩
  case round=>
   obtain⟨k,hk,rfl,hs,nq1,rfl⟩:=hrel;by_cases hlt:k<n1
   ·have nY:k<l1.length:=by rw[←hn1.out];exact hlt
    have vZ:k<l2.length:=by rw[←hn2.out];exact hlt
    obtain⟨b1,rG,rfl,hb1,hc1⟩:=H1.out.at_ nY;obtain⟨b2,sS,rfl,hb2,hc2⟩:=H2.out.at_ vZ;obtain⟨x,hx⟩:∃x,x=l1[k]:=⟨_,rfl⟩
    obtain⟨y,hy⟩:∃y,y=l2[k]:=⟨_,rfl⟩
    rw[←hx]at hc1;rw[←hy]at hc2;have Hx:=Aj hx;have Hy:=Aj hy;clear hx hy;by_cases hxy:x=y
    ·have ht2:(x !=y)=false:=by simp[hxy]
     have hs2:Kept (l1.take (k+1)=l2.take (k+1)):=⟨by
      rw[Ts nY,Ts vZ,hs.out,←Hx.out,←Hy.out,hxy]⟩
     clear hxy;go_wp2;go_quiet (fail);go_wp2;go_roundw
     case rel=>exact⟨k+1,om,by go_num,hs2,⟨_,rfl⟩⟩
     case measure=>simp[intOf];omega
    ·have ht2:(x !=y)=true:=by simp[hxy]
     have hf:Kept (decide (l1=l2)=false):=⟨by
      rw[Ee];intro e;subst e;exact hxy (Hx.out.trans Hy.out.symm)⟩
     clear hxy;go_wp2;go_quiet (fail);go_wp2;go_ret;exact⟨kQ hf.out.symm,aaU _ _ _⟩
   ·obtain rfl:k=n1:=by omega
    have hf:Kept (decide (l1=l2)=true):=⟨by
     rw[Er];have:=hs.out;rwa[iM (by rw[←hn1.out];omega),iM (by rw[←hn2.out];omega)]at this⟩
    go_wp2;go_ret;exact⟨kQ hf.out.symm,⟨_,rfl⟩⟩
 ·have ht:((n1:Int) !=(n2:Int))=true:=by rw[bne_iff_ne];omega
  have hf:Kept (decide (l1=l2)=false):=⟨by
   rw[Ee];intro e;subst e;exact hnn (hn1.out.trans hn2.out.symm)⟩
  clear hnn;go_enter func128,ntmps128;go_wp2;go_ret;exact⟨kQ hf.out.symm,⟨0,rfl⟩⟩
end
end
section
section
open Go.RowKit
theorem bQ.zero (w B A) {m c} (hm:m=0) (hc:c≤maxLen):bQ w B A m c []:=by subst hm;exact Rd.nil w B 1 c A hc
theorem oI {w:World} {base base' n c sz A xs e} (h:w.ownsRow base e sz (.slice A n c) n xs) (hb:base'≤base):w.ownsRow base' e sz (.slice A n c) n xs:=by
 refine⟨h.1,?_⟩;rcases h.2 with hn|⟨g,cap,cur,hv,h1,rest⟩
 ·exact .inl hn
 ·exact .inr ⟨g,cap,cur,hv,om,rest⟩
end
end
section
section
open Go.RowKit
def iR (w:World) (B:Nat) (A:Option Addr) (n c:Nat) (LL:List (List Int)):Prop:=
 ∃vs:List Value,Rd w B 1 A n c vs∧vs.length=LL.length∧∀(i:Nat) (l:List Int),LL[i]? =some l→∃A' n' c',vs[i]? =some (.slice A' n' c')∧bQ w B A' n' c' l
section
variable {w w':World} {B n c:Nat} {A:Option Addr} {LL:List (List Int)}
theorem iR.more {B'} (h:iR w B A n c LL) (hB:B≤B'):iR w B' A n c LL:=by
 obtain⟨vs,h1,h2,h3⟩:=h;refine⟨vs,h1.more hB,h2,fun i l hl=>?_⟩;obtain⟨A',n',c',e,hr⟩:=h3 i l hl;exact⟨A',n',c',e,hr.more hB⟩
theorem iR.len (h:iR w B A n c LL):n=LL.length:=by
 obtain⟨vs,h1,h2,_⟩:=h;have:=h1.2.2.1;omega
theorem iR.cap (h:iR w B A n c LL):n≤c∧c≤maxLen:=by
 obtain⟨vs,h1,_⟩:=h;exact⟨h1.1,h1.2.1⟩
theorem iR.at_ {k} (h:iR w B A n c LL) (hk:k<LL.length):
  ∃b off A' n' c',A=some ⟨b,off,none⟩∧b<B∧w.cell? ⟨b,off+k,none⟩=some (.slice A' n' c')∧bQ w B A' n' c' LL[k]:=by
 have hn:=h.len;obtain⟨vs,h1,h2,h3⟩:=h;obtain⟨b,off,u,e,hb,hu,hc⟩:=h1.at_ (k:=k) om;obtain⟨A',n',c',e',hr⟩:=h3 k LL[k] (ja hk);rw[hu]at e'
 injection e' with e'
 subst e';exact⟨b,off,A',n',c',e,hb,hc,hr⟩
theorem iR.drop (h:iR w B A n c LL) {k} (hk:k≤n):iR w B (if c=k then A else A.map (·.add k)) (n-k) (c-k) (LL.drop k):=by
 have hn:=h.len;obtain⟨vs,h1,h2,h3⟩:=h;have:=h1.drop hk;rw[C8]at this;refine⟨_,this,by simp[h2],fun i l hl=>?_⟩;rw[List.getElem?_drop]at hl;obtain⟨A',n',c',e',hr⟩:=h3 _ l hl;exact⟨A',n',c',by rw[List.getElem?_drop];exact e',hr⟩
end
def Ls.tot (LL:List (List Int)):Nat:=(LL.map List.length).sum
theorem Ls.iy {LL:List (List Int)} {k} (h:k<LL.length):Ls.tot (LL.take (k+1))=Ls.tot (LL.take k)+LL[k].length:=by
 unfold Ls.tot;rw[Ts h,dR,Dv];simp
theorem Ls.gN (LL k):Ls.tot (LL.take k)≤Ls.tot LL:=by
 unfold Ls.tot
 conv=>rhs;rw[←jJ k LL,dR,Dv]
 omega
end
end
section
section
open Go.RowKit
theorem vg (A n c B l w) (hv:bQ w B A n c l) (hB:B≤w.heap.size) (hl:n≤1000000):
  Calls prog 102 #[.slice A n c] w fun e w'=>∃A3 c3,e= .returned (.slice A3 n c3)∧ax w' w.heap.size A3 n c3 l∧Below w.heap.size w w':=by
 have hlc:=hv.1;have hcm:=hv.2.1;unfold maxLen at hcm;have Hv:=hide hv;have hn:=Aj hv.len;clear hv;have qT:∀(w:World) (a:Option Addr) (n c n' c':Nat),(binOp .eql 62 (.slice a n c) (.slice none n' c')).run prog w= .ok (.bool a.isNone) w:=fun w a n c n' c'=>Lib.run_eql_slice_nil w _ _ a n c n' c' underlying62
 cases A with
 |none=>
  have h0:n=0:=by
   rcases mM n with h|h
   ·exact h
   ·obtain⟨b,off,e,_⟩:=Hv.out.2.2.2 h;cases e
  subst h0;obtain rfl:l=[]:=nL hn.out.symm;go_enter func102,ntmps102;go_wp2;go_ret;exact⟨none,0,rfl,ax.nil _ _,Ae _ _⟩
 |some a=>
  go_enter func102,ntmps102;go_wp2_with (at_builtin;refine bT rfl (.tmp 5) (.tmp 6) rfl w.heap.size _ _ _ [] rfl (ax.made w _ Ai) B _ _ _ l rfl (Rd.alloc Hv.out hB _) om sm ?_;intro A2 c2 w1 hown1 hgrow1 Vu;have hb1:Below w.heap.size w w1:=((Ae _ w).alloc Ai _).grown hgrow1 sm (by simp[ab]));rw[AA,cK]at hown1;go_ret;exact⟨A2,c2,rfl,hown1,hb1⟩
end
end
section
section
open Go.RowKit Go.Shelf
def aaV (p:Int×Bool×Bool):Array Value:= #[.int .i64 p.1,.agg #[.bool p.2.1,.bool p.2.2]]
def Pw:Option Value→Nat
 |some (.slice _ n _)=>n
 |_=>0
structure vk (w:World) (B ba bb:Nat) (Aa Ab:Option Addr) (na nb ca cb:Nat) (a b:List Int):Prop where
 c1:w.cell? ⟨ba,0,none⟩=some (.slice Aa na ca)
 c2:w.cell? ⟨bb,0,none⟩=some (.slice Ab nb cb)
 f1:w.frozen? ⟨ba,0,none⟩=false
 f2:w.frozen? ⟨bb,0,none⟩=false
 r1:bQ w B Aa na ca a
 r2:bQ w B Ab nb cb b
def wV (B ba bb:Nat) (X Y:World):Prop:=Below B X Y∧Y.heap[ba]? =X.heap[ba]?∧Y.heap[bb]? =X.heap[bb]?
theorem wV.trans {B ba bb X Y Z} (h:wV B ba bb X Y) (k:wV B ba bb Y Z):wV B ba bb X Z:=⟨h.1.trans k.1,k.2.1.trans h.2.1,k.2.2.trans h.2.2⟩
theorem wV.grown {B ba bb M W W' row} (hM:M≤W.heap.size) (hB:B≤M) (ha:ba<M) (hb:bb<M) (g:W.grownBy W' row) (hr:∀r,row=some r→M≤r):wV B ba bb W W':=
 ⟨(Ae _ _).grown g om (fun r e=>by have:=hr r e;omega),g.block _ om (fun e=>by have:=hr _ e.symm;omega),g.block _ om (fun e=>by have:=hr _ e.symm;omega)⟩
theorem vk.kp {w w' B ba bb Aa Ab na nb ca cb a b} (h:vk w B ba bb Aa Ab na nb ca cb a b) (hb:wV B ba bb w w'):
  vk w' B ba bb Aa Ab na nb ca cb a b:=
 ⟨(AR hb.2.1).trans h.c1,(AR hb.2.2).trans h.c2,(World.frozen?_of_block hb.2.1).trans h.f1,(World.frozen?_of_block hb.2.2).trans h.f2,h.r1.below hb.1,h.r2.below hb.1⟩
structure Two (p q:Nat) (w w':World):Prop where
 os:w'.os=w.os
 tape:w'.tape=w.tape
 output:w'.output=w.output
 size:w.heap.size≤w'.heap.size
 block:∀k,k<w.heap.size→k≠p→k≠q→w'.heap[k]? =w.heap[k]?
theorem Two.of {p q w w'} (g:w.grownBy w' none):Two p q w w':=⟨g.os,g.tape,g.output,g.size,fun k hk _ _=>g.block k hk sm⟩
theorem Two.drewN {p q w w'} (g:Two p q w w') (n):Two p q w (w'.drewN n):=⟨g.os,g.tape,g.output,g.size,g.block⟩
theorem Two.set {p q w w'} (g:Two p q w w') (x v) (hx:x.block=p∨x.block=q∨w.heap.size≤x.block):Two p q w (w'.setCell x v):=
 ⟨g.os,g.tape,g.output,by have:=g.size;simpa using this,fun k hk h1 h2=>(AO w' x v k om).trans (g.block k hk h1 h2)⟩
theorem qC.two {β} {J:β→World→Prop} {p q} (hJ:qC (fun r=>r=p∨r=q) J) {s w w'} (h:J s w) (g:Two p q w w'):J s w':=by
 by_cases hq:q<w.heap.size
 ·have hq':q<w'.heap.size:=j6 hq g.size;obtain⟨X,hX⟩:∃X,X=w.putObj q (w'.heap[q]):=⟨_,rfl⟩
  have g1:w.grownBy X (some q):=by rw[hX];exact Bg w q _
  refine hJ s X w' (some p) (hJ s w X (some q) h g1 (fun r e=>by cases e;exact .inr rfl)) ⟨?_,?_,?_,?_,?_⟩ (fun r e=>by cases e;exact .inl rfl)
  ·rw[g1.os,g.os]
  ·rw[g1.tape,g.tape]
  ·rw[g1.output,g.output]
  ·have:X.heap.size=w.heap.size:=by rw[hX];simp[World.putObj]
   rw[this];exact g.size
  ·intro k hk hkp;have hs:X.heap.size=w.heap.size:=by rw[hX];simp[World.putObj]
   rw[hs]at hk;by_cases hkq:k=q
   ·subst hkq;rw[hX,Ei hq];exact DT hq'
   ·rw[g.block k hk (fun e=>hkp (by rw[e])) hkq,hX,BO hkq]
 ·refine hJ s w w' (some p) h ⟨g.os,g.tape,g.output,g.size,fun k hk hkp=>g.block k hk (fun e=>hkp (by rw[e])) om⟩ (fun r e=>by cases e;exact .inl rfl)
section
variable {w1:World} {p o i k:Nat} {v u v0:Value}
theorem zU (hpo:p≠o) (hc:w1.cell? ⟨p,0,none⟩=some v0):(((w1.drewN k).setCell ⟨p,0,none⟩ v).setCell ⟨o,i,none⟩ u).cell? ⟨p,0,none⟩=some v:=by
 rw[AJ _ _ _ _ (fun e=>by injection e with e1;exact hpo e1.symm),World.cell?_setCell_same' _ _ _ (by show(w1.cell? _).isSome=true;rw[hc];rfl)]
theorem zV (hpo:p≠o) (hc:w1.cell? ⟨o,i,none⟩=some v0):(((w1.drewN k).setCell ⟨p,0,none⟩ v).setCell ⟨o,i,none⟩ u).cell? ⟨o,i,none⟩=some u:=by
 rw[World.cell?_setCell_same'];rw[AJ _ _ _ _ (fun e=>by injection e with e1;exact hpo e1)];show(w1.cell? _).isSome=true;rw[hc];rfl
theorem df {q j} (h1:q≠p) (h2:q≠o∨j≠i):(((w1.drewN k).setCell ⟨p,0,none⟩ v).setCell ⟨o,i,none⟩ u).cell? ⟨q,j,none⟩=w1.cell? ⟨q,j,none⟩:=by
 rw[AJ _ _ _ _ (fun e=>by injection e with e1 e2;rcases h2 with h2|h2;exact h2 e1.symm;exact h2 e2.symm),AJ _ _ _ _ (fun e=>by injection e with e1;exact h1 e1.symm)]
 rfl
theorem aO {q j}:(((w1.drewN k).setCell ⟨p,0,none⟩ v).setCell ⟨o,i,none⟩ u).frozen? ⟨q,j,none⟩=w1.frozen? ⟨q,j,none⟩:=by
 rw[World.frozen?_setCell,World.frozen?_setCell];rfl
theorem gP {B A n c l} (h:bQ w1 B A n c l) (hp:B≤p) (ho:B≤o):bQ (((w1.drewN k).setCell ⟨p,0,none⟩ v).setCell ⟨o,i,none⟩ u) B A n c l:=
 ((h.drewN k).setCell (p:=⟨p,0,none⟩) hp v).setCell (p:=⟨o,i,none⟩) ho u
end
section
variable {w1:World} {p q o k:Nat} {v v' u u' a0 b0 c0 d0:Value}
theorem XL (hpq:p≠q) (hpo:p≠o) (hp:w1.cell? ⟨p,0,none⟩=some a0):
  (((((w1.drewN k).setCell ⟨p,0,none⟩ v).setCell ⟨q,0,none⟩ v').setCell ⟨o,0,none⟩ u).setCell ⟨o,1,none⟩ u').cell? ⟨p,0,none⟩=some v:=by
 rw[AJ _ _ _ _ (fun e=>by injection e with e1;exact hpo e1.symm),AJ _ _ _ _ (fun e=>by injection e with e1;exact hpo e1.symm)];exact zU hpq hp
theorem XM (hpq:p≠q) (hqo:q≠o) (hq:w1.cell? ⟨q,0,none⟩=some a0):
  (((((w1.drewN k).setCell ⟨p,0,none⟩ v).setCell ⟨q,0,none⟩ v').setCell ⟨o,0,none⟩ u).setCell ⟨o,1,none⟩ u').cell? ⟨q,0,none⟩=some v':=by
 rw[AJ _ _ _ _ (fun e=>by injection e with e1;exact hqo e1.symm),AJ _ _ _ _ (fun e=>by injection e with e1;exact hqo e1.symm)];exact zV hpq hq
theorem Nc (hpo:o≠p) (hqo:o≠q) (h:w1.cell? ⟨o,0,none⟩=some a0):
  (((((w1.drewN k).setCell ⟨p,0,none⟩ v).setCell ⟨q,0,none⟩ v').setCell ⟨o,0,none⟩ u).setCell ⟨o,1,none⟩ u').cell? ⟨o,0,none⟩=some u:=by
 rw[AJ _ _ _ _ (fun e=>by injection e with _ e2;cases e2),World.cell?_setCell_same'];rw[df hpo (.inl hqo),h];rfl
theorem Nf (hpo:o≠p) (hqo:o≠q) (h:w1.cell? ⟨o,1,none⟩=some a0):
  (((((w1.drewN k).setCell ⟨p,0,none⟩ v).setCell ⟨q,0,none⟩ v').setCell ⟨o,0,none⟩ u).setCell ⟨o,1,none⟩ u').cell? ⟨o,1,none⟩=some u':=by
 rw[World.cell?_setCell_same'];rw[AJ _ _ _ _ (fun e=>by injection e with _ e2;cases e2),df hpo (.inl hqo),h];rfl
theorem eZ {b j}:(((((w1.drewN k).setCell ⟨p,0,none⟩ v).setCell ⟨q,0,none⟩ v').setCell ⟨o,0,none⟩ u).setCell ⟨o,1,none⟩ u').frozen? ⟨b,j,none⟩=w1.frozen? ⟨b,j,none⟩:=by
 rw[World.frozen?_setCell,World.frozen?_setCell,aO]
theorem qY {B A n c l} (h:bQ w1 B A n c l) (hp:B≤p) (hq:B≤q) (ho:B≤o):
  bQ (((((w1.drewN k).setCell ⟨p,0,none⟩ v).setCell ⟨q,0,none⟩ v').setCell ⟨o,0,none⟩ u).setCell ⟨o,1,none⟩ u') B A n c l:=
 ((gP h hp hq).setCell (p:=⟨o,0,none⟩) ho u).setCell (p:=⟨o,1,none⟩) ho u'
end
theorem Ls.sI (x a b) (h:∀y∈b.head?,x<y):Ls.iN (x::a) b=(x,true,false)::Ls.iN a b:=by
 match b,h with
 |[],_=>rw[Ls.iN]
 |y::b,h=>rw[Ls.iN,Ps0 (h y rfl)]
theorem Ls.sJ (y a b) (h:∀x∈a.head?,y<x):Ls.iN a (y::b)=(y,false,true)::Ls.iN a b:=by
 match a,h with
 |[],_=>rw[Ls.iN]
 |x::a,h=>
  have:=h x rfl;rw[Ls.iN,Ng om,Ps0 this]
theorem Ls.oJ (x a b):Ls.iN (x::a) (x::b)=(x,true,true)::Ls.iN a b:=by
 rw[Ls.iN,Ng om,Ng om]
theorem zX (n ba bb B N Aa Ab na nb ca cb a b w) (hw:vk w B ba bb Aa Ab na nb ca cb a b)
  (hab:ba≠bb) (hBa:B≤ba) (hBb:B≤bb) (haN:ba<N) (hbN:bb<N) (hl:na+nb≤2000000) (hN:N≤w.heap.size):
  Yields n prog 206 #[.pointer (some ⟨ba,0,none⟩),.pointer (some ⟨bb,0,none⟩)] aaV (fun r=>r=ba∨r=bb) (wV B ba bb) (Ls.iN a b) w:=by
 intro l J Jx W hK hJ hJx aW h0;have hW:=hw.kp hK;have Yt:N≤W.heap.size:=Lt hN hK.1.size;have bL:=hide aW;have hJ2:=hide hJ;clear hw hK hN aW hJ;refine Bl.2 ?_;go_enter func206,ntmps206;go_wp2;go_loopw [] (fun wr=>∃pre Aa Ab na nb ca cb a' b',vk wr B ba bb Aa Ab na nb ca cb a' b'∧na+nb≤2000000∧N≤wr.heap.size∧Kept (Ls.iN a b=pre++Ls.iN a' b')∧Kept (J pre wr)) (fun wr=>Pw (wr.cell? ⟨ba,0,none⟩)+Pw (wr.cell? ⟨bb,0,none⟩))
 case atStart=>exact⟨[],Aa,Ab,na,nb,ca,cb,a,b,hW,hl,Yt,⟨rfl⟩,⟨h0⟩⟩
 case round=>
  clear hW hl h0 Yt;obtain⟨pre,Aa,Ab,na,nb,ca,cb,a',b',hx,hl,hNr,hm,hj⟩:=hrel;obtain⟨hc1,hc2,hf1,hf2,hr1,hr2⟩:=hx;have ahg:=hr1.1;have NV:=hr2.1;have hcm1:=hr1.2.1;have hcm2:=hr2.2.1;have hn1:=Aj hr1.len;have hn2:=Aj hr2.len;have Hr1:=hide hr1;have Xh:=hide hr2;clear hr1 hr2;unfold maxLen at hcm1 hcm2;by_cases hz:na+nb=0
  ·obtain rfl:na=0:=by omega
   obtain rfl:nb=0:=om;obtain rfl:a'=[]:=nL hn1.out.symm;obtain rfl:b'=[]:=nL hn2.out.symm;go_wp2
   first|go_end0|go_ret
   have e:pre=Ls.iN a b:=by rw[hm.out,Ls.iN,Bh]
   exact⟨⟨_,rfl⟩,.inl (e▸hj.out)⟩
  ·go_upto_block 2 with fail;go_cut [5] (fun xv wx=>∃(p:Int×Bool×Bool) (Aa2 Ab2:Option Addr) (na2 nb2 ca2 cb2:Nat) (a2 b2:List Int),xv= .int .i64 p.1∧vk wx B ba bb Aa2 Ab2 na2 nb2 ca2 cb2 a2 b2∧na2+nb2<na+nb∧N≤wx.heap.size∧
    Kept (Ls.iN a' b'=p::Ls.iN a2 b2)∧Kept (J pre wx)∧wx.cell? ⟨wr.heap.size,0,none⟩=some (.bool p.2.1)∧wx.cell? ⟨wr.heap.size,1,none⟩=some (.bool p.2.2))
   case first=>
    clear bL;have g1:wr.grownBy (wr.alloc (.cells #[.bool false,.bool false] 192)) none:=⟨rfl,rfl,rfl,sm,fun k hk _=>Aw _ _ _ hk⟩
    have hg:=Aj (Two.of (p:=ba) (q:=bb) g1);have d1:(wr.alloc (.cells #[.bool false,.bool false] 192)).cell? ⟨ba,0,none⟩=_:=(AB wr _ ⟨ba,0,none⟩ (by show ba<_;omega)).trans hc1;have d2:(wr.alloc (.cells #[.bool false,.bool false] 192)).cell? ⟨bb,0,none⟩=_:=(AB wr _ ⟨bb,0,none⟩ (by show bb<_;omega)).trans hc2;have e1:(wr.alloc (.cells #[.bool false,.bool false] 192)).frozen? ⟨ba,0,none⟩=_:=(World.frozen?_of_block (Aw wr _ ba om)).trans hf1;have e2:(wr.alloc (.cells #[.bool false,.bool false] 192)).frozen? ⟨bb,0,none⟩=_:=(World.frozen?_of_block (Aw wr _ bb om)).trans hf2;have o1:(wr.alloc (.cells #[.bool false,.bool false] 192)).heap[wr.heap.size]? =some (.cells #[.bool false,.bool false] 192 (0,0)):=Av wr _;have Px:=hide (Hr1.out.alloc om (.cells #[.bool false,.bool false] 192));have Py:=hide (Xh.out.alloc om (.cells #[.bool false,.bool false] 192));have o2:(wr.alloc (.cells #[.bool false,.bool false] 192)).cell? ⟨wr.heap.size,0,none⟩=some (.bool false):=Co _ _ _ _ _ _ o1;have o3:(wr.alloc (.cells #[.bool false,.bool false] 192)).cell? ⟨wr.heap.size,1,none⟩=some (.bool false):=Co _ _ _ _ _ _ o1;have o4:(wr.alloc (.cells #[.bool false,.bool false] 192)).frozen? ⟨wr.heap.size,0,none⟩=false:=Fr _ _ _ _ _ o1;have o5:(wr.alloc (.cells #[.bool false,.bool false] 192)).frozen? ⟨wr.heap.size,1,none⟩=false:=Fr _ _ _ _ _ o1;have hs1:Kept (N≤(wr.alloc (.cells #[.bool false,.bool false] 192)).heap.size):=⟨by simp;omega⟩
    have hne1:ba≠wr.heap.size:=om;have hne2:bb≠wr.heap.size:=om;have rH:wr.heap.size≠ba:=om;have rJ:wr.heap.size≠bb:=om;have Pz:bb≠ba:=fun e=>hab e.symm
    clear o1 hc1 hc2 hf1 hf2 Hr1 Xh g1;generalize wr.alloc (.cells #[.bool false,.bool false] 192)=w1 at*;by_cases hnb:nb=0
    ·have hpos:(0:Int)< (na:Int):=by omega
     have hnb':((nb:Int)==0)=true:=by simp;omega
     obtain rfl:b'=[]:=nL (by have:=hn2.out;omega);obtain⟨x,a2,rfl⟩:∃x a2,a'=x::a2:=by
      match a',hn1.out with
      |x::a2,_=>exact⟨x,a2,rfl⟩
      |[],h=>simp at h;omega
     obtain⟨bA,oA,rfl,WK,aaW⟩:=Px.out.at_ (k:=0) sm;simp only[BI,Ct]at aaW;by_cases Ii:ca=1
     ·obtain rfl:na=1:=by omega
      subst Ii;obtain rfl:a2=[]:=by have:=hn1.out;simp at this;exact this
      have rM:=Aj (bQ.zero w1 B (some ⟨bA,oA,none⟩) (m:=0) (c:=0) rfl (by unfold maxLen;omega));go_wp2_with fail;go_quiet (fail);go_wp2_with fail;go_region;go_wp2_with fail;go_meet;exact⟨(x,true,false),(some ⟨bA,oA,none⟩),_,0,_,0,_,[],_,rfl,⟨zU hne1 d1,(df Pz (.inl hne2)).trans d2,aO.trans e1,aO.trans e2,gP rM.out hBa om,gP Py.out hBa om⟩,om,by simpa using hs1.out,⟨Ls.sI _ _ _ (fun y hy=>by cases hy)⟩,
       ⟨hJ2.out.two hj.out (((hg.out.drewN _).set _ _ (.inl rfl)).set _ _ (.inr (.inr Ai)))⟩,zV hne1 o2,(df rH (.inr Ah)).trans o3⟩
     ·have rM:=Px.out.drop (k:=1) om;rw[Ng Ii]at rM;simp only[Cb,add_plain,AY,Bp]at rM;replace rM:=Aj rM;go_wp2_with fail;go_quiet (fail);go_wp2_with fail;go_region;go_wp2_with fail;go_meet;exact⟨(x,true,false),(some ⟨bA,oA+1,none⟩),_,(na-1),_,(ca-1),_,a2,_,rfl,⟨zU hne1 d1,(df Pz (.inl hne2)).trans d2,aO.trans e1,aO.trans e2,gP rM.out hBa om,gP Py.out hBa om⟩,om,by simpa using hs1.out,⟨Ls.sI _ _ _ (fun y hy=>by cases hy)⟩,
       ⟨hJ2.out.two hj.out (((hg.out.drewN _).set _ _ (.inl rfl)).set _ _ (.inr (.inr Ai)))⟩,zV hne1 o2,(df rH (.inr Ah)).trans o3⟩
    ·have hnb':((nb:Int)==0)=false:=by simp;omega
     by_cases hna:na=0
     ·have hpos:(0:Int)< (nb:Int):=by omega
      have ahl:((na:Int)==0)=true:=by simp;omega
      have ahm:decide ((0:Int)< (na:Int))=false:=by simp;omega
      obtain rfl:a'=[]:=nL (by have:=hn1.out;omega);obtain⟨y,b2,rfl⟩:∃y b2,b'=y::b2:=by
       match b',hn2.out with
       |y::b2,_=>exact⟨y,b2,rfl⟩
       |[],h=>simp at h;omega
      obtain⟨bB,oB,rfl,kK,aaX⟩:=Py.out.at_ (k:=0) sm;simp only[BI,Ct]at aaX;by_cases vo:cb=1
      ·obtain rfl:nb=1:=by omega
       subst vo;obtain rfl:b2=[]:=by have:=hn2.out;simp at this;exact this
       have nG:=Aj (bQ.zero w1 B (some ⟨bB,oB,none⟩) (m:=0) (c:=0) rfl (by unfold maxLen;omega));go_wp2_with fail;go_quiet (fail);go_wp2_with fail;go_quiet (fail);go_wp2_with fail;go_region;go_wp2_with fail;go_meet;exact⟨(y,false,true),_,(some ⟨bB,oB,none⟩),_,0,_,0,_,[],rfl,⟨(df hab (.inl hne1)).trans d1,zU hne2 d2,aO.trans e1,aO.trans e2,gP Px.out hBb om,gP nG.out hBb om⟩,om,by simpa using hs1.out,⟨Ls.sJ _ _ _ (fun y hy=>by cases hy)⟩,
        ⟨hJ2.out.two hj.out (((hg.out.drewN _).set _ _ (.inr (.inl rfl))).set _ _ (.inr (.inr Ai)))⟩,(df rJ (.inr Ah)).trans o2,zV hne2 o3⟩
      ·have nG:=Py.out.drop (k:=1) om;rw[Ng vo]at nG;simp only[Cb,add_plain,AY,Bp]at nG;replace nG:=Aj nG;go_wp2_with fail;go_quiet (fail);go_wp2_with fail;go_quiet (fail);go_wp2_with fail;go_region;go_wp2_with fail;go_meet;exact⟨(y,false,true),_,(some ⟨bB,oB+1,none⟩),_,(nb-1),_,(cb-1),_,b2,rfl,⟨(df hab (.inl hne1)).trans d1,zU hne2 d2,aO.trans e1,aO.trans e2,gP Px.out hBb om,gP nG.out hBb om⟩,om,by simpa using hs1.out,⟨Ls.sJ _ _ _ (fun y hy=>by cases hy)⟩,
        ⟨hJ2.out.two hj.out (((hg.out.drewN _).set _ _ (.inr (.inl rfl))).set _ _ (.inr (.inr Ai)))⟩,(df rJ (.inr Ah)).trans o2,zV hne2 o3⟩
     ·have hpos:(0:Int)< (nb:Int):=by omega
      have ajH:(0:Int)< (na:Int):=om;have ahl:((na:Int)==0)=false:=by simp;omega
      have ahm:decide ((0:Int)< (na:Int))=true:=by simp;omega
      have amG:decide (0<na)=true:=by simp;omega
      obtain⟨x,a2,rfl⟩:∃x a2,a'=x::a2:=by
       match a',hn1.out with
       |x::a2,_=>exact⟨x,a2,rfl⟩
       |[],h=>simp at h;omega
      obtain⟨bA,oA,rfl,WK,aaW⟩:=Px.out.at_ (k:=0) sm;simp only[BI,Ct]at aaW;obtain⟨y,b2,rfl⟩:∃y b2,b'=y::b2:=by
       match b',hn2.out with
       |y::b2,_=>exact⟨y,b2,rfl⟩
       |[],h=>simp at h;omega
      obtain⟨bB,oB,rfl,kK,aaX⟩:=Py.out.at_ (k:=0) sm;simp only[BI,Ct]at aaX;by_cases hxy:x<y
      ·have hxy':decide (x<y)=true:=by simp;omega
       by_cases Ii:ca=1
       ·obtain rfl:na=1:=by omega
        subst Ii;obtain rfl:a2=[]:=by have:=hn1.out;simp at this;exact this
        have rM:=Aj (bQ.zero w1 B (some ⟨bA,oA,none⟩) (m:=0) (c:=0) rfl (by unfold maxLen;omega));go_wp2_with fail;go_quiet (fail);go_wp2_with fail;go_region;go_wp2_with fail;go_meet;exact⟨(x,true,false),(some ⟨bA,oA,none⟩),_,0,_,0,_,[],_,rfl,⟨zU hne1 d1,(df Pz (.inl hne2)).trans d2,aO.trans e1,aO.trans e2,gP rM.out hBa om,gP Py.out hBa om⟩,om,by simpa using hs1.out,⟨Ls.sI _ _ _ (fun z hz=>by cases hz;exact hxy)⟩,
         ⟨hJ2.out.two hj.out (((hg.out.drewN _).set _ _ (.inl rfl)).set _ _ (.inr (.inr Ai)))⟩,zV hne1 o2,(df rH (.inr Ah)).trans o3⟩
       ·have rM:=Px.out.drop (k:=1) om;rw[Ng Ii]at rM;simp only[Cb,add_plain,AY,Bp]at rM;replace rM:=Aj rM;go_wp2_with fail;go_quiet (fail);go_wp2_with fail;go_region;go_wp2_with fail;go_meet;exact⟨(x,true,false),(some ⟨bA,oA+1,none⟩),_,(na-1),_,(ca-1),_,a2,_,rfl,⟨zU hne1 d1,(df Pz (.inl hne2)).trans d2,aO.trans e1,aO.trans e2,gP rM.out hBa om,gP Py.out hBa om⟩,om,by simpa using hs1.out,⟨Ls.sI _ _ _ (fun z hz=>by cases hz;exact hxy)⟩,
         ⟨hJ2.out.two hj.out (((hg.out.drewN _).set _ _ (.inl rfl)).set _ _ (.inr (.inr Ai)))⟩,zV hne1 o2,(df rH (.inr Ah)).trans o3⟩
      ·by_cases hyx:y<x
       ·have hxy':decide (x<y)=false:=by simp;omega
        have ahn:decide (y<x)=true:=by simp;omega
        by_cases vo:cb=1
        ·obtain rfl:nb=1:=by omega
         subst vo;obtain rfl:b2=[]:=by have:=hn2.out;simp at this;exact this
         have nG:=Aj (bQ.zero w1 B (some ⟨bB,oB,none⟩) (m:=0) (c:=0) rfl (by unfold maxLen;omega));go_wp2_with fail;go_quiet (fail);go_wp2_with fail;go_quiet (fail);go_wp2_with fail;go_region;go_wp2_with fail;go_meet;exact⟨(y,false,true),_,(some ⟨bB,oB,none⟩),_,0,_,0,_,[],rfl,⟨(df hab (.inl hne1)).trans d1,zU hne2 d2,aO.trans e1,aO.trans e2,gP Px.out hBb om,gP nG.out hBb om⟩,om,by simpa using hs1.out,⟨Ls.sJ _ _ _ (fun z hz=>by cases hz;exact hyx)⟩,
          ⟨hJ2.out.two hj.out (((hg.out.drewN _).set _ _ (.inr (.inl rfl))).set _ _ (.inr (.inr Ai)))⟩,(df rJ (.inr Ah)).trans o2,zV hne2 o3⟩
        ·have nG:=Py.out.drop (k:=1) om;rw[Ng vo]at nG;simp only[Cb,add_plain,AY,Bp]at nG;replace nG:=Aj nG;go_wp2_with fail;go_quiet (fail);go_wp2_with fail;go_quiet (fail);go_wp2_with fail;go_region;go_wp2_with fail;go_meet;exact⟨(y,false,true),_,(some ⟨bB,oB+1,none⟩),_,(nb-1),_,(cb-1),_,b2,rfl,⟨(df hab (.inl hne1)).trans d1,zU hne2 d2,aO.trans e1,aO.trans e2,gP Px.out hBb om,gP nG.out hBb om⟩,om,by simpa using hs1.out,⟨Ls.sJ _ _ _ (fun z hz=>by cases hz;exact hyx)⟩,
          ⟨hJ2.out.two hj.out (((hg.out.drewN _).set _ _ (.inr (.inl rfl))).set _ _ (.inr (.inr Ai)))⟩,(df rJ (.inr Ah)).trans o2,zV hne2 o3⟩
       ·have hxy':decide (x<y)=false:=by simp;omega
        have ahn:decide (y<x)=false:=by simp;omega
        obtain rfl:x=y:=om;by_cases Ii:ca=1
        ·obtain rfl:na=1:=by omega
         subst Ii;obtain rfl:a2=[]:=by have:=hn1.out;simp at this;exact this
         have rM:=Aj (bQ.zero w1 B (some ⟨bA,oA,none⟩) (m:=0) (c:=0) rfl (by unfold maxLen;omega));by_cases vo:cb=1
         ·obtain rfl:nb=1:=by omega
          subst vo;obtain rfl:b2=[]:=by have:=hn2.out;simp at this;exact this
          have nG:=Aj (bQ.zero w1 B (some ⟨bB,oB,none⟩) (m:=0) (c:=0) rfl (by unfold maxLen;omega));go_wp2_with fail;go_quiet (fail);go_wp2_with fail;go_quiet (fail);go_wp2_with fail;go_region;go_wp2_with fail;go_meet;exact⟨(x,true,true),(some ⟨bA,oA,none⟩),(some ⟨bB,oB,none⟩),0,0,0,0,[],[],rfl,⟨XL hab hne1 d1,XM hab hne2 d2,eZ.trans e1,eZ.trans e2,qY rM.out hBa hBb om,qY nG.out hBa hBb om⟩,om,by simpa using hs1.out,⟨Ls.oJ _ _ _⟩,
           ⟨hJ2.out.two hj.out (((((hg.out.drewN _).set _ _ (.inl rfl)).set _ _ (.inr (.inl rfl))).set _ _ (.inr (.inr Ai))).set _ _ (.inr (.inr Ai)))⟩,Nc rH rJ o2,Nf rH rJ o3⟩
         ·have nG:=Py.out.drop (k:=1) om;rw[Ng vo]at nG;simp only[Cb,add_plain,AY,Bp]at nG;replace nG:=Aj nG;go_wp2_with fail;go_quiet (fail);go_wp2_with fail;go_quiet (fail);go_wp2_with fail;go_region;go_wp2_with fail;go_meet;exact⟨(x,true,true),(some ⟨bA,oA,none⟩),(some ⟨bB,oB+1,none⟩),0,(nb-1),0,(cb-1),[],b2,rfl,⟨XL hab hne1 d1,XM hab hne2 d2,eZ.trans e1,eZ.trans e2,qY rM.out hBa hBb om,qY nG.out hBa hBb om⟩,om,by simpa using hs1.out,⟨Ls.oJ _ _ _⟩,
           ⟨hJ2.out.two hj.out (((((hg.out.drewN _).set _ _ (.inl rfl)).set _ _ (.inr (.inl rfl))).set _ _ (.inr (.inr Ai))).set _ _ (.inr (.inr Ai)))⟩,Nc rH rJ o2,Nf rH rJ o3⟩
        ·have rM:=Px.out.drop (k:=1) om;rw[Ng Ii]at rM;simp only[Cb,add_plain,AY,Bp]at rM;replace rM:=Aj rM;by_cases vo:cb=1
         ·obtain rfl:nb=1:=by omega
          subst vo;obtain rfl:b2=[]:=by have:=hn2.out;simp at this;exact this
          have nG:=Aj (bQ.zero w1 B (some ⟨bB,oB,none⟩) (m:=0) (c:=0) rfl (by unfold maxLen;omega));go_wp2_with fail;go_quiet (fail);go_wp2_with fail;go_quiet (fail);go_wp2_with fail;go_region;go_wp2_with fail;go_meet;exact⟨(x,true,true),(some ⟨bA,oA+1,none⟩),(some ⟨bB,oB,none⟩),(na-1),0,(ca-1),0,a2,[],rfl,⟨XL hab hne1 d1,XM hab hne2 d2,eZ.trans e1,eZ.trans e2,qY rM.out hBa hBb om,qY nG.out hBa hBb om⟩,om,by simpa using hs1.out,⟨Ls.oJ _ _ _⟩,
           ⟨hJ2.out.two hj.out (((((hg.out.drewN _).set _ _ (.inl rfl)).set _ _ (.inr (.inl rfl))).set _ _ (.inr (.inr Ai))).set _ _ (.inr (.inr Ai)))⟩,Nc rH rJ o2,Nf rH rJ o3⟩
         ·have nG:=Py.out.drop (k:=1) om;rw[Ng vo]at nG;simp only[Cb,add_plain,AY,Bp]at nG;replace nG:=Aj nG;go_wp2_with fail;go_quiet (fail);go_wp2_with fail;go_quiet (fail);go_wp2_with fail;go_region;go_wp2_with fail;go_meet;exact⟨(x,true,true),(some ⟨bA,oA+1,none⟩),(some ⟨bB,oB+1,none⟩),(na-1),(nb-1),(ca-1),(cb-1),a2,b2,rfl,⟨XL hab hne1 d1,XM hab hne2 d2,eZ.trans e1,eZ.trans e2,qY rM.out hBa hBb om,qY nG.out hBa hBb om⟩,om,by simpa using hs1.out,⟨Ls.oJ _ _ _⟩,
           ⟨hJ2.out.two hj.out (((((hg.out.drewN _).set _ _ (.inl rfl)).set _ _ (.inr (.inl rfl))).set _ _ (.inr (.inr Ai))).set _ _ (.inr (.inr Ai)))⟩,Nc rH rJ o2,Nf rH rJ o3⟩
   case rest=>
    obtain⟨⟨x,f,s⟩,Aa2,Ab2,na2,nb2,ca2,cb2,a2,b2,rfl,hx2,hlt,hNx,hm2,hj2,amH,amI⟩:=hcut;have hpre:pre++[(x,f,s)]<+:Ls.iN a b:=⟨Ls.iN a2 b2,by rw[hm.out,hm2.out];simp⟩
    have FV:Kept (Ls.iN a b=(pre++[(x,f,s)])++Ls.iN a2 b2):=⟨by rw[hm.out,hm2.out];simp⟩
    obtain⟨fn,tmps,assign,body,hy,oN⟩:=bL.out pre (x,f,s) wc hj2.out hpre;have adL:Kept (Pw (wr.cell? ⟨ba,0,none⟩)+Pw (wr.cell? ⟨bb,0,none⟩)=na+nb):=⟨by rw[hc1,hc2];rfl⟩
    unfold aaV at hy;have aho:=hide hpre;clear hc1 hc2 hf1 hf2 hpre
    rename_i a1
    refine a1 _ _ ?_;refine(Bu (n:=n)).1 ?_
    gi_wp2
    refine⟨(fun h=>by simp[Fence.wide]at h),oN.mono ?_⟩;rintro e W' (⟨rfl,hj',hb'⟩|⟨rfl,rf⟩)
    ·have hx3:=hx2.kp hb';have hsz:=hb'.1.size;have hlen1:Kept (Pw (W'.cell? ⟨ba,0,none⟩)+Pw (W'.cell? ⟨bb,0,none⟩)=na2+nb2):=⟨by rw[hx3.c1,hx3.c2];rfl⟩
     gi_wp2
     go_roundw
     case rel=>exact⟨pre++[(x,f,s)],Aa2,Ab2,na2,nb2,ca2,cb2,a2,b2,hx3,om,om,FV,⟨hj'⟩⟩
     case measure=>rw[adL.out,hlen1.out];exact hlt
    ·gi_wp2
     refine Bi (CQ rfl _ _ _) rfl ?_;exact⟨⟨_,rfl⟩,.inr ⟨_,aho.out,rf⟩⟩
end
end
section
section
open Go.RowKit Go.Shelf
attribute [local go_sem] Oper.semAt_some
theorem PG (Aa Ab na nb ca cb w):
  Calls prog 160 #[.slice Aa na ca,.slice Ab nb cb] w fun e w'=>e= .returned (.func (.func 206) #[] #[.pointer (some ⟨w.heap.size,0,none⟩),.pointer (some ⟨w.heap.size+1,0,none⟩)])∧
   w'=(w.alloc (.cells #[.slice Aa na ca] 62)).alloc (.cells #[.slice Ab nb cb] 62):=by
 go_enter func160,ntmps160;go_wp2;go_ret;exact⟨rfl,rfl⟩
def Ls.pk (ok:Bool→Bool→Bool) (l:List (Int×Bool×Bool)):List Int:=(l.filter fun p=>ok p.2.1 p.2.2).map (·.1)
theorem Ls.aaY {ok l p} (h:ok p.2.1 p.2.2=true):Ls.pk ok (l++[p])=Ls.pk ok l++[p.1]:=by simp[Ls.pk,h]
theorem Ls.adM {ok l p} (h:ok p.2.1 p.2.2=false):Ls.pk ok (l++[p])=Ls.pk ok l:=by simp[Ls.pk,h]
theorem Ls.Ui (ok l):(Ls.pk ok l).length≤l.length:=by
 unfold Ls.pk;rw[fM];exact Dm _ _
theorem Ls.ma:∀(n) (a b),a.length+b.length≤n→(Ls.iN a b).length≤a.length+b.length
 |n,[],[],_=>by simp[Ls.iN]
 |0,x::a,_,h=>by simp at h
 |0,[],y::b,h=>by simp at h
 |n+1,x::a,[],h=>by have:=Ls.ma n a [] (by simp at h⊢;omega);rw[Ls.iN];simp at this⊢;omega
 |n+1,[],y::b,h=>by have:=Ls.ma n [] b (by simp at h⊢;omega);rw[Ls.iN];simp at this⊢;omega
 |n+1,x::a,y::b,h=>by
  have h1:=Ls.ma n a (y::b) (by simp at h⊢;omega);have h2:=Ls.ma n (x::a) b (by simp at h⊢;omega);have h3:=Ls.ma n a b (by simp at h⊢;omega);rw[Ls.iN];split
  ·simp at h1⊢;omega
  ·split
   ·simp at h2⊢;omega
   ·simp at h3⊢;omega
def vv (w:World) (N aS:Nat) (ok:Bool→Bool→Bool) (pre:List (Int×Bool×Bool)) (W:World):Prop:=
 (∃A n c,Boxed W (w.heap.size+1) 62 (.slice A n c)∧ax W N A n c (Ls.pk ok pre))∧Boxed W w.heap.size 193 (.func (.func aS) #[] #[])∧Below w.heap.size w W
theorem vw {W W':World} {row base n c sz A xs e M} (h:W.ownsRow base e sz (.slice A n c) n xs) (hg:W.grownBy W' row)
  (hr:∀r,row=some r→r<base∨(M≤r∧∃o:Obj,W.heap[r]? =some o∧o.isCells=false)):W'.ownsRow base e sz (.slice A n c) n xs:=by
 refine⟨h.1,?_⟩;rcases h.2 with hn|⟨g,cap,cur,hv,h1,h2,rest⟩
 ·exact .inl hn
 ·refine .inr ⟨g,cap,cur,hv,h1,?_,rest⟩;rw[hg.block g (Ge.1 h2).1]
  ·exact h2
  ·intro e';rcases hr g e'.symm with h3|⟨_,o,ho,hoc⟩
   ·omega
   ·rw[h2]at ho;cases ho;cases hoc
theorem vv.own {w N aS ok O} (hO:∀r,O r→w.heap.size+1<r∧r<N) (hN:w.heap.size+2≤N):aI N O (vv w N aS ok):=by
 rintro s W W' row ⟨⟨A,n,c,hb,ho⟩,hb2,hbl⟩ hg hr;have hrow:∀r,row=some r→w.heap.size+1<r:=fun r e=>by
  rcases hr r e with h|⟨h,_⟩
  ·exact(hO r h).1
  ·omega
 refine⟨⟨A,n,c,hb.kept hg (fun e=>by have:=hrow _ e.symm;omega),vw (M:=N) ho hg fun r e=>?_⟩,hb2.kept hg (fun e=>by have:=hrow _ e.symm;omega),hbl.grown hg hbl.size (fun r e=>by have:=hrow r e;omega)⟩;rcases hr r e with h|h
 ·exact .inl (hO r h).2
 ·exact .inr h
theorem vz (aS:Nat) (ok Aa Ab na nb ca cb B a b w)
  (hent:∀args w,(callFunc aS args).run prog w= .ok (.enter aS args) w)
  (hok:∀f s w,Calls prog aS #[.agg #[.bool f,.bool s]] w fun e w'=>e= .returned (.bool (ok f s))∧Below w.heap.size w w')
  (h1:bQ w B Aa na ca a) (h2:bQ w B Ab nb cb b) (hB:B≤w.heap.size) (hl:na+nb≤2000000):
  Calls prog 100 #[.slice Aa na ca,.slice Ab nb cb,.func (.func aS) #[] #[]] w fun e w'=>∃A3 n3 c3,e= .returned (.slice A3 n3 c3)∧n3≤na+nb∧ax w' w.heap.size A3 n3 c3 (Ls.pick ok a b)∧Below w.heap.size w w':=by
 have hla:=h1.len;have hlb:=h2.len;have Hm:=Aj (Ls.ma _ a b Ai);have hpk:=Aj (show Ls.pick ok a b=Ls.pk ok (Ls.iN a b)from rfl);have Hok:=hide hok;have ahp:=hide hent;have H1:=hide h1;have H2:=hide h2;replace hla:=Aj hla;replace hlb:=Aj hlb;clear hok hent h1 h2;refine(Bl (n:=9)).1 ?_;refine Cv func100 rfl trivial ?_ rfl;simp only[ntmps100,Cg,Lc,Ba,Nat.reduceAdd,Nat.reduceSub,Cj,Cm,CY,Cx,AA,Bb];refine Bu.2 ?_;go_wp2_with (go_at_call 160;refine(PG _ _ _ _ _ _ _).mono ?_;rintro e w2 ⟨rfl,rfl⟩);have bF:=Bd w 193 (.func (.func aS) #[] #[]);have bO:=Bd (w.alloc (.cells #[.func (.func aS) #[] #[]] 193)) 62 (.slice none 0 0);have bA:=Bd ((w.alloc (.cells #[.func (.func aS) #[] #[]] 193)).alloc (.cells #[.slice none 0 0] 62)) 62 (.slice Aa na ca);have bB:=Bd (((w.alloc (.cells #[.func (.func aS) #[] #[]] 193)).alloc (.cells #[.slice none 0 0] 62)).alloc (.cells #[.slice Aa na ca] 62)) 62 (.slice Ab nb cb);replace bF:=((bF.alloc (.cells #[.slice none 0 0] 62)).alloc (.cells #[.slice Aa na ca] 62)).alloc (.cells #[.slice Ab nb cb] 62);replace bO:=(bO.alloc (.cells #[.slice Aa na ca] 62)).alloc (.cells #[.slice Ab nb cb] 62);replace bA:=bA.alloc (.cells #[.slice Ab nb cb] 62);have hB0:Below w.heap.size w ((((w.alloc (.cells #[.func (.func aS) #[] #[]] 193)).alloc (.cells #[.slice none 0 0] 62)).alloc (.cells #[.slice Aa na ca] 62)).alloc (.cells #[.slice Ab nb cb] 62)):=
  ((((Ae _ w).alloc Ai _).alloc sm _).alloc (by simp;omega) _).alloc (by simp;omega) _
 have hsz:((((w.alloc (.cells #[.func (.func aS) #[] #[]] 193)).alloc (.cells #[.slice none 0 0] 62)).alloc (.cells #[.slice Aa na ca] 62)).alloc (.cells #[.slice Ab nb cb] 62)).heap.size=w.heap.size+4:=sm;simp only[AU]at bF bO bA bB;generalize (((w.alloc (.cells #[.func (.func aS) #[] #[]] 193)).alloc (.cells #[.slice none 0 0] 62)).alloc (.cells #[.slice Aa na ca] 62)).alloc (.cells #[.slice Ab nb cb] 62)=w4 at*;have hx:vk w4 B (w.heap.size+1+1) (w.heap.size+1+1+1) Aa Ab na nb ca cb a b:=⟨bA.cell,bB.cell,bA.frozen,bB.frozen,H1.out.below (hB0.mono hB),H2.out.below (hB0.mono hB)⟩
 refine(Bu (n:=9)).1 ?_;refine nM Ah (gf:=206) (lb:= #[.pointer (some ⟨w.heap.size+1+1,0,none⟩),.pointer (some ⟨w.heap.size+1+1+1,0,none⟩)]) rfl (BH func206 kr rfl)
  (zX 8 (w.heap.size+1+1) (w.heap.size+1+1+1) B (w.heap.size+4) Aa Ab na nb ca cb a b w4 hx om om om om om hl om)
  (by rintro r (rfl|rfl)<;>omega) (fun h k=>h.trans k) (fun W W' row hW hg hr=>wV.grown hW om om om hg hr) (fun _=>rfl)
  (vv w (w.heap.size+4) aS ok) (fun _ _ _=>False)
  (fun pre x a₁ W=>vv w (w.heap.size+4) aS ok pre W∧∃g,W.heap[g]? =some (.cells #[.bool x.2.1,.bool x.2.2] 192 (0,0))∧w.heap.size+4≤g∧
   a₁={tmps:= #[.slice Aa na ca,.slice Ab nb cb,.func (.func aS) #[] #[],undef,undef,.pointer (some ⟨w.heap.size,0,none⟩),.slice none 0 0,.pointer (some ⟨w.heap.size+1,0,none⟩),.int .i64 x.1,.pointer (some ⟨g,0,none⟩),.slice Aa na ca,.slice Ab nb cb,
    .func (.func 206) #[] #[.pointer (some ⟨w.heap.size+1+1,0,none⟩),.pointer (some ⟨w.heap.size+1+1+1,0,none⟩)],.int .i64 x.1,.agg #[.bool x.2.1,.bool x.2.2],undef,undef,undef,undef,undef,undef,undef,undef],defers:=[]})
  ?hI (fun _ _ _ _ _ h _ _=>h) ?hM ?h0 ?assign ?body ?done ?stop
 case hI=>rw[hsz];exact vv.own (by rintro r (rfl|rfl)<;>omega) om
 case hM=>
  rw[hsz];rintro pre x a₁ u W W' row ⟨hI,g,hg,hgN,ha⟩ hgr hr;refine⟨vv.own (O:=fun r=>r=w.heap.size+1+1∨r=w.heap.size+1+1+1) (by rintro r (rfl|rfl)<;>omega) om _ _ _ _ hI hgr hr,g,(hgr.block g (Ge.1 hg).1 fun e=>?_).trans hg,hgN,ha⟩;rcases hr g e.symm with h|⟨_,o,ho,hoc⟩
  ·rcases h with h|h<;>omega
  ·rw[hg]at ho;cases ho;cases hoc
 case h0=>exact⟨⟨none,0,0,bO,AX _ _ _ _⟩,bF,hB0⟩
 case assign=>
  rintro l pre ⟨x,f,s⟩ W hI hpre hW;unfold aaV
  gi_wp2
  have hga:W.grownBy (W.alloc (.cells #[.bool f,.bool s] 192)) none:=Ga W _ none;exact⟨KeepsFrom.of_grownBy hga (fun _ e=>by cases e),wV.grown hW om om om hga (fun _ e=>by cases e),
   vv.own (O:=fun r=>r=w.heap.size+1+1∨r=w.heap.size+1+1+1) (by rintro r (rfl|rfl)<;>omega) om _ _ _ _ hI hga (fun _ e=>by cases e),W.heap.size,Av W _,om,rfl⟩
 case body=>
  rintro l pre ⟨x,f,s⟩ a₁ W ⟨⟨⟨A,n,c,hb,ho⟩,hb2,hbl⟩,g,hg,hgN,rfl⟩ hpre hW;have hl1:n≤2000000:=by
   have h1:=ho.len;have h2:=Ls.Ui ok pre;have h3:=hpre.length_le;have h4:=Hm.out;have h5:=hla.out;have h6:=hlb.out;simp at h3;omega
  have hcF:=hb2.cell;have hg0:W.cell? ⟨g,0,none⟩=some (.bool f):=Co _ _ _ _ _ _ hg;have hg1:W.cell? ⟨g,1,none⟩=some (.bool s):=Co _ _ _ _ _ _ hg;have hent:=ahp.out;have Ze:=Aj (Bl (n:=6).2 (Hok.out f s W));have Zp:=hb.lt;cases hres:ok f s with
  |false=>
   have hno:=Aj (Ls.adM (l:=pre) (p:=(x,f,s)) hres)
   gi_wp2
   refine⟨trivial,(DX l Ze.out).mono ?_⟩;rintro e W1 ⟨rfl,hk⟩;rw[hres]
   gi_wp2
   have hsz1:=hk.size;have hgk:KeepsFrom w4.heap.size W W1:=⟨hk.size,fun k o _ h _=>(hk.block k (Ge.1 h).1).trans h⟩
   exact⟨hgk,⟨hk.mono om,hk.block _ om,hk.block _ om⟩,⟨A,n,c,(hk.block _ Zp).trans hb,by rw[hno.out];exact own_below ho hk (fun g hg=>(ae ho g hg).2)⟩,(hk.block _ om).trans hb2,hbl.trans (hk.mono om)⟩
  |true=>
   have ahr:=Aj (Ls.aaY (l:=pre) (p:=(x,f,s)) hres)
   gi_wp2
   refine⟨trivial,(DX l Ze.out).mono ?_⟩;rintro e W1 ⟨rfl,hk⟩;rw[hres];have hsz1:=hk.size;have hgk:KeepsFrom w4.heap.size W W1:=⟨hk.size,fun k o _ h _=>(hk.block k (Ge.1 h).1).trans h⟩
   have hbO:Boxed W1 (w.heap.size+1) 62 (.slice A n c):=(hk.block _ Zp).trans hb;have hbF:Boxed W1 w.heap.size 193 (.func (.func aS) #[] #[]):=(hk.block _ om).trans hb2;have hoO:ax W1 (w.heap.size+4) A n c (Ls.pk ok pre):=own_below ho hk (fun g hg=>(ae ho g hg).2);have hcO:=hbO.cell;obtain⟨i0,hi0,hz0,hz1,hz2⟩:=AV xq
   gi_wp2_with (gi_at_builtin;refine dI _ rfl (.tmp 18) (.tmp 20) _ rfl (w.heap.size+4) 3 i0 (.int .i64 0) 1 8 underlying62 hi0 hz0 hz1 hz2 rfl Ah A n c _ rfl (Oa hoO _) (W1.heap.size+1) _ _ _ (xm [x]) rfl (bQ.one W1 x) (yF _) (by unfold maxLen;omega) om (by simp;omega) ?_;intro A4 c4 w5 av af cO;have kC:Boxed w5 (w.heap.size+1) 62 (.slice A n c):=(hbO.alloc _).kept af (fun e=>by have:=ae hoO _ e.symm;omega);have Qo:=kC.cell;have Qp:=kC.frozen)
   have adN:=ae hoO;have hgs:w5.grownBy (w5.setCell ⟨w.heap.size+1,0,none⟩ (.slice A4 (n+1) c4)) (some (w.heap.size+1)):=Dz _ _ _;have hcl:∀j o,ab A=some j→(W1.alloc (.cells #[.int .i64 x] 3)).heap[j]? =some o→o.isCells=true:=by
    intro j o ej hj;rcases(Oa hoO (.cells #[.int .i64 x] 3)).2 with⟨hv,_⟩|⟨g',cap,cur,hv,_,hgb,_⟩
    ·injection hv with hv1;rw[hv1]at ej;cases ej
    ·injection hv with hv1
     rw[hv1]at ej;obtain rfl:g'=j:=by simpa[ab]using ej
     rw[hgb]at hj;cases hj;rfl
   have hk5:KeepsFrom w4.heap.size W (w5.setCell ⟨w.heap.size+1,0,none⟩ (.slice A4 (n+1) c4)):=
    hgk.trans ((((DY W1 _).trans (CU af hcl)).trans (Cu _ _ _)).from _)
   have hb5:Below w.heap.size W1 (w5.setCell ⟨w.heap.size+1,0,none⟩ (.slice A4 (n+1) c4)):=
    (((Ae _ W1).alloc om _).grown af (by simp;omega) (fun g e=>by have:=adN g e;omega)).setCell (p:=⟨w.heap.size+1,0,none⟩) sm _
   have hs5:∀k,k<w.heap.size+4→k≠w.heap.size+1→(w5.setCell ⟨w.heap.size+1,0,none⟩ (.slice A4 (n+1) c4)).heap[k]? =W.heap[k]?:=fun k hk1 hk2=>
    (AO w5 _ _ k hk2).trans ((af.block k (by simp;omega) (fun e=>by have:=adN _ e.symm;omega)).trans ((Aw _ _ _ om).trans (hk.block k om)))
   refine⟨hk5,⟨(hk.mono om).trans (hb5.mono hB),hs5 _ om om,hs5 _ om om⟩,⟨A4,n+1,c4,kC.set _,?_⟩,(hs5 _ om om).trans hb2,hbl.trans ((hk.mono om).trans hb5)⟩;rw[ahr.out];refine vw (M:=0) ?_ hgs (fun r e=>by cases e;exact .inl om);rw[mX];exact av
 case done=>
  rintro D W hD ⟨⟨A,n,c,hb,ho⟩,hb2,hbl⟩ hK;have hc:=hb.cell;have hn2:n≤na+nb:=by
   have hn:=ho.len;have h2:=Ls.Ui ok (Ls.iN a b);have h4:=Hm.out;have h5:=hla.out;have h6:=hlb.out;omega
  have Hn2:=Aj hn2;go_wp2;refine⟨sm,.inl ⟨_,_,rfl,CV hK,?_⟩⟩;have hgo:W.grownBy (W.putObj D (.deferred none)) (some D):=Bg W D _;refine⟨_,results_tmp rfl _ _ _,A,n,c,rfl,Hn2.out,?_,hbl.grown hgo hbl.size (fun g e=>by cases e;omega)⟩;rw[hpk.out];exact oI (vw (M:=0) ho hgo (fun r e=>by cases e;exact .inr ⟨bH _,_,hK,rfl⟩)) om
 case stop=>
  rintro D c pre W _ _ h _;exact h.elim
end
end
section
section
open Go.RowKit Go.Shelf
theorem XN (f s w):Calls prog 103 #[.agg #[.bool f,.bool s]] w fun e w'=>e= .returned (.bool ((fun f s=>f&&s) f s))∧Below w.heap.size w w':=by
 have hb:Below w.heap.size w (w.alloc (.cells #[.bool f,.bool s] 192)):=(Ae _ w).alloc Ai _;cases f<;>
 ·go_enter func103,ntmps103;go_wp2;go_ret;exact⟨rfl,hb⟩
theorem XO (f s w):Calls prog 158 #[.agg #[.bool f,.bool s]] w fun e w'=>e= .returned (.bool ((fun _ _=>true) f s))∧Below w.heap.size w w':=by
 have hb:Below w.heap.size w (w.alloc (.cells #[.bool f,.bool s] 192)):=(Ae _ w).alloc Ai _;go_enter func158,ntmps158;go_wp2;go_ret;exact⟨rfl,hb⟩
theorem XP (f s w):Calls prog 101 #[.agg #[.bool f,.bool s]] w fun e w'=>e= .returned (.bool ((fun _ s=>!s) f s))∧Below w.heap.size w w':=by
 have hb:Below w.heap.size w (w.alloc (.cells #[.bool f,.bool s] 192)):=(Ae _ w).alloc Ai _;go_enter func101,ntmps101;go_wp2;go_ret;exact⟨rfl,hb⟩
theorem lF (A1 A2 n1 n2 c1 c2 l1 l2 w B) (h1:bQ w B A1 n1 c1 l1) (h2:bQ w B A2 n2 c2 l2) (hB:B≤w.heap.size) (hl:n1+n2≤2000000):
  Calls prog 51 #[.slice A1 n1 c1,.slice A2 n2 c2] w fun e w'=>∃A3 n3 c3,e= .returned (.slice A3 n3 c3)∧n3≤n1+n2∧ax w' w.heap.size A3 n3 c3 (Ls.pick (fun _ s=>!s) l1 l2)∧Below w.heap.size w w':=by
 have H1:=hide h1;have H2:=hide h2;clear h1 h2;go_enter func51,ntmps51;go_wp2_with (go_at_call 100;refine(vz 101 (fun _ s=>!s) _ _ _ _ _ _ B l1 l2 w (BH func101 kr rfl) XP H1.out H2.out hB hl).mono ?_;rintro e w2 ⟨A3,n3,c3,rfl,hn,ho,hb⟩);go_ret;exact⟨A3,n3,c3,rfl,hn,ho,hb⟩
theorem Ls.PH {LL:List (List Int)} {k} (h:k<LL.length):Ls.mo [] (LL.take (k+1))=Ls.pick (fun _ _=>true) (Ls.mo [] (LL.take k)) LL[k]:=by
 unfold Ls.mo;rw[Ts h,List.foldl_append]
 rfl
theorem Ls.PI {l} {LL:List (List Int)} {k} (h:k<LL.length):Ls.wH l (LL.take (k+1))=Ls.pick (fun f s=>f&&s) (Ls.wH l (LL.take k)) LL[k]:=by
 unfold Ls.wH;rw[Ts h,List.foldl_append]
 rfl
theorem xS (A n c B LL w) (hv:iR w B A n c LL) (hB:B≤w.heap.size) (hl:Ls.tot LL≤1000000):
  Calls prog 98 #[.slice A n c] w fun e w'=>∃A3 n3 c3,e= .returned (.slice A3 n3 c3)∧n3≤Ls.tot LL∧ax w' w.heap.size A3 n3 c3 (Ls.mo [] LL)∧Below w.heap.size w w':=by
 have hlc:=hv.cap.1;have hcm:=hv.cap.2;unfold maxLen at hcm;have hn:=Aj hv.len;have Hv:=hide hv;have Hl:=Aj hl;clear hv hl;go_enter func98,ntmps98;go_wp2;go_loopw [3,8] (fun o i wr=>∃k:Nat,k≤n∧i= .int .i64 k∧∃A3 n3 c3,o= .slice A3 n3 c3∧Kept (n3≤Ls.tot (LL.take k))∧ax wr w.heap.size A3 n3 c3 (Ls.mo [] (LL.take k))∧Below w.heap.size w wr) (fun _ i _=>n-(intOf i).toNat)
 case atStart=>exact⟨0,om,rfl,none,0,0,rfl,⟨sm⟩,ax.nil _ _,Ae _ _⟩
 case round=>
  obtain⟨k,hk,rfl,A3,n3,c3,rfl,mG,ho,hb⟩:=hrel;by_cases hlt:k<n
  ·have hkl:k<LL.length:=by rw[←hn.out];exact hlt
   have ht1:=Aj (Ls.iy hkl);have ht2:=Aj (Ls.gN LL (k+1));have hu:=Aj (Ls.PH hkl);obtain⟨b,off,A',n',c',rfl,hbb,hcell,hr⟩:=Hv.out.at_ hkl;have hn':=Aj hr.len;have Hr:=Aj (hr.below (hb.mono hB));have hz:=hb.size;clear hr;generalize LL[k]=l at*;generalize Ls.mo [] (LL.take k)=acc at*;have hlive:=(hb.mono hB).cell (p:=⟨b,off+k,none⟩) hbb;rw[hcell]at hlive;have hsum:Kept (n3+n'≤2000000):=⟨by have h1:=mG.out;have h2:=ht1.out;have h3:=ht2.out;have h4:=Hl.out;have h5:=hn'.out;omega⟩
   clear hcell;go_wp2_with (go_at_call 100;refine(vz 158 (fun _ _=>true) _ _ _ _ _ _ wr.heap.size acc l wr (BH func158 kr rfl) XO ho.rd (Hr.out.more om) Ai hsum.out).mono ?_;rintro e w2 ⟨A4,n4,c4,rfl,hn4,Lu,hb4⟩);have hb5:=hb.trans (hb4.mono hz);go_roundw
   case rel=>exact⟨k+1,om,by go_num,A4,n4,c4,rfl,⟨by rw[ht1.out];have h1:=mG.out;have h2:=hn'.out;omega⟩,by rw[hu.out];exact oI Lu hz,hb5⟩
   case measure=>simp[intOf];omega
  ·obtain rfl:k=n:=by omega
   have hall:Kept (LL.take k=LL):=⟨iM (by rw[←hn.out];omega)⟩
   rw[hall.out]at ho mG;go_wp2;go_ret;exact⟨A3,n3,c3,rfl,mG.out,ho,hb⟩
def Ls.Uj:List (List Int)→List Int
 |[]=>[]
 |l::r=>Ls.wH l r
theorem Ls.Ij (l r):Ls.tot (l::r)=l.length+Ls.tot r:=by simp[Ls.tot]
theorem wW (A n c B LL w) (hv:iR w B A n c LL) (hB:B≤w.heap.size) (hl:Ls.tot LL≤1000000):
  Calls prog 52 #[.slice A n c] w fun e w'=>∃A3 n3 c3,e= .returned (.slice A3 n3 c3)∧n3≤Ls.tot LL∧ax w' w.heap.size A3 n3 c3 (Ls.Uj LL)∧Below w.heap.size w w':=by
 have hlc:=hv.cap.1;have hcm:=hv.cap.2;unfold maxLen at hcm;have hn:=Aj hv.len;have Hv:=hide hv;have Hl:=Aj hl;clear hv hl;cases LL with
 |nil=>
  obtain rfl:n=0:=hn.out;go_enter func52,ntmps52;go_wp2;go_ret;exact⟨none,0,0,rfl,bH _,ax.nil _ _,Ae _ _⟩
 |cons l0 r=>
  have hn1:0<n:=by have:=hn.out;simp at this;omega
  have hnr:Kept (n-1=r.length):=⟨by have:=hn.out;simp at this;omega⟩
  have ht:((n:Int)==0)=false:=by simp;omega
  have htot:=Aj (Ls.Ij l0 r);obtain⟨b,off,A',n',c',rfl,hbb,hcell,hr⟩:=Hv.out.at_ (k:=0) sm;simp only[BI]at hr;have hn':=Aj hr.len;have Hr:=hide hr;clear hr;simp only[Ct]at hcell;have hnt:n'≤1000000:=by have h1:=Hl.out;have h2:=hn'.out;have h3:=htot.out;omega
  have Hd:=Aj (Hv.out.drop (k:=1) om);by_cases hc1:c=1
  ·obtain rfl:n=1:=by omega
   subst hc1;obtain rfl:r=[]:=nL hnr.out.symm;go_enter func52,ntmps52;go_wp2_with (go_at_call 102;refine(vg _ _ _ B l0 w Hr.out hB hnt).mono ?_;rintro e w2 ⟨A3,c3,rfl,ho,hb⟩);go_loopw [3,16] (fun o i wr=>o= .slice A3 n' c3∧i= .int .i64 0∧wr=w2) (fun _ _ _=>0)
   case atStart=>exact⟨rfl,rfl,rfl⟩
   case round=>
    obtain⟨rfl,rfl,rfl⟩:=hrel;go_wp2;go_ret;exact⟨A3,n',c3,rfl,by have h2:=hn'.out;have h3:=htot.out;omega,ho,hb⟩
  ·rw[Ng hc1]at Hd;simp only[Cb,add_plain,AY,Bp]at Hd;go_enter func52,ntmps52;go_wp2_with (go_at_call 102;refine(vg _ _ _ B l0 w Hr.out hB hnt).mono ?_;rintro e w2 ⟨A3,c3,rfl,ho,hb⟩);go_loopw [3,16] (fun o i wr=>∃k:Nat,k≤n-1∧i= .int .i64 k∧∃A3 n3 c3,o= .slice A3 n3 c3∧Kept (n3≤l0.length+Ls.tot (r.take k))∧ax wr w.heap.size A3 n3 c3 (Ls.wH l0 (r.take k))∧Below w.heap.size w wr) (fun _ i _=>n-1-(intOf i).toNat)
   case atStart=>exact⟨0,om,rfl,A3,n',c3,rfl,⟨by have:=hn'.out;omega⟩,ho,hb⟩
   case round=>
    clear ho hb;obtain⟨k,hk,rfl,A3,n3,c3,rfl,mG,ho,hb⟩:=hrel;by_cases hlt:k<n-1
    ·have hkl:k<r.length:=by rw[←hnr.out];exact hlt
     have ht1:=Aj (Ls.iy hkl);have ht2:=Aj (Ls.gN r (k+1));have hu:=Aj (Ls.PI (l:=l0) hkl);obtain⟨b',off',A5,n5,c5,e5,amL,Uk,Lm⟩:=Hd.out.at_ hkl;simp only[gT,Cf,BJ]at e5;obtain⟨rfl,rfl⟩:=e5;have Ll:=Aj Lm.len;have Hr5:=Aj (Lm.below (hb.mono hB));have hz:=hb.size;clear Lm;generalize r[k]=l at*;generalize Ls.wH l0 (r.take k)=acc at*;have hlive:=(hb.mono hB).cell (p:=⟨b,off+1+k,none⟩) hbb;rw[Uk]at hlive;have hsum:Kept (n3+n5≤2000000):=⟨by have h1:=mG.out;have h2:=ht1.out;have h3:=ht2.out;have h4:=Hl.out;have h5:=Ll.out;have h6:=htot.out;omega⟩
     clear Uk;go_wp2_with (go_at_call 100;refine(vz 103 (fun f s=>f&&s) _ _ _ _ _ _ wr.heap.size acc l wr (BH func103 kr rfl) XN ho.rd (Hr5.out.more om) Ai hsum.out).mono ?_;rintro e w2 ⟨A4,n4,c4,rfl,hn4,Lu,hb4⟩);have hb5:=hb.trans (hb4.mono hz);go_roundw
     case rel=>exact⟨k+1,om,by go_num,A4,n4,c4,rfl,⟨by rw[ht1.out];have h1:=mG.out;have h2:=Ll.out;omega⟩,by rw[hu.out];exact oI Lu hz,hb5⟩
     case measure=>simp[intOf];omega
    ·have hall:Kept (r.take k=r):=⟨iM (by rw[←hnr.out];omega)⟩
     rw[hall.out]at ho mG;go_wp2;go_ret;exact⟨A3,n3,c3,rfl,by have h1:=mG.out;have h3:=htot.out;omega,ho,hb⟩
theorem Ls.PK (n):Ls.upto (n+1)=Ls.upto n++[(n:Int)]:=by simp[Ls.upto,List.range_succ]
theorem lG (A m c B l n w) (h1:bQ w B A m c l) (hB:B≤w.heap.size) (hl:m≤1000000) (hn:n≤1000000) (hn0: -9223372036854775808≤n):
  Calls prog 48 #[.slice A m c,.int .i64 n] w fun e w'=>∃A3 n3 c3,e= .returned (.slice A3 n3 c3)∧n3≤n.toNat+m∧ax w' w.heap.size A3 n3 c3 (Ls.pick (fun _ s=>!s) (Ls.upto n.toNat) l)∧Below w.heap.size w w':=by
 have H1:=hide h1;clear h1;obtain⟨i0,hi0,hz0,hz1,hz2⟩:=AV xq;go_enter func48,ntmps48;go_wp2_with (at_make;refine wpList_make_own _ rfl _ _ 62 rfl w.heap.size 3 i0 (.int .i64 0) 1 underlying62 hi0 hz0 hz1 .i64 .i64 _ n.toNat rfl rfl om (by rw[hz2];omega) (by unfold maxLen;omega) Ai ?_;intro w0 hown0 Ul)
 all_goals
  (try clear h)
  have hb0:Below w.heap.size w w0:=(Ae _ w).grown Ul Ai (fun _ e=>by cases e);go_loopw [5,11] (fun o i wr=>∃k:Nat,k≤n.toNat∧i= .int .i64 k∧∃A3 c3,o= .slice A3 k c3∧ax wr w.heap.size A3 k c3 (Ls.upto k)∧Below w.heap.size w wr) (fun _ i _=>n.toNat-(intOf i).toNat)
  case atStart=>exact⟨0,om,rfl,_,_,rfl,hown0,hb0⟩
  case round=>
   clear hown0 Ul hb0;obtain⟨k,hk,rfl,A3,c3,rfl,ho,hb⟩:=hrel;have hz:=hb.size;by_cases hlt:(k:Int)<n
   ·go_wp2_with (at_builtin;refine bT rfl (.tmp 14) (.tmp 16) rfl w.heap.size A3 k c3 _ rfl (Oa ho _) (wr.heap.size+1) _ _ _ [(k:Int)] rfl (bQ.one wr k) om (by simp;omega) ?_;intro A4 c4 w4 av af cO);have hb4:Below w.heap.size w w4:=(hb.alloc hz _).grown af (by simp;omega) (fun g hg=>(ae ho g hg).1);go_roundw
    case rel=>exact⟨k+1,om,by go_num,A4,c4,rfl,by rw[Ls.PK];exact av,hb4⟩
    case measure=>simp[intOf];omega
   ·have hkn:=Aj (show k=n.toNat from om);have Hr:=Aj (H1.out.below (hb.mono hB));go_wp2_with (go_at_call 51;refine(lF _ _ _ _ _ _ (Ls.upto k) l wr wr.heap.size ho.rd (Hr.out.more om) Ai om).mono ?_;rintro e w2 ⟨A4,n4,c4,rfl,hn4,Lu,hb4⟩);have hb5:=hb.trans (hb4.mono hz);go_ret;exact⟨A4,n4,c4,rfl,by rw[←hkn.out];exact hn4,by rw[←hkn.out];exact oI Lu hz,hb5⟩
end
end
section
section
open Go.RowKit Go.Shelf
theorem eqL (x y:aQ) (w):Sem.run prog (binOp .eql 59 (.agg #[.string x.n,.string x.v]) (.agg #[.string y.n,.string y.v])) w= .ok (.bool (decide (x=y))) w:=by
 have u3:=underlying9;have a3:=Tryz.isAgg9;have z3:=Tryz.sizeOf9;have hS:prog.underlying 59=some (.struct (prog.fieldsOf 59)):=kr;have hp:prog.stoodInHeld 59=false:=kr;rw[run_eql_struct,show(10000:Nat)=9999+1 from rfl,run_equalIn_agg w 9999 59 _ _ hS hp];simp only[Program.fieldsOf,underlying59];go_simp;by_cases h1:x.n=y.n
 ·by_cases h2:x.v=y.v
  ·rw[Ps0 (by rw[h1]),Ps0 (by rw[h2]),Bj (Lb.ext h1 h2)]
  ·rw[Ps0 (by rw[h1]),Ng (fun e=>h2 (St.yH e)),AF (fun e=>h2 (by rw[e]))]
 ·rw[Ng (fun e=>h1 (St.yH e)),AF (fun e=>h1 (by rw[e]))]
theorem PL (x y:aQ) (A1 n1 c1 bx w) (h0:w.cell? ⟨bx,0,none⟩=some (.string x.n)) (h1:w.cell? ⟨bx,1,none⟩=some (.string x.v)) (hb:bx<w.heap.size):
  Calls prog 157 #[.agg #[.string y.n,.string y.v,.slice A1 n1 c1],.pointer (some ⟨bx,0,none⟩)] w fun r w'=>r= .returned (.bool (decide (y=x)))∧Gr w w':=by
 have EQ:=fun W=>eqL y x W
 have k0:(w.alloc (Obj.cells #[.string y.n,.string y.v,.slice A1 n1 c1] 163)).cell? ⟨bx,0,none⟩=some (.string x.n):=(AB w _ ⟨bx,0,none⟩ hb).trans h0;have k1:(w.alloc (Obj.cells #[.string y.n,.string y.v,.slice A1 n1 c1] 163)).cell? ⟨bx,1,none⟩=some (.string x.v):=(AB w _ ⟨bx,1,none⟩ hb).trans h1;clear h0 h1;go_enter func157,ntmps157;go_wp2;go_ret;exact⟨rfl,(Gr.refl w).alloc _⟩
theorem Ku (x) (y:aQ) (A1 n1 c1 bx w) (h0:w.cell? ⟨bx,0,none⟩=some (.string x)) (hb:bx<w.heap.size):
  Calls prog 159 #[.agg #[.string y.n,.string y.v,.slice A1 n1 c1],.pointer (some ⟨bx,0,none⟩)] w fun r w'=>r= .returned (.bool (decide (y.n=x)))∧Gr w w':=by
 have hq:(y.n.toList==x.toList)=decide (y.n=x):=by
  rw[St.eq_iff]
 have k0:(w.alloc (Obj.cells #[.string y.n,.string y.v,.slice A1 n1 c1] 163)).cell? ⟨bx,0,none⟩=some (.string x):=(AB w _ ⟨bx,0,none⟩ hb).trans h0;clear h0;go_enter func159,ntmps159;go_wp2;go_ret;exact⟨by rw[←hq];rfl,(Gr.refl w).alloc _⟩
theorem Ik (A n c bx l x w) (hv:cZ w w.heap.size A n c l) (hn1:n≤1000000) (h0:w.cell? ⟨bx,0,none⟩=some (.string x.n)) (h1:w.cell? ⟨bx,1,none⟩=some (.string x.v)) (hbx:bx<w.heap.size):
  Calls prog 156 #[.slice A n c,.func (.func 157) #[] #[.pointer (some ⟨bx,0,none⟩)]] w fun r w'=>∃A2 n2 c2,r= .returned (.slice A2 n2 c2)∧aP 163 w' w.heap.size A2 n2 c2 (l.filter fun e=>e.1=x)∧Below w.heap.size w w':=by
 have hcc:=hv.cap;have hlc:=hcc.1;have hcm:=hcc.2;unfold maxLen at hcm;have V:=Aj hv;have HN:=Aj hv.len;have HX:Kept (∀W,Below w.heap.size w W→W.cell? ⟨bx,0,none⟩=some (.string x.n)∧W.cell? ⟨bx,1,none⟩=some (.string x.v)):=⟨fun W hW=>⟨(hW.cell (p:=⟨bx,0,none⟩) hbx).trans h0,(hW.cell (p:=⟨bx,1,none⟩) hbx).trans h1⟩⟩
 clear h0 h1;clear hv hcc;go_enter func156,ntmps156;go_wp2;go_loopw [5,10] (fun o i wr=>∃k:Nat,k≤n∧i= .int .i64 k∧∃(A2:Option Addr) (n2 c2:Nat),o= .slice A2 n2 c2∧aP 163 wr w.heap.size A2 n2 c2 ((l.take k).filter fun e=>e.1=x)∧n2≤k∧Below w.heap.size w wr) (fun _ i _=>n-(intOf i).toNat)
 case atStart=>exact⟨0,om,rfl,none,0,0,rfl,by simpa using aP.nil w w.heap.size,om,Ae _ _⟩
 case round=>
  obtain⟨k,hk,rfl,A2,n2,c2,rfl,ho,hn2,hb⟩:=hrel;have HB:=Aj hb;have kP:=hb.size;have O:=Aj ho;clear ho hb;by_cases hlt:k<n
  ·have hkl:k<l.length:=by rw[←HN.out];exact hlt
   obtain⟨b,off,A1,n1,c1,rfl,kK,hS,hc⟩:=V.out.cells Ai hkl;have ht:=Aj (Ts hkl);have HC:=Aj hc;have SS:=Aj hS;clear hc hS;generalize l[k]=e at*;obtain⟨y,s⟩:=e;simp only[]at HC SS;obtain⟨c0,c1',c2'⟩:=HC.out wr HB.out;have Pz:Below w.heap.size w (wr.alloc (Obj.cells #[.string y.n,.string y.v,.slice A1 n1 c1] 163)):=HB.out.alloc kP _;have O1:=Aj (O.out.keep ((Ae _ _).alloc Ai (Obj.cells #[.string y.n,.string y.v,.slice A1 n1 c1] 163)));have X1:=Aj (Av wr (Obj.cells #[.string y.n,.string y.v,.slice A1 n1 c1] 163));have CL:=Aj (PL x y A1 n1 c1 bx _ (HX.out _ Pz).1 (HX.out _ Pz).2 (by simp;omega));have BA:=Aj Pz;have hlw:wr.heap.size< (wr.alloc (Obj.cells #[.string y.n,.string y.v,.slice A1 n1 c1] 163)).heap.size:=sm;clear Pz;by_cases hq:y=x
   ·rw[Bj hq]at CL;have ht2:Kept ((l.take (k+1)).filter (fun e=>e.1=x)=(l.take k).filter (fun e=>e.1=x)++[(y,s)]):=⟨by rw[ht.out,Ep];simp[hq]⟩
    clear hq;go_wp2_with (first
     |(at_builtin;refine jW (y:=y) (s:=s) rfl (.tmp 17) (.tmp 19) rfl w.heap.size A2 n2 c2 _ rfl O2.out _ rfl rfl S2.out om om ?_;intro A4 c4 w4 Lu hb4;have O4:=Aj Lu;have B4:=Aj hb4;clear Lu hb4)
     |(go_at_call 157;refine CL.out.mono ?_;rintro r w2 ⟨rfl,hg⟩;have hbl:=hg.below;have hbz:=hbl.size;have B2:=Aj (BA.out.trans (hbl.mono BA.out.size));have O2:=Aj (O1.out.keep hbl);have S2:=Aj (ig SS.out B2.out);have X2:=(hbl.block wr.heap.size hlw).trans X1.out;have z0:=Co _ _ 0 _ _ _ X2;have z1:=Co _ _ 1 _ _ _ X2;have z2:=Co _ _ 2 _ _ _ X2;clear hg hbl CL X2))
    go_roundw
    case rel=>exact⟨k+1,om,by go_num,A4,n2+1,c4,rfl,by rw[ht2.out];exact O4.out,om,B2.out.trans B4.out⟩
    case measure=>simp[intOf];omega
   ·rw[AF hq]at CL;have ht2:Kept ((l.take (k+1)).filter (fun e=>e.1=x)=(l.take k).filter (fun e=>e.1=x)):=⟨by rw[ht.out,Ep];simp[hq]⟩
    clear hq;go_wp2_with (go_at_call 157;refine CL.out.mono ?_;rintro r w2 ⟨rfl,hg⟩;have hbl:=hg.below;have B2:=Aj (BA.out.trans (hbl.mono BA.out.size));have O2:=Aj (O1.out.keep hbl);clear hg hbl CL);go_roundw
    case rel=>exact⟨k+1,om,by go_num,A2,n2,c2,rfl,by rw[ht2.out];exact O2.out,om,B2.out⟩
    case measure=>simp[intOf];omega
  ·obtain rfl:k=n:=by omega
   have ht:l.take k=l:=iM (by have:=HN.out;omega);go_wp2;go_ret;exact⟨A2,n2,c2,rfl,by rw[←ht];exact O.out,HB.out⟩
theorem Il (A n c bx l x w) (hv:cZ w w.heap.size A n c l) (hn1:n≤1000000) (h0:w.cell? ⟨bx,0,none⟩=some (.string x)) (hbx:bx<w.heap.size):
  Calls prog 156 #[.slice A n c,.func (.func 159) #[] #[.pointer (some ⟨bx,0,none⟩)]] w fun r w'=>∃A2 n2 c2,r= .returned (.slice A2 n2 c2)∧aP 163 w' w.heap.size A2 n2 c2 (l.filter fun e=>e.1.n=x)∧Below w.heap.size w w':=by
 have hcc:=hv.cap;have hlc:=hcc.1;have hcm:=hcc.2;unfold maxLen at hcm;have V:=Aj hv;have HN:=Aj hv.len;have HX:Kept (∀W,Below w.heap.size w W→W.cell? ⟨bx,0,none⟩=some (.string x)):=⟨fun W hW=>(hW.cell (p:=⟨bx,0,none⟩) hbx).trans h0⟩
 clear h0;clear hv hcc;go_enter func156,ntmps156;go_wp2;go_loopw [5,10] (fun o i wr=>∃k:Nat,k≤n∧i= .int .i64 k∧∃(A2:Option Addr) (n2 c2:Nat),o= .slice A2 n2 c2∧aP 163 wr w.heap.size A2 n2 c2 ((l.take k).filter fun e=>e.1.n=x)∧n2≤k∧Below w.heap.size w wr) (fun _ i _=>n-(intOf i).toNat)
 case atStart=>exact⟨0,om,rfl,none,0,0,rfl,by simpa using aP.nil w w.heap.size,om,Ae _ _⟩
 case round=>
  obtain⟨k,hk,rfl,A2,n2,c2,rfl,ho,hn2,hb⟩:=hrel;have HB:=Aj hb;have kP:=hb.size;have O:=Aj ho;clear ho hb;by_cases hlt:k<n
  ·have hkl:k<l.length:=by rw[←HN.out];exact hlt
   obtain⟨b,off,A1,n1,c1,rfl,kK,hS,hc⟩:=V.out.cells Ai hkl;have ht:=Aj (Ts hkl);have HC:=Aj hc;have SS:=Aj hS;clear hc hS;generalize l[k]=e at*;obtain⟨y,s⟩:=e;simp only[]at HC SS;obtain⟨c0,c1',c2'⟩:=HC.out wr HB.out;have Pz:Below w.heap.size w (wr.alloc (Obj.cells #[.string y.n,.string y.v,.slice A1 n1 c1] 163)):=HB.out.alloc kP _;have O1:=Aj (O.out.keep ((Ae _ _).alloc Ai (Obj.cells #[.string y.n,.string y.v,.slice A1 n1 c1] 163)));have X1:=Aj (Av wr (Obj.cells #[.string y.n,.string y.v,.slice A1 n1 c1] 163));have CL:=Aj (Ku x y A1 n1 c1 bx _ (HX.out _ Pz) (by simp;omega));have BA:=Aj Pz;have hlw:wr.heap.size< (wr.alloc (Obj.cells #[.string y.n,.string y.v,.slice A1 n1 c1] 163)).heap.size:=sm;clear Pz;by_cases hq:y.n=x
   ·rw[Bj hq]at CL;have ht2:Kept ((l.take (k+1)).filter (fun e=>e.1.n=x)=(l.take k).filter (fun e=>e.1.n=x)++[(y,s)]):=⟨by rw[ht.out,Ep];simp[hq]⟩
    clear hq;go_wp2_with (first
     |(at_builtin;refine jW (y:=y) (s:=s) rfl (.tmp 17) (.tmp 19) rfl w.heap.size A2 n2 c2 _ rfl O2.out _ rfl rfl S2.out om om ?_;intro A4 c4 w4 Lu hb4;have O4:=Aj Lu;have B4:=Aj hb4;clear Lu hb4)
     |(go_at_call 159;refine CL.out.mono ?_;rintro r w2 ⟨rfl,hg⟩;have hbl:=hg.below;have hbz:=hbl.size;have B2:=Aj (BA.out.trans (hbl.mono BA.out.size));have O2:=Aj (O1.out.keep hbl);have S2:=Aj (ig SS.out B2.out);have X2:=(hbl.block wr.heap.size hlw).trans X1.out;have z0:=Co _ _ 0 _ _ _ X2;have z1:=Co _ _ 1 _ _ _ X2;have z2:=Co _ _ 2 _ _ _ X2;clear hg hbl CL X2))
    go_roundw
    case rel=>exact⟨k+1,om,by go_num,A4,n2+1,c4,rfl,by rw[ht2.out];exact O4.out,om,B2.out.trans B4.out⟩
    case measure=>simp[intOf];omega
   ·rw[AF hq]at CL;have ht2:Kept ((l.take (k+1)).filter (fun e=>e.1.n=x)=(l.take k).filter (fun e=>e.1.n=x)):=⟨by rw[ht.out,Ep];simp[hq]⟩
    clear hq;go_wp2_with (go_at_call 159;refine CL.out.mono ?_;rintro r w2 ⟨rfl,hg⟩;have hbl:=hg.below;have B2:=Aj (BA.out.trans (hbl.mono BA.out.size));have O2:=Aj (O1.out.keep hbl);clear hg hbl CL);go_roundw
    case rel=>exact⟨k+1,om,by go_num,A2,n2,c2,rfl,by rw[ht2.out];exact O2.out,om,B2.out⟩
    case measure=>simp[intOf];omega
  ·obtain rfl:k=n:=by omega
   have ht:l.take k=l:=iM (by have:=HN.out;omega);go_wp2;go_ret;exact⟨A2,n2,c2,rfl,by rw[←ht];exact O.out,HB.out⟩
theorem Um:(prog.info? 62).map (fun i=>(i.zero,i.size,i.bytes))=some (some (.slice none 0 0),1,24):=kr
theorem Rd.hdI (w:World) (A n c):Rd (w.alloc (.cells #[.slice A n c] 62)) (w.heap.size+1) 1 (some ⟨w.heap.size,0,none⟩) 1 1 [.slice A n c]:=
 ⟨Nr _,by unfold maxLen;omega,rfl,fun _=>⟨_,0,rfl,om,fun i u hu=>by
  rw[cK];exact(Ao w _ _ _ i).trans (by simpa using hu)⟩⟩
theorem Un {w B n c k A es hs} (_:hs.length=es.length) (h2:Rd w B 3 A n c (gM es hs)) (hB:B≤w.heap.size) (hk:k<es.length) (hkh:k<hs.length) (hkn:k<n):
  ∃b off,A=some ⟨b,off,none⟩∧∀W,Below w.heap.size w W→W.cell? ⟨b,off+k*3,none⟩=some (.string es[k].1.n)∧W.cell? ⟨b,off+k*3+1,none⟩=some (.string es[k].1.v)∧W.cell? ⟨b,off+k*3+2,none⟩=some hs[k]:=by
 obtain⟨b,off,rfl,hb,hc⟩:=h2.2.2.2 om;have g0:=gu es hs k 0 hk hkh om;have g1:=gu es hs k 1 hk hkh om;have g2:=gu es hs k 2 hk hkh om;refine⟨b,off,rfl,fun W hW=>⟨?_,?_,?_⟩⟩
 ·exact(hW.cell (p:=⟨b,_,none⟩) (by show b<_;omega)).trans (hc (k*3) _ (by simpa[ku]using g0))
 ·exact(hW.cell (p:=⟨b,_,none⟩) (by show b<_;omega)).trans (by rw[fA];exact hc (k*3+1) _ (by simpa[ku]using g1))
 ·exact(hW.cell (p:=⟨b,_,none⟩) (by show b<_;omega)).trans (by rw[fA];exact hc (k*3+2) _ (by simpa[ku]using g2))
theorem qZ (A n c l w) (hv:cZ w w.heap.size A n c l) (hn1:n≤1000000) (htot:Ls.tot (l.map (·.2))≤1000000):
  Calls prog 155 #[.slice A n c] w fun r w'=>∃A2 n2 c2,r= .returned (.slice A2 n2 c2)∧ax w' w.heap.size A2 n2 c2 (Ls.mo [] (l.map (·.2)))∧Below w.heap.size w w':=by
 have hcc:=hv.cap;have hlc:=hcc.1;have hcm:=hcc.2;unfold maxLen at hcm;have V:=Aj hv;have HN:=Aj hv.len;have HT:=Aj htot;obtain⟨hs,hh1,hh2,hh3⟩:=hv;have H1:=Aj hh1;have H2:=Aj hh2;have H3:=Aj (show L6 w hs l from hh3);obtain⟨i0,hi0,hz0,hz1,hz2⟩:=AV Um;have HI:=Aj (And.intro hi0 (And.intro hz0 (And.intro hz1 hz2)));clear hcc hh1 hh2 hh3 htot hi0 hz0 hz1 hz2;go_enter func155,ntmps155;go_wp2;go_loopw [3,8] (fun o i wr=>∃k:Nat,k≤n∧i= .int .i64 k∧∃(A2:Option Addr) (c2:Nat),o= .slice A2 k c2∧wr.ownsRow w.heap.size 62 1 (.slice A2 k c2) k (hs.take k)∧Below w.heap.size w wr) (fun _ i _=>n-(intOf i).toNat)
 case atStart=>exact⟨0,om,rfl,none,0,rfl,by simpa using AX _ _ _ _,Ae _ _⟩
 case round=>
  obtain⟨k,hk,rfl,A2,c2,rfl,ho,hb⟩:=hrel;have HB:=Aj hb;have kP:=hb.size;have O:=Aj ho;clear ho hb;by_cases hlt:k<n
  ·have hkl:k<l.length:=by rw[←HN.out];exact hlt
   have hkh:k<hs.length:=by rw[H1.out];exact hkl
   obtain⟨b,off,rfl,hc⟩:=Un H1.out H2.out Ai hkl hkh hlt;obtain⟨A1,n1,c1,e,_⟩:=H3.out k hkh hkl;have ht:=Aj (Ts hkh);obtain⟨c0,c1',c2'⟩:=hc wr HB.out;rw[e]at c2' ht;clear hc e;generalize l[k]=x at*;have OA:=Aj (Oa O.out (Obj.cells #[.string x.1.n,.string x.1.v,.slice A1 n1 c1] 163));have OB:=Aj (Oa OA.out (Obj.cells #[.slice A1 n1 c1] 62));have RH:=Aj (Rd.hdI (wr.alloc (Obj.cells #[.string x.1.n,.string x.1.v,.slice A1 n1 c1] 163)) A1 n1 c1);obtain⟨hi0,hz0,hz1,hz2⟩:=HI.out;rw[AU]at RH;go_wp2_with (at_builtin;refine aR _ rfl (.tmp 12) (.tmp 15) _ rfl w.heap.size 62 i0 (.slice none 0 0) 1 24 underlying144 hi0 hz0 hz1 hz2 rfl Ah A2 k c2 _ rfl OB.out _ _ _ _ [.slice A1 n1 c1] rfl RH.out (by intro u hu;simp at hu;subst hu;rfl) (by unfold maxLen;omega) om (by simp;omega) ?_;intro A5 c5 w5 hown5 jg J4;have O5:=Aj hown5;have G5:=Aj jg;clear hown5 jg J4 hi0 hz0 hz1 hz2);go_roundw
   case rel=>exact⟨k+1,om,by go_num,A5,c5,rfl,by rw[ht.out];exact O5.out,((HB.out.alloc kP _).alloc (by simp;omega) _).grown G5.out (by simp;omega) (fun g hg=>(ae O.out g hg).1)⟩
   case measure=>simp[intOf];omega
  ·obtain rfl:k=n:=by omega
   have ht:hs.take k=hs:=iM (by have:=HN.out;have:=H1.out;omega);rw[ht]at O;have UN:=Aj (xS A2 k c2 wr.heap.size (l.map (·.2)) wr ⟨hs,Rd.bC O.out,by rw[fM];exact H1.out,fun i m hm=>by
    have him:i<l.length:=by
     rcases Eo i (l.map (·.2)).length with h|h
     ·simpa using h
     ·rw[BN h]at hm;cases hm
    have hih:i<hs.length:=by rw[H1.out];exact him
    obtain⟨A3,n3,c3,e,o⟩:=H3.out i hih him;refine⟨A3,n3,c3,by rw[ja hih,e],?_⟩;have:l[i].2=m:=by
     rw[BV,ja him]at hm;exact Oj hm
    rw[←this];exact ax.rd (ig o HB.out)⟩ Ai HT.out)
   clear ht;go_wp2_with (go_at_call 98;refine UN.out.mono ?_;rintro r w3 ⟨A3,n3,c3,rfl,-,ho3,hb3⟩;have O3:=Aj ho3;have B3:=Aj hb3;clear ho3 hb3);go_ret;exact⟨A3,n3,c3,rfl,aC O3.out kP,HB.out.trans (B3.out.mono kP)⟩
theorem Kv (A n c l x w) (hv:cZ w w.heap.size A n c l) (hn1:n≤1000000) (htot:Ls.tot ((l.filter fun e=>e.1=x).map (·.2))≤1000000):
  Calls prog 97 #[.slice A n c,Yz x] w fun r w'=>∃A2 n2 c2,r= .returned (.slice A2 n2 c2)∧ax w' w.heap.size A2 n2 c2 (Ls.mo [] ((l.filter fun e=>e.1=x).map (·.2)))∧Below w.heap.size w w':=by
 have hb0:Below w.heap.size w (w.alloc (Obj.cells #[.string x.n,.string x.v] 59)):=(Ae _ _).alloc Ai _;have FL:=Aj (Ik A n c w.heap.size l x (w.alloc (Obj.cells #[.string x.n,.string x.v] 59)) (hv.on hb0) hn1 (Ao w _ _ _ 0) (Ao w _ _ _ 1) sm);have HB0:=Aj hb0;have hz0:w.heap.size≤(w.alloc (Obj.cells #[.string x.n,.string x.v] 59)).heap.size:=hb0.size;have HN:=Aj hv.len;have UN:Kept (∀W A2 n2 c2,aP 163 W (w.alloc (Obj.cells #[.string x.n,.string x.v] 59)).heap.size A2 n2 c2 (l.filter fun e=>e.1=x)→Calls prog 155 #[.slice A2 n2 c2] W fun r w'=>∃A2 n2 c2,r= .returned (.slice A2 n2 c2)∧ax w' W.heap.size A2 n2 c2 (Ls.mo [] ((l.filter fun e=>e.1=x).map (·.2)))∧Below W.heap.size W w'):=⟨fun W A2 n2 c2 ho=>qZ A2 n2 c2 _ W ho.rd (by
  have h1:=ho.len;have h2:=Dm (fun e:dV=>decide (e.1=x)) l;have:=HN.out;omega) htot⟩
 clear hb0 hv htot;unfold Yz;go_enter func97,ntmps97;go_wp2_with (first
  |(go_at_call 155;refine(UN.out _ _ _ _ O2.out).mono ?_;rintro r w3 ⟨A3,n3,c3,rfl,ho3,hb3⟩;have O3:=Aj ho3;have B3:=Aj hb3;clear ho3 hb3)
  |(go_at_call 156;refine FL.out.mono ?_;rintro r w2 ⟨A2,n2,c2,rfl,ho2,hb2⟩;have O2:=Aj ho2;have B2:=Aj (HB0.out.trans (hb2.mono hz0));clear ho2 hb2 FL))
 go_ret;exact⟨A3,n3,c3,rfl,aC O3.out B2.out.size,B2.out.trans (B3.out.mono B2.out.size)⟩
theorem Im (A n c l x w) (hv:cZ w w.heap.size A n c l) (hn1:n≤1000000) (htot:Ls.tot ((l.filter fun e=>e.1.n=x).map (·.2))≤1000000):
  Calls prog 99 #[.slice A n c,.string x] w fun r w'=>∃A2 n2 c2,r= .returned (.slice A2 n2 c2)∧ax w' w.heap.size A2 n2 c2 (Ls.mo [] ((l.filter fun e=>e.1.n=x).map (·.2)))∧Below w.heap.size w w':=by
 have hb0:Below w.heap.size w (w.alloc (Obj.cells #[.string x] 9)):=(Ae _ _).alloc Ai _;have FL:=Aj (Il A n c w.heap.size l x (w.alloc (Obj.cells #[.string x] 9)) (hv.on hb0) hn1 (Ao w _ _ _ 0) sm);have HB0:=Aj hb0;have hz0:w.heap.size≤(w.alloc (Obj.cells #[.string x] 9)).heap.size:=hb0.size;have HN:=Aj hv.len;have UN:Kept (∀W A2 n2 c2,aP 163 W (w.alloc (Obj.cells #[.string x] 9)).heap.size A2 n2 c2 (l.filter fun e=>e.1.n=x)→Calls prog 155 #[.slice A2 n2 c2] W fun r w'=>∃A2 n2 c2,r= .returned (.slice A2 n2 c2)∧ax w' W.heap.size A2 n2 c2 (Ls.mo [] ((l.filter fun e=>e.1.n=x).map (·.2)))∧Below W.heap.size W w'):=⟨fun W A2 n2 c2 ho=>qZ A2 n2 c2 _ W ho.rd (by
  have h1:=ho.len;have h2:=Dm (fun e:dV=>decide (e.1.n=x)) l;have:=HN.out;omega) htot⟩
 clear hb0 hv htot;skip;go_enter func99,ntmps99;go_wp2_with (first
  |(go_at_call 155;refine(UN.out _ _ _ _ O2.out).mono ?_;rintro r w3 ⟨A3,n3,c3,rfl,ho3,hb3⟩;have O3:=Aj ho3;have B3:=Aj hb3;clear ho3 hb3)
  |(go_at_call 156;refine FL.out.mono ?_;rintro r w2 ⟨A2,n2,c2,rfl,ho2,hb2⟩;have O2:=Aj ho2;have B2:=Aj (HB0.out.trans (hb2.mono hz0));clear ho2 hb2 FL))
 go_ret;exact⟨A3,n3,c3,rfl,aC O3.out B2.out.size,B2.out.trans (B3.out.mono B2.out.size)⟩
end
end
section
open Go.RowKit Go.Shelf
theorem Gr.quiet {a b c} (h:Gr a b) (q:Quiet b c):Gr a c:=by
 obtain⟨n,rfl⟩:=q;exact h.drewN n
theorem PM (y z:aQ) (s1 s2 A1 A2 n1 c1 n2 c2 B1 B2 w) (h1:bQ w B1 A1 n1 c1 s1) (h2:bQ w B2 A2 n2 c2 s2) (hB1:B1≤w.heap.size) (hB2:B2≤w.heap.size):
  Calls prog 127 #[.agg #[.string y.n,.string y.v,.slice A1 n1 c1],.agg #[.string z.n,.string z.v,.slice A2 n2 c2]] w fun r w'=>r= .returned (.bool (decide ((y,s1)=(z,s2))))∧Gr w w':=by
 have EQ:=fun W=>eqL y z W
 have Hr:=Aj (show bQ ((w.alloc (Obj.cells #[.string y.n,.string y.v,.slice A1 n1 c1] 163)).alloc (Obj.cells #[.string z.n,.string z.v,.slice A2 n2 c2] 163)) B1 A1 n1 c1 s1 from(h1.alloc hB1 _).alloc (by simp;omega) _);have Hs:=Aj (show bQ ((w.alloc (Obj.cells #[.string y.n,.string y.v,.slice A1 n1 c1] 163)).alloc (Obj.cells #[.string z.n,.string z.v,.slice A2 n2 c2] 163)) B2 A2 n2 c2 s2 from(h2.alloc hB2 _).alloc (by simp;omega) _);clear h1 h2;by_cases hyz:y=z
 ·have hd:∀W,Sem.run prog (binOp .eql 59 (.agg #[.string y.n,.string y.v]) (.agg #[.string z.n,.string z.v])) W= .ok (.bool true) W:=fun W=>by rw[EQ W,Bj hyz]
  have Hd:Kept (decide ((y,s1)=(z,s2))=decide (s1=s2)):=⟨decide_eq_decide.2 (by rw[az];simp[hyz])⟩
  clear EQ hyz;go_enter func127,ntmps127;go_wp2_with (go_at_call 128;refine(Kt A1 A2 n1 n2 c1 c2 s1 s2 _ B1 B2 Hr.1 Hs.1).mono ?_;rintro e w3 ⟨rfl,hq⟩;have Hq:=Aj hq;clear hq);go_ret;exact⟨by rw[Hd.1];rfl,(((Gr.refl w).alloc _).alloc _).quiet Hq.1⟩
 ·have hd:∀W,Sem.run prog (binOp .eql 59 (.agg #[.string y.n,.string y.v]) (.agg #[.string z.n,.string z.v])) W= .ok (.bool false) W:=fun W=>by rw[EQ W,AF hyz]
  have Hd:Kept (decide ((y,s1)=(z,s2))=false):=⟨AF (by rw[az];simp[hyz])⟩
  clear EQ hyz;go_enter func127,ntmps127;go_wp2;go_ret;exact⟨by rw[Hd.1];rfl,((Gr.refl w).alloc _).alloc _⟩
end
section
open Go.RowKit Go.Shelf
theorem XQ (A1 A2 n1 c1 n2 c2 E1 E2 w) (h1:cZ w w.heap.size A1 n1 c1 E1) (h2:cZ w w.heap.size A2 n2 c2 E2):
  Calls prog 126 #[.slice A1 n1 c1,.slice A2 n2 c2,.func (.func 127) #[] #[]] w fun r w'=>r= .returned (.bool (decide (E1=E2)))∧Gr w w':=by
 have hc1:=h1.cap;have hc2:=h2.cap;unfold maxLen at hc1 hc2;have N1:=Aj h1.len;have N2:=Aj h2.len;have V1:=Aj h1;have V2:=Aj h2;clear h1 h2;by_cases hl:n1=n2
 ·subst hl;go_enter func126,ntmps126;go_wp2;go_loopw [17] (fun i wr=>∃k:Nat,k≤n1∧i= .int .i64 k∧Kept (E1.take k=E2.take k)∧Kept (Gr w wr)) (fun i _=>n1-(intOf i).toNat)
  case atStart=>exact⟨0,om,rfl,⟨rfl⟩,⟨Gr.refl w⟩⟩
  case round=>
   obtain⟨k,hk,rfl,He,G⟩:=hrel;by_cases hlt:k<n1
   ·have k1:k<E1.length:=by rw[←N1.1];exact hlt
    have k2:k<E2.length:=by rw[←N2.1];exact hlt
    obtain⟨b1,o1,P1,m1,d1,rfl,hb1,hS1,hC1⟩:=V1.1.cells Ai k1;obtain⟨b2,o2,P2,m2,d2,rfl,hb2,hS2,hC2⟩:=V2.1.cells Ai k2;have T1:=Ts k1;have T2:=Ts k2;have Io:Kept (E1[k]≠E2[k]→E1≠E2):=⟨fun h e=>h (by subst e;rfl)⟩
    generalize E1[k]=x1 at hS1 hC1 T1 Io;generalize E2[k]=x2 at hS2 hC2 T2 Io;have HT:Kept (x1=x2→E1.take (k+1)=E2.take (k+1)):=⟨fun h=>by rw[T1,T2,He.1,h]⟩
    obtain⟨y,s1⟩:=x1;obtain⟨z,s2⟩:=x2;simp only[]at hS1 hC1 hS2 hC2;obtain⟨ca,cb,cc⟩:=hC1 wr G.1.below;have G1:Kept (Gr w (wr.alloc (Obj.cells #[.string y.n,.string y.v,.slice P1 m1 d1] 163))):=⟨G.1.alloc _⟩
    obtain⟨da,db,dc⟩:=hC2 _ G1.1.below;have G2:Kept (Gr w ((wr.alloc (Obj.cells #[.string y.n,.string y.v,.slice P1 m1 d1] 163)).alloc (Obj.cells #[.string z.n,.string z.v,.slice P2 m2 d2] 163))):=⟨G1.1.alloc _⟩
    have CL:=Aj (PM y z s1 s2 P1 P2 m1 d1 m2 d2 _ _ _ (ig hS1 G2.1.below).rd (ig hS2 G2.1.below).rd Ai Ai);clear T1 T2 hS1 hS2 hC1 hC2 He k1 k2;by_cases hq:(y,s1)=(z,s2)
    ·have ht:=HT.1 hq;have HE:=Aj ht;have CL2:=CL;rw[Bj hq]at CL2;clear ht CL hq HT Io;go_wp2_with (go_at_call 127;refine CL2.1.mono ?_;rintro e w3 ⟨rfl,hg⟩;have Hg:=Aj (G2.1.trans hg);clear hg);go_roundw
     case rel=>exact⟨k+1,om,by go_num,HE,Hg⟩
     case measure=>simp[intOf];try omega
    ·have HE:=Aj (Io.1 hq);have CL2:=CL;rw[AF hq]at CL2;clear CL hq HT Io;go_wp2_with (go_at_call 127;refine CL2.1.mono ?_;rintro e w3 ⟨rfl,hg⟩;have Hg:=Aj (G2.1.trans hg);clear hg);go_ret;exact⟨by rw[AF HE.1];rfl,Hg.1⟩
   ·obtain rfl:k=n1:=by omega
    have HE:Kept (E1=E2):=⟨by have:=He.1;rwa[iM (Nat.le_of_eq N1.1.symm),iM (Nat.le_of_eq N2.1.symm)]at this⟩
    clear hlt hk;go_wp2;go_ret;exact⟨by rw[Bj HE.1];rfl,G.1⟩
 ·have HE:Kept (E1≠E2):=⟨fun e=>hl (by rw[N1.1,N2.1,e])⟩
  have hne:((n1:Int) !=(n2:Int))=true:=by simp;omega
  clear hl;go_enter func126,ntmps126;go_wp2;go_ret;exact⟨by rw[AF HE.1];rfl,Gr.refl w⟩
theorem wX (A1 A2 n1 c1 n2 c2 E1 E2 w) (h1:cZ w w.heap.size A1 n1 c1 E1) (h2:cZ w w.heap.size A2 n2 c2 E2):
  Calls prog 75 #[.slice A1 n1 c1,.slice A2 n2 c2] w fun r w'=>r= .returned (.bool (decide (E1=E2)))∧Gr w w':=by
 have C:=Aj (XQ A1 A2 n1 c1 n2 c2 E1 E2 w h1 h2);clear h1 h2;generalize decide (E1=E2)=b at*;go_enter func75,ntmps75;go_wp2_with (go_at_call 126;refine C.1.mono ?_;rintro e w3 ⟨rfl,hg⟩);go_ret;exact⟨rfl,hg⟩
end
section
open Go.RowKit Go.Shelf
def Fl (e:Int):PanicEntry:={v:= .iface 211 (.agg #[.int .i64 e]),recovered:=false}
theorem mf (w):Calls prog 72 #[.int .i64 0] w fun r w'=>r= .returned (.tuple #[])∧w'=w:=by
 go_enter func72,ntmps72;go_wp2;go_end0;exact⟨rfl,rfl⟩
theorem gz (e) (he:e≠0) (w):Calls prog 72 #[.int .i64 e] w fun r w'=>r= .panicked [Fl e]∧w'=w:=by
 have h:(e !=0)=true:=by simp[he]
 go_enter func72,ntmps72;go_wp2;exact⟨rfl,rfl,rfl⟩
theorem vB (v w):Calls prog 67 #[v,.int .i64 0] w fun r w'=>r= .returned v∧w'=w:=by
 go_enter func67,ntmps67;go_wp2_with (go_at_call 72;refine(mf _).mono ?_;rintro e w1 ⟨rfl,rfl⟩);go_ret;exact⟨rfl,rfl⟩
theorem Kw (v e) (he:e≠0) (w):Calls prog 67 #[v,.int .i64 e] w fun r w'=>r= .panicked [Fl e]∧w'=w:=by
 have H:=Aj he;clear he;go_enter func67,ntmps67;go_wp2_with (go_at_call 72;refine(gz e H.1 _).mono ?_;rintro r w1 ⟨rfl,rfl⟩);exact⟨rfl,rfl,rfl⟩
theorem Ip (v w):Calls prog 69 #[v,.int .i64 0] w fun r w'=>r= .returned v∧w'=w:=by
 go_enter func69,ntmps69;go_wp2_with (go_at_call 72;refine(mf _).mono ?_;rintro e w1 ⟨rfl,rfl⟩);go_ret;exact⟨rfl,rfl⟩
theorem Ky (v e) (he:e≠0) (w):Calls prog 69 #[v,.int .i64 e] w fun r w'=>r= .panicked [Fl e]∧w'=w:=by
 have H:=Aj he;clear he;go_enter func69,ntmps69;go_wp2_with (go_at_call 72;refine(gz e H.1 _).mono ?_;rintro r w1 ⟨rfl,rfl⟩);exact⟨rfl,rfl,rfl⟩
theorem Uo (v w):Calls prog 73 #[v,.int .i64 0] w fun r w'=>r= .returned v∧w'=w:=by
 go_enter func73,ntmps73;go_wp2_with (go_at_call 72;refine(mf _).mono ?_;rintro e w1 ⟨rfl,rfl⟩);go_ret;exact⟨rfl,rfl⟩
theorem Kz (v e) (he:e≠0) (w):Calls prog 73 #[v,.int .i64 e] w fun r w'=>r= .panicked [Fl e]∧w'=w:=by
 have H:=Aj he;clear he;go_enter func73,ntmps73;go_wp2_with (go_at_call 72;refine(gz e H.1 _).mono ?_;rintro r w1 ⟨rfl,rfl⟩);exact⟨rfl,rfl,rfl⟩
theorem Ur (v w):Calls prog 76 #[v,.int .i64 0] w fun r w'=>r= .returned v∧w'=w:=by
 go_enter func76,ntmps76;go_wp2_with (go_at_call 72;refine(mf _).mono ?_;rintro e w1 ⟨rfl,rfl⟩);go_ret;exact⟨rfl,rfl⟩
theorem KA (v e) (he:e≠0) (w):Calls prog 76 #[v,.int .i64 e] w fun r w'=>r= .panicked [Fl e]∧w'=w:=by
 have H:=Aj he;clear he;go_enter func76,ntmps76;go_wp2_with (go_at_call 72;refine(gz e H.1 _).mono ?_;rintro r w1 ⟨rfl,rfl⟩);exact⟨rfl,rfl,rfl⟩
theorem KC (p q w):Calls prog 66 #[.nilIface,p,q] w fun r w'=>r= .returned (.tuple #[])∧w'=w:=by
 have hn:∀W:World,(binOp BinOp.eql 20 .nilIface .nilIface).run prog W= .ok (.bool true) W:=fun _=>kr
 go_enter func66,ntmps66;go_wp2
 first|go_end0|refine Bi (CQ rfl _ _ _) rfl ?_
 exact⟨rfl,rfl⟩
def CaP (w:World) (b d:Nat) (e:Int) (B:Nat) (w':World):Prop:=
 Below B w w'∧w'.cell? ⟨b,0,none⟩=some (.slice none 0 0)∧w'.cell? ⟨d,0,none⟩=some (.int .i64 e)
theorem Iq (e b d B v1 v2 w) (hB:B≤b) (hd:B≤d) (hne:b≠d) (hb1:w.cell? ⟨b,0,none⟩=some v1) (hd1:w.cell? ⟨d,0,none⟩=some v2) (fb:w.frozen? ⟨b,0,none⟩=false) (fd:w.frozen? ⟨d,0,none⟩=false):
  Calls prog 66 #[(Fl e).v,.pointer (some ⟨b,0,none⟩),.pointer (some ⟨d,0,none⟩)] w fun r w'=>r= .returned (.tuple #[])∧CaP w b d e B w':=by
 have hta:∀W:World,(Instr.typeAssert (.iface 211 (.agg #[.int .i64 e])) 20 211 true).run prog W= .ok (.tuple #[.agg #[.int .i64 e],.bool true]) W:=fun _=>kr
 have hnn:∀W:World,(binOp BinOp.eql 20 (.iface 211 (.agg #[.int .i64 e])) .nilIface).run prog W= .ok (.bool false) W:=fun _=>kr
 have lb:=Bc w ⟨b,0,none⟩ hb1;have ld:=Bc w ⟨d,0,none⟩ hd1;obtain⟨W,hW⟩:∃W,W=w.alloc (.cells #[.int .i64 e] 211):=⟨_,rfl⟩
 have k1:W.cell? ⟨b,0,none⟩=some v1:=by rw[hW];exact(AB w _ ⟨b,0,none⟩ lb).trans hb1
 have k2:W.cell? ⟨d,0,none⟩=some v2:=by rw[hW];exact(AB w _ ⟨d,0,none⟩ ld).trans hd1
 have hbW:Below w.heap.size w W:=by rw[hW];exact(Ae _ _).alloc Ai _
 have k3:W.frozen? ⟨b,0,none⟩=false:=(hbW.frozen (p:=⟨b,0,none⟩) lb).trans fb;have k4:W.frozen? ⟨d,0,none⟩=false:=(hbW.frozen (p:=⟨d,0,none⟩) ld).trans fd;have k5:W.cell? ⟨w.heap.size,0,none⟩=some (.int .i64 e):=by rw[hW];exact Ao w _ _ _ 0
 unfold Fl;go_enter func66,ntmps66;go_wp2;rw[←hW];clear hW;go_region
 all_goals
  first|go_end0|refine Bi (CQ rfl _ _ _) rfl ?_
  refine⟨rfl,?_,?_,?_⟩
  ·exact(((hbW.mono om).setCell (p:=⟨b,0,none⟩) hB _).setCell (p:=⟨d,0,none⟩) hd _).drew
  ·exact(AJ _ _ _ _ (by intro h;cases h;exact hne rfl)).trans (World.cell?_setCell_same _ _ _ k1)
  ·exact World.cell?_setCell_same _ _ _ ((AJ _ _ _ _ (by intro h;cases h;exact hne rfl)).trans k2)
theorem PN (p q w):
  CallsD prog 65 #[.pointer (some p),.pointer (some q)] .returning w fun e u' w'=>e= .returned (.tuple #[])∧u'= .returning∧w'=w:=by
 have C:=Aj (KC (.pointer (some p)) (.pointer (some q)) w);refine callsD_of_wpS func65 rfl fun c₀ cs hu=>?_
 apply wpS_region;simp[wpOpsS,go_sem,recoverD,hu,ntmps65];refine C.1.mono ?_;rintro e w'' ⟨rfl,rfl⟩;cases c₀;simp_all [bodyPostS,results,Tryz.results65]
theorem PO (f b d B v1 v2 older w) (hB:B≤b) (hd:B≤d) (hne:b≠d) (hb1:w.cell? ⟨b,0,none⟩=some v1) (hd1:w.cell? ⟨d,0,none⟩=some v2) (fb:w.frozen? ⟨b,0,none⟩=false) (fd:w.frozen? ⟨d,0,none⟩=false):
  CallsD prog 65 #[.pointer (some ⟨b,0,none⟩),.pointer (some ⟨d,0,none⟩)] (.panicking (Fl f::older)) w fun e u' w'=>e= .returned (.tuple #[])∧u'= .panicking ({v:=(Fl f).v,recovered:=true}::older)∧CaP w b d f B w':=by
 have C:=Aj (Iq f b d B v1 v2 w hB hd hne hb1 hd1 fb fd);clear hB hd hne hb1 hd1 fb fd;refine callsD_of_wpS func65 rfl fun c₀ cs hu=>?_
 unfold Fl at hu C;apply wpS_region;simp[wpOpsS,go_sem,recoverD,hu,ntmps65];refine C.1.mono ?_;rintro e w'' ⟨rfl,hca⟩;cases c₀;simp_all [bodyPostS,results,Tryz.results65,Fl]
end
section
open Go.RowKit Go.Shelf
theorem PQ (n:Nat) (w) (hn:n≤20000000):
  Calls prog 212 #[.slice none 0 0,.int .i64 n] w fun e w'=>∃A c,e= .returned (.slice A 0 c)∧ax w' w.heap.size A 0 c []∧Below w.heap.size w w':=by
 by_cases h0:n=0
 ·subst h0;go_enter func212,ntmps212;go_wp2;go_ret;exact⟨none,0,rfl,AX _ _ _ _,Ae _ _⟩
 ·obtain⟨i0,hi0,hz0,hz1,hz2⟩:=AV xq;have hp:(0:Int)< (n:Int):=om;have hrz:∀ty,(Builtin.append_ #[62,3] ty #[.slice none 0 0,.int .i64 (n:Int)]).run prog w=
    .ok (.slice (some ⟨w.heap.size,0,none⟩) (0+n) (grownCap w (0+n) 0 3)) (w.drew.alloc (.cells (([]:List Value).toArray++Builtin.zeroCells (Value.int .i64 0).cells n++Builtin.zeroCells (Value.int .i64 0).cells (grownCap w (0+n) 0 3-(0+n))) 3)):=fun ty=>by
   refine Lib.run_append_grow_zeros w 62 3 ty 3 i0 (.int .i64 0) .i64 .i64 underlying62 underlying3 hi0 hz0 none 0 0 [] (run_firstCells_none w.drew i0.size 0 0 0) n om om om om (by rw[hz2];omega) ?_;rw[hz2];exact growslice_fits om om
  have hlo:=grownCap_ge w (0+n) 0 3;have hhi:=grownCap_le_maxLen w (0+n) 0 3 (by unfold maxLen;omega);have hsz:(([]:List Value).toArray++Builtin.zeroCells (Value.int .i64 0).cells n++Builtin.zeroCells (Value.int .i64 0).cells (grownCap w (0+n) 0 3-(0+n))).size=grownCap w (0+n) 0 3:=by
   rw[cK]at hlo⊢;simp[Builtin.zeroCells,Value.cells];omega
  generalize (([]:List Value).toArray++Builtin.zeroCells (Value.int .i64 0).cells n++Builtin.zeroCells (Value.int .i64 0).cells (grownCap w (0+n) 0 3-(0+n)))=C at*;generalize grownCap w (0+n) 0 3=G at*;have ho:(w.drew.alloc (.cells C 3)).ownsRow w.heap.size 3 1 (.slice (some ⟨w.heap.size,0,none⟩) 0 G) 0 []:=World.ownsRow_made w.drew C G Ai hhi om;have hb:Below w.heap.size w (w.drew.alloc (.cells C 3)):=((Ae _ w).drew).alloc Ai _;unfold maxLen at hhi;rw[cK]at hrz hlo;have Ho:=Aj ho;have Hb:=Aj hb;clear ho hb hsz hz0 hz1 hz2 hi0;have hn':(n:Int)≤20000000:=om;have amP:(n:Int)≤(G:Int):=om;clear hn hlo;go_enter func212,ntmps212;go_wp2_with (at_builtin;refine Lib.wpList_append_run _ rfl _ _ _ _ rfl _ _ rfl rfl _ _ (hrz _) ?_)
  all_goals
   go_ret;exact⟨_,G,rfl,Ho.1,Hb.1⟩
theorem XR {LL:List (List Int)} {k} (h:k<LL.length):(LL.take (k+1)).flatten=(LL.take k).flatten++LL[k]:=by
 rw[←List.take_append_getElem h,List.flatten_append];simp
theorem Ir (A n c B LL w) (hv:iR w B A n c LL) (hB:B≤w.heap.size) (hl:Ls.tot LL≤10000000):
  Calls prog 176 #[.slice A n c] w fun e w'=>∃A3 n3 c3,e= .returned (.slice A3 n3 c3)∧ax w' w.heap.size A3 n3 c3 LL.flatten∧Below w.heap.size w w':=by
 have HN:=Aj hv.len;have hcap:=hv.cap;unfold maxLen at hcap;have HV:=Aj hv;clear hv;have HL:=Aj hl;have hl':(Ls.tot LL:Int)≤10000000:=om;clear hl;go_enter func176,ntmps176;go_wp2;go_loop [3,11] (fun s i=>∃k t:Nat,k≤n∧i= .int .i64 k∧s= .int .i64 t∧Kept (t=Ls.tot (LL.take k))∧(t:Int)≤10000000) (fun _ i=>n-(intOf i).toNat)
 case atStart=>exact⟨0,0,om,rfl,rfl,⟨rfl⟩,om⟩
 case round=>
  obtain⟨k,t,hk,rfl,rfl,Ht,ht2⟩:=hrel;by_cases hlt:k<n
  ·have hkn:k<LL.length:=by rw[←HN.1];exact hlt
   obtain⟨b,off,A',n',c',rfl,kK,hcell,hr⟩:=HV.1.at_ hkn;have XT:=hr.len;have htk:=Ls.iy hkn;have hle:=Ls.gN LL (k+1);have ht:=Ht.1;have hs:((t+n':Nat):Int)≤10000000:=om;have E1:=Aj (show t+n'=Ls.tot (LL.take (k+1))from om);have E2:=Aj hr;clear htk hle ht XT hr;go_wp2;go_round
   case rel=>exact⟨k+1,t+n',om,by go_num,by go_num,E1,hs⟩
   case measure=>simp[intOf];try omega
  ·obtain rfl:k=n:=by omega
   have HT:=Aj (show t=Ls.tot LL by rw[Ht.1,HN.1,iM Ai]);clear Ht hlt hk;go_wp2_with (go_at_call 212;refine(PQ t _ om).mono ?_;rintro e w1 ⟨A0,c0,rfl,ho,hb⟩);go_loopw [6,27] (fun o i wr=>∃j n3 A3 c3,j≤k∧i= .int .i64 (j:Nat)∧o= .slice A3 n3 c3∧ax wr w.heap.size A3 n3 c3 (LL.take j).flatten∧Below w.heap.size w wr∧Kept (n3=Ls.tot (LL.take j))∧(n3:Int)≤10000000) (fun _ i _=>k-(intOf i).toNat)
   case atStart=>exact⟨0,0,A0,c0,om,rfl,rfl,ho,hb,⟨rfl⟩,om⟩
   case round=>
    clear ho hb;obtain⟨j,n3,A3,c3,hj,rfl,rfl,ho,hb,Hn3,acm⟩:=hrel;by_cases hlt2:j<k
    ·have hjn:j<LL.length:=by rw[←HN.1];exact hlt2
     obtain⟨b,off,A',n',c',rfl,kK,hcell,hr⟩:=HV.1.at_ hjn;have hl0:=(hb.cell (p:=⟨b,off+j,none⟩) (by show b<_;omega)).trans hcell;have hz:=hb.size;have hA:=Aj (ae ho);have R1:=Aj ((bQ.more hr hB).below hb);have XT:=hr.len;have mG:=Hn3.1;have htk:=Ls.iy hjn;have hle:=Ls.gN LL (j+1);have hs:((n3+n':Nat):Int)≤10000000:=om;have hs3:n3+n'≤17592186044416:=om;have E1:=Aj (show n3+n'=Ls.tot (LL.take (j+1))from om);have E2:=Aj XT;clear mG htk hle acm XT;go_wp2_with (at_builtin;refine bT rfl (.tmp 31) (.tmp 32) rfl w.heap.size A3 n3 c3 _ rfl ho w.heap.size A' n' c' LL[j] rfl R1.1 hs3 hz ?_;intro A4 c4 w4 av af cO);have hb4:Below w.heap.size w w4:=hb.grown af hz (fun g hg=>(hA.1 g hg).1);rw[←XR hjn]at av;go_roundw
     case rel=>exact⟨j+1,n3+n',A4,c4,om,by go_num,rfl,av,hb4,⟨E1.1⟩,hs⟩
     case measure=>simp[intOf];try omega
    ·obtain rfl:j=k:=by omega
     clear hlt2 hj;go_wp2;go_ret;refine⟨A3,n3,c3,rfl,?_,hb⟩;rw[HN.1,iM Ai]at ho;exact ho
end
end Go.Proofs.YtongopommlghgaaGreatDoor
