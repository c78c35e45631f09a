/- Part 8. -/
import Derived.Test.YtongopommlghgaaGreatDoorZJAE
import Derived.Test.YtongopommlghgaaGreatDoorZJAG
namespace Go.Proofs.YtongopommlghgaaGreatDoor
set_option maxRecDepth 100000
set_option maxHeartbeats 0
open _root_.Go.Proofs.Tryz
section
section
open Go.RowKit Go.Shelf
def Sy.bs (T:List ByteArray) (s:ByteArray):Nat:=(T.filter fun x=>St.lt x s).length
theorem Jv (A n c T s w) (hv:bM w w.heap.size A n c T) (hS:Sy.aN T) (hn:n≤1000000):
  Calls prog 200 #[.slice A n c,.string s] w fun e w'=>e= .returned (.tuple #[.int .i64 (Sy.bs T s:Nat),.bool (Sy.idx T s).isSome])∧∃q,w'=w.drewN q:=by
 have hlen:=hv.len;have hlc:=hv.1;have hcm:=hv.2.1;unfold maxLen at hcm;rcases lY n with h0|h0
 ·subst h0;obtain rfl:T=[]:=qU hlen.symm;exact(Any2.slices_BinarySearch_string_empty Tryz.bsL A c s w).mono fun e w' ⟨h1,h2⟩=>⟨h1,0,h2⟩
 ·obtain⟨b,off,rfl,-,hc⟩:=hv.2.2.2 h0;refine(Any2.slices_BinarySearch_string Tryz.bsL b off n c (fun j=>T.getD j ByteArray.empty) s w ?_ ?_).mono ?_
  ·omega
  ·intro j hj;refine hc j _ ?_;have hjl:j<T.length:=om;simp[oL,sv,List.getD,hjl]
  ·rintro e w' ⟨h1,h2⟩;refine⟨?_,h2⟩;rw[h1];subst hlen;rw[Sy.search hS s];rcases Sy.sQ hS s with⟨h3,h4,h5⟩|⟨h3,h4⟩
   ·rw[h3];have:decide (((T.filter fun x=>St.lt x s).length<T.length)∧T.getD (T.filter fun x=>St.lt x s).length ByteArray.empty=s)=true:=by
     rw[Em];exact⟨h4,by simp[List.getD,h4,h5]⟩
    rw[this];rfl
   ·rw[h3];have:decide (((T.filter fun x=>St.lt x s).length<T.length)∧T.getD (T.filter fun x=>St.lt x s).length ByteArray.empty=s)=false:=by
     rw[decide_eq_false_iff_not];rintro⟨h5,h6⟩;exact h4 ⟨h5,by simpa[List.getD,h5]using h6⟩
    rw[this];rfl
theorem tX (A n c T s w) (hv:bM w w.heap.size A n c T) (hS:Sy.aN T) (hn:n≤1000000):
  Calls prog 147 #[.slice A n c,.string s] w fun e w'=>e= .returned (.tuple #[.int .i64 (((Sy.idx T s).getD 0:Nat):Int),.bool (Sy.idx T s).isSome])∧∃q,w'=w.drewN q:=by
 have SE:=Al (Jv A n c T s w hv hS hn);have hi:=Sy.sQ hS s;have hi2:Sy.idx T s=some (Sy.bs T s)∨Sy.idx T s=none:=hi.imp (·.1) (·.1);clear hi hv hS;rcases hi2 with h|h
 ·rw[h]at SE⊢;simp only[Option.isSome_some,Option.getD_some]at SE⊢;clear h;generalize Sy.bs T s=k at*;go_enter func147,ntmps147;go_wp2_with (go_at_call 200;refine SE.1.mono ?_;rintro e w1 ⟨rfl,q,rfl⟩);go_ret2;exact⟨rfl,q,rfl⟩
 ·rw[h]at SE⊢;simp only[Option.isSome_none,Option.getD_none]at SE⊢;clear h;generalize Sy.bs T s=k at*;go_enter func147,ntmps147;go_wp2_with (go_at_call 200;refine SE.1.mono ?_;rintro e w1 ⟨rfl,q,rfl⟩);go_ret2;exact⟨rfl,q,rfl⟩
end
end
section
section
open Go.RowKit Go.Shelf
namespace Rc
def dP (T:List ByteArray) (s:ByteArray):List UInt8:=Vi.enc ((Sy.idx T s).getD 0)
def Yo (n:Int):List UInt8:=Vi.enc n.toNat
def jy (T:List ByteArray) (r:jL):List UInt8:=Vi.enc r.1.length++(Lb.strs r.1).flatMap (dP T)++(Vi.enc r.2.length++r.2.flatMap Yo)
def aM (T:List ByteArray) (rs:List jL):List UInt8:=Vi.enc rs.length++rs.flatMap (jy T)
def iU:List Int→Int
 |[]=>0
 |n::l=>if n<1∨2147483647<n then 23 else iU l
def dC (T:List ByteArray) (C:List Int):List ByteArray→Int
 |[]=>if C=[]then 23 else iU C
 |s::l=>if Sy.idx T s=none then 14 else dC T C l
def err (T:List ByteArray):List jL→Int
 |[]=>0
 |r::rs=>if dC T r.2 (Lb.strs r.1)≠0 then dC T r.2 (Lb.strs r.1)else err T rs
def enc (T:List ByteArray) (rs:List jL):List UInt8×Int:=if err T rs=0 then(aM T rs,0)else([],err T rs)
theorem kP {α:Type} (l:List α) (k) (h:k<l.length):l.drop k=l[k]::l.drop (k+1):=oQ h
end Rc
theorem vC.cells {w B n c k A rs} (h:vC w B A n c rs) (hB:B≤w.heap.size) (hk:k<rs.length):
  ∃b off A1 n1 c1 A2 n2 c2,A=some ⟨b,off,none⟩∧dH w B A1 n1 c1 rs[k].1∧jF w B A2 n2 c2 rs[k].2∧∀W,Below w.heap.size w W→W.cell? ⟨b,off+k*2,none⟩=some (.slice A1 n1 c1)∧W.cell? ⟨b,off+k*2+1,none⟩=some (.slice A2 n2 c2):=by
 have hn:=h.len;obtain⟨hs,h1,h2,h3⟩:=h;obtain⟨A1,n1,c1,A2,n2,c2,e,p,q⟩:=h3 k om hk;obtain⟨b,off,rfl,hb,hc⟩:=h1.2.2.2 om;obtain⟨g1,g2⟩:=bR hs k om;rw[e]at g1 g2;refine⟨b,off,A1,n1,c1,A2,n2,c2,rfl,p,q,fun W hW=>⟨(hW.cell (p:=⟨b,_,none⟩) (by show b<_;omega)).trans (hc _ _ g1),(hW.cell (p:=⟨b,_,none⟩) (by show b<_;omega)).trans ?_⟩⟩;rw[iw];exact hc _ _ g2
theorem vC.cap {w B n c A rs} (h:vC w B A n c rs):n≤c∧c≤maxLen:=by
 obtain⟨hs,h1,_⟩:=h;exact⟨h1.1,h1.2.1⟩
theorem wrap_u64 (k) (h0:0≤k) (h:k<18446744073709551616):IntKind.u64.wrap k=k:=by simp[IntKind.wrap,IntKind.bits,IntKind.signed];omega
structure Bx (w W:World) (A:Option Addr) (n c:Nat) (l:List UInt8) (G:Nat) (u v:Value) (As:Option Addr) (ns cS:Nat) (ss:List ByteArray):Prop where
 own:ah W w.heap.size A n c l
 below:Below w.heap.size w W
 strs:aR W w.heap.size As ns cS ss
 box:W.heap[G]? =some (.cells #[u,v] 146 (0,0))
theorem Bx.len {w W A As n c G ns cS l u v ss} (h:Bx w W A n c l G u v As ns cS ss):n=l.length:=h.own.len
theorem Bx.cells {w W A As n c G ns cS l u v ss} (h:Bx w W A n c l G u v As ns cS ss):W.cell? ⟨G,0,none⟩=some u∧W.cell? ⟨G,1,none⟩=some v:=
 ⟨fq W G 0 _ _ _ h.box,fq W G 1 _ _ _ h.box⟩
theorem ah.Jw {w base n c g A l cs t fr} (h:ah w base A n c l) (hg:w.heap[g]? =some (.cells cs t fr)) (ht:t≠5):ab A≠some g:=by
 intro e;rcases h.2 with⟨hv,_⟩|⟨g',cap,cur,hv,_,hg',_⟩
 ·injection hv with h1;rw[h1]at e;cases e
 ·injection hv with h1
  rw[h1]at e;have:g'=g:=Oj e;subst this;rw[hg]at hg'
  injection hg' with h2
  injection h2 with _ h3
  exact ht h3
theorem Bx.drewN {w W A As n c G ns cS l u v ss} (h:Bx w W A n c l G u v As ns cS ss) (q):Bx w (W.drewN q) A n c l G u v As ns cS ss:=
 ⟨h.own,below_drewN h.below q,h.strs,h.box⟩
theorem yS {w W A As} {n c G ns cS x:Nat} {l u v ss} (h:Bx w W A n c l G u v As ns cS ss) (hx:x<18446744073709551616) (hn:n≤140737488355000):
  Calls prog 145 #[.slice A n c,.int .u64 (x:Int)] W fun e w'=>∃A3 n3 c3,e= .returned (.slice A3 n3 c3)∧Bx w w' A3 n3 c3 (l++Vi.enc x) G u v As ns cS ss:=
 (di A n c w.heap.size x l W h.own h.below.size hx hn).mono fun e w' ⟨A3,n3,c3,h1,h2,h3,_⟩=>
  ⟨A3,n3,c3,h1,h2,h.below.trans (aF h.own h.below.size h3),ag h.strs h3 (eF h.strs h.own Ai),
   (h3.block G (Ge.1 h.box).1 (Ne.symm (h.own.Jw h.box Ai))).trans h.box⟩
end
end
section
section
open Go.RowKit Go.Shelf
theorem FJ (TA A tn tc n c T rs w) (hT:bM w w.heap.size TA tn tc T) (hS:Sy.aN T) (hv:vC w w.heap.size A n c rs) (htn:tn≤1000000)
  (hn:n≤1000000) (hr:∀r∈rs,r.1.length≤1000000∧r.2.length≤1000000) (hsz:(Rc.aM T rs).length≤1000000000):
  Calls prog 87 #[.slice TA tn tc,.slice A n c] w fun e w'=>∃A3 n3 c3,e= .returned (.tuple #[.slice A3 n3 c3,.int .i64 (Rc.enc T rs).2])∧ah w' w.heap.size A3 n3 c3 (Rc.enc T rs).1∧Below w.heap.size w w':=by
 obtain⟨hlc,hcm⟩:=hv.cap;unfold maxLen at hcm;have HN:=Al hv.len;have V:=Al hv;have VT:=Al hT;have HR:=Al hr;have HS:=Al hS;obtain⟨M,hM⟩:∃M,M=Rc.enc T rs:=⟨_,rfl⟩
 rw[←hM];obtain⟨E,hE⟩:∃E,E=Rc.aM T rs:=⟨_,rfl⟩
 rw[←hE]at hsz;have HE:=Al hE;have HM:Kept (M=if Rc.err T rs=0 then(E,0)else([],Rc.err T rs)):=⟨by rw[hM,hE];rfl⟩
 have SZ:=Al hsz;have hwn:=wrap_u64 (n:Int) om om;clear hv hT hr hM hE hS hsz;go_enter func87,ntmps87;go_upto_region 3 with(go_at_call 145;refine(di none 0 0 w.heap.size n [] _ (ah.nil _ _) Aj om om).mono ?_;rintro e w1 ⟨A1,n1,c1,rfl,ho1,hg1,-⟩;have O1:=Al ho1;have B1:=Al (aF (ah.nil w w.heap.size) Aj hg1);clear ho1 hg1)
 go_loopw [6,21] (fun b i wr=>∃k:Nat,k≤n∧i= .int .i64 k∧∃A2 n2 c2 bl,b= .slice A2 n2 c2∧ah wr w.heap.size A2 n2 c2 bl∧Below w.heap.size w wr∧Kept (bl++(rs.drop k).flatMap (Rc.jy T)=E∧Rc.err T rs=Rc.err T (rs.drop k))) (fun _ i _=>n-(intOf i).toNat)
 case atStart=>exact⟨0,om,rfl,A1,n1,c1,_,rfl,O1.1,B1.1,⟨by rw[HE.1,Rc.aM,HN.1];simp,rfl⟩⟩
 case round=>
  clear O1 B1;obtain⟨k,hk,rfl,A2,n2,c2,bl,rfl,ho,hb,hd⟩:=hrel;by_cases hlt:k<n
  ·have hkl:k<rs.length:=by rw[←HN.1];exact hlt
   obtain⟨b,off,A3,n3,c3,A4,n4,c4,rfl,hL,hC,hc⟩:=V.1.cells Aj hkl;obtain⟨r0,r1⟩:=hc wr hb;obtain⟨h6a,h6b⟩:=HR.1 _ (dR hkl);have hdg:=Rc.kP rs k hkl;have hd1:=hd.1.1;have hd2:=hd.1.2;rw[hdg]at hd1 hd2;rw[Av]at hd1;rw[Rc.err]at hd2;unfold Rc.jy at hd1;clear hd hdg hc;obtain⟨R,hRR⟩:∃R,R=(rs.drop (k+1)).flatMap (Rc.jy T):=⟨_,rfl⟩
   have HRR:=Al hRR;unfold Rc.jy at hRR;rw[←hRR]at hd1;clear hRR;generalize rs[k]=rk at*;obtain⟨L,C⟩:=rk;simp only[]at hL hC h6a h6b hd1 hd2;have hl3:=hL.len;have hl4:=hC.len;have hc3:=hL.1;have Jy:=hL.2.1;have hc4:=hC.1;have ZC:=hC.2.1;unfold maxLen at Jy ZC;have h36:n3≤1000000:=om;have h46:n4≤1000000:=om;have hw3:=wrap_u64 (n3:Int) om om;have hw4:=wrap_u64 (n4:Int) om om;have H3:=Al hl3;have H4:=Al hl4;obtain⟨TL,hTL⟩:∃TL,TL=Vi.enc C.length++(C.flatMap Rc.Yo++R):=⟨_,rfl⟩
   have D1:Kept (bl++Vi.enc n3++((Lb.strs L).flatMap (Rc.dP T)++TL)=E):=⟨by rw[←hd1,hTL,hl3];simp⟩
   have HTL:=Al hTL;have D2:=Al hd2;have hn2:n2≤1000000000:=by
    have h1:=ho.len;have h2:=SZ.1;rw[←D1.1]at h2;simp at h2;omega
   have hbz:=hb.size;have HL:=Al hL;have HC:=Al hC;have X1:Kept (Bx w (wr.alloc (.cells #[.slice A3 n3 c3,.slice A4 n4 c4] 146)) A2 n2 c2 bl wr.heap.size (.slice A3 n3 c3) (.slice A4 n4 c4) none 0 0 []):=
    ⟨⟨Oa ho _,hb.alloc hbz _,aR.nil _ _,Aw wr _⟩⟩
   clear hd1 hd2 hl3 hl4 hTL hL hC ho hb h6a h6b;go_upto_region 7 with(first
    |(go_at_call 145;refine(yS X1.1 om om).mono ?_;rintro e w2 ⟨A5,n5,c5,rfl,hx⟩;obtain⟨y0,y1⟩:=hx.cells;have X2:=Al hx;clear hx X1)
    |(go_at_call 123;refine(jK A3 n3 c3 L w2 ((HL.1.below X2.1.below).more X2.1.below.size) om).mono ?_;rintro e w3 ⟨A6,n6,c6,rfl,ho,hb⟩;have O3:=Al ho;have B3:=Al hb;clear ho hb))
   have X3:Kept (Bx w w3 A5 n5 c5 (bl++Vi.enc n3) wr.heap.size (.slice A3 n3 c3) (.slice A4 n4 c4) A6 n6 c6 (Lb.strs L)):=
    ⟨⟨X2.1.own.keep B3.1,X2.1.below.trans (B3.1.mono X2.1.below.size),bK O3.1 X2.1.below.size,(B3.1.block _ (Ge.1 X2.1.box).1).trans X2.1.box⟩⟩
   clear X2 O3 B3 r0 r1 y0 y1 hbz;generalize wr.heap.size=G at*
   rename World=>wq
   have rF:=X3.1.strs.len;have hss:=Lb.aV L;have H6:=Al rF;have h66:n6≤2000000:=by rw[rF,hss];have:=H3.1;omega
   clear rF hss;go_loopw [6,35] (fun b j wi=>∃i:Nat,i≤n6∧j= .int .i64 i∧∃A7 n7 c7 bm,b= .slice A7 n7 c7∧Bx w wi A7 n7 c7 bm G (.slice A3 n3 c3) (.slice A4 n4 c4) A6 n6 c6 (Lb.strs L)∧Kept (bm++(((Lb.strs L).drop i).flatMap (Rc.dP T)++TL)=E∧Rc.dC T C (Lb.strs L)=Rc.dC T C ((Lb.strs L).drop i))) (fun _ j _=>n6-(intOf j).toNat)
   case atStart=>exact⟨0,om,rfl,A5,n5,c5,_,rfl,X3.1,⟨D1.1,rfl⟩⟩
   case round=>
    clear X3;obtain⟨i,hi,rfl,A7,n7,c7,bm,rfl,hx,hd⟩:=hrel;by_cases hlt2:i<n6
    ·have hil:i< (Lb.strs L).length:=by rw[←H6.1];exact hlt2
     obtain⟨b6,akO,rfl,hc⟩:=hx.strs.rd.cells Aj hil;have z0:=hc wr (Ae _ _);have hd1:=hd.1.1;have hd2:=hd.1.2;rw[Rc.kP _ i hil]at hd1 hd2;rw[Av]at hd1;rw[Rc.dC]at hd2;have Ya:n7≤1000000000:=by
      have h1:=hx.len;have h2:=SZ.1;rw[←hd.1.1]at h2;simp at h2;omega
     clear hc hd;have X:=Al hx;have SI:=fun s=>Al (tX TA tn tc T s wr ((VT.1.below hx.below).more hx.below.size) HS.1 htn)
     have hsT:Rc.dP T (Lb.strs L)[i]=Vi.enc ((Sy.idx T (Lb.strs L)[i]).getD 0):=rfl;rw[hsT]at hd1;have VC:=SI (Lb.strs L)[i];have ZE:=fun k (h:Sy.idx T (Lb.strs L)[i]=some k)=>Sy.jo h
     clear hx SI hsT;generalize (Lb.strs L)[i]=s at*;generalize Sy.idx T s=o at*;cases o with
     |none=>
      simp only[Option.isSome_none,Option.getD_none]at VC;rw[Ps0 rfl]at hd2;have df:Kept (M=([],14)):=⟨by rw[HM.1,D2.1,hd2];rfl⟩
      clear hd1 hd2 ZE;go_wp2_with (go_at_call 147;refine VC.1.mono ?_;rintro e w4 ⟨rfl,q,rfl⟩);go_ret2;refine⟨none,0,0,?_,?_,below_drewN X.1.below q⟩
      ·rw[df.1];rfl
      ·rw[df.1];exact ah.nil _ _
     |some k2=>
      obtain⟨hk2,-,-⟩:=ZE k2 rfl;have hk3:k2≤1000000:=by have:=VT.1.len;omega
      have hwk:=wrap_u64 (k2:Int) om om;simp only[Option.isSome_some,Option.getD_some]at VC hd1;rw[Ng Ah]at hd2;have HD:Kept (bm++Vi.enc k2++(((Lb.strs L).drop (i+1)).flatMap (Rc.dP T)++TL)=E∧Rc.dC T C (Lb.strs L)=Rc.dC T C ((Lb.strs L).drop (i+1))):=⟨by rw[←hd1];simp,hd2⟩
      clear hd1 hd2 ZE hk2;go_wp2_with (first
       |(go_at_call 147;refine VC.1.mono ?_;rintro e w4 ⟨rfl,q,rfl⟩;have X4:=Al (X.1.drewN q))
       |(go_at_call 145;refine(yS X4.1 om om).mono ?_;rintro e w5 ⟨A8,n8,c8,rfl,hx⟩;have X5:=Al hx;clear hx))
      go_roundw
      case rel=>exact⟨i+1,om,by go_num,A8,n8,c8,_,rfl,X5.1,HD⟩
      case measure=>simp[intOf];omega
    ·have hd1:=hd.1.1;have hd2:=hd.1.2;rw[qW (by have:=H6.1;omega)]at hd1 hd2;rw[Rc.dC]at hd2;rw[Dm,AB,HTL.1]at hd1;rw[hd2]at D2;obtain⟨y0,y1⟩:=hx.cells;have X:=Al hx;have Ya:n7≤1000000000:=by
      have h1:=hx.len;have h2:=SZ.1;rw[←hd1]at h2;simp at h2;omega
     clear hd hx;by_cases h0:n4=0
     ·have hC0:C=[]:=qU (by have:=H4.1;omega);rw[Ps0 hC0]at D2;have df:Kept (M=([],23)):=⟨by rw[HM.1,D2.1];rfl⟩
      have h0':(n4:Int)=0:=om;clear hd1 hd2 D2;go_wp2;go_ret2;refine⟨none,0,0,?_,?_,X.1.below⟩
      ·rw[df.1];rfl
      ·rw[df.1];exact ah.nil _ _
     ·have hC0:C≠[]:=fun h=>h0 (by have:=H4.1;rw[h]at this;simpa using this)
      rw[Ng hC0]at D2;have h0':¬(n4:Int)=0:=om;have ab0:((n4:Int)==0)=false:=by simpa using h0'
      have D3:Kept (bm++Vi.enc n4++(C.flatMap Rc.Yo++R)=E):=⟨by rw[←hd1,H4.1];simp⟩
      clear hd1 hd2 hC0;go_upto_region 18 with(go_at_call 145;refine(yS X.1 om om).mono ?_;rintro e w5 ⟨A8,n8,c8,rfl,hx⟩;obtain⟨x0,x1⟩:=hx.cells;have X5:=Al hx;clear hx X)
      clear y0 y1 x0 x1;go_loopw [6,65] (fun b j wi=>∃i:Nat,i≤n4∧j= .int .i64 i∧∃A7 n7 c7 bm,b= .slice A7 n7 c7∧Bx w wi A7 n7 c7 bm G (.slice A3 n3 c3) (.slice A4 n4 c4) A6 n6 c6 (Lb.strs L)∧Kept (bm++((C.drop i).flatMap Rc.Yo++R)=E∧Rc.iU C=Rc.iU (C.drop i))) (fun _ j _=>n4-(intOf j).toNat)
      case atStart=>exact⟨0,om,rfl,A8,n8,c8,_,rfl,X5.1,⟨D3.1,rfl⟩⟩
      case round=>
       clear X5 D3 Ya;obtain⟨i2,hi2,rfl,A7,n7,c7,bm,rfl,hx,hd⟩:=hrel;have hd1:=hd.1.1;have hd2:=hd.1.2;have Ya:n7≤1000000000:=by
        have h1:=hx.len;have h2:=SZ.1;rw[←hd1]at h2;simp at h2;omega
       clear hd;by_cases hlt3:i2<n4
       ·have hil:i2<C.length:=by rw[←H4.1];exact hlt3
        obtain⟨b4,ZF,rfl,-,z0⟩:=((HC.1.below hx.below).more hx.below.size).at_ hil;rw[Rc.kP _ i2 hil]at hd1 hd2;rw[Av]at hd1;rw[Rc.iU]at hd2;have X:=Al hx;clear hx;generalize C[i2]=x at*;rcases Int.lt_or_le x 1 with h1|h1
        ·rw[Ps0 (.inl h1)]at hd2;have df:Kept (M=([],23)):=⟨by rw[HM.1,D2.1,hd2];rfl⟩
         clear hd1 hd2;go_wp2;go_ret2;refine⟨none,0,0,?_,?_,X.1.below⟩
         ·rw[df.1];rfl
         ·rw[df.1];exact ah.nil _ _
        ·have h1':¬x<1:=by omega
         rcases Int.lt_or_le 2147483647 x with h2|h2
         ·rw[Ps0 (.inr h2)]at hd2;have df:Kept (M=([],23)):=⟨by rw[HM.1,D2.1,hd2];rfl⟩
          clear hd1 hd2;go_wp2;go_ret2;refine⟨none,0,0,?_,?_,X.1.below⟩
          ·rw[df.1];rfl
          ·rw[df.1];exact ah.nil _ _
         ·have h2':¬2147483647<x:=by omega
          rw[Ng om]at hd2;obtain⟨m,rfl⟩:=Cr (show 0≤x from om);have hwm:=wrap_u64 (m:Int) om om;have HD:Kept (bm++Vi.enc m++((C.drop (i2+1)).flatMap Rc.Yo++R)=E∧Rc.iU C=Rc.iU (C.drop (i2+1))):=⟨by rw[←hd1];simp[Rc.Yo],hd2⟩
          clear hd1 hd2;go_wp2_with (go_at_call 145;refine(yS X.1 om om).mono ?_;rintro e w5 ⟨A8,n8,c8,rfl,hx⟩;have X5:=Al hx;clear hx);go_roundw
          case rel=>exact⟨i2+1,om,by go_num,A8,n8,c8,_,rfl,X5.1,HD⟩
          case measure=>simp[intOf];omega
       ·rw[qW (by have:=H4.1;omega)]at hd1 hd2;rw[Rc.iU]at hd2;rw[Dm,AB]at hd1;rw[hd2]at D2;have HD:Kept (bm++(rs.drop (k+1)).flatMap (Rc.jy T)=E∧Rc.err T rs=Rc.err T (rs.drop (k+1))):=⟨by rw[←hd1,HRR.1],by rw[D2.1];rfl⟩
        have X:=Al hx;clear hd1 hd2 hx D2;go_wp2;go_roundw
        case rel=>exact⟨k+1,om,by go_num,A7,n7,c7,bm,rfl,X.1.own,X.1.below,HD⟩
        case measure=>simp[intOf];omega
  ·have hd1:=hd.1.1;have hd2:=hd.1.2;rw[qW (by have:=HN.1;omega)]at hd1 hd2;rw[Rc.err]at hd2;rw[Dm,Bh]at hd1;have df:Kept (M=(bl,0)):=⟨by rw[HM.1,hd2,hd1];rfl⟩
   have O:=Al ho;have B:=Al hb;clear hd hd1 hd2 ho hb;go_wp2;go_ret2;refine⟨A2,n2,c2,?_,?_,B.1⟩
   ·rw[df.1];rfl
   ·rw[df.1];exact O.1
end
end
section
section
open Go.RowKit Go.Shelf
namespace Rc
theorem acy {n} (h:n≤mx):n<18446744073709551616:=by unfold mx at h;omega
structure Good {X:Type} (rd:List UInt8→Nat→Int→X×Nat×Int) (E:X→List UInt8) (OK:X→Prop):Prop where
 canon:∀l a x a',a≤l.length→rd l a 0=(x,a',0)→OK x∧l.drop a=E x++l.drop a'∧a≤a'∧a'≤l.length
 fwd:∀p x r,OK x→rd (p++(E x++r)) p.length 0=(x,p.length+(E x).length,0)
 app:∀l m a,a≤l.length→(rd l a 0).2.2≠3→rd (l++m) a 0=rd l a 0
 bad:∃d,∀l a e,e≠0→rd l a e=(d,a,e)
 pos:∀x,OK x→0< (E x).length
theorem Good.err {X} {rd:List UInt8→Nat→Int→X×Nat×Int} {E OK} (g:Good rd E OK) (l a e) (he:e≠0):(rd l a e).2.2=e:=by
 obtain⟨d,h⟩:=g.bad;rw[h l a e he]
theorem Good.at_ {X} {rd:List UInt8→Nat→Int→X×Nat×Int} {E OK} (g:Good rd E OK) {l a x r} (h:OK x) (hd:l.drop a=E x++r) (ha:a≤l.length):
  rd l a 0=(x,a+(E x).length,0)∧l.drop (a+(E x).length)=r∧a+(E x).length≤l.length:=by
 have e:l=l.take a++(E x++r):=by rw[←hd,je]
 have hl:(l.take a).length=a:=by rw[jD];omega
 have h1:=g.fwd (l.take a) x r h;rw[←e,hl]at h1;refine⟨h1,?_,?_⟩
 ·rw[←List.drop_drop,hd,Dr]
 ·have:=congrArg List.length hd;rw[kz,La]at this;have hp:=g.pos x h;omega
theorem mX {l:List UInt8} {a b} (h:a≤b):l.drop a=(l.drop a).take (b-a)++l.drop b:=by
 conv=>lhs;rw[←je (b-a) (l.drop a)]
 rw[List.drop_drop,show a+(b-a)=b from om]
theorem aT:Good (fun l a e=>Wr.uint l a e mx) Vi.enc (fun n=>n≤mx) where
 canon:=fun l a x a' ha h=>by
  unfold Wr.uint at h;rw[Ng Ah]at h;simp only[]at h;split at h
  ·rename_i h1
   simp only[aA]at h;exact absurd (by exact_mod_cast h.2.2) h1
  ·rename_i h1
   split at h
   ·simp at h
   ·rename_i h2
    simp only[aA]at h;obtain⟨h3,h4,-⟩:=h;obtain⟨c1,c2,c3⟩:=Vi.wS (l:=l) (a:=a) (x:=(Vi.get l (a:Int)).1) (t:=(Vi.get l (a:Int)).2.1) (by
     have:(Vi.get l (a:Int)).2.2=0:=om;rw[←this])
    rw[h4]at c1 c2 c3;rw[h3]at c1;refine⟨om,?_,om,c3⟩;rw[←c1];exact mX om
 fwd:=fun p x r hx=>by
  have h:=Vi.xZ p x r (acy hx);rw[Af]at h;show Wr.uint _ _ _ _=_;unfold Wr.uint;rw[Ng Ah,h];simp only[];rw[Ng Ah,Ng om,lZ]
 app:=fun l m a ha h=>by
  show Wr.uint _ _ _ _=Wr.uint _ _ _ _;have h':(Vi.get l (a:Int)).2.2≠3:=fun e=>by
   apply h;show(Wr.uint _ _ _ _).2.2=3;unfold Wr.uint;rw[Ng Ah];simp only[];rw[Ps0 om,e]
   rfl
  unfold Wr.uint;rw[Vi.KT m l a ha h']
 bad:=⟨0,fun l a e he=>by
  show Wr.uint _ _ _ _=_;unfold Wr.uint;rw[Ps0 he]⟩
 pos:=fun x _=>Vi.cK x
end Rc
end
end
section
section
open Go.RowKit Go.Shelf
namespace Rc
theorem FK {T} (hS:Sy.aN T) (hT:T.length≤mx):Good (sym T) (dP T) (fun s=>(Sy.idx T s).isSome=true) where
 canon:=fun l a x a' ha h=>by
  unfold sym at h;simp only[]at h;split at h
  ·rename_i h1
   simp only[aA]at h;exact absurd h.2.2 h1
  ·rename_i h1
   split at h
   ·simp at h
   ·rename_i h2
    simp only[aA]at h;obtain⟨h3,h4,-⟩:=h;have hk:(Wr.uint l a 0 mx).1<T.length:=om;have hx:T[(Wr.uint l a 0 mx).1]=x:=by rw[←h3];simp[List.getD,hk]
    have hi:=Sy.rH hS hk hx;obtain⟨c1,c2,c3,c4⟩:=aT.canon l a _ a' ha (show Wr.uint l a 0 mx=((Wr.uint l a 0 mx).1,a',0)by rw[←h4];exact BC rfl (BC rfl (by simpa using h1)));refine⟨by rw[hi];rfl,?_,c3,c4⟩;unfold dP;rw[hi];exact c2
 fwd:=fun p x r hx=>by
  obtain⟨k,hk⟩:=Option.isSome_iff_exists.1 hx;obtain⟨hk2,hx2,-⟩:=Sy.jo hk;have hE:dP T x=Vi.enc k:=by unfold dP;rw[hk];rfl
  rw[hE];have h:=aT.fwd p k r om;unfold sym;rw[h];simp only[];rw[Ng Ah,Ng om];simp[List.getD,hk2,hx2]
 app:=fun l m a ha h=>by
  have h':(Wr.uint l a 0 mx).2.2≠3:=fun e=>by
   apply h;unfold sym;simp only[];rw[Ps0 (by rw[e];decide),e]
  have:=aT.app l m a ha h';unfold sym;rw[this]
 bad:=⟨ByteArray.empty,fun l a e he=>by
  have h:Wr.uint l a e mx=(0,a,e):=by unfold Wr.uint;rw[Ps0 he]
  unfold sym;rw[h];exact Ps0 he⟩
 pos:=fun x _=>Vi.cK _
theorem FM:Good len Vi.enc (fun n=>1≤n∧n≤2147483647) where
 canon:=fun l a x a' ha h=>by
  unfold len at h;simp only[]at h;split at h
  ·simp only[aA]at h;have:=h.2.2;split at this
   ·cases this
   ·rename_i h1;exact absurd this h1
  ·rename_i h1
   obtain⟨c1,c2,c3,c4⟩:=aT.canon l a x a' ha h;rw[h]at h1;exact⟨by simp only[]at h1;omega,c2,c3,c4⟩
 fwd:=fun p x r hx=>by
  have h:=aT.fwd p x r (by unfold mx;omega);unfold len;rw[h];simp only[];rw[Ng om]
 app:=fun l m a ha h=>by
  have h':(Wr.uint l a 0 mx).2.2≠3:=fun e=>by
   apply h;unfold len;simp only[];split
   ·simp only[e];rfl
   ·exact e
  have:=aT.app l m a ha h';unfold len;rw[this]
 bad:=⟨0,fun l a e he=>by
  have h:Wr.uint l a e mx=(0,a,e):=by unfold Wr.uint;rw[Ps0 he]
  unfold len;rw[h];simp only[];rw[Ps0 (.inl om),Ng he]⟩
 pos:=fun x _=>Vi.cK _
section
variable {X Y:Type} {rd:List UInt8→Nat→Int→X×Nat×Int} {E:X→List UInt8} {OK:X→Prop}
def pr (rd:List UInt8→Nat→Int→X×Nat×Int) (Yp:List UInt8→Nat→Int→Y×Nat×Int) (l:List UInt8) (a:Nat) (e:Int):(X×Y)×Nat×Int:=
 let r:=rd l a e
 let s:=Yp l r.2.1 r.2.2
 ((r.1,s.1),s.2)
theorem Lm {Yp:List UInt8→Nat→Int→Y×Nat×Int} {E2 OK2} (g:Good rd E OK) (g2:Good Yp E2 OK2):Good (pr rd Yp) (fun x=>E x.1++E2 x.2) (fun x=>OK x.1∧OK2 x.2) where
 canon:=fun l a x a' ha h=>by
  unfold pr at h;simp only[]at h;have h0:(rd l a 0).2.2=0:=by
   apply Dl;intro hn;have:=g2.err l (rd l a 0).2.1 _ hn;have h2:=congrArg (fun z=>z.2.2) h;simp only[]at h2;rw[this]at h2;exact hn h2
  obtain⟨c1,c2,c3,c4⟩:=g.canon l a (rd l a 0).1 (rd l a 0).2.1 ha (BC rfl (BC rfl h0));rw[h0]at h;simp only[aA]at h;obtain⟨h1,h2⟩:=h;obtain⟨d1,d2,d3,d4⟩:=g2.canon l _ (Yp l (rd l a 0).2.1 0).1 a' c4 (BC rfl h2);subst h1;exact⟨⟨c1,d1⟩,by rw[c2,d2,Af],om,d4⟩
 fwd:=fun p x r hx=>by
  obtain⟨h1,h2,h3⟩:=g.at_ (l:=p++(E x.1++E2 x.2++r)) (a:=p.length) (r:=E2 x.2++r) hx.1 (by rw[Dr,Af]) Ah;obtain⟨i1,i2,i3⟩:=g2.at_ hx.2 h2 h3;unfold pr;rw[h1];simp only[];rw[i1];simp only[La,iw]
 app:=fun l m a ha h=>by
  have h1:(rd l a 0).2.2≠3:=fun e=>by
   apply h;unfold pr;simp only[];rw[e];exact g2.err _ _ 3 Ai
  unfold pr at h⊢;rw[g.app l m a ha h1];simp only[]at h⊢;by_cases h0:(rd l a 0).2.2=0
  ·obtain⟨c1,c2,c3,c4⟩:=g.canon l a (rd l a 0).1 (rd l a 0).2.1 ha (BC rfl (BC rfl h0));rw[h0]at h⊢;rw[g2.app l m _ c4 h]
  ·obtain⟨d,hd⟩:=g2.bad;rw[hd _ _ _ h0,hd _ _ _ h0]
 bad:=by
  obtain⟨d,hd⟩:=g.bad;obtain⟨d2,hd2⟩:=g2.bad;exact⟨(d,d2),fun l a e he=>by unfold pr;rw[hd l a e he];simp only[];rw[hd2 l a e he]⟩
 pos:=fun x hx=>by have:=g.pos x.1 hx.1;simp;omega
theorem Q4 {Yp E2 OK2} (f:X→Y) (f':Y→X) (hf:∀y,f (f' y)=y) (g:Good rd E OK) (hr:∀l a e,Yp l a e=(f (rd l a e).1,(rd l a e).2)) (hE:∀x,E2 (f x)=E x) (hO:∀x,OK2 (f x)↔OK x):Good Yp E2 OK2 where
 canon:=fun l a y a' ha h=>by
  rw[hr]at h;simp only[aA]at h;obtain⟨h1,h2⟩:=h;obtain⟨c1,c2,c3,c4⟩:=g.canon l a (rd l a 0).1 a' ha (BC rfl h2);subst h1;exact⟨(hO _).2 c1,by rw[hE];exact c2,c3,c4⟩
 fwd:=fun p y r hy=>by
  rw[←hf y]at hy⊢;rw[hr,hE,g.fwd p (f' y) r ((hO _).1 hy)]
 app:=fun l m a ha h=>by
  rw[hr]at h;rw[hr,hr,g.app l m a ha h]
 bad:=by
  obtain⟨d,hd⟩:=g.bad;exact⟨f d,fun l a e he=>by rw[hr,hd l a e he]⟩
 pos:=fun y hy=>by
  rw[←hf y]at hy⊢;rw[hE];exact g.pos _ ((hO _).1 hy)
def Yq (rd:List UInt8→Nat→Int→X×Nat×Int) (l:List UInt8) (a:Nat) (e:Int):List X×Nat×Int:=dI (rd l) (cnt l a e).1 [] (cnt l a e).2.1 (cnt l a e).2.2
def yT (E:X→List UInt8) (xs:List X):List UInt8:=Vi.enc xs.length++xs.flatMap E
theorem pM (g:Good rd E OK):∀(n) (l) (acc) (a) (xs) (a'),a≤l.length→dI (rd l) n acc a 0=(xs,a',0)→∃ys,xs=acc++ys∧ys.length=n∧(∀y∈ys,OK y)∧l.drop a=ys.flatMap E++l.drop a'∧a≤a'∧a'≤l.length
 |0,l,acc,a,xs,a',ha,h=>by
  rw[dz]at h;simp only[aA,BO]at h;obtain⟨rfl,rfl⟩:=h;exact⟨[],Ah,rfl,Ah,Ah,Nr _,ha⟩
 |n+1,l,acc,a,xs,a',ha,h=>by
  by_cases h0:(rd l a 0).2.2=0
  ·rw[iZ _ _ _ _ _ om h0]at h;obtain⟨c1,c2,c3,c4⟩:=g.canon l a (rd l a 0).1 (rd l a 0).2.1 ha (BC rfl (BC rfl h0));obtain⟨ys,d1,d2,d3,d4,d5,d6⟩:=pM g n l _ _ xs a' c4 h;refine⟨(rd l a 0).1::ys,by rw[d1];simp,by simp[d2],fun y hy=>?_,by rw[c2,d4];simp,om,d6⟩;rcases iW.1 hy with rfl|hy
   ·exact c1
   ·exact d3 y hy
  ·rw[iT _ _ _ _ _ om h0]at h;simp only[aA]at h;exact absurd h.2.2 h0
theorem yU (g:Good rd E OK):∀(ys) (l) (acc) (a) (r),(∀y∈ys,OK y)→l.drop a=ys.flatMap E++r→a≤l.length→dI (rd l) ys.length acc a 0=(acc++ys,a+(ys.flatMap E).length,0)
 |[],l,acc,a,r,h,hd,ha=>by rw[Ba,dz];simp
 |y::ys,l,acc,a,r,h,hd,ha=>by
  rw[Av,Af]at hd;obtain⟨h1,h2,h3⟩:=g.at_ (h y Ah) hd ha;rw[iZ _ _ _ _ _ Ah (by rw[h1]),h1];simp only[];rw[Lc,Bj,yU g ys l _ _ r (fun z hz=>h z (by simp[hz])) h2 h3];simp[iw]
theorem Lr (g:Good rd E OK) (m):∀(n) (l) (acc) (a),a≤l.length→(dI (rd l) n acc a 0).2.2≠3→dI (rd (l++m)) n acc a 0=dI (rd l) n acc a 0
 |0,l,acc,a,ha,h=>rfl
 |n+1,l,acc,a,ha,h=>by
  by_cases h0:(rd l a 0).2.2=0
  ·rw[iZ _ _ _ _ _ om h0]at h⊢;obtain⟨c1,c2,c3,c4⟩:=g.canon l a (rd l a 0).1 (rd l a 0).2.1 ha (BC rfl (BC rfl h0));have ha2:=g.app l m a ha (by rw[h0];decide);rw[iZ _ _ _ _ _ om (by rw[ha2];exact h0),ha2];exact Lr g m n l _ _ c4 h
  ·rw[iT _ _ _ _ _ om h0]at h⊢;have ha2:=g.app l m a ha h;rw[iT _ _ _ _ _ om (by rw[ha2];exact h0),ha2]
theorem aW (g:Good rd E OK):∀(ys:List X),(∀y∈ys,OK y)→ys.length≤(ys.flatMap E).length
 |[],_=>Ah
 |y::ys,h=>by
  have h1:=g.pos y (h y Ah);have h2:=aW g ys fun z hz=>h z (by simp[hz])
  rw[Av,La,Lc];omega
theorem Jz {l a n a'} (h:cnt l a 0=(n,a',0)):Wr.uint l a 0 mx=(n,a',0)∧n≤l.length-a':=by
 unfold cnt at h;simp only[]at h;split at h
 ·rename_i h1
  simp only[aA]at h;exact absurd h.2.2 h1
 ·split at h
  ·simp at h
  ·rename_i h2
   rw[h]at h2;exact⟨h,by simp only[]at h2;omega⟩
theorem rP (g:Good rd E OK):Good (Yq rd) (yT E) (fun xs=>xs.length≤mx∧∀x∈xs,OK x) where
 canon:=fun l a xs a' ha h=>by
  unfold Yq at h;by_cases h0:(cnt l a 0).2.2=0
  ·obtain⟨u1,u2⟩:=Jz (show cnt l a 0=((cnt l a 0).1,(cnt l a 0).2.1,0)from BC rfl (BC rfl h0));obtain⟨c1,c2,c3,c4⟩:=aT.canon l a _ _ ha u1;rw[h0]at h;obtain⟨ys,d1,d2,d3,d4,d5,d6⟩:=pM g _ l _ _ xs a' c4 h;rw[AB]at d1;subst d1;refine⟨⟨by rw[d2];exact c1,d3⟩,?_,om,d6⟩;unfold yT;rw[c2,d4,d2,Af]
  ·have hz:(cnt l a 0).1=0:=by
    unfold cnt at h0⊢;simp only[]at h0⊢;split
    ·rfl
    ·split
     ·rfl
     ·rename_i h1 h2
      rw[Ng h1,Ng h2]at h0;exact absurd (by simpa using h1) h0
   rw[hz,dz]at h;simp only[aA]at h;exact absurd h.2.2 h0
 fwd:=fun p xs r hx=>by
  have hu:=aT.fwd p xs.length (xs.flatMap E++r) hx.1;have hl:=aW g xs hx.2;have hc:cnt (p++(yT E xs++r)) p.length 0=(xs.length,p.length+(Vi.enc xs.length).length,0):=by
   unfold cnt yT;rw[Af];simp only[];rw[hu];simp only[];rw[Ng Ah,Ng (by simp only[La];omega)]
  unfold Yq;rw[hc];simp only[];rw[yU g xs _ _ _ r hx.2 (by
   unfold yT;rw[←List.drop_drop,Dr,Af,Dr]) (by unfold yT;simp)]
  unfold yT;simp[iw]
 app:=fun l m a ha h=>by
  unfold Yq at h⊢;have h1:(cnt l a 0).2.2≠3:=fun e=>by
   have hz:(cnt l a 0).1=0:=by
    unfold cnt at e⊢;simp only[]at e⊢;split
    ·rfl
    ·split
     ·rfl
     ·rename_i h1 h2
      rw[Ng h1,Ng h2]at e;rw[e]at h1;exact absurd Ai h1
   rw[hz,dz]at h;exact h e
  have hu:(Wr.uint l a 0 mx).2.2≠3:=fun e=>by
   apply h1;unfold cnt;simp only[];rw[Ps0 (by rw[e];decide),e]
  have hua:=aT.app l m a ha hu;have hc:cnt (l++m) a 0=cnt l a 0:=by
   unfold cnt;rw[hua];simp only[];by_cases h2:(Wr.uint l a 0 mx).2.2≠0
   ·rw[Ps0 h2,Ps0 h2]
   ·rw[Ng h2,Ng h2];have h3:¬l.length-(Wr.uint l a 0 mx).2.1< (Wr.uint l a 0 mx).1:=fun h3=>by
     apply h1;unfold cnt;simp only[];rw[Ng h2,Ps0 h3]
    rw[Ng h3,Ng (by rw[La];omega)]
  rw[hc];by_cases h0:(cnt l a 0).2.2=0
  ·obtain⟨u1,u2⟩:=Jz (show cnt l a 0=((cnt l a 0).1,(cnt l a 0).2.1,0)from BC rfl (BC rfl h0));obtain⟨c1,c2,c3,c4⟩:=aT.canon l a _ _ ha u1;rw[h0]at h⊢;exact Lr g m _ l _ _ c4 h
  ·have hz:(cnt l a 0).1=0:=by
    unfold cnt at h0⊢;simp only[]at h0⊢;split
    ·rfl
    ·split
     ·rfl
     ·rename_i h1 h2
      rw[Ng h1,Ng h2]at h0;exact absurd (by simpa using h1) h0
   rw[hz,dz,dz]
 bad:=⟨[],fun l a e he=>by
  have h:Wr.uint l a e mx=(0,a,e):=by unfold Wr.uint;rw[Ps0 he]
  have hc:cnt l a e=(0,a,e):=by
   unfold cnt;rw[h];exact Ps0 he
  unfold Yq;rw[hc,dz]⟩
 pos:=fun xs _=>by unfold yT;have:=Vi.cK xs.length;simp;omega
end
theorem tY {T} (hS:Sy.aN T) (hT:T.length≤mx):Good (lab T) (fun x=>dP T x.n++dP T x.v) (fun x=>(Sy.idx T x.n).isSome=true∧(Sy.idx T x.v).isSome=true):=
 Q4 (fun p=>(⟨p.1,p.2⟩:aU)) (fun x=>(x.n,x.v)) (fun _=>rfl) (Lm (FK hS hT) (FK hS hT)) (fun _ _ _=>rfl) (fun _=>rfl) (fun _=>Iff.rfl)
theorem VF (T):gu T=Yq (lab T):=rfl
theorem VH:lens=Yq len:=rfl
def pO (T:List ByteArray) (r:List aU×List Nat):List UInt8:=yT (fun x:aU=>dP T x.n++dP T x.v) r.1++yT Vi.enc r.2
def okN (T:List ByteArray) (r:List aU×List Nat):Prop:=
 ((r.1.length≤mx∧∀x∈r.1,(Sy.idx T x.n).isSome=true∧(Sy.idx T x.v).isSome=true)∧r.2.length≤mx∧∀n∈r.2,1≤n∧n≤2147483647)∧r.2≠[]
theorem rec_eq (T l a e):rec T l a e=((pr (gu T) lens l a e).1,(pr (gu T) lens l a e).2.1,if(pr (gu T) lens l a e).1.2=[]∧(pr (gu T) lens l a e).2.2=0 then 23 else(pr (gu T) lens l a e).2.2):=rfl
theorem FN {T} (hS:Sy.aN T) (hT:T.length≤mx):Good (rec T) (pO T) (okN T):=
 have g:Good (pr (gu T) lens) (pO T) (fun r=>(r.1.length≤mx∧∀x∈r.1,(Sy.idx T x.n).isSome=true∧(Sy.idx T x.v).isSome=true)∧r.2.length≤mx∧∀n∈r.2,1≤n∧n≤2147483647):=by
  rw[VF,VH];exact Lm (rP (tY hS hT)) (rP FM)
 {canon:=fun l a x a' ha h=>by
   rw[rec_eq]at h;simp only[aA]at h;obtain⟨h1,h2,h3⟩:=h;by_cases hc:(pr (gu T) lens l a 0).1.2=[]∧(pr (gu T) lens l a 0).2.2=0
   ·rw[Ps0 hc]at h3;cases h3
   ·rw[Ng hc]at h3;obtain⟨c1,c2,c3,c4⟩:=g.canon l a x a' ha (BC h1 (BC h2 h3));exact⟨⟨c1,fun e=>hc ⟨by rw[h1];exact e,h3⟩⟩,c2,c3,c4⟩
  fwd:=fun p x r hx=>by
   rw[rec_eq,g.fwd p x r hx.1];simp only[];rw[Ng (fun h=>hx.2 h.1)]
  app:=fun l m a ha h=>by
   rw[rec_eq]at h;simp only[]at h;have h':(pr (gu T) lens l a 0).2.2≠3:=fun e=>by
    apply h;rw[Ng (by rw[e];intro h;cases h.2),e]
   rw[rec_eq,rec_eq,g.app l m a ha h']
  bad:=by
   obtain⟨d,hd⟩:=g.bad;exact⟨d,fun l a e he=>by
    rw[rec_eq,hd l a e he];simp only[];rw[Ng (fun h=>he h.2)]⟩
  pos:=fun x hx=>g.pos x hx.1}
theorem VI (T):recs T=Yq (rec T):=rfl
theorem xx {T} (hS:Sy.aN T) (hT:T.length≤mx):Good (recs T) (yT (pO T)) (fun rs=>rs.length≤mx∧∀r∈rs,okN T r):=by
 rw[VI];exact rP (FN hS hT)
theorem pQ (T L):(Lb.strs L).flatMap (dP T)=L.flatMap fun x=>dP T x.n++dP T x.v:=by
 unfold Lb.strs
 induction L with
 |nil=>rfl
 |cons x L ih=>rw[Av,nH,ih,Av];simp
theorem VJ (T r):jy T (bY r)=pO T r:=by
 unfold jy bY pO yT;simp only[];rw[pQ,fM,Ez]
 rfl
theorem yV (T rs):aM T (rs.map bY)=yT (pO T) rs:=by
 unfold aM yT;rw[fM,Ez]
 congr 1
 congr 1
 funext r
 exact VJ T r
theorem Q5 {C:List Nat} (h:∀n∈C,1≤n∧n≤2147483647):iU (C.map Int.ofNat)=0:=by
 induction C with
 |nil=>rfl
 |cons n C ih=>
  rw[AJ,iU,Ng (by have:=h n Ah;simp;omega)];exact ih fun m hm=>h m (by simp[hm])
theorem NF {T C} (hC:C≠[]) (h2:iU C=0) {ss} (h:∀s∈ss,(Sy.idx T s).isSome=true):dC T C ss=0:=by
 induction ss with
 |nil=>rw[dC,Ng hC,h2]
 |cons s ss ih=>
  rw[dC,Ng (by have:=h s Ah;intro e;rw[e]at this;cases this)];exact ih fun t ht=>h t (by simp[ht])
theorem Q6 {T} {rs:List (List aU×List Nat)} (h:∀r∈rs,okN T r):err T (rs.map bY)=0:=by
 induction rs with
 |nil=>rfl
 |cons r rs ih=>
  obtain⟨⟨⟨h1,h2⟩,h3,h4⟩,h5⟩:=h r Ah;have h0:dC T (bY r).2 (Lb.strs (bY r).1)=0:=NF (show r.2.map Int.ofNat≠[]by simpa using h5) (Q5 h4) fun s hs=>by
   unfold bY Lb.strs at hs;simp only[l6]at hs;obtain⟨x,hx,hs⟩:=hs;simp at hs;rcases hs with rfl|rfl
   ·exact(h2 x hx).1
   ·exact(h2 x hx).2
  rw[AJ,err,Ng (by rw[h0];simp)];exact ih fun q hq=>h q (by simp[hq])
theorem pR {T} (hS:Sy.aN T) (hT:T.length≤mx) {l rs} (h:dec T l=(rs,0)):enc T rs=(l,0)∧aM T rs=l∧rs.length≤l.length∧∀r∈rs,r.1.length≤l.length∧r.2.length≤l.length:=by
 unfold dec at h;simp only[]at h;split at h
 ·rename_i h1
  simp only[aA]at h;exact absurd h.2 h1
 ·rename_i h1
  simp only[aA,BO]at h;have h2:Wr.fin l (recs T l 0 0).2.1 (recs T l 0 0).2.2=0:=by simpa using h1
  unfold Wr.fin at h2;split at h2
  ·rename_i h3;exact absurd h2 h3
  ·rename_i h3
   have h3':(recs T l 0 0).2.2=0:=by simpa using h3
   split at h2
   ·cases h2
   ·rename_i h4
    obtain⟨⟨c0,c1⟩,c2,c3,c4⟩:=(xx hS hT).canon l 0 _ _ (bf _) (BC rfl (BC rfl h3'));have c4':(recs T l 0 0).2.1≤l.length:=c4;have h4':¬(recs T l 0 0).2.1<l.length:=h4;rw[Ct,qW (Nat.le_of_not_lt h4'),Bh]at c2;subst h;refine⟨?_,?_,?_,?_⟩
    ·unfold enc;rw[Ps0 (Q6 c1),yV,←c2]
    ·rw[yV,←c2]
    ·have e1:=aW (FN hS hT) _ c1;have e4:=congrArg List.length c2;unfold yT at e4;rw[La]at e4;rw[fM];generalize ((recs T l 0 0).1.flatMap (pO T)).length=F at e1 e4;have e5:(recs T l 0 0).1.length≤F:=e1;exact Lt e5 om
    ·intro r hr;obtain⟨q,hq,rfl⟩:=dV.1 hr;have e1:=aW (tY hS hT) q.1 (c1 q hq).1.1.2;have e2:=aW FM q.2 (c1 q hq).1.2.2;have e3:(pO T q).length≤((recs T l 0 0).1.flatMap (pO T)).length:=by
      obtain⟨s,t,e⟩:=List.append_of_mem hq;rw[e];simp;omega
     have e4:=congrArg List.length c2;unfold yT at e4;rw[La]at e4;generalize ((recs T l 0 0).1.flatMap (pO T)).length=F at e3 e4;unfold pO yT at e3;unfold bY;simp only[La,fM]at e3 e4⊢;omega
end Rc
end
end
section
section
open Go.RowKit Go.Shelf
namespace Rc
theorem tZ:∀{C},iU C=0→∃CN:List Nat,C=CN.map Int.ofNat∧∀n∈CN,1≤n∧n≤2147483647
 |[],_=>⟨[],rfl,Ah⟩
 |n::C,h=>by
  rw[iU]at h;split at h
  ·cases h
  ·rename_i hn
   obtain⟨CN,h1,h2⟩:=tZ h;refine⟨n.toNat::CN,?_,fun m hm=>?_⟩
   ·rw[AJ,h1]
    congr 1
    show n=((n.toNat:Nat):Int);omega
   ·rcases iW.1 hm with rfl|hm
    ·omega
    ·exact h2 m hm
theorem qH {T C}:∀{ss},dC T C ss=0→C≠[]∧iU C=0∧∀s∈ss,(Sy.idx T s).isSome=true
 |[],h=>by
  rw[dC]at h;split at h
  ·cases h
  ·rename_i hC;exact⟨hC,h,Ah⟩
 |s::ss,h=>by
  rw[dC]at h;split at h
  ·cases h
  ·rename_i hs
   obtain⟨h1,h2,h3⟩:=qH h;refine⟨h1,h2,fun t ht=>?_⟩;rcases iW.1 ht with rfl|ht
   ·exact Option.isSome_iff_ne_none.2 hs
   ·exact h3 t ht
theorem Q7 {T}:∀{rs},(∀r∈rs,r.1.length≤mx∧r.2.length≤mx)→err T rs=0→∃NG:List (List aU×List Nat),rs=NG.map bY∧∀r∈NG,okN T r
 |[],_,_=>⟨[],rfl,Ah⟩
 |r::rs,hl,h=>by
  rw[err]at h;split at h
  ·rename_i h1;exact absurd h h1
  ·rename_i h1
   have h1':dC T r.2 (Lb.strs r.1)=0:=by simpa using h1
   obtain⟨h2,h3,h4⟩:=qH h1';obtain⟨CN,h5,h6⟩:=tZ h3;obtain⟨NG,h7,h8⟩:=Q7 (fun q hq=>hl q (by simp[hq])) h;have hlr:=hl r Ah;refine⟨(r.1,CN)::NG,?_,fun q hq=>?_⟩
   ·rw[AJ,←h7]
    congr 1
    unfold bY;rw[←h5]
   ·rcases iW.1 hq with rfl|hq
    ·refine⟨⟨⟨hlr.1,fun x hx=>⟨h4 x.n ?_,h4 x.v ?_⟩⟩,by rw[h5,fM]at hlr;exact hlr.2,h6⟩,fun e=>h2 (by rw[h5];simp only[]at e;rw[e];rfl)⟩
     ·unfold Lb.strs;exact l6.2 ⟨x,hx,Ah⟩
     ·unfold Lb.strs;exact l6.2 ⟨x,hx,Ah⟩
    ·exact h8 q hq
theorem bV {T} (hS:Sy.aN T) (hT:T.length≤mx) {NG:List (List aU×List Nat)} (hl:NG.length≤mx) (hok:∀r∈NG,okN T r):dec T (aM T (NG.map bY))=(NG.map bY,0):=by
 rw[yV];have h:=(xx hS hT).fwd [] NG [] ⟨hl,hok⟩;rw[Bh,AB]at h;simp only[Ba,bO]at h;unfold dec;rw[h];simp only[];have hf:Wr.fin (yT (pO T) NG) (yT (pO T) NG).length 0=0:=by unfold Wr.fin;rw[Ng Ah,Ng om]
 rw[hf,Ng Ah]
end Rc
end
end
section
section
open Go.RowKit Go.Shelf
attribute [local go_sem] Oper.semAt_some
def encS (s:ByteArray):Array Value:= #[.string s]
theorem eG {w w':World} {base n c sz A xs t row} (h:w.ownsRow base t sz (.slice A n c) n xs) (hg:w.grownBy w' row)
  (hr:∀r,row=some r→ab A≠some r∨∃o:Obj,w.heap[r]? =some o∧o.isCells=false):w'.ownsRow base t sz (.slice A n c) n xs:=by
 refine⟨h.1,?_⟩;rcases h.2 with hn|⟨g,cap,cur,hv,h1,h2,rest⟩
 ·exact .inl hn
 ·refine .inr ⟨g,cap,cur,hv,h1,?_,rest⟩;rw[hg.block g (Ge.1 h2).1]
  ·exact h2
  ·intro e';rcases hr g e'.symm with h3|⟨o,ho,hoc⟩
   ·injection hv with hv
    rw[hv]at h3;exact h3 rfl
   ·rw[h2]at ho;cases ho;cases hoc
theorem vT (n bx B A m c l w) (hw:Boxed w bx 134 (.slice A m c)) (hbx:bx<B) (hv:bM w B A m c l):
  Yields n prog 245 #[.pointer (some ⟨bx,0,none⟩)] encS (fun _=>False) (fun X Y=>Below B X Y) l w:=by
 intro q J Jx W hK hJ hJx bC h0;have hlc:=hv.1;have hcm:=hv.2.1;unfold maxLen at hcm;have hW:Boxed W bx 134 (.slice A m c):=(hK.block bx hbx).trans hw;have hn:=Al hv.len;have V:=Al (hv.below hK);have dh:=Al bC;have hc0:=hW.cell;clear hw hK bC hJ hJx hv;refine Bu.2 ?_;go_enter func245,ntmps245;go_wp2;go_loopw [7] (fun i wr=>∃k:Nat,k≤m∧i= .int .i64 k∧Below B W wr∧Kept (J (l.take k) wr)) (fun i _=>m-(intOf i).toNat)
 case atStart=>exact⟨0,om,rfl,Ae _ _,⟨h0⟩⟩
 case round=>
  clear h0 hc0 hW;obtain⟨k,hk,rfl,hb,hj⟩:=hrel;by_cases hlt:k<m
  ·have hkl:k<l.length:=by rw[←hn.1];exact hlt
   have ht:=Ts hkl;obtain⟨fn,tmps,assign,body,hy,qx⟩:=dh.1 (l.take k) l[k] wr hj.1 ⟨l.drop (k+1),by rw[←ht,je]⟩;unfold encS at hy;have HT:=Al ht;obtain⟨b,off,rfl,-,c0⟩:=(V.1.below hb).at_ hkl;have BB:=Al hb;clear ht hb hj;generalize l[k]=x at*;refine(BM (n:=n)).1 ?_
   gi_wp2
   refine⟨(fun h=>by simp[Fence.wide]at h),qx.mono ?_⟩;rintro e W' (⟨rfl,hj',hb'⟩|⟨rfl,qV⟩)
   ·have B2:=Al (BB.1.trans hb');have J2:=Al hj';clear hj' hb' c0
    gi_wp2
    go_roundw
    case rel=>exact⟨k+1,om,by go_num,B2.1,⟨by rw[HT.1];exact J2.1⟩⟩
    case measure=>simp[intOf];omega
   ·have X2:=Al qV;clear qV c0
    gi_wp2
    refine Bg (Cm rfl _ _ _) rfl ⟨⟨_,rfl⟩,.inr ⟨_,⟨l.drop (k+1),?_⟩,X2.1⟩⟩;rw[←HT.1,je]
  ·have J2:Kept (J l wr):=⟨by have:=hj.1;rwa[jc (by have:=hn.1;omega)]at this⟩
   clear hj;go_wp2;go_end0;exact⟨⟨_,rfl⟩,.inl J2.1⟩
def yX (w:World) (pre:List ByteArray) (W:World):Prop:=
 ∃A n c,Boxed W w.heap.size 134 (.slice A n c)∧aR W (w.heap.size+1) A n c pre∧Below w.heap.size w W
theorem yX.own {w}:aI (w.heap.size+1) (fun _=>False) (yX w):=by
 rintro s W W' row ⟨A,n,c,hb,ho,hbel⟩ hg hr;have hrow:∀r,row=some r→w.heap.size<r:=fun r e=>by
  rcases hr r e with h|⟨h,_⟩
  ·exact h.elim
  ·omega
 refine⟨A,n,c,hb.kept hg (fun e=>by have:=hrow _ e.symm;omega),eG ho hg (fun r e=>?_),hbel.grown hg hbel.size (fun g e=>by have:=hrow g e;omega)⟩;rcases hr r e with h|⟨_,h⟩
 ·exact h.elim
 ·exact .inr h
theorem jQ {w:World} {base n c sz A xs t} (h:w.ownsRow base t sz (.slice A n c) n xs):∀j o,ab A=some j→w.heap[j]? =some o→o.isCells=true:=by
 intro j o ej hj;rcases h.2 with⟨hv,_⟩|⟨g',cap,cur,hv,_,hgb,_⟩
 ·injection hv with hv1;rw[hv1]at ej;cases ej
 ·injection hv with hv1
  rw[hv1]at ej;obtain rfl:g'=j:=by simpa[ab]using ej
  rw[hgb]at hj;cases hj;rfl
theorem yX.push {w W w5 A A4 n c c4 pre x tmp} (hW:w.heap.size+1≤W.heap.size) (hb:Boxed W w.heap.size 134 (.slice A n c)) (ho:aR W (w.heap.size+1) A n c pre) (hbel:Below w.heap.size w W)
  (hown:w5.ownsRow (w.heap.size+1) 9 1 (.slice A4 (n+1) c4) (n+1) (oL pre++[.string x])) (hg:(W.alloc tmp).grownBy w5 (ab A)):
  KeepsFrom (w.heap.size+1) W (w5.setCell ⟨w.heap.size,0,none⟩ (.slice A4 (n+1) c4))∧Below w.heap.size W (w5.setCell ⟨w.heap.size,0,none⟩ (.slice A4 (n+1) c4))∧yX w (pre++[x]) (w5.setCell ⟨w.heap.size,0,none⟩ (.slice A4 (n+1) c4)):=by
 have hlt:∀g,ab A=some g→w.heap.size+1≤g:=fun g e=>(ae ho g e).1
 have IQ:∀g,ab A4=some g→w.heap.size+1≤g:=fun g e=>(ae hown g e).1
 have hcl:∀j o,ab A=some j→(W.alloc tmp).heap[j]? =some o→o.isCells=true:=jQ (Oa ho tmp);have gs:=grownBy_setCell' w5 w.heap.size (.slice A4 (n+1) c4);have hb1:Below w.heap.size W w5:=((Ae _ W).alloc om tmp).grown hg (by simp;omega) (fun g e=>by have:=hlt g e;omega);have hb2:Below w.heap.size W (w5.setCell ⟨w.heap.size,0,none⟩ (.slice A4 (n+1) c4)):=hb1.setCell (p:=⟨w.heap.size,0,none⟩) Aj _;refine⟨(((Eu W _).trans (C9 hg hcl)).trans (CB _ _ _)).from _,hb2,A4,n+1,c4,?_,?_,hbel.trans hb2⟩
 ·refine Boxed.set _ ((hb.alloc tmp).kept hg (fun e=>?_));have:=hlt _ e.symm;omega
 ·have e:oL pre++[.string x]=oL (pre++[x]):=by rw[mP];rfl
  rw[e]at hown;exact eG hown gs (fun r e=> .inl fun e2=>by cases e;have:=IQ _ e2;omega)
theorem vU (bx A m c l w) (hw:Boxed w bx 134 (.slice A m c)) (hv:bM w w.heap.size A m c l) (hm:m≤1000000):
  Calls prog 271 #[.slice none 0 0,.func (.func 245) #[] #[.pointer (some ⟨bx,0,none⟩)]] w fun e w'=>∃A2 n2 c2,e= .returned (.slice A2 n2 c2)∧aR w' w.heap.size A2 n2 c2 l∧Below w.heap.size w w':=by
 have hlen:=Al hv.len;have hbx:=hw.lt;have YV:Kept (∀o,Yields 8 prog 245 #[.pointer (some ⟨bx,0,none⟩)] encS (fun _=>False) (fun X Y=>Below w.heap.size X Y) l (w.alloc o)):=⟨fun o=>vT 8 bx w.heap.size A m c l (w.alloc o) (hw.alloc o) hbx (hv.alloc Aj o)⟩
 clear hw hv;refine(Bu (n:=9)).1 ?_;refine CG func271 rfl trivial ?_ rfl;simp only[ntmps271,Cq,Lc,Ba,Nat.reduceAdd,Nat.reduceSub,Cv,Cx,Da,CJ,AB,Bc];refine BM.2 ?_;go_wp2;have bB:=Bo w 134 (.slice none 0 0);have hsz:(w.alloc (.cells #[.slice none 0 0] 134)).heap.size=w.heap.size+1:=Ah;have g0:Below w.heap.size w (w.alloc (.cells #[.slice none 0 0] 134)):=(Ae _ _).alloc Aj _;have Y4:=YV.1 (.cells #[.slice none 0 0] 134);clear YV;generalize w.alloc (.cells #[.slice none 0 0] 134)=w4 at*;refine(BM (n:=9)).1 ?_;refine su Ai (gf:=245) (lb:= #[.pointer (some ⟨bx,0,none⟩)]) rfl (BR func245 kr rfl)
  (encs:=encS) (O:=fun _=>False) (Kp:=fun X Y=>Below w.heap.size X Y) (L:=l) Y4
  (fun _ h=>h.elim) (fun h k=>h.trans k) (fun W W' row hW hg hr=>(Ae _ W).grown hg om (fun g e=>by have:=hr g e;omega)) (fun _=>rfl)
  (yX w) (fun _ _ _=>False)
  (fun pre x a₁ W=>yX w pre W∧
   a₁={tmps:= #[.slice none 0 0,.func (.func 245) #[] #[.pointer (some ⟨bx,0,none⟩)],.pointer (some ⟨w.heap.size,0,none⟩),undef,.slice none 0 0,.string x,.func (.func 245) #[] #[.pointer (some ⟨bx,0,none⟩)],
    .string x,undef,undef,undef,undef,undef],defers:=[]})
  ?hI (fun _ _ _ _ _ h _ _=>h) ?hM ?h0 ?assign ?body ?done ?stop
 case hI=>rw[hsz];exact yX.own
 case hM=>
  rw[hsz];rintro pre p a₁ u W W' row ⟨hI,ha⟩ hgr hr;exact⟨yX.own _ _ _ _ hI hgr hr,ha⟩
 case h0=>exact⟨none,0,0,bB,Bb _ _ _ _,g0⟩
 case assign=>
  rintro q pre x W hI hpre hW;unfold encS
  gi_wp2
  exact⟨⟨Nr _,fun _ _ _ h _=>h⟩,Ae _ _,hI,trivial⟩
 case body=>
  rintro q pre x a₁ W ⟨⟨A',n',c',hb,ho,hbel⟩,rfl⟩ hpre hW;have hl1:n'≤1000000:=by
   have h1:=ho.len;have h2:=hpre.length_le;have h3:=hlen.1;simp at h2;omega
  have hcO:=hb.cell;have Hb:=Al hb;have vI:=Al ho;have HB:=Al hbel;have hlo:∀g,ab A'=some g→w.heap.size+1≤g:=fun g e=>(ae ho g e).1
  have Yr:=Al hlo;clear hb ho hbel hlo;obtain⟨i0,hi0,hz0,hz1,hz2⟩:=AY Qu;have h1c:Kept (∀u∈[Value.string x],u.oneCell'=true):=⟨by simp;rfl⟩
  gi_wp2_with (gi_at_builtin;refine eY _ rfl (.tmp 8) (.tmp 10) _ rfl (w.heap.size+1) 9 i0 (.string ByteArray.empty) 1 16 underlying134 hi0 hz0 hz1 hz2 rfl Ai A' n' c' _ rfl (Oa vI.1 _) (W.heap.size+1) _ _ _ [.string x] rfl (bM.one W x) h1c.1 (by unfold maxLen;omega) om (by simp;omega) ?_;intro A4 c4 w5 au af bT;have nD:Boxed w5 w.heap.size 134 (.slice A' n' c'):=(Hb.1.alloc _).kept af (fun e=>by have:=Yr.1 _ e.symm;omega);have UQ:=nD.cell;have UR:=nD.frozen)
  rw[hsz];exact yX.push om Hb.1 vI.1 HB.1 au af
 case done=>
  rintro D W hD ⟨A',n',c',hb,ho,hbel⟩ hK;have hc:=hb.cell;have vI:=Al ho;have HB:=Al hbel;clear ho hbel;go_wp2;refine⟨Ah,.inl ⟨_,_,rfl,CV hK,?_⟩⟩;have hgo:W.grownBy (W.putObj D (.deferred none)) (some D):=Bn W D _;have hb2:=eG vI.1 hgo (fun r e=>by cases e;exact .inr ⟨_,hK,rfl⟩);refine⟨_,results_tmp rfl _ _ _,A',n',c',rfl,?_,HB.1.grown hgo HB.1.size (fun g e=>by cases e;omega)⟩;exact⟨hb2.1,hb2.2.imp id fun⟨g,cap,cur,h1,h2,h3⟩=>⟨g,cap,cur,h1,om,h3⟩⟩
 case stop=>
  rintro D c pre W _ _ h _;exact h.elim
end
end
section
section
open Go.RowKit Go.Shelf
attribute [local go_sem] Oper.semAt_some
namespace Sy
def fB (l:List ByteArray):Bool:=l.any fun s=>decide (65535<s.size)
theorem mY {l}:fB l=false↔∀s∈l,s.size≤65535:=by
 unfold fB;rw[List.any_eq_false];exact⟨fun h s hs=>by have:=h s hs;simp at this;exact this,fun h s hs=>by have:=h s hs;simp;exact this⟩
theorem JA {l k} (hk:k<l.length) (h:65535<l[k].size):fB l=true:=by
 unfold fB;rw[List.any_eq_true];exact⟨l[k],dR hk,by simpa using h⟩
def pairs (l:List ByteArray):List (ByteArray×ByteArray):=l.zip l.tail
theorem pU (l):(pairs l).length=l.length-1:=by unfold pairs;rw[DZ,List.length_tail];omega
theorem NH (l:List ByteArray) (k:Nat) (h:k+1<l.length):(pairs l)[k]'(by rw[pU];omega)=(l[k],l[k+1]):=by
 unfold pairs;rw[EB,List.getElem_tail]
theorem NJ {l}:aN l↔∀p∈pairs l,St.lt p.1 p.2=true:=by
 induction l with
 |nil=>exact⟨fun _ p hp=>by simp[pairs]at hp,fun _=>List.Pairwise.nil⟩
 |cons x l ih=>
  unfold aN at*;rw[BH];cases l with
  |nil=>exact⟨fun _ p hp=>by simp[pairs]at hp,fun _=>⟨Ah,List.Pairwise.nil⟩⟩
  |cons y l=>
   have e:pairs (x::y::l)=(x,y)::pairs (y::l):=by simp[pairs]
   rw[e];constructor
   ·rintro⟨h1,h2⟩ p hp;rcases iW.1 hp with rfl|hp
    ·exact h1 y Ah
    ·exact ih.1 h2 p hp
   ·intro h;have h2:=ih.2 fun p hp=>h p (by simp[hp])
    refine⟨fun z hz=>?_,h2⟩;have hxy:=h (x,y) Ah;rcases iW.1 hz with rfl|hz
    ·exact hxy
    ·exact St.trans hxy ((BH.1 h2).1 z hz)
end Sy
theorem FP (s w) (_hs:s.size≤maxLen):Calls prog 143 #[.string s] w fun e w'=>e= .returned (.bool (decide (65535< (s.size:Int))))∧w=w':=by
 go_enter func143,ntmps143;go_wp2;go_ret;exact⟨rfl,rfl⟩
theorem vV (A n c l w) (hv:bM w w.heap.size A n c l) (hf:∀s∈l,s.size≤maxLen):
  Calls prog 197 #[.slice A n c,.func (.func 143) #[] #[]] w fun e w'=>∃v:Int,e= .returned (.int .i64 v)∧((0≤v∧Sy.fB l=true)∨(v= -1∧Sy.fB l=false))∧w=w':=by
 have hlc:=hv.1;have hcm:=hv.2.1;unfold maxLen at hcm;have hn:=Al hv.len;have V:=Al hv;have F:=Al hf;clear hv hf;go_enter func197,ntmps197;go_wp2;go_loopw [8] (fun i wr=>∃k:Nat,k≤n∧i= .int .i64 k∧Kept (∀s∈l.take k,s.size≤65535)∧wr=w) (fun i _=>n-(intOf i).toNat)
 case atStart=>exact⟨0,om,rfl,⟨Ah⟩,rfl⟩
 case round=>
  obtain⟨k,hk,rfl,hd,hw⟩:=hrel;subst hw;by_cases hlt:k<n
  ·have hkl:k<l.length:=by rw[←hn.1];exact hlt
   obtain⟨b,off,rfl,-,c0⟩:=V.1.at_ hkl;have hs:=F.1 _ (dR hkl);have HL:=Al (fun h=>Sy.JA hkl h);have HN:Kept (l[k].size≤65535→∀s∈l.take (k+1),s.size≤65535):=⟨fun h=>by
    rw[Ts hkl];intro s hs;rcases gY.1 hs with hs|hs
    ·exact hd.1 s hs
    ·rw[iP.1 hs];exact h⟩
   have EL:=Al (fun W=>FP l[k] W hs);clear hs hd;generalize l[k]=x at*;by_cases hx:65535<x.size
   ·have hL:=Al (HL.1 hx);have hxb:decide (65535< (x.size:Int))=true:=by simp;omega
    rw[hxb]at EL;clear hx;go_wp2_with (go_at_call 143;refine(EL.1 _).mono ?_;rintro e w1 ⟨rfl,rfl⟩);go_ret;exact⟨k,rfl,.inl ⟨om,hL.1⟩,rfl⟩
   ·have hN:=Al (HN.1 om);have hxb:decide (65535< (x.size:Int))=false:=by simp;omega
    rw[hxb]at EL;clear hx;go_wp2_with (go_at_call 143;refine(EL.1 _).mono ?_;rintro e w1 ⟨rfl,rfl⟩);go_roundw
    case rel=>exact⟨k+1,om,by go_num,hN,Ah⟩
    case measure=>simp[intOf];omega
  ·have hL:Kept (Sy.fB l=false):=⟨Sy.mY.2 (by have:=hd.1;rwa[jc (by have:=hn.1;omega)]at this)⟩
   clear hd;go_wp2;go_ret;exact⟨-1,rfl,.inr ⟨rfl,hL.1⟩,rfl⟩
theorem pV (A n c l w) (hv:bM w w.heap.size A n c l) (hf:∀s∈l,s.size≤maxLen):
  Calls prog 142 #[.slice A n c,.func (.func 143) #[] #[]] w fun e w'=>e= .returned (.bool (Sy.fB l))∧w=w':=by
 have V:=Al (vV A n c l w hv hf);clear hv hf;go_enter func142,ntmps142;go_wp2_with (go_at_call 197;refine V.1.mono ?_;rintro e w1 ⟨v,rfl,hv,rfl⟩;rcases hv with⟨h1,h2⟩|⟨rfl,h2⟩)
 all_goals go_ret
 all_goals exact⟨by rw[h2];rfl,rfl⟩
def NL (p:ByteArray×ByteArray):Array Value:= #[.string p.1,.string p.2]
theorem vW (A n c w):Calls prog 144 #[.slice A n c] w fun e w'=>
  e= .returned (.func (.func 198) #[] #[.pointer (some ⟨w.heap.size,0,none⟩)])∧w'=w.alloc (.cells #[.slice A n c] 134):=by
 go_enter func144,ntmps144;go_wp2;go_ret;exact⟨rfl,rfl⟩
theorem pW (n bx B A m c l w) (hw:Boxed w bx 134 (.slice A m c)) (hbx:bx<B) (hv:bM w B A m c l):
  Yields n prog 198 #[.pointer (some ⟨bx,0,none⟩)] NL (fun _=>False) (fun X Y=>Below B X Y) (Sy.pairs l) w:=by
 intro q J Jx W hK hJ hJx bC h0;have hlc:=hv.1;have hcm:=hv.2.1;unfold maxLen at hcm;have hW:Boxed W bx 134 (.slice A m c):=(hK.block bx hbx).trans hw;have hn:=Al hv.len;have V:=Al (hv.below hK);have dh:=Al bC;have HJ:=Al hJ;have HW:=Al hW;clear hw hK bC hJ hJx hv hW;refine Bu.2 ?_;go_enter func198,ntmps198;go_wp2;go_loopw [3] (fun i wr=>∃k:Nat,(k=0∨k<m)∧i= .int .i64 ((k:Int)+1)∧Below B W wr∧Kept (J ((Sy.pairs l).take k) wr)) (fun i _=>m-(intOf i).toNat)
 case atStart=>exact⟨0,.inl rfl,rfl,Ae _ _,⟨h0⟩⟩
 case round=>
  clear h0;obtain⟨k,hk,rfl,hb,hj⟩:=hrel;have hc0:wr.cell? ⟨bx,0,none⟩=some (.slice A m c):=Boxed.cell ((hb.block bx hbx).trans HW.1);by_cases hlt:k+1<m
  ·have hkl:k+1<l.length:=by rw[←hn.1];exact hlt
   have hkp:k< (Sy.pairs l).length:=by rw[Sy.pU];omega
   have ht:=Ts hkp;rw[Sy.NH l k hkl]at ht;obtain⟨fn,tmps,assign,body,hy,qx⟩:=dh.1 ((Sy.pairs l).take k) (l[k],l[k+1]) wr.drew (HJ.1 _ _ _ none hj.1 ⟨rfl,rfl,rfl,Nr _,fun _ _ _=>rfl⟩ (fun _ e=>by cases e)) ⟨(Sy.pairs l).drop (k+1),by rw[←ht,je]⟩;unfold NL at hy;have HT:=Al ht;obtain⟨b,off,rfl,-,c0⟩:=(V.1.below hb).at_ (show k<l.length from om);obtain⟨b',off',e',-,c1⟩:=(V.1.below hb).at_ hkl;simp only[gU,Ce,BO]at e';obtain⟨rfl,rfl⟩:=e';have BB:=Al hb;have hlt1:(k:Int)+1< (m:Int):=om;have hlt2:(k:Int)< (m:Int):=om;have hk0:(0:Int)≤(k:Int):=om;have hw1:IntKind.i64.wrap ((k:Int)+1-1)=(k:Int):=by rw[AZ];omega
   have hw2:IntKind.i64.wrap (k:Int)=(k:Int):=by rw[AZ];omega
   clear ht hb hj;generalize l[k]=x at*;generalize l[k+1]=y at*;go_wp2;refine(BM (n:=n)).1 ?_;have RES:∀(e:Ending) (W':World),((e= .returned (.bool true)∧J ((Sy.pairs l).take k++[(x,y)]) W'∧Below B wr.drew W')∨(e= .returned (.bool false)∧Jx ((Sy.pairs l).take k++[(x,y)]) W'))→∃v,e= .returned (.bool v)∧Kept ((v=true∧J ((Sy.pairs l).take k++[(x,y)]) W'∧Below B wr.drew W')∨(v=false∧Jx ((Sy.pairs l).take k++[(x,y)]) W')):=by
    rintro e W' (⟨rfl,h⟩|⟨rfl,h⟩)
    ·exact⟨true,rfl,⟨.inl ⟨rfl,h⟩⟩⟩
    ·exact⟨false,rfl,⟨.inr ⟨rfl,h⟩⟩⟩
   have RES:=Al RES
   gi_region_with ((refine⟨(fun h=>by simp[Fence.wide]at h),qx.mono ?_⟩;intro e W' hh;obtain⟨v,rfl,HV⟩:=RES.1 e W' hh;clear hh))
   all_goals
    rcases HV.1 with⟨rfl,hj',hb'⟩|⟨rfl,qV⟩
    ·have B2:=Al (BB.1.trans (((Ae B wr).drew).trans hb'));have J2:=Al hj';clear hj' hb' HV;go_wp2;go_roundw
     case rel=>exact⟨k+1,.inr hlt,by go_num,B2.1,⟨by rw[HT.1];exact J2.1⟩⟩
     case measure=>simp[intOf];omega
    ·have X2:=Al qV;clear qV HV;go_wp2;refine Bg (Cm rfl _ _ _) rfl ⟨⟨_,rfl⟩,.inr ⟨_,⟨(Sy.pairs l).drop (k+1),?_⟩,X2.1⟩⟩;rw[←HT.1,je]
  ·have J2:Kept (J (Sy.pairs l) wr):=⟨by have:=hj.1;rwa[jc (by rw[Sy.pU];have:=hn.1;omega)]at this⟩
   have hge:(m:Int)≤(k:Int)+1:=om;clear hj;go_wp2;go_end0;exact⟨⟨_,rfl⟩,.inl J2.1⟩
end
end
section
section
open Go.RowKit Go.Shelf
attribute [local go_sem] Oper.semAt_some
namespace Sy
def FQ (T:List ByteArray):Bool:=(pairs T).all fun p=>St.lt p.1 p.2
theorem Q8 {T}:FQ T=true↔aN T:=by
 rw[NJ];unfold FQ;rw[Ef]
def l7 (s:ByteArray):List UInt8:=Wr.str s.data.toList
def aM (T:List ByteArray):List UInt8:=Vi.enc T.length++T.flatMap l7
def enc (T:List ByteArray):List UInt8×Int:=if fB T=true then([],7)else if FQ T=true then(aM T,0)else([],16)
theorem VK {s} (h:s.size≤65535):(l7 s).length≤65545:=by
 unfold l7;have h2:s.data.toList.length=s.size:=Ah;have:=Wr.rE s.data.toList om;omega
theorem nX {T:List ByteArray} (h:∀s∈T,s.size≤65535):(T.flatMap l7).length≤T.length*65545:=by
 induction T with
 |nil=>simp
 |cons s T ih=>
  have h1:=VK (h s Ah);have h2:=ih fun t ht=>h t (by simp[ht])
  rw[Av,La,Lc];omega
theorem VL {T} (h:∀s∈T,s.size≤65535) (hl:T.length≤1000000):(aM T).length≤70000000000:=by
 have h1:=nX h;have h2:=Vi.bF T.length om;unfold aM;rw[La];omega
theorem VM {T pre} (hp:pre<+:pairs T) {p} (h:p∈pre) (hn:St.lt p.1 p.2=false):FQ T=false:=by
 unfold FQ;rw[List.all_eq_false];exact⟨p,hp.subset h,by rw[hn];simp⟩
end Sy
theorem qI {w:World} {base n c sz g k A xs t v} (h:w.ownsRow base t sz (.slice A n c) n xs) (hne:∀g',ab A=some g'→g'≠g):(w.setCell ⟨g,k,none⟩ v).ownsRow base t sz (.slice A n c) n xs:=
 ag h (ak w ⟨g,k,none⟩ v) (by
  rcases hA:ab A with _|g'
  ·exact .inl rfl
  ·exact .inr fun e=>hne g' hA (Oj e))
def NN (w:World) (pre:List (ByteArray×ByteArray)) (W:World):Prop:=
 (∀p∈pre,St.lt p.1 p.2=true)∧Boxed W w.heap.size 22 (.slice none 0 0)∧Boxed W (w.heap.size+1) 25 (.int .i64 0)∧Below w.heap.size w W
def VN (w:World) (c:Code) (pre:List (ByteArray×ByteArray)) (W:World):Prop:=
 c= .ret∧(∃p∈pre,St.lt p.1 p.2=false)∧Boxed W w.heap.size 22 (.slice none 0 0)∧Boxed W (w.heap.size+1) 25 (.int .i64 16)∧Below w.heap.size w W
theorem NN.own {w}:aI (w.heap.size+3) (fun _=>False) (NN w):=by
 rintro s W W' row ⟨h1,h2,h3,h4⟩ hg hr;have hrow:∀r,row=some r→w.heap.size+3≤r:=fun r e=>by
  rcases hr r e with h|⟨h,_⟩
  ·exact h.elim
  ·omega
 exact⟨h1,h2.kept hg (fun e=>by have:=hrow _ e.symm;omega),h3.kept hg (fun e=>by have:=hrow _ e.symm;omega),h4.grown hg h4.size (fun g e=>by have:=hrow g e;omega)⟩
theorem VN.own {w} (c):aI (w.heap.size+3) (fun _=>False) (VN w c):=by
 rintro s W W' row ⟨h0,h1,h2,h3,h4⟩ hg hr;have hrow:∀r,row=some r→w.heap.size+3≤r:=fun r e=>by
  rcases hr r e with h|⟨h,_⟩
  ·exact h.elim
  ·omega
 exact⟨h0,h1,h2.kept hg (fun e=>by have:=hrow _ e.symm;omega),h3.kept hg (fun e=>by have:=hrow _ e.symm;omega),h4.grown hg h4.size (fun g e=>by have:=hrow g e;omega)⟩
theorem Ra {wr D g1 g2 t1 t2 u1 u2} (v1 v2) (h1:Boxed wr g1 t1 u1) (h2:Boxed wr g2 t2 u2) (h12:g1≠g2) (hD1:D≠g1) (hD2:D≠g2) (hK:wr.heap[D]? =some (.deferred (some []))):
  let W2:=(wr.setCell ⟨g1,0,none⟩ v1).setCell ⟨g2,0,none⟩ v2
  W2.heap[D]? =some (.deferred (some []))∧(W2.putObj D (.deferred none)).cell? ⟨g1,0,none⟩=some v1∧(W2.putObj D (.deferred none)).cell? ⟨g2,0,none⟩=some v2:=by
 intro W2;have b1:Boxed W2 g1 t1 v1:=(h1.set v1).other h12 v2;have b2:Boxed W2 g2 t2 v2:=(h2.other (Ne.symm h12) v1).set v2;have hgo:W2.grownBy (W2.putObj D (.deferred none)) (some D):=Bn W2 D _;exact⟨(AQ _ _ _ _ (by show D≠g2;exact hD2)).trans ((AQ _ _ _ _ (by show D≠g1;exact hD1)).trans hK),(b1.kept hgo (fun e=>hD1 (Oj e).symm)).cell,(b2.kept hgo (fun e=>hD2 (Oj e).symm)).cell⟩
theorem FV (A n c T w) (hv:bM w w.heap.size A n c T) (hf:∀s∈T,s.size≤maxLen) (hn:n≤1000000):
  Calls prog 86 #[.slice A n c] w fun e w'=>∃A3 n3 c3,e= .returned (.tuple #[.slice A3 n3 c3,.int .i64 (Sy.enc T).2])∧ah w' w.heap.size A3 n3 c3 (Sy.enc T).1∧Below w.heap.size w w':=by
 have hlc:=hv.1;have hcm:=hv.2.1;unfold maxLen at hcm;have HN:=Al hv.len;have V:=Al hv;obtain⟨M,hM⟩:∃M,M=Sy.enc T:=⟨_,rfl⟩
 rw[←hM];have CL:Kept (∀W,Below w.heap.size w W→Calls prog 142 #[.slice A n c,.func (.func 143) #[] #[]] W fun e w'=>e= .returned (.bool (Sy.fB T))∧W=w'):=⟨fun W hW=>pV A n c T W ((hv.below hW).more hW.size) hf⟩
 cases hlong:Sy.fB T with
 |true=>
  have HM:Kept (M=([],7)):=⟨by rw[hM,Sy.enc,Ps0 hlong]⟩
  rw[hlong]at CL;clear hv hM hlong hf;go_enter func86,ntmps86;go_wp2_with (go_at_call 142;refine(CL.1 _ (((Ae _ _).alloc Aj _).alloc Ah _)).mono ?_;rintro e w1 ⟨rfl,rfl⟩);refine Bg (v:= .tuple #[.slice none 0 0,.int .i64 7]) (by simp[results,Tryz.results86,go_sem]) rfl ⟨none,0,0,by rw[HM.1],by rw[HM.1];exact ah.nil _ _,?_⟩;exact((Ae _ _).alloc Aj _).alloc Ah _
 |false=>
  have hsz:=Sy.mY.1 hlong;have HM:Kept (M=if Sy.FQ T=true then(Sy.aM T,0)else([],16)):=⟨by rw[hM,Sy.enc,Ng (by rw[hlong];simp)]⟩
  have HSZ:=Al hsz;rw[hlong]at CL;clear hv hM hlong hf hsz;refine(Bu (n:=9)).1 ?_;refine CG func86 rfl trivial ?_ rfl;simp only[ntmps86,Cq,Lc,Ba,Nat.reduceAdd,Nat.reduceSub,Cv,Cx,Da,CJ,AB,Bc];refine BM.2 ?_;go_wp2_with (first
   |(go_at_call 142;refine(CL.1 _ (((Ae _ _).alloc Aj _).alloc Ah _)).mono ?_;rintro e w1 ⟨rfl,rfl⟩)
   |(go_at_call 144;refine(vW A n c _).mono ?_;rintro e w2 ⟨rfl,rfl⟩))
  have b1:Boxed (((w.alloc (.cells #[.slice none 0 0] 22)).alloc (.cells #[.int .i64 0] 25)).alloc (.cells #[.slice A n c] 134)) w.heap.size 22 (.slice none 0 0):=((Bo w _ _).alloc _).alloc _;have b2:Boxed (((w.alloc (.cells #[.slice none 0 0] 22)).alloc (.cells #[.int .i64 0] 25)).alloc (.cells #[.slice A n c] 134)) (w.heap.size+1) 25 (.int .i64 0):=by
   have:=(Bo (w.alloc (.cells #[.slice none 0 0] 22)) 25 (.int .i64 0)).alloc (.cells #[.slice A n c] 134);simpa using this
  have b3:Boxed (((w.alloc (.cells #[.slice none 0 0] 22)).alloc (.cells #[.int .i64 0] 25)).alloc (.cells #[.slice A n c] 134)) (w.heap.size+1+1) 134 (.slice A n c):=by
   have:=Bo ((w.alloc (.cells #[.slice none 0 0] 22)).alloc (.cells #[.int .i64 0] 25)) 134 (.slice A n c);simpa using this
  have hb:Below w.heap.size w (((w.alloc (.cells #[.slice none 0 0] 22)).alloc (.cells #[.int .i64 0] 25)).alloc (.cells #[.slice A n c] 134)):=(((Ae _ _).alloc Aj _).alloc Ah _).alloc (by simp;omega) _;have hsz:(((w.alloc (.cells #[.slice none 0 0] 22)).alloc (.cells #[.int .i64 0] 25)).alloc (.cells #[.slice A n c] 134)).heap.size=w.heap.size+3:=Ah;generalize ((w.alloc (.cells #[.slice none 0 0] 22)).alloc (.cells #[.int .i64 0] 25)).alloc (.cells #[.slice A n c] 134)=w4 at*;have Y4:=pW 8 (w.heap.size+1+1) (w.heap.size+3) A n c T w4 b3 om ((V.1.below hb).more om);have HB:=Al hb;clear hb;refine(BM (n:=9)).1 ?_;refine su Ai (gf:=198) (lb:= #[.pointer (some ⟨w.heap.size+1+1,0,none⟩)]) rfl (BR func198 kr rfl)
   (encs:=NL) (O:=fun _=>False) (Kp:=fun X Y=>Below (w.heap.size+3) X Y) (L:=Sy.pairs T) Y4
   (fun _ h=>h.elim) (fun h k=>h.trans k) (fun W W' row hW hg hr=>(Ae _ W).grown hg om (fun g e=>by have:=hr g e;omega)) (fun _=>rfl)
   (NN w) (VN w)
   (fun pre x a₁ W=>NN w pre W∧
    a₁={tmps:= #[.slice A n c,undef,.pointer (some ⟨w.heap.size,0,none⟩),.pointer (some ⟨w.heap.size+1,0,none⟩),.string x.1,.string x.2,undef,undef,undef,.slice A n c,.bool false,.slice A n c,.func (.func 198) #[] #[.pointer (some ⟨w.heap.size+1+1,0,none⟩)],
     .string x.1,.string x.2,undef,undef,undef,undef,undef,undef,undef,undef,undef,undef,undef,undef,undef,undef,undef,undef,undef,undef],defers:=[]})
   ?hI ?hIx ?hM ?h0 ?assign ?body ?done ?stop
  case hI=>rw[hsz];exact NN.own
  case hIx=>rw[hsz];exact VN.own
  case hM=>
   rw[hsz];rintro pre p a₁ u W W' row ⟨hI,ha⟩ hgr hr;exact⟨NN.own _ _ _ _ hI hgr hr,ha⟩
  case h0=>exact⟨Ah,b1,b2,HB.1⟩
  case assign=>
   rintro q pre ⟨x,y⟩ W hI hpre hW;unfold NL
   gi_wp2
   exact⟨⟨Nr _,fun _ _ _ h _=>h⟩,Ae _ _,hI,trivial⟩
  case body=>
   rintro q pre ⟨x,y⟩ a₁ W ⟨⟨h1,h2,h3,h4⟩,rfl⟩ hpre hW;have hc1:=h2.cell;have hf1:=h2.frozen;have hc2:=h3.cell;have hf2:=h3.frozen;have B1:=Al h2;have B2:=Al h3;have BB:=Al h4;have H1:=Al h1;have JB:Op.bytesLess x.toList y.toList=St.lt x y:=rfl;clear h1 h2 h3 h4;cases hxy:St.lt x y with
   |true=>
    rw[hxy]at JB;have HX:=Al hxy;clear hxy
    gi_wp2
    refine⟨⟨Nr _,fun _ _ _ h _=>h⟩,Ae _ _,fun p hp=>?_,B1.1,B2.1,BB.1⟩;rcases gY.1 hp with hp|hp
    ·exact H1.1 p hp
    ·rw[iP.1 hp];exact HX.1
   |false=>
    rw[hxy]at JB;have HX:=Al hxy;clear hxy
    gi_wp2
    exact⟨((CB _ _ _).trans (CB _ _ _)).from _,rfl,⟨(x,y),Ah,HX.1⟩,(B1.1.set _).other om _,(B2.1.other om _).set _,
     (BB.1.setCell (p:=⟨w.heap.size,0,none⟩) Aj _).setCell (p:=⟨w.heap.size+1,0,none⟩) (by show _≤_+1;omega) _⟩
  case done=>
   rintro D W hD ⟨h1,h2,h3,h4⟩ hK;have hasc:Sy.FQ T=true:=by unfold Sy.FQ;rw[Ef];exact h1
   obtain⟨E,hE⟩:∃E,E=Sy.aM T:=⟨_,rfl⟩
   have df:Kept (M=(E,0)):=⟨by rw[HM.1,Ps0 hasc,hE]⟩
   have hle:E.length≤70000000000:=by rw[hE];exact Sy.VL HSZ.1 (by have:=HN.1;omega)
   have HE:=Al hE;have LE:=Al hle;have hwn:=wrap_u64 (n:Int) om om;have B1:=Al h2;have B2:=Al h3;have BB:=Al h4;have HK:=Al hK;have hDs:=(Ge.1 hK).1;have hbz:=h4.size;clear h1 h2 h3 h4 hK hasc hE hle b1 b2 b3 Y4;go_wp2_with (go_at_call 145;refine(di none 0 0 W.heap.size n [] W (ah.nil _ _) Aj om om).mono ?_;rintro e w1 ⟨A1,n1,c1,rfl,ho1,hg1,-⟩;have O1:=Al ho1;have G1:=Al (aF (ah.nil W W.heap.size) Aj hg1);clear ho1 hg1);go_loopw [6,24] (fun b i wr=>∃k:Nat,k≤n∧i= .int .i64 k∧∃A2 n2 c2 bl,b= .slice A2 n2 c2∧ah wr W.heap.size A2 n2 c2 bl∧Below W.heap.size W wr∧Kept (bl++(T.drop k).flatMap Sy.l7=E)) (fun _ i _=>n-(intOf i).toNat)
   case atStart=>exact⟨0,om,rfl,A1,n1,c1,_,rfl,O1.1,G1.1,⟨by rw[HE.1,Sy.aM,HN.1];simp⟩⟩
   case round=>
    clear O1 G1;obtain⟨k,hk,rfl,A2,n2,c2,bl,rfl,ho,hb,hd⟩:=hrel;by_cases hlt:k<n
    ·have hkl:k<T.length:=by rw[←HN.1];exact hlt
     have hsk:=HSZ.1 _ (dR hkl);have hd1:=hd.1;have hn2:n2≤70000000000:=by
      have e1:=ho.len;have e2:=LE.1;rw[←hd1,La]at e2;omega
     rw[oQ hkl,Av,←Af]at hd1;have HD:=Al hd1;obtain⟨b,off,rfl,-,c0⟩:=((V.1.below (BB.1.trans (hb.mono hbz))).more Aj).at_ hkl;have O:=Al ho;have B:=Al hb;have hse:Sy.l7 T[k]=Wr.str T[k].data.toList:=rfl;rw[hse]at HD;clear ho hb hd hd1 hse;generalize T[k]=x at*;go_wp2_with (go_at_call 146;refine(jY A2 n2 c2 W.heap.size bl x wr O.1 B.1.size om).mono ?_;rintro e w2 ⟨A3,n3,c3,rfl,ho,hb⟩;have O3:=Al ho;have B3:=Al (B.1.trans hb);clear ho hb);go_roundw
     case rel=>exact⟨k+1,om,by go_num,A3,n3,c3,_,rfl,O3.1,B3.1,HD⟩
     case measure=>simp[intOf];omega
    ·have hd1:Kept (bl=E):=⟨by have:=hd.1;rwa[qW (by have:=HN.1;omega),Dm,Bh]at this⟩
     have X1:Boxed wr w.heap.size 22 (.slice none 0 0):=(hb.block _ om).trans B1.1;have X2:Boxed wr (w.heap.size+1) 25 (.int .i64 0):=(hb.block _ om).trans B2.1;have XK:wr.heap[D]? =some (.deferred (some [])):=(hb.block _ hDs).trans HK.1;have hc1:=X1.cell;have hf1:=X1.frozen;have hc2:=X2.cell;have hf2:=X2.frozen;have Z1:=Al X1;have Z2:=Al X2;have ZK:=Al XK;have O:=Al ho;have B:=Al hb;clear ho hb hd X1 X2 XK;go_wp2;obtain⟨q0,q1,q2⟩:=Ra (.slice A2 n2 c2) (.int .i64 0) Z1.1 Z2.1 om om om ZK.1;refine⟨Ah,.inl ⟨_,_,rfl,CV q0,?_⟩⟩;refine⟨.tuple #[.slice A2 n2 c2,.int .i64 0],by simp[results,Tryz.results86,go_sem,q1,q2],A2,n2,c2,?_,?_,?_⟩
     ·rw[df.1]
     ·rw[df.1];have h1:ah wr w.heap.size A2 n2 c2 E:=by rw[←hd1.1];exact O.1.base hbz
      have gs1:=qI h1 (g:=w.heap.size) (k:=0) (v:= .slice A2 n2 c2) (fun g e=>by have:=(ae O.1 g e).1;omega);have gs2:=qI gs1 (g:=w.heap.size+1) (k:=0) (v:= .int .i64 0) (fun g e=>by have:=(ae O.1 g e).1;omega);exact eG gs2 (Bn _ D _) (fun r e=>by cases e;exact .inr ⟨_,q0,rfl⟩)
     ·exact(((BB.1.trans (B.1.mono hbz)).setCell (p:=⟨w.heap.size,0,none⟩) Aj _).setCell (p:=⟨w.heap.size+1,0,none⟩) (by show _≤_+1;omega) _).grown (Bn _ D _) (by simp;have:=B.1.size;omega) (fun g e=>by cases e;omega)
  case stop=>
   rintro D c pre W hD hpre ⟨rfl,⟨p,hp,hp2⟩,h2,h3,h4⟩ hK;have df:Kept (M=([],16)):=⟨by rw[HM.1,Ng (by rw[Sy.VM hpre hp hp2];simp)]⟩
   have hc1:=h2.cell;have hc2:=h3.cell;have B1:=Al h2;have B2:=Al h3;have BB:=Al h4;have HK:=Al hK;clear h2 h3 h4 hK hp hp2
   gi_wp2
   have hgo:W.grownBy (W.putObj D (.deferred none)) (some D):=Bn W D _;have q1:=(B1.1.kept hgo (fun e=>by have:=Oj e;omega)).cell;have q2:=(B2.1.kept hgo (fun e=>by have:=Oj e;omega)).cell;refine⟨Ah,.inl ⟨_,_,rfl,CV HK.1,?_⟩⟩;refine⟨.tuple #[.slice none 0 0,.int .i64 16],by simp[results,Tryz.results86,go_sem,q1,q2],none,0,0,?_,?_,BB.1.grown hgo BB.1.size (fun g e=>by cases e;omega)⟩
   ·rw[df.1]
   ·rw[df.1];exact ah.nil _ _
end
end
end Go.Proofs.YtongopommlghgaaGreatDoor
