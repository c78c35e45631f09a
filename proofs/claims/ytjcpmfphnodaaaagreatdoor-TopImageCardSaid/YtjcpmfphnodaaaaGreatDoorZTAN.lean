/- Part 14. -/
import Derived.Test.YtjcpmfphnodaaaaGreatDoorZTAI
import Derived.Test.YtjcpmfphnodaaaaGreatDoorZTAM
namespace Go.Proofs.YtjcpmfphnodaaaaGreatDoor
set_option maxRecDepth 100000
set_option maxHeartbeats 0
open _root_.Go.Proofs.Tryz
section
section
open Go.RowKit Go.Shelf
def Sy.bs (T:List ByteArray) (s:ByteArray):Nat:=(T.filter fun x=>St.lt x s).length
theorem IG (A) (n c) (T) (s) (w) (hv:bM w w.heap.size A n c T) (hS:Sy.gK T) (hn:n≤1000000):
  Calls prog 200 #[.slice A n c,.string s] w fun e w'=>e= .returned (.tuple #[.int .i64 (Sy.bs T s:Nat),.bool (Sy.idx T s).isSome])∧∃q,w'=w.drewN q:=by
 have hlen:=hv.len;have hlc:=hv.1;have hcm:=hv.2.1;unfold maxLen at hcm;rcases nz n with h0|h0
 ·subst h0;obtain rfl:T=[]:=vg hlen.symm;exact(Any2.slices_BinarySearch_string_empty Tryz.bsL A c s w).mono fun e w' ⟨h1,h2⟩=>⟨h1,0,h2⟩
 ·obtain⟨b,off,rfl,-,hc⟩:=hv.2.2.2 h0;refine(Any2.slices_BinarySearch_string Tryz.bsL b off n c (fun j=>T.getD j ByteArray.empty) s w ?_ ?_).mono ?_
  ·omega
  ·intro j hj;refine hc j _ ?_;have hjl:j<T.length:=om;simp[oF,sv,List.getD,hjl]
  ·rintro e w' ⟨h1,h2⟩;refine⟨?_,h2⟩;rw[h1];subst hlen;rw[Sy.search hS s];rcases Sy.sI hS s with⟨h3,h4,h5⟩|⟨h3,h4⟩
   ·rw[h3];have:decide (((T.filter fun x=>St.lt x s).length<T.length)∧T.getD (T.filter fun x=>St.lt x s).length ByteArray.empty=s)=true:=by
     rw[CU];exact⟨h4,by simp[List.getD,h4,h5]⟩
    rw[this];rfl
   ·rw[h3];have:decide (((T.filter fun x=>St.lt x s).length<T.length)∧T.getD (T.filter fun x=>St.lt x s).length ByteArray.empty=s)=false:=by
     rw[decide_eq_false_iff_not];rintro⟨h5,h6⟩;exact h4 ⟨h5,by simpa[List.getD,h5]using h6⟩
    rw[this];rfl
theorem tu (A) (n c) (T) (s) (w) (hv:bM w w.heap.size A n c T) (hS:Sy.gK T) (hn:n≤1000000):
  Calls prog 147 #[.slice A n c,.string s] w fun e w'=>e= .returned (.tuple #[.int .i64 (((Sy.idx T s).getD 0:Nat):Int),.bool (Sy.idx T s).isSome])∧∃q,w'=w.drewN q:=by
 have SE:=Aj (IG A n c T s w hv hS hn);have hi:=Sy.sI hS s;have hi2:Sy.idx T s=some (Sy.bs T s)∨Sy.idx T s=none:=hi.imp (·.1) (·.1);clear hi hv hS;rcases hi2 with h|h
 ·rw[h]at SE⊢;simp only[Option.isSome_some,Option.getD_some]at SE⊢;clear h;generalize Sy.bs T s=k at*;go_enter func147,ntmps147;go_wp2_with (go_at_call 200;refine SE.1.mono ?_;rintro e w1 ⟨rfl,q,rfl⟩);go_ret2;exact⟨rfl,q,rfl⟩
 ·rw[h]at SE⊢;simp only[Option.isSome_none,Option.getD_none]at SE⊢;clear h;generalize Sy.bs T s=k at*;go_enter func147,ntmps147;go_wp2_with (go_at_call 200;refine SE.1.mono ?_;rintro e w1 ⟨rfl,q,rfl⟩);go_ret2;exact⟨rfl,q,rfl⟩
end
end
section
section
open Go.RowKit Go.Shelf
namespace Rc
def dE (T:List ByteArray) (s:ByteArray):List UInt8:=Vi.enc ((Sy.idx T s).getD 0)
def WH (n:Int):List UInt8:=Vi.enc n.toNat
def iw (T:List ByteArray) (r:jK):List UInt8:=Vi.enc r.1.length++(Lb.strs r.1).flatMap (dE T)++(Vi.enc r.2.length++r.2.flatMap WH)
def aH (T:List ByteArray) (rs:List jK):List UInt8:=Vi.enc rs.length++rs.flatMap (iw T)
def iK:List Int→Int
 |[]=>0
 |n::l=>if n<1∨2147483647<n then 23 else iK l
def dA (T:List ByteArray) (C:List Int):List ByteArray→Int
 |[]=>if C=[]then 23 else iK C
 |s::l=>if Sy.idx T s=none then 14 else dA T C l
def err (T:List ByteArray):List jK→Int
 |[]=>0
 |r::rs=>if dA T r.2 (Lb.strs r.1)≠0 then dA T r.2 (Lb.strs r.1)else err T rs
def enc (T:List ByteArray) (rs:List jK):List UInt8×Int:=if err T rs=0 then(aH T rs,0)else([],err T rs)
theorem kR {α:Type} (l:List α) (k) (h:k<l.length):l.drop k=l[k]::l.drop (k+1):=oN h
end Rc
theorem uX.cells {w} {B n c k} {A} {rs} (h:uX w B A n c rs) (hB:B≤w.heap.size) (hk:k<rs.length):
  ∃b off A1 n1 c1 A2 n2 c2,A=some ⟨b,off,none⟩∧fD w B A1 n1 c1 rs[k].1∧jv w B A2 n2 c2 rs[k].2∧∀W,Below w.heap.size w W→W.cell? ⟨b,off+k*2,none⟩=some (.slice A1 n1 c1)∧W.cell? ⟨b,off+k*2+1,none⟩=some (.slice A2 n2 c2):=by
 have hn:=h.len;obtain⟨hs,h1,h2,h3⟩:=h;obtain⟨A1,n1,c1,A2,n2,c2,e,p,q⟩:=h3 k om hk;obtain⟨b,off,rfl,hb,hc⟩:=h1.2.2.2 om;obtain⟨g1,g2⟩:=fF hs k om;rw[e]at g1 g2;refine⟨b,off,A1,n1,c1,A2,n2,c2,rfl,p,q,fun W hW=>⟨(hW.cell (p:=⟨b,_,none⟩) (by show b<_;omega)).trans (hc _ _ g1),(hW.cell (p:=⟨b,_,none⟩) (by show b<_;omega)).trans ?_⟩⟩;rw[gM];exact hc _ _ g2
theorem uX.cap {w} {B n c} {A} {rs} (h:uX w B A n c rs):n≤c∧c≤maxLen:=by
 obtain⟨hs,h1,_⟩:=h;exact⟨h1.1,h1.2.1⟩
theorem wrap_u64 (k) (h0:0≤k) (h:k<18446744073709551616):IntKind.u64.wrap k=k:=by simp[IntKind.wrap,IntKind.bits,IntKind.signed];omega
structure Bx (w W:World) (A:Option Addr) (n c:Nat) (l:List UInt8) (G:Nat) (u v:Value) (As:Option Addr) (ns cS:Nat) (ss:List ByteArray):Prop where
 own:ah W w.heap.size A n c l
 below:Below w.heap.size w W
 strs:aS W w.heap.size As ns cS ss
 box:W.heap[G]? =some (.cells #[u,v] 146 (0,0))
theorem Bx.len {w W} {A As} {n c G ns cS} {l} {u v} {ss} (h:Bx w W A n c l G u v As ns cS ss):n=l.length:=h.own.len
theorem Bx.cells {w W} {A As} {n c G ns cS} {l} {u v} {ss} (h:Bx w W A n c l G u v As ns cS ss):W.cell? ⟨G,0,none⟩=some u∧W.cell? ⟨G,1,none⟩=some v:=
 ⟨eH W G 0 _ _ _ h.box,eH W G 1 _ _ _ h.box⟩
theorem ah.II {w} {base n c g} {A} {l} {cs} {t} {fr} (h:ah w base A n c l) (hg:w.heap[g]? =some (.cells cs t fr)) (ht:t≠5):ab A≠some g:=by
 intro e;rcases h.2 with⟨hv,_⟩|⟨g',cap,cur,hv,_,hg',_⟩
 ·injection hv with h1;rw[h1]at e;cases e
 ·injection hv with h1
  rw[h1]at e;have:g'=g:=Oj e;subst this;rw[hg]at hg'
  injection hg' with h2
  injection h2 with _ h3
  exact ht h3
theorem Bx.drewN {w W} {A As} {n c G ns cS} {l} {u v} {ss} (h:Bx w W A n c l G u v As ns cS ss) (q):Bx w (W.drewN q) A n c l G u v As ns cS ss:=
 ⟨h.own,below_drewN h.below q,h.strs,h.box⟩
theorem yH {w W} {A As} {n c G ns cS x:Nat} {l} {u v} {ss} (h:Bx w W A n c l G u v As ns cS ss) (hx:x<18446744073709551616) (hn:n≤140737488355000):
  Calls prog 145 #[.slice A n c,.int .u64 (x:Int)] W fun e w'=>∃A3 n3 c3,e= .returned (.slice A3 n3 c3)∧Bx w w' A3 n3 c3 (l++Vi.enc x) G u v As ns cS ss:=
 (dh A n c w.heap.size x l W h.own h.below.size hx hn).mono fun e w' ⟨A3,n3,c3,h1,h2,h3,_⟩=>
  ⟨A3,n3,c3,h1,h2,h.below.trans (aF h.own h.below.size h3),af h.strs h3 (dU h.strs h.own Ah),
   (h3.block G (Ge.1 h.box).1 (Ne.symm (h.own.II h.box Ah))).trans h.box⟩
end
end
section
section
open Go.RowKit Go.Shelf
theorem Ez (TA A) (tn tc n c) (T) (rs) (w) (hT:bM w w.heap.size TA tn tc T) (hS:Sy.gK T) (hv:uX w w.heap.size A n c rs) (htn:tn≤1000000)
  (hn:n≤1000000) (hr:∀r∈rs,r.1.length≤1000000∧r.2.length≤1000000) (hsz:(Rc.aH T rs).length≤1000000000):
  Calls prog 87 #[.slice TA tn tc,.slice A n c] w fun e w'=>∃A3 n3 c3,e= .returned (.tuple #[.slice A3 n3 c3,.int .i64 (Rc.enc T rs).2])∧ah w' w.heap.size A3 n3 c3 (Rc.enc T rs).1∧Below w.heap.size w w':=by
 obtain⟨hlc,hcm⟩:=hv.cap;unfold maxLen at hcm;have HN:=Aj hv.len;have V:=Aj hv;have VT:=Aj hT;have HR:=Aj hr;have HS:=Aj hS;obtain⟨M,hM⟩:∃M,M=Rc.enc T rs:=⟨_,rfl⟩
 rw[←hM];obtain⟨E,hE⟩:∃E,E=Rc.aH T rs:=⟨_,rfl⟩
 rw[←hE]at hsz;have HE:=Aj hE;have HM:Kept (M=if Rc.err T rs=0 then(E,0)else([],Rc.err T rs)):=⟨by rw[hM,hE];rfl⟩
 have SZ:=Aj hsz;have hwn:=wrap_u64 (n:Int) om om;clear hv hT hr hM hE hS hsz;go_enter func87,ntmps87;go_upto_region 3 with(go_at_call 145;refine(dh none 0 0 w.heap.size n [] _ (ah.nil _ _) Ai om om).mono ?_;rintro e w1 ⟨A1,n1,c1,rfl,ho1,hg1,-⟩;have O1:=Aj ho1;have B1:=Aj (aF (ah.nil w w.heap.size) Ai hg1);clear ho1 hg1)
 go_loopw [6,21] (fun b i wr=>∃k:Nat,k≤n∧i= .int .i64 k∧∃A2 n2 c2 bl,b= .slice A2 n2 c2∧ah wr w.heap.size A2 n2 c2 bl∧Below w.heap.size w wr∧Kept (bl++(rs.drop k).flatMap (Rc.iw T)=E∧Rc.err T rs=Rc.err T (rs.drop k))) (fun _ i _=>n-(intOf i).toNat)
 case atStart=>exact⟨0,om,rfl,A1,n1,c1,_,rfl,O1.1,B1.1,⟨by rw[HE.1,Rc.aH,HN.1];simp,rfl⟩⟩
 case round=>
  clear O1 B1;obtain⟨k,hk,rfl,A2,n2,c2,bl,rfl,ho,hb,hd⟩:=hrel;by_cases hlt:k<n
  ·have hkl:k<rs.length:=by rw[←HN.1];exact hlt
   obtain⟨b,off,A3,n3,c3,A4,n4,c4,rfl,hL,hC,hc⟩:=V.1.cells Ai hkl;obtain⟨r0,r1⟩:=hc wr hb;obtain⟨h6a,ZR⟩:=HR.1 _ (ic hkl);have hdg:=Rc.kR rs k hkl;have hd1:=hd.1.1;have hd2:=hd.1.2;rw[hdg]at hd1 hd2;rw[Aq]at hd1;rw[Rc.err]at hd2;unfold Rc.iw at hd1;clear hd hdg hc;obtain⟨R,hRR⟩:∃R,R=(rs.drop (k+1)).flatMap (Rc.iw T):=⟨_,rfl⟩
   have HRR:=Aj hRR;unfold Rc.iw at hRR;rw[←hRR]at hd1;clear hRR;generalize rs[k]=rk at*;obtain⟨L,C⟩:=rk;simp only[]at hL hC h6a ZR hd1 hd2;have hl3:=hL.len;have hl4:=hC.len;have hc3:=hL.1;have IJ:=hL.2.1;have hc4:=hC.1;have X8:=hC.2.1;unfold maxLen at IJ X8;have h36:n3≤1000000:=om;have h46:n4≤1000000:=om;have hw3:=wrap_u64 (n3:Int) om om;have hw4:=wrap_u64 (n4:Int) om om;have H3:=Aj hl3;have H4:=Aj hl4;obtain⟨TL,hTL⟩:∃TL,TL=Vi.enc C.length++(C.flatMap Rc.WH++R):=⟨_,rfl⟩
   have D1:Kept (bl++Vi.enc n3++((Lb.strs L).flatMap (Rc.dE T)++TL)=E):=⟨by rw[←hd1,hTL,hl3];simp⟩
   have HTL:=Aj hTL;have D2:=Aj hd2;have hn2:n2≤1000000000:=by
    have h1:=ho.len;have h2:=SZ.1;rw[←D1.1]at h2;simp at h2;omega
   have hbz:=hb.size;have HL:=Aj hL;have HC:=Aj hC;have X1:Kept (Bx w (wr.alloc (.cells #[.slice A3 n3 c3,.slice A4 n4 c4] 146)) A2 n2 c2 bl wr.heap.size (.slice A3 n3 c3) (.slice A4 n4 c4) none 0 0 []):=
    ⟨⟨Oa ho _,hb.alloc hbz _,aS.nil _ _,Av wr _⟩⟩
   clear hd1 hd2 hl3 hl4 hTL hL hC ho hb h6a ZR;go_upto_region 7 with(first
    |(go_at_call 145;refine(yH X1.1 om om).mono ?_;rintro e w2 ⟨A5,n5,c5,rfl,hx⟩;obtain⟨y0,y1⟩:=hx.cells;have X2:=Aj hx;clear hx X1)
    |(go_at_call 123;refine(jI A3 n3 c3 L w2 ((HL.1.below X2.1.below).more X2.1.below.size) om).mono ?_;rintro e w3 ⟨A6,n6,c6,rfl,ho,hb⟩;have O3:=Aj ho;have B3:=Aj hb;clear ho hb))
   have X3:Kept (Bx w w3 A5 n5 c5 (bl++Vi.enc n3) wr.heap.size (.slice A3 n3 c3) (.slice A4 n4 c4) A6 n6 c6 (Lb.strs L)):=
    ⟨⟨X2.1.own.keep B3.1,X2.1.below.trans (B3.1.mono X2.1.below.size),bK O3.1 X2.1.below.size,(B3.1.block _ (Ge.1 X2.1.box).1).trans X2.1.box⟩⟩
   clear X2 O3 B3 r0 r1 y0 y1 hbz;generalize wr.heap.size=G at*
   rename World=>wq
   have rD:=X3.1.strs.len;have hss:=Lb.aQ L;have H6:=Aj rD;have h66:n6≤2000000:=by rw[rD,hss];have:=H3.1;omega
   clear rD hss;go_loopw [6,35] (fun b j wi=>∃i:Nat,i≤n6∧j= .int .i64 i∧∃A7 n7 c7 bm,b= .slice A7 n7 c7∧Bx w wi A7 n7 c7 bm G (.slice A3 n3 c3) (.slice A4 n4 c4) A6 n6 c6 (Lb.strs L)∧Kept (bm++(((Lb.strs L).drop i).flatMap (Rc.dE T)++TL)=E∧Rc.dA T C (Lb.strs L)=Rc.dA T C ((Lb.strs L).drop i))) (fun _ j _=>n6-(intOf j).toNat)
   case atStart=>exact⟨0,om,rfl,A5,n5,c5,_,rfl,X3.1,⟨D1.1,rfl⟩⟩
   case round=>
    clear X3;obtain⟨i,hi,rfl,A7,n7,c7,bm,rfl,hx,hd⟩:=hrel;by_cases hlt2:i<n6
    ·have hil:i< (Lb.strs L).length:=by rw[←H6.1];exact hlt2
     obtain⟨b6,ajg,rfl,hc⟩:=hx.strs.rd.cells Ai hil;have z0:=hc wr (Ae _ _);have hd1:=hd.1.1;have hd2:=hd.1.2;rw[Rc.kR _ i hil]at hd1 hd2;rw[Aq]at hd1;rw[Rc.dA]at hd2;have XF:n7≤1000000000:=by
      have h1:=hx.len;have h2:=SZ.1;rw[←hd.1.1]at h2;simp at h2;omega
     clear hc hd;have X:=Aj hx;have SI:=fun s=>Aj (tu TA tn tc T s wr ((VT.1.below hx.below).more hx.below.size) HS.1 htn)
     have hsT:Rc.dE T (Lb.strs L)[i]=Vi.enc ((Sy.idx T (Lb.strs L)[i]).getD 0):=rfl;rw[hsT]at hd1;have Uk:=SI (Lb.strs L)[i];have X9:=fun k (h:Sy.idx T (Lb.strs L)[i]=some k)=>Sy.ib h
     clear hx SI hsT;generalize (Lb.strs L)[i]=s at*;generalize Sy.idx T s=o at*;cases o with
     |none=>
      simp only[Option.isSome_none,Option.getD_none]at Uk;rw[Ps0 rfl]at hd2;have cZ:Kept (M=([],14)):=⟨by rw[HM.1,D2.1,hd2];rfl⟩
      clear hd1 hd2 X9;go_wp2_with (go_at_call 147;refine Uk.1.mono ?_;rintro e w4 ⟨rfl,q,rfl⟩);go_ret2;refine⟨none,0,0,?_,?_,below_drewN X.1.below q⟩
      ·rw[cZ.1];rfl
      ·rw[cZ.1];exact ah.nil _ _
     |some k2=>
      obtain⟨hk2,-,-⟩:=X9 k2 rfl;have hk3:k2≤1000000:=by have:=VT.1.len;omega
      have hwk:=wrap_u64 (k2:Int) om om;simp only[Option.isSome_some,Option.getD_some]at Uk hd1;rw[Ng sm]at hd2;have HD:Kept (bm++Vi.enc k2++(((Lb.strs L).drop (i+1)).flatMap (Rc.dE T)++TL)=E∧Rc.dA T C (Lb.strs L)=Rc.dA T C ((Lb.strs L).drop (i+1))):=⟨by rw[←hd1];simp,hd2⟩
      clear hd1 hd2 X9 hk2;go_wp2_with (first
       |(go_at_call 147;refine Uk.1.mono ?_;rintro e w4 ⟨rfl,q,rfl⟩;have X4:=Aj (X.1.drewN q))
       |(go_at_call 145;refine(yH X4.1 om om).mono ?_;rintro e w5 ⟨A8,n8,c8,rfl,hx⟩;have X5:=Aj hx;clear hx))
      go_roundw
      case rel=>exact⟨i+1,om,by go_num,A8,n8,c8,_,rfl,X5.1,HD⟩
      case measure=>simp[intOf];omega
    ·have hd1:=hd.1.1;have hd2:=hd.1.2;rw[oL (by have:=H6.1;omega)]at hd1 hd2;rw[Rc.dA]at hd2;rw[CR,Ay,HTL.1]at hd1;rw[hd2]at D2;obtain⟨y0,y1⟩:=hx.cells;have X:=Aj hx;have XF:n7≤1000000000:=by
      have h1:=hx.len;have h2:=SZ.1;rw[←hd1]at h2;simp at h2;omega
     clear hd hx;by_cases h0:n4=0
     ·have hC0:C=[]:=vg (by have:=H4.1;omega);rw[Ps0 hC0]at D2;have cZ:Kept (M=([],23)):=⟨by rw[HM.1,D2.1];rfl⟩
      have h0':(n4:Int)=0:=om;clear hd1 hd2 D2;go_wp2;go_ret2;refine⟨none,0,0,?_,?_,X.1.below⟩
      ·rw[cZ.1];rfl
      ·rw[cZ.1];exact ah.nil _ _
     ·have hC0:C≠[]:=fun h=>h0 (by have:=H4.1;rw[h]at this;simpa using this)
      rw[Ng hC0]at D2;have h0':¬(n4:Int)=0:=om;have aau:((n4:Int)==0)=false:=by simpa using h0'
      have D3:Kept (bm++Vi.enc n4++(C.flatMap Rc.WH++R)=E):=⟨by rw[←hd1,H4.1];simp⟩
      clear hd1 hd2 hC0;go_upto_region 18 with(go_at_call 145;refine(yH X.1 om om).mono ?_;rintro e w5 ⟨A8,n8,c8,rfl,hx⟩;obtain⟨x0,x1⟩:=hx.cells;have X5:=Aj hx;clear hx X)
      clear y0 y1 x0 x1;go_loopw [6,65] (fun b j wi=>∃i:Nat,i≤n4∧j= .int .i64 i∧∃A7 n7 c7 bm,b= .slice A7 n7 c7∧Bx w wi A7 n7 c7 bm G (.slice A3 n3 c3) (.slice A4 n4 c4) A6 n6 c6 (Lb.strs L)∧Kept (bm++((C.drop i).flatMap Rc.WH++R)=E∧Rc.iK C=Rc.iK (C.drop i))) (fun _ j _=>n4-(intOf j).toNat)
      case atStart=>exact⟨0,om,rfl,A8,n8,c8,_,rfl,X5.1,⟨D3.1,rfl⟩⟩
      case round=>
       clear X5 D3 XF;obtain⟨i2,hi2,rfl,A7,n7,c7,bm,rfl,hx,hd⟩:=hrel;have hd1:=hd.1.1;have hd2:=hd.1.2;have XF:n7≤1000000000:=by
        have h1:=hx.len;have h2:=SZ.1;rw[←hd1]at h2;simp at h2;omega
       clear hd;by_cases hlt3:i2<n4
       ·have hil:i2<C.length:=by rw[←H4.1];exact hlt3
        obtain⟨b4,Ya,rfl,-,z0⟩:=((HC.1.below hx.below).more hx.below.size).at_ hil;rw[Rc.kR _ i2 hil]at hd1 hd2;rw[Aq]at hd1;rw[Rc.iK]at hd2;have X:=Aj hx;clear hx;generalize C[i2]=x at*;rcases Int.lt_or_le x 1 with h1|h1
        ·rw[Ps0 (.inl h1)]at hd2;have cZ:Kept (M=([],23)):=⟨by rw[HM.1,D2.1,hd2];rfl⟩
         clear hd1 hd2;go_wp2;go_ret2;refine⟨none,0,0,?_,?_,X.1.below⟩
         ·rw[cZ.1];rfl
         ·rw[cZ.1];exact ah.nil _ _
        ·have h1':¬x<1:=by omega
         rcases Int.lt_or_le 2147483647 x with h2|h2
         ·rw[Ps0 (.inr h2)]at hd2;have cZ:Kept (M=([],23)):=⟨by rw[HM.1,D2.1,hd2];rfl⟩
          clear hd1 hd2;go_wp2;go_ret2;refine⟨none,0,0,?_,?_,X.1.below⟩
          ·rw[cZ.1];rfl
          ·rw[cZ.1];exact ah.nil _ _
         ·have h2':¬2147483647<x:=by omega
          rw[Ng om]at hd2;obtain⟨m,rfl⟩:=Ce (show 0≤x from om);have hwm:=wrap_u64 (m:Int) om om;have HD:Kept (bm++Vi.enc m++((C.drop (i2+1)).flatMap Rc.WH++R)=E∧Rc.iK C=Rc.iK (C.drop (i2+1))):=⟨by rw[←hd1];simp[Rc.WH],hd2⟩
          clear hd1 hd2;go_wp2_with (go_at_call 145;refine(yH X.1 om om).mono ?_;rintro e w5 ⟨A8,n8,c8,rfl,hx⟩;have X5:=Aj hx;clear hx);go_roundw
          case rel=>exact⟨i2+1,om,by go_num,A8,n8,c8,_,rfl,X5.1,HD⟩
          case measure=>simp[intOf];omega
       ·rw[oL (by have:=H4.1;omega)]at hd1 hd2;rw[Rc.iK]at hd2;rw[CR,Ay]at hd1;rw[hd2]at D2;have HD:Kept (bm++(rs.drop (k+1)).flatMap (Rc.iw T)=E∧Rc.err T rs=Rc.err T (rs.drop (k+1))):=⟨by rw[←hd1,HRR.1],by rw[D2.1];rfl⟩
        have X:=Aj hx;clear hd1 hd2 hx D2;go_wp2;go_roundw
        case rel=>exact⟨k+1,om,by go_num,A7,n7,c7,bm,rfl,X.1.own,X.1.below,HD⟩
        case measure=>simp[intOf];omega
  ·have hd1:=hd.1.1;have hd2:=hd.1.2;rw[oL (by have:=HN.1;omega)]at hd1 hd2;rw[Rc.err]at hd2;rw[CR,AZ]at hd1;have cZ:Kept (M=(bl,0)):=⟨by rw[HM.1,hd2,hd1];rfl⟩
   have O:=Aj ho;have B:=Aj hb;clear hd hd1 hd2 ho hb;go_wp2;go_ret2;refine⟨A2,n2,c2,?_,?_,B.1⟩
   ·rw[cZ.1];rfl
   ·rw[cZ.1];exact O.1
end
end
section
section
open Go.RowKit Go.Shelf
namespace Rc
theorem aa1 {n} (h:n≤mx):n<18446744073709551616:=by unfold mx at h;omega
structure Good {X:Type} (rd:List UInt8→Nat→Int→X×Nat×Int) (E:X→List UInt8) (OK:X→Prop):Prop where
 canon:∀l a x a',a≤l.length→rd l a 0=(x,a',0)→OK x∧l.drop a=E x++l.drop a'∧a≤a'∧a'≤l.length
 fwd:∀p x r,OK x→rd (p++(E x++r)) p.length 0=(x,p.length+(E x).length,0)
 app:∀l m a,a≤l.length→(rd l a 0).2.2≠3→rd (l++m) a 0=rd l a 0
 bad:∃d,∀l a e,e≠0→rd l a e=(d,a,e)
 pos:∀x,OK x→0< (E x).length
theorem Good.err {X} {rd:List UInt8→Nat→Int→X×Nat×Int} {E} {OK} (g:Good rd E OK) (l) (a) (e) (he:e≠0):(rd l a e).2.2=e:=by
 obtain⟨d,h⟩:=g.bad;rw[h l a e he]
theorem Good.at_ {X} {rd:List UInt8→Nat→Int→X×Nat×Int} {E} {OK} (g:Good rd E OK) {l} {a} {x} {r} (h:OK x) (hd:l.drop a=E x++r) (ha:a≤l.length):
  rd l a 0=(x,a+(E x).length,0)∧l.drop (a+(E x).length)=r∧a+(E x).length≤l.length:=by
 have e:l=l.take a++(E x++r):=by rw[←hd,jC]
 have hl:(l.take a).length=a:=by rw[lQ];omega
 have h1:=g.fwd (l.take a) x r h;rw[←e,hl]at h1;refine⟨h1,?_,?_⟩
 ·rw[←DK,hd,CW]
 ·have:=congrArg List.length hd;rw[jX,La]at this;have hp:=g.pos x h;omega
theorem mO {l:List UInt8} {a b} (h:a≤b):l.drop a=(l.drop a).take (b-a)++l.drop b:=by
 conv=>lhs;rw[←jC (b-a) (l.drop a)]
 rw[DK,show a+(b-a)=b from om]
theorem aI:Good (fun l a e=>Wr.uint l a e mx) Vi.enc (fun n=>n≤mx) where
 canon:=fun l a x a' ha h=>by
  unfold Wr.uint at h;rw[Ng sm]at h;simp only[]at h;split at h
  ·rename_i h1
   simp only[ay]at h;exact absurd (by exact_mod_cast h.2.2) h1
  ·rename_i h1
   split at h
   ·simp at h
   ·rename_i h2
    simp only[ay]at h;obtain⟨h3,h4,-⟩:=h;obtain⟨c1,c2,c3⟩:=Vi.pg (l:=l) (a:=a) (x:=(Vi.get l (a:Int)).1) (t:=(Vi.get l (a:Int)).2.1) (by
     have:(Vi.get l (a:Int)).2.2=0:=om;rw[←this])
    rw[h4]at c1 c2 c3;rw[h3]at c1;refine⟨om,?_,om,c3⟩;rw[←c1];exact mO om
 fwd:=fun p x r hx=>by
  have h:=Vi.xN p x r (aa1 hx);rw[Af]at h;show Wr.uint _ _ _ _=_;unfold Wr.uint;rw[Ng sm,h];simp only[];rw[Ng sm,Ng om,lS]
 app:=fun l m a ha h=>by
  show Wr.uint _ _ _ _=Wr.uint _ _ _ _;have h':(Vi.get l (a:Int)).2.2≠3:=fun e=>by
   apply h;show(Wr.uint _ _ _ _).2.2=3;unfold Wr.uint;rw[Ng sm];simp only[];rw[Ps0 om,e]
   rfl
  unfold Wr.uint;rw[Vi.JZ m l a ha h']
 bad:=⟨0,fun l a e he=>by
  show Wr.uint _ _ _ _=_;unfold Wr.uint;rw[Ps0 he]⟩
 pos:=fun x _=>Vi.bO x
end Rc
end
end
section
section
open Go.RowKit Go.Shelf
namespace Rc
theorem EB {T} (hS:Sy.gK T) (hT:T.length≤mx):Good (sym T) (dE T) (fun s=>(Sy.idx T s).isSome=true) where
 canon:=fun l a x a' ha h=>by
  unfold sym at h;simp only[]at h;split at h
  ·rename_i h1
   simp only[ay]at h;exact absurd h.2.2 h1
  ·rename_i h1
   split at h
   ·simp at h
   ·rename_i h2
    simp only[ay]at h;obtain⟨h3,h4,-⟩:=h;have hk:(Wr.uint l a 0 mx).1<T.length:=om;have hx:T[(Wr.uint l a 0 mx).1]=x:=by rw[←h3];simp[List.getD,hk]
    have hi:=Sy.rH hS hk hx;obtain⟨c1,c2,c3,c4⟩:=aI.canon l a _ a' ha (show Wr.uint l a 0 mx=((Wr.uint l a 0 mx).1,a',0)by rw[←h4];exact Ba rfl (Ba rfl (by simpa using h1)));refine⟨by rw[hi];rfl,?_,c3,c4⟩;unfold dE;rw[hi];exact c2
 fwd:=fun p x r hx=>by
  obtain⟨k,hk⟩:=Option.isSome_iff_exists.1 hx;obtain⟨hk2,hx2,-⟩:=Sy.ib hk;have hE:dE T x=Vi.enc k:=by unfold dE;rw[hk];rfl
  rw[hE];have h:=aI.fwd p k r om;unfold sym;rw[h];simp only[];rw[Ng sm,Ng om];simp[List.getD,hk2,hx2]
 app:=fun l m a ha h=>by
  have h':(Wr.uint l a 0 mx).2.2≠3:=fun e=>by
   apply h;unfold sym;simp only[];rw[Ps0 (by rw[e];decide),e]
  have:=aI.app l m a ha h';unfold sym;rw[this]
 bad:=⟨ByteArray.empty,fun l a e he=>by
  have h:Wr.uint l a e mx=(0,a,e):=by unfold Wr.uint;rw[Ps0 he]
  unfold sym;rw[h];exact Ps0 he⟩
 pos:=fun x _=>Vi.bO _
theorem ED:Good len Vi.enc (fun n=>1≤n∧n≤2147483647) where
 canon:=fun l a x a' ha h=>by
  unfold len at h;simp only[]at h;split at h
  ·simp only[ay]at h;have:=h.2.2;split at this
   ·cases this
   ·rename_i h1;exact absurd this h1
  ·rename_i h1
   obtain⟨c1,c2,c3,c4⟩:=aI.canon l a x a' ha h;rw[h]at h1;exact⟨by simp only[]at h1;omega,c2,c3,c4⟩
 fwd:=fun p x r hx=>by
  have h:=aI.fwd p x r (by unfold mx;omega);unfold len;rw[h];simp only[];rw[Ng om]
 app:=fun l m a ha h=>by
  have h':(Wr.uint l a 0 mx).2.2≠3:=fun e=>by
   apply h;unfold len;simp only[];split
   ·simp only[e];rfl
   ·exact e
  have:=aI.app l m a ha h';unfold len;rw[this]
 bad:=⟨0,fun l a e he=>by
  have h:Wr.uint l a e mx=(0,a,e):=by unfold Wr.uint;rw[Ps0 he]
  unfold len;rw[h];simp only[];rw[Ps0 (.inl om),Ng he]⟩
 pos:=fun x _=>Vi.bO _
section
variable {X Y:Type} {rd:List UInt8→Nat→Int→X×Nat×Int} {E:X→List UInt8} {OK:X→Prop}
def pr (rd:List UInt8→Nat→Int→X×Nat×Int) (WI:List UInt8→Nat→Int→Y×Nat×Int) (l:List UInt8) (a:Nat) (e:Int):(X×Y)×Nat×Int:=
 let r:=rd l a e
 let s:=WI l r.2.1 r.2.2
 ((r.1,s.1),s.2)
theorem Ki {WI:List UInt8→Nat→Int→Y×Nat×Int} {E2} {OK2} (g:Good rd E OK) (g2:Good WI E2 OK2):Good (pr rd WI) (fun x=>E x.1++E2 x.2) (fun x=>OK x.1∧OK2 x.2) where
 canon:=fun l a x a' ha h=>by
  unfold pr at h;simp only[]at h;have h0:(rd l a 0).2.2=0:=by
   apply Cj;intro hn;have:=g2.err l (rd l a 0).2.1 _ hn;have h2:=congrArg (fun z=>z.2.2) h;simp only[]at h2;rw[this]at h2;exact hn h2
  obtain⟨c1,c2,c3,c4⟩:=g.canon l a (rd l a 0).1 (rd l a 0).2.1 ha (Ba rfl (Ba rfl h0));rw[h0]at h;simp only[ay]at h;obtain⟨h1,h2⟩:=h;obtain⟨d1,d2,d3,d4⟩:=g2.canon l _ (WI l (rd l a 0).2.1 0).1 a' c4 (Ba rfl h2);subst h1;exact⟨⟨c1,d1⟩,by rw[c2,d2,Af],om,d4⟩
 fwd:=fun p x r hx=>by
  obtain⟨h1,h2,h3⟩:=g.at_ (l:=p++(E x.1++E2 x.2++r)) (a:=p.length) (r:=E2 x.2++r) hx.1 (by rw[CW,Af]) sm;obtain⟨i1,i2,i3⟩:=g2.at_ hx.2 h2 h3;unfold pr;rw[h1];simp only[];rw[i1];simp only[La,gM]
 app:=fun l m a ha h=>by
  have h1:(rd l a 0).2.2≠3:=fun e=>by
   apply h;unfold pr;simp only[];rw[e];exact g2.err _ _ 3 Ah
  unfold pr at h⊢;rw[g.app l m a ha h1];simp only[]at h⊢;by_cases h0:(rd l a 0).2.2=0
  ·obtain⟨c1,c2,c3,c4⟩:=g.canon l a (rd l a 0).1 (rd l a 0).2.1 ha (Ba rfl (Ba rfl h0));rw[h0]at h⊢;rw[g2.app l m _ c4 h]
  ·obtain⟨d,hd⟩:=g2.bad;rw[hd _ _ _ h0,hd _ _ _ h0]
 bad:=by
  obtain⟨d,hd⟩:=g.bad;obtain⟨d2,hd2⟩:=g2.bad;exact⟨(d,d2),fun l a e he=>by unfold pr;rw[hd l a e he];simp only[];rw[hd2 l a e he]⟩
 pos:=fun x hx=>by have:=g.pos x.1 hx.1;simp;omega
theorem Qa {WI} {E2} {OK2} (f:X→Y) (f':Y→X) (hf:∀y,f (f' y)=y) (g:Good rd E OK) (hr:∀l a e,WI l a e=(f (rd l a e).1,(rd l a e).2)) (hE:∀x,E2 (f x)=E x) (hO:∀x,OK2 (f x)↔OK x):Good WI E2 OK2 where
 canon:=fun l a y a' ha h=>by
  rw[hr]at h;simp only[ay]at h;obtain⟨h1,h2⟩:=h;obtain⟨c1,c2,c3,c4⟩:=g.canon l a (rd l a 0).1 a' ha (Ba rfl h2);subst h1;exact⟨(hO _).2 c1,by rw[hE];exact c2,c3,c4⟩
 fwd:=fun p y r hy=>by
  rw[←hf y]at hy⊢;rw[hr,hE,g.fwd p (f' y) r ((hO _).1 hy)]
 app:=fun l m a ha h=>by
  rw[hr]at h;rw[hr,hr,g.app l m a ha h]
 bad:=by
  obtain⟨d,hd⟩:=g.bad;exact⟨f d,fun l a e he=>by rw[hr,hd l a e he]⟩
 pos:=fun y hy=>by
  rw[←hf y]at hy⊢;rw[hE];exact g.pos _ ((hO _).1 hy)
def WJ (rd:List UInt8→Nat→Int→X×Nat×Int) (l:List UInt8) (a:Nat) (e:Int):List X×Nat×Int:=jJ (rd l) (cnt l a e).1 [] (cnt l a e).2.1 (cnt l a e).2.2
def yI (E:X→List UInt8) (xs:List X):List UInt8:=Vi.enc xs.length++xs.flatMap E
theorem pQ (g:Good rd E OK):∀(n) (l) (acc) (a) (xs) (a'),a≤l.length→jJ (rd l) n acc a 0=(xs,a',0)→∃ys,xs=acc++ys∧ys.length=n∧(∀y∈ys,OK y)∧l.drop a=ys.flatMap E++l.drop a'∧a≤a'∧a'≤l.length
 |0,l,acc,a,xs,a',ha,h=>by
  rw[dz]at h;simp only[ay,Bi]at h;obtain⟨rfl,rfl⟩:=h;exact⟨[],sm,rfl,sm,sm,Nr _,ha⟩
 |n+1,l,acc,a,xs,a',ha,h=>by
  by_cases h0:(rd l a 0).2.2=0
  ·rw[iO _ _ _ _ _ om h0]at h;obtain⟨c1,c2,c3,c4⟩:=g.canon l a (rd l a 0).1 (rd l a 0).2.1 ha (Ba rfl (Ba rfl h0));obtain⟨ys,d1,d2,d3,d4,d5,d6⟩:=pQ g n l _ _ xs a' c4 h;refine⟨(rd l a 0).1::ys,by rw[d1];simp,by simp[d2],fun y hy=>?_,by rw[c2,d4];simp,om,d6⟩;rcases iM.1 hy with rfl|hy
   ·exact c1
   ·exact d3 y hy
  ·rw[iI _ _ _ _ _ om h0]at h;simp only[ay]at h;exact absurd h.2.2 h0
theorem yJ (g:Good rd E OK):∀(ys) (l) (acc) (a) (r),(∀y∈ys,OK y)→l.drop a=ys.flatMap E++r→a≤l.length→jJ (rd l) ys.length acc a 0=(acc++ys,a+(ys.flatMap E).length,0)
 |[],l,acc,a,r,h,hd,ha=>by rw[AB,dz];simp
 |y::ys,l,acc,a,r,h,hd,ha=>by
  rw[Aq,Af]at hd;obtain⟨h1,h2,h3⟩:=g.at_ (h y sm) hd ha;rw[iO _ _ _ _ _ sm (by rw[h1]),h1];simp only[];rw[Lc,Bn,yJ g ys l _ _ r (fun z hz=>h z (by simp[hz])) h2 h3];simp[gM]
theorem Kj (g:Good rd E OK) (m):∀(n) (l) (acc) (a),a≤l.length→(jJ (rd l) n acc a 0).2.2≠3→jJ (rd (l++m)) n acc a 0=jJ (rd l) n acc a 0
 |0,l,acc,a,ha,h=>rfl
 |n+1,l,acc,a,ha,h=>by
  by_cases h0:(rd l a 0).2.2=0
  ·rw[iO _ _ _ _ _ om h0]at h⊢;obtain⟨c1,c2,c3,c4⟩:=g.canon l a (rd l a 0).1 (rd l a 0).2.1 ha (Ba rfl (Ba rfl h0));have ha2:=g.app l m a ha (by rw[h0];decide);rw[iO _ _ _ _ _ om (by rw[ha2];exact h0),ha2];exact Kj g m n l _ _ c4 h
  ·rw[iI _ _ _ _ _ om h0]at h⊢;have ha2:=g.app l m a ha h;rw[iI _ _ _ _ _ om (by rw[ha2];exact h0),ha2]
theorem aW (g:Good rd E OK):∀(ys:List X),(∀y∈ys,OK y)→ys.length≤(ys.flatMap E).length
 |[],_=>sm
 |y::ys,h=>by
  have h1:=g.pos y (h y sm);have h2:=aW g ys fun z hz=>h z (by simp[hz])
  rw[Aq,La,Lc];omega
theorem tC {l} {a n a'} (h:cnt l a 0=(n,a',0)):Wr.uint l a 0 mx=(n,a',0)∧n≤l.length-a':=by
 unfold cnt at h;simp only[]at h;split at h
 ·rename_i h1
  simp only[ay]at h;exact absurd h.2.2 h1
 ·split at h
  ·simp at h
  ·rename_i h2
   rw[h]at h2;exact⟨h,by simp only[]at h2;omega⟩
theorem rM (g:Good rd E OK):Good (WJ rd) (yI E) (fun xs=>xs.length≤mx∧∀x∈xs,OK x) where
 canon:=fun l a xs a' ha h=>by
  unfold WJ at h;by_cases h0:(cnt l a 0).2.2=0
  ·obtain⟨u1,u2⟩:=tC (show cnt l a 0=((cnt l a 0).1,(cnt l a 0).2.1,0)from Ba rfl (Ba rfl h0));obtain⟨c1,c2,c3,c4⟩:=aI.canon l a _ _ ha u1;rw[h0]at h;obtain⟨ys,d1,d2,d3,d4,d5,d6⟩:=pQ g _ l _ _ xs a' c4 h;rw[Ay]at d1;subst d1;refine⟨⟨by rw[d2];exact c1,d3⟩,?_,om,d6⟩;unfold yI;rw[c2,d4,d2,Af]
  ·have hz:(cnt l a 0).1=0:=by
    unfold cnt at h0⊢;simp only[]at h0⊢;split
    ·rfl
    ·split
     ·rfl
     ·rename_i h1 h2
      rw[Ng h1,Ng h2]at h0;exact absurd (by simpa using h1) h0
   rw[hz,dz]at h;simp only[ay]at h;exact absurd h.2.2 h0
 fwd:=fun p xs r hx=>by
  have hu:=aI.fwd p xs.length (xs.flatMap E++r) hx.1;have hl:=aW g xs hx.2;have hc:cnt (p++(yI E xs++r)) p.length 0=(xs.length,p.length+(Vi.enc xs.length).length,0):=by
   unfold cnt yI;rw[Af];simp only[];rw[hu];simp only[];rw[Ng sm,Ng (by simp only[La];omega)]
  unfold WJ;rw[hc];simp only[];rw[yJ g xs _ _ _ r hx.2 (by
   unfold yI;rw[←DK,CW,Af,CW]) (by unfold yI;simp)]
  unfold yI;simp[gM]
 app:=fun l m a ha h=>by
  unfold WJ at h⊢;have h1:(cnt l a 0).2.2≠3:=fun e=>by
   have hz:(cnt l a 0).1=0:=by
    unfold cnt at e⊢;simp only[]at e⊢;split
    ·rfl
    ·split
     ·rfl
     ·rename_i h1 h2
      rw[Ng h1,Ng h2]at e;rw[e]at h1;exact absurd Ah h1
   rw[hz,dz]at h;exact h e
  have hu:(Wr.uint l a 0 mx).2.2≠3:=fun e=>by
   apply h1;unfold cnt;simp only[];rw[Ps0 (by rw[e];decide),e]
  have hua:=aI.app l m a ha hu;have hc:cnt (l++m) a 0=cnt l a 0:=by
   unfold cnt;rw[hua];simp only[];by_cases h2:(Wr.uint l a 0 mx).2.2≠0
   ·rw[Ps0 h2,Ps0 h2]
   ·rw[Ng h2,Ng h2];have h3:¬l.length-(Wr.uint l a 0 mx).2.1< (Wr.uint l a 0 mx).1:=fun h3=>by
     apply h1;unfold cnt;simp only[];rw[Ng h2,Ps0 h3]
    rw[Ng h3,Ng (by rw[La];omega)]
  rw[hc];by_cases h0:(cnt l a 0).2.2=0
  ·obtain⟨u1,u2⟩:=tC (show cnt l a 0=((cnt l a 0).1,(cnt l a 0).2.1,0)from Ba rfl (Ba rfl h0));obtain⟨c1,c2,c3,c4⟩:=aI.canon l a _ _ ha u1;rw[h0]at h⊢;exact Kj g m _ l _ _ c4 h
  ·have hz:(cnt l a 0).1=0:=by
    unfold cnt at h0⊢;simp only[]at h0⊢;split
    ·rfl
    ·split
     ·rfl
     ·rename_i h1 h2
      rw[Ng h1,Ng h2]at h0;exact absurd (by simpa using h1) h0
   rw[hz,dz,dz]
 bad:=⟨[],fun l a e he=>by
  have h:Wr.uint l a e mx=(0,a,e):=by unfold Wr.uint;rw[Ps0 he]
  have hc:cnt l a e=(0,a,e):=by
   unfold cnt;rw[h];exact Ps0 he
  unfold WJ;rw[hc,dz]⟩
 pos:=fun xs _=>by unfold yI;have:=Vi.bO xs.length;simp;omega
end
theorem nW {T} (hS:Sy.gK T) (hT:T.length≤mx):Good (lab T) (fun x=>dE T x.n++dE T x.v) (fun x=>(Sy.idx T x.n).isSome=true∧(Sy.idx T x.v).isSome=true):=
 Qa (fun p=>(⟨p.1,p.2⟩:bf)) (fun x=>(x.n,x.v)) (fun _=>rfl) (Ki (EB hS hT) (EB hS hT)) (fun _ _ _=>rfl) (fun _=>rfl) (fun _=>Iff.rfl)
theorem Ul (T):fE T=WJ (lab T):=rfl
theorem Um:lens=WJ len:=rfl
def pR (T:List ByteArray) (r:List bf×List Nat):List UInt8:=yI (fun x:bf=>dE T x.n++dE T x.v) r.1++yI Vi.enc r.2
def ZT (T:List ByteArray) (r:List bf×List Nat):Prop:=
 ((r.1.length≤mx∧∀x∈r.1,(Sy.idx T x.n).isSome=true∧(Sy.idx T x.v).isSome=true)∧r.2.length≤mx∧∀n∈r.2,1≤n∧n≤2147483647)∧r.2≠[]
theorem rec_eq (T) (l) (a) (e):rec T l a e=((pr (fE T) lens l a e).1,(pr (fE T) lens l a e).2.1,if(pr (fE T) lens l a e).1.2=[]∧(pr (fE T) lens l a e).2.2=0 then 23 else(pr (fE T) lens l a e).2.2):=rfl
theorem EE {T} (hS:Sy.gK T) (hT:T.length≤mx):Good (rec T) (pR T) (ZT T):=
 have g:Good (pr (fE T) lens) (pR T) (fun r=>(r.1.length≤mx∧∀x∈r.1,(Sy.idx T x.n).isSome=true∧(Sy.idx T x.v).isSome=true)∧r.2.length≤mx∧∀n∈r.2,1≤n∧n≤2147483647):=by
  rw[Ul,Um];exact Ki (rM (nW hS hT)) (rM ED)
 {canon:=fun l a x a' ha h=>by
   rw[rec_eq]at h;simp only[ay]at h;obtain⟨h1,h2,h3⟩:=h;by_cases hc:(pr (fE T) lens l a 0).1.2=[]∧(pr (fE T) lens l a 0).2.2=0
   ·rw[Ps0 hc]at h3;cases h3
   ·rw[Ng hc]at h3;obtain⟨c1,c2,c3,c4⟩:=g.canon l a x a' ha (Ba h1 (Ba h2 h3));exact⟨⟨c1,fun e=>hc ⟨by rw[h1];exact e,h3⟩⟩,c2,c3,c4⟩
  fwd:=fun p x r hx=>by
   rw[rec_eq,g.fwd p x r hx.1];simp only[];rw[Ng (fun h=>hx.2 h.1)]
  app:=fun l m a ha h=>by
   rw[rec_eq]at h;simp only[]at h;have h':(pr (fE T) lens l a 0).2.2≠3:=fun e=>by
    apply h;rw[Ng (by rw[e];intro h;cases h.2),e]
   rw[rec_eq,rec_eq,g.app l m a ha h']
  bad:=by
   obtain⟨d,hd⟩:=g.bad;exact⟨d,fun l a e he=>by
    rw[rec_eq,hd l a e he];simp only[];rw[Ng (fun h=>he h.2)]⟩
  pos:=fun x hx=>g.pos x hx.1}
theorem Un (T):recs T=WJ (rec T):=rfl
theorem wZ {T} (hS:Sy.gK T) (hT:T.length≤mx):Good (recs T) (yI (pR T)) (fun rs=>rs.length≤mx∧∀r∈rs,ZT T r):=by
 rw[Un];exact rM (EE hS hT)
theorem pU (T) (L):(Lb.strs L).flatMap (dE T)=L.flatMap fun x=>dE T x.n++dE T x.v:=by
 unfold Lb.strs
 induction L with
 |nil=>rfl
 |cons x L ih=>rw[Aq,oV,ih,Aq];simp
theorem Uo (T) (r):iw T (bH r)=pR T r:=by
 unfold iw bH pR yI;simp only[];rw[pU,fu,DR]
 rfl
theorem yK (T) (rs):aH T (rs.map bH)=yI (pR T) rs:=by
 unfold aH yI;rw[fu,DR]
 congr 1
 congr 1
 funext r
 exact Uo T r
theorem Qb {C:List Nat} (h:∀n∈C,1≤n∧n≤2147483647):iK (C.map Int.ofNat)=0:=by
 induction C with
 |nil=>rfl
 |cons n C ih=>
  rw[AA,iK,Ng (by have:=h n sm;simp;omega)];exact ih fun m hm=>h m (by simp[hm])
theorem Mm {T} {C} (hC:C≠[]) (h2:iK C=0) {ss} (h:∀s∈ss,(Sy.idx T s).isSome=true):dA T C ss=0:=by
 induction ss with
 |nil=>rw[dA,Ng hC,h2]
 |cons s ss ih=>
  rw[dA,Ng (by have:=h s sm;intro e;rw[e]at this;cases this)];exact ih fun t ht=>h t (by simp[ht])
theorem Qc {T} {rs:List (List bf×List Nat)} (h:∀r∈rs,ZT T r):err T (rs.map bH)=0:=by
 induction rs with
 |nil=>rfl
 |cons r rs ih=>
  obtain⟨⟨⟨h1,h2⟩,h3,h4⟩,h5⟩:=h r sm;have h0:dA T (bH r).2 (Lb.strs (bH r).1)=0:=Mm (show r.2.map Int.ofNat≠[]by simpa using h5) (Qb h4) fun s hs=>by
   unfold bH Lb.strs at hs;simp only[kM]at hs;obtain⟨x,hx,hs⟩:=hs;simp at hs;rcases hs with rfl|rfl
   ·exact(h2 x hx).1
   ·exact(h2 x hx).2
  rw[AA,err,Ng (by rw[h0];simp)];exact ih fun q hq=>h q (by simp[hq])
theorem fH {T} (hS:Sy.gK T) (hT:T.length≤mx) {l} {rs} (h:dec T l=(rs,0)):enc T rs=(l,0)∧aH T rs=l∧rs.length≤l.length∧∀r∈rs,r.1.length≤l.length∧r.2.length≤l.length:=by
 unfold dec at h;simp only[]at h;split at h
 ·rename_i h1
  simp only[ay]at h;exact absurd h.2 h1
 ·rename_i h1
  simp only[ay,Bi]at h;have h2:Wr.fin l (recs T l 0 0).2.1 (recs T l 0 0).2.2=0:=by simpa using h1
  unfold Wr.fin at h2;split at h2
  ·rename_i h3;exact absurd h2 h3
  ·rename_i h3
   have h3':(recs T l 0 0).2.2=0:=by simpa using h3
   split at h2
   ·cases h2
   ·rename_i h4
    obtain⟨⟨c0,c1⟩,c2,c3,c4⟩:=(wZ hS hT).canon l 0 _ _ (bE _) (Ba rfl (Ba rfl h3'));have c4':(recs T l 0 0).2.1≤l.length:=c4;have h4':¬(recs T l 0 0).2.1<l.length:=h4;rw[BO,oL (Nat.le_of_not_lt h4'),AZ]at c2;subst h;refine⟨?_,?_,?_,?_⟩
    ·unfold enc;rw[Ps0 (Qc c1),yK,←c2]
    ·rw[yK,←c2]
    ·have e1:=aW (EE hS hT) _ c1;have e4:=congrArg List.length c2;unfold yI at e4;rw[La]at e4;rw[fu];generalize ((recs T l 0 0).1.flatMap (pR T)).length=F at e1 e4;have e5:(recs T l 0 0).1.length≤F:=e1;exact Lt e5 om
    ·intro r hr;obtain⟨q,hq,rfl⟩:=dM.1 hr;have e1:=aW (nW hS hT) q.1 (c1 q hq).1.1.2;have e2:=aW ED q.2 (c1 q hq).1.2.2;have e3:(pR T q).length≤((recs T l 0 0).1.flatMap (pR T)).length:=by
      obtain⟨s,t,e⟩:=List.append_of_mem hq;rw[e];simp;omega
     have e4:=congrArg List.length c2;unfold yI at e4;rw[La]at e4;generalize ((recs T l 0 0).1.flatMap (pR T)).length=F at e3 e4;unfold pR yI at e3;unfold bH;simp only[La,fu]at e3 e4⊢;omega
end Rc
end
end
section
section
open Go.RowKit Go.Shelf
namespace Rc
theorem tF:∀{C},iK C=0→∃CN:List Nat,C=CN.map Int.ofNat∧∀n∈CN,1≤n∧n≤2147483647
 |[],_=>⟨[],rfl,sm⟩
 |n::C,h=>by
  rw[iK]at h;split at h
  ·cases h
  ·rename_i hn
   obtain⟨CN,h1,h2⟩:=tF h;refine⟨n.toNat::CN,?_,fun m hm=>?_⟩
   ·rw[AA,h1]
    congr 1
    show n=((n.toNat:Nat):Int);omega
   ·rcases iM.1 hm with rfl|hm
    ·omega
    ·exact h2 m hm
theorem qI {T} {C}:∀{ss},dA T C ss=0→C≠[]∧iK C=0∧∀s∈ss,(Sy.idx T s).isSome=true
 |[],h=>by
  rw[dA]at h;split at h
  ·cases h
  ·rename_i hC;exact⟨hC,h,sm⟩
 |s::ss,h=>by
  rw[dA]at h;split at h
  ·cases h
  ·rename_i hs
   obtain⟨h1,h2,h3⟩:=qI h;refine⟨h1,h2,fun t ht=>?_⟩;rcases iM.1 ht with rfl|ht
   ·exact Option.isSome_iff_ne_none.2 hs
   ·exact h3 t ht
theorem IK {T}:∀{rs},(∀r∈rs,r.1.length≤mx∧r.2.length≤mx)→err T rs=0→∃yL:List (List bf×List Nat),rs=yL.map bH∧∀r∈yL,ZT T r
 |[],_,_=>⟨[],rfl,sm⟩
 |r::rs,hl,h=>by
  rw[err]at h;split at h
  ·rename_i h1;exact absurd h h1
  ·rename_i h1
   have h1':dA T r.2 (Lb.strs r.1)=0:=by simpa using h1
   obtain⟨h2,h3,h4⟩:=qI h1';obtain⟨CN,h5,h6⟩:=tF h3;obtain⟨yL,h7,h8⟩:=IK (fun q hq=>hl q (by simp[hq])) h;have hlr:=hl r sm;refine⟨(r.1,CN)::yL,?_,fun q hq=>?_⟩
   ·rw[AA,←h7]
    congr 1
    unfold bH;rw[←h5]
   ·rcases iM.1 hq with rfl|hq
    ·refine⟨⟨⟨hlr.1,fun x hx=>⟨h4 x.n ?_,h4 x.v ?_⟩⟩,by rw[h5,fu]at hlr;exact hlr.2,h6⟩,fun e=>h2 (by rw[h5];simp only[]at e;rw[e];rfl)⟩
     ·unfold Lb.strs;exact kM.2 ⟨x,hx,sm⟩
     ·unfold Lb.strs;exact kM.2 ⟨x,hx,sm⟩
    ·exact h8 q hq
theorem bT {T} (hS:Sy.gK T) (hT:T.length≤mx) {yL:List (List bf×List Nat)} (hl:yL.length≤mx) (hok:∀r∈yL,ZT T r):dec T (aH T (yL.map bH))=(yL.map bH,0):=by
 rw[yK];have h:=(wZ hS hT).fwd [] yL [] ⟨hl,hok⟩;rw[AZ,Ay]at h;simp only[AB,cB]at h;unfold dec;rw[h];simp only[];have hf:Wr.fin (yI (pR T) yL) (yI (pR T) yL).length 0=0:=by unfold Wr.fin;rw[Ng sm,Ng om]
 rw[hf,Ng sm]
end Rc
end
end
end Go.Proofs.YtjcpmfphnodaaaaGreatDoor
