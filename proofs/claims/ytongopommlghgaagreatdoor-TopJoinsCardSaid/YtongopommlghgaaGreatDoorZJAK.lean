/- Part 11. -/
import Derived.Test.YtongopommlghgaaGreatDoorZJAI
import Derived.Test.YtongopommlghgaaGreatDoorZJAJ
import Derived.StillTailTactics
namespace Go.Proofs.YtongopommlghgaaGreatDoor
set_option maxRecDepth 100000
set_option maxHeartbeats 0
theorem Du:type_of% @Go.wp_region_still_tail:= @Go.wp_region_still_tail
open _root_.Go.Proofs.Tryz
section
section
open Go.RowKit Go.Shelf Go.Sort
theorem zm {w ops rest o a Q y s A1 n1 c1} (hgd:Region.wanted o (yielded ops a.tmps)=true) (p q)
  (ho:o.op= .call {callee:= .builtin .append,args:= #[p,q],argTypes:= #[83,83]})
  (base A n c es) (hp:a.eval p= .slice A n c) (hown:bg 163 w base A n c es)
  (g) (hq:a.eval q= .slice (some ⟨g,0,none⟩) 1 1) (hgz:g=w.heap.size) (hS:aO w 0 A1 n1 c1 s)
  (hlen:n≤1000000000) (hbase:base≤w.heap.size)
  (h:∀A2 c2 w',bg 163 w' base A2 (n+1) c2 (es++[(y,s)])→Below base w w'→wpList prog ops Q rest (a.put o.dst (.slice A2 (n+1) c2)) w'):
  wpList prog ops Q (o::rest) a (w.alloc (.cells #[.string y.n,.string y.v,.slice A1 n1 c1] 163)):=by
 obtain⟨i0,hi0,hz0,hz1,hz2⟩:=AY Rj;obtain⟨hs,h1,h2,h3⟩:=hown;subst hgz;refine bA _ hgd p q _ ho base 163 i0 _ 3 56 underlying83 hi0 hz0 hz1 hz2 rfl Ai A n c _ hp (Oa h2 _) _ _ 1 1 _ hq (Rd.ZJ w (.string y.n) (.string y.v) (.slice A1 n1 c1) _) (by simp[Value.oneCell']) (by unfold maxLen;omega) om (by simp;omega) ?_;intro A2 c2 w' hown2 hg hat;exact h A2 c2 w' (bg.Yu Ai h1 h2 h3 hS hg hown2) (((Ae _ w).alloc hbase _).grown hg (by simp;omega) (fun g e=>(ae h2 g e).1))
theorem bg.ZM {w b1 b2 n c A es t} (h:bg t w b1 A n c es) (hb:b2≤b1):bg t w b2 A n c es:=by
 obtain⟨hs,h1,h2,h3⟩:=h;exact⟨hs,h1,bK h2 hb,h3⟩
theorem p9 {w w' base n c A l} (h:aO w base A n c l) (hb:Below w.heap.size w w'):aO w' base A n c l:=aQ h hb
end
end
section
section
open Go.RowKit Go.Shelf
namespace Pe
def gap:Int→List Int→List UInt8
 |_,[]=>[]
 |a,x::r=>Vi.enc (x-a).toNat++gap x r
def Up:Int→List Int→Prop
 |_,[]=>True
 |a,x::r=>a≤x∧x<9223372036854775808∧Up x r
def Gf (T:List ByteArray) (e:eX):Bool:=(Sy.idx T e.1.n).isSome&& (Sy.idx T e.1.v).isSome
def ib (T:List ByteArray) (e:eX):List UInt8:=Rc.dP T e.1.n++Rc.dP T e.1.v++(Vi.enc e.2.length++gap 0 e.2)
def aM (T:List ByteArray) (E:List eX):List UInt8:=Vi.enc E.length++E.flatMap (ib T)
def enc (T:List ByteArray) (E:List eX):List UInt8×Int:=if E.all (Gf T)=true then(aM T E,0)else([],14)
theorem Up.get:∀{l:List Int} {a:Int} (_:Up a l) {k:Nat} (hk:k<l.length),(a::l)[k]'(by simp;omega)≤l[k]∧l[k]<9223372036854775808
 |x::r,a,h,0,_=>⟨h.1,h.2.1⟩
 |x::r,a,h,k+1,hk=>by
  have:=Up.get (a:=x) h.2.2 (k:=k) (by simpa using hk);simpa using this
theorem Up.nn:∀{l} {a} (_:Up a l) (_:0≤a) {k} (hk:k<l.length+1),0≤(a::l)[k]'(by simpa using hk)
 |[],a,_,h0,0,_=>h0
 |x::r,a,_,h0,0,_=>h0
 |x::r,a,h,h0,k+1,hk=>by
  have:=Up.nn (a:=x) h.2.2 (by have:=h.1;omega) (k:=k) (by simpa using hk);simpa using this
theorem ZN {l:List Int} {a:Int} {k:Nat} (hk:k<l.length):gap ((a::l)[k]'(by simp;omega)) (l.drop k)=Vi.enc (l[k]-(a::l)[k]'(by simp;omega)).toNat++gap ((a::l)[k+1]'(by simp;omega)) (l.drop (k+1)):=by
 rw[oQ hk,gap,Cj]
end Pe
structure Be (w W:World) (A:Option Addr) (n c:Nat) (l:List UInt8) (G H:Nat) (x y:ByteArray) (u:Value):Prop where
 own:ah W w.heap.size A n c l
 below:Below w.heap.size w W
 box:W.heap[G]? =some (.cells #[.string x,.string y,u] 163 (0,0))
 strs:W.heap[H]? =some (.cells #[.string x,.string y] 9 (0,0))
theorem Be.cells {w W A n c G H l x y u} (h:Be w W A n c l G H x y u):
  W.cell? ⟨G,0,none⟩=some (.string x)∧W.cell? ⟨G,1,none⟩=some (.string y)∧W.cell? ⟨G,2,none⟩=some u∧W.cell? ⟨H,0,none⟩=some (.string x)∧W.cell? ⟨H,1,none⟩=some (.string y):=
 ⟨fq W G 0 _ _ _ h.box,fq W G 1 _ _ _ h.box,fq W G 2 _ _ _ h.box,fq W H 0 _ _ _ h.strs,fq W H 1 _ _ _ h.strs⟩
theorem Be.drewN {w W A n c G H l x y u} (h:Be w W A n c l G H x y u) (q):Be w (W.drewN q) A n c l G H x y u:=
 ⟨h.own,below_drewN h.below q,h.box,h.strs⟩
theorem JK {w W A} {n c G H k:Nat} {l x y u} (h:Be w W A n c l G H x y u) (hx:k<18446744073709551616) (hn:n≤140737488355000):
  Calls prog 145 #[.slice A n c,.int .u64 (k:Int)] W fun e w'=>∃A3 n3 c3,e= .returned (.slice A3 n3 c3)∧Be w w' A3 n3 c3 (l++Vi.enc k) G H x y u:=
 (di A n c w.heap.size k l W h.own h.below.size hx hn).mono fun e w' ⟨A3,n3,c3,h1,h2,h3,_⟩=>
  ⟨A3,n3,c3,h1,h2,h.below.trans (aF h.own h.below.size h3),
   (h3.block G (Ge.1 h.box).1 (Ne.symm (h.own.Jw h.box Ai))).trans h.box,
   (h3.block H (Ge.1 h.strs).1 (Ne.symm (h.own.Jw h.strs Ai))).trans h.strs⟩
theorem V6 {a x} (h0:0≤a) (h1:a≤x) (h2:x<9223372036854775808):∃g:Nat,(x-a).toNat=g∧IntKind.i64.wrap (x-a)=(g:Int)∧IntKind.u64.wrap (g:Int)=(g:Int)∧g<18446744073709551616:=by
 refine⟨(x-a).toNat,rfl,?_,?_,om⟩
 ·rw[Int.toNat_of_nonneg om];simp[IntKind.wrap,IntKind.bits,IntKind.signed];omega
 ·exact wrap_u64 _ om om
theorem JL {w w' base n c A l} (h:aO w base A n c l) (hb:Below w.heap.size w w'):aO w' base A n c l:=aQ h hb
theorem Gg (TA A tn tc n c T es w) (hT:bM w w.heap.size TA tn tc T) (hS:Sy.aN T) (hv:gL w w.heap.size A n c es) (htn:tn≤1000000)
  (hn:n≤1000000) (hr:∀e∈es,e.2.length≤1000000∧Pe.Up 0 e.2) (hsz:(Pe.aM T es).length≤1000000000):
  Calls prog 88 #[.slice TA tn tc,.slice A n c] w fun e w'=>∃A3 n3 c3,e= .returned (.tuple #[.slice A3 n3 c3,.int .i64 (Pe.enc T es).2])∧ah w' w.heap.size A3 n3 c3 (Pe.enc T es).1∧Below w.heap.size w w':=by
 obtain⟨hlc,hcm⟩:=hv.cap;unfold maxLen at hcm;have HN:=Al hv.len;have V:=Al hv;have VT:=Al hT;have HR:=Al hr;have HS:=Al hS;obtain⟨M,hM⟩:∃M,M=Pe.enc T es:=⟨_,rfl⟩
 rw[←hM];obtain⟨E,hE⟩:∃E,E=Pe.aM T es:=⟨_,rfl⟩
 rw[←hE]at hsz;have HE:=Al hE;have HM:Kept (M=if es.all (Pe.Gf T)=true then(E,0)else([],14)):=⟨by rw[hM,hE];rfl⟩
 have SZ:=Al hsz;have hwn:=wrap_u64 (n:Int) om om;clear hv hT hr hM hE hS hsz;go_enter func88,ntmps88;go_upto_region 3 with(go_at_call 145;refine(di none 0 0 w.heap.size n [] _ (ah.nil _ _) Aj om om).mono ?_;rintro e w1 ⟨A1,n1,c1,rfl,ho1,hg1,-⟩;have O1:=Al ho1;have B1:=Al (aF (ah.nil w w.heap.size) Aj hg1);clear ho1 hg1)
 go_loopw [6,22] (fun b i wr=>∃k:Nat,k≤n∧i= .int .i64 k∧∃(A2:Option Addr) (n2 c2:Nat) (bl:List UInt8),b= .slice A2 n2 c2∧ah wr w.heap.size A2 n2 c2 bl∧Below w.heap.size w wr∧Kept (bl++(es.drop k).flatMap (Pe.ib T)=E∧es.all (Pe.Gf T)=(es.drop k).all (Pe.Gf T))) (fun _ i _=>n-(intOf i).toNat)
 case atStart=>exact⟨0,om,rfl,A1,n1,c1,_,rfl,O1.1,B1.1,⟨by rw[HE.1,Pe.aM,HN.1];simp,rfl⟩⟩
 case round=>
  clear O1 B1;obtain⟨k,hk,rfl,A2,n2,c2,bl,rfl,ho,hb,hd⟩:=hrel;by_cases hlt:k<n
  ·have hkl:k<es.length:=by rw[←HN.1];exact hlt
   obtain⟨b,off,A3,n3,c3,rfl,ni,hL,hc⟩:=V.1.cells Aj hkl;obtain⟨r0,r1,r2⟩:=hc wr hb;obtain⟨h6a,h6b⟩:=HR.1 _ (dR hkl);have hdg:=Rc.kP es k hkl;have hd1:=hd.1.1;have hd2:=hd.1.2;rw[hdg]at hd1 hd2;rw[Av]at hd1;rw[List.all_cons]at hd2;unfold Pe.ib at hd1;clear hd hdg hc;obtain⟨R,hRR⟩:∃R,R=(es.drop (k+1)).flatMap (Pe.ib T):=⟨_,rfl⟩
   have HRR:=Al hRR;unfold Pe.ib at hRR;rw[←hRR]at hd1;clear hRR;obtain⟨Q,hQQ⟩:∃Q,Q=(es.drop (k+1)).all (Pe.Gf T):=⟨_,rfl⟩
   have HQQ:=Al hQQ;rw[←hQQ]at hd2;clear hQQ;generalize es[k]=ek at*;obtain⟨⟨xn,xv⟩,s⟩:=ek;simp only[]at hL h6a h6b hd1 hd2 r0 r1 r2;have HL:=Al hL;have hl3:=aO.len hL;have hc3:=(aO.rd hL).1;have Jy:=(aO.rd hL).2.1;unfold maxLen at Jy;have h36:n3≤1000000:=om;have hw3:=wrap_u64 (n3:Int) om om;have H3:=Al hl3;have UP:=Al h6b;have hbz:=hb.size;obtain⟨TL,hTL⟩:∃TL,TL=Vi.enc s.length++(Pe.gap 0 s++R):=⟨_,rfl⟩
   have D1:Kept (bl++(([xn,xv]:List ByteArray).flatMap (Rc.dP T)++TL)=E):=⟨by rw[←hd1,hTL];simp⟩
   have D2:Kept (es.all (Pe.Gf T)=(([xn,xv]:List ByteArray).all (fun z=>(Sy.idx T z).isSome)&&Q)):=⟨by rw[hd2];simp[Pe.Gf]⟩
   have HTL:=Al hTL;have X1:Kept (Be w ((wr.alloc (.cells #[.string xn,.string xv,.slice A3 n3 c3] 163)).alloc (.cells #[.string xn,.string xv] 9)) A2 n2 c2 bl wr.heap.size (wr.heap.size+1) xn xv (.slice A3 n3 c3)):=
    ⟨⟨Oa (Oa ho _) _,(hb.alloc hbz _).alloc (by simp;omega) _,
     (Ay _ _ _ Ah).trans (Aw wr _),by
      have:=Aw (wr.alloc (.cells #[.string xn,.string xv,.slice A3 n3 c3] 163)) (.cells #[.string xn,.string xv] 9);rw[AV]at this;exact this⟩⟩
   clear hd1 hd2 hl3 hTL hL ho hb h6a h6b;go_upto_region 6 with(fail)
   clear r0 r1 r2 hbz;generalize (wr.alloc (.cells #[.string xn,.string xv,.slice A3 n3 c3] 163)).alloc (.cells #[.string xn,.string xv] 9)=w2 at*;generalize wr.heap.size+1=H at*;generalize wr.heap.size=G at*;go_loopw [6,34] (fun b j wi=>∃i:Nat,i≤2∧j= .int .i64 i∧∃(A7:Option Addr) (n7 c7:Nat) (bm:List UInt8),b= .slice A7 n7 c7∧Be w wi A7 n7 c7 bm G H xn xv (.slice A3 n3 c3)∧Kept (bm++((([xn,xv]:List ByteArray).drop i).flatMap (Rc.dP T)++TL)=E∧es.all (Pe.Gf T)=((([xn,xv]:List ByteArray).drop i).all (fun z=>(Sy.idx T z).isSome)&&Q))) (fun _ j _=>2-(intOf j).toNat)
   case atStart=>exact⟨0,om,rfl,A2,n2,c2,bl,rfl,X1.1,⟨D1.1,D2.1⟩⟩
   case round=>
    clear X1 D1 D2;obtain⟨i,hi,rfl,A7,n7,c7,bm,rfl,hx,hd⟩:=hrel;have Ya:n7≤1000000000:=by
     have h1:=hx.own.len;have h2:=SZ.1;rw[←hd.1.1]at h2;simp at h2;omega
    by_cases hlt2:i<2
    ·have hil:i< ([xn,xv]:List ByteArray).length:=hlt2;have z0:wr.cell? ⟨H,i,none⟩=some (.string ([xn,xv]:List ByteArray)[i]):=by
      obtain⟨-,-,-,h3,h4⟩:=hx.cells
      match i,hil with
      |0,_=>exact h3
      |1,_=>exact h4
     have hd1:=hd.1.1;have hd2:=hd.1.2;rw[Rc.kP _ i hil]at hd1 hd2;rw[Av]at hd1;rw[List.all_cons]at hd2;have X:=Al hx;have SI:=fun s=>Al (tX TA tn tc T s wr ((VT.1.below hx.below).more hx.below.size) HS.1 htn)
     have hsT:Rc.dP T ([xn,xv]:List ByteArray)[i]=Vi.enc ((Sy.idx T ([xn,xv]:List ByteArray)[i]).getD 0):=rfl;rw[hsT]at hd1;have VC:=SI ([xn,xv]:List ByteArray)[i];have ZE:=fun k (h:Sy.idx T ([xn,xv]:List ByteArray)[i]=some k)=>Sy.jo h
     clear hx SI hsT hd;generalize ([xn,xv]:List ByteArray)[i]=s2 at*;generalize Sy.idx T s2=o at*;cases o with
     |none=>
      simp only[Option.isSome_none,Option.getD_none]at VC;have df:Kept (M=([],14)):=⟨by rw[HM.1,hd2];simp⟩
      clear hd1 hd2 ZE;go_wp2_with (go_at_call 147;refine VC.1.mono ?_;rintro e w4 ⟨rfl,q,rfl⟩);go_ret2;refine⟨none,0,0,?_,?_,below_drewN X.1.below q⟩
      ·rw[df.1];rfl
      ·rw[df.1];exact ah.nil _ _
     |some k2=>
      obtain⟨hk2,-,-⟩:=ZE k2 rfl;have hk3:k2≤1000000:=by have:=VT.1.len;omega
      have hwk:=wrap_u64 (k2:Int) om om;simp only[Option.isSome_some,Option.getD_some]at VC hd1;have HD:Kept (bm++Vi.enc k2++((([xn,xv]:List ByteArray).drop (i+1)).flatMap (Rc.dP T)++TL)=E∧es.all (Pe.Gf T)=((([xn,xv]:List ByteArray).drop (i+1)).all (fun z=>(Sy.idx T z).isSome)&&Q)):=⟨by rw[←hd1];simp,by rw[hd2];simp⟩
      clear hd1 hd2 ZE hk2;go_wp2_with (first
       |(go_at_call 147;refine VC.1.mono ?_;rintro e w4 ⟨rfl,q,rfl⟩;have X4:=Al (X.1.drewN q))
       |(go_at_call 145;refine(JK X4.1 om om).mono ?_;rintro e w5 ⟨A8,n8,c8,rfl,hx⟩;have X5:=Al hx;clear hx))
      go_roundw
      case rel=>exact⟨i+1,om,by go_num,A8,n8,c8,_,rfl,X5.1,HD⟩
      case measure=>simp[intOf];omega
    ·obtain rfl:i=2:=by omega
     have hd1:=hd.1.1;have hd2:=hd.1.2;simp only[BP,List.drop_nil,Dm,AB,List.all_nil,Bool.true_and]at hd1 hd2;rw[HTL.1]at hd1;have D3:Kept (bm++Vi.enc n3++(Pe.gap 0 s++R)=E):=⟨by rw[←hd1,H3.1];simp⟩
     have D4:Kept (es.all (Pe.Gf T)=(es.drop (k+1)).all (Pe.Gf T)):=⟨by rw[hd2,HQQ.1]⟩
     have X:=Al hx;obtain⟨y0,y1,y2,-,-⟩:=hx.cells;clear hd hd1 hd2 hx;go_upto_region 16 with(go_at_call 145;refine(JK X.1 om om).mono ?_;rintro e w5 ⟨A8,n8,c8,rfl,hx⟩;obtain⟨x0,x1,x2,-,-⟩:=hx.cells;have X5:=Al hx;clear hx X)
     clear y0 y1 y2 x0 x1 x2;go_loopw [6,13,60] (fun b la j wi=>∃i:Nat,i≤n3∧j= .int .i64 i∧∃(a:Int) (A7:Option Addr) (n7 c7:Nat) (bm:List UInt8),la= .int .i64 a∧b= .slice A7 n7 c7∧Be w wi A7 n7 c7 bm G H xn xv (.slice A3 n3 c3)∧Kept ((0::s)[i]? =some a∧bm++(Pe.gap a (s.drop i)++R)=E)) (fun _ _ j _=>n3-(intOf j).toNat)
     case atStart=>exact⟨0,om,rfl,0,A8,n8,c8,_,rfl,rfl,X5.1,⟨rfl,D3.1⟩⟩
     case round=>
      clear X5 D3 Ya;obtain⟨i2,hi2,rfl,a,A7,n7,c7,bm,rfl,rfl,hx,hd⟩:=hrel;have hd1:=hd.1.2;have hda:=hd.1.1;have Ya:n7≤1000000000:=by
       have h1:=hx.own.len;have h2:=SZ.1;rw[←hd1]at h2;simp at h2;omega
      clear hd;by_cases hlt3:i2<n3
      ·have hil:i2<s.length:=by rw[←H3.1];exact hlt3
       have hS2:=aO.rd (JL HL.1 hx.below);obtain⟨b4,ZF,rfl,-,z0⟩:=hS2.at_ hil;have afN:i2< (0::s).length:=by simp;omega
       have haa:(0::s)[i2]=a:=by rw[kC afN]at hda;exact Oj hda
       have hup:=Pe.Up.get UP.1 hil;have hnn:=Pe.Up.nn UP.1 (Int.le_refl 0) (k:=i2) om;have hga:=Pe.ZN (a:=0) hil;rw[haa]at hup hnn hga;rw[hga]at hd1;have hnx:(0::s)[i2+1]? =some s[i2]:=by simp[hil]
       rw[Cj]at hd1;have X:=Al hx;clear hx hS2 hga haa hda;generalize s[i2]=x at*;obtain⟨g,hg,hs1,hs2,hs3⟩:=V6 hnn hup.1 hup.2;rw[hg]at hd1;have HD:Kept ((0::s)[i2+1]? =some x∧bm++Vi.enc g++(Pe.gap x (s.drop (i2+1))++R)=E):=⟨hnx,by rw[←hd1];simp⟩
       clear hg;clear hd1 hnx hup hnn;go_wp2_with (go_at_call 145;refine(JK X.1 hs3 om).mono ?_;rintro e w5 ⟨A8,n8,c8,rfl,hx⟩;have X5:=Al hx;clear hx);go_roundw
       case rel=>exact⟨i2+1,om,by go_num,x,A8,n8,c8,_,rfl,rfl,X5.1,HD⟩
       case measure=>simp[intOf];omega
      ·obtain rfl:i2=n3:=by omega
       have X:=Al hx;rw[qW (by have:=H3.1;omega),Pe.gap,AB,HRR.1]at hd1;have D5:Kept (bm++(es.drop (k+1)).flatMap (Pe.ib T)=E∧es.all (Pe.Gf T)=(es.drop (k+1)).all (Pe.Gf T)):=⟨hd1,D4.1⟩
       clear hx hda hd1;go_wp2;go_roundw
       case rel=>exact⟨k+1,om,by go_num,A7,n7,c7,bm,rfl,X.1.own,X.1.below,D5⟩
       case measure=>simp[intOf];omega
  ·obtain rfl:k=n:=by omega
   have hd1:=hd.1.1;have hd2:=hd.1.2;rw[qW (by have:=HN.1;omega)]at hd1 hd2;rw[Dm,Bh]at hd1;have df:Kept (M=(E,0)):=⟨by rw[HM.1,hd2];rfl⟩
   have O:=Al ho;have HB:=Al hb;have HD1:=Al hd1;clear ho hb hd hd1 hd2;go_wp2;go_ret2;refine⟨A2,n2,c2,?_,?_,HB.1⟩
   ·rw[df.1];rfl
   ·rw[df.1];show ah _ _ _ _ _ E;rw[←HD1.1];exact O.1
end
end
section
section
open Go.RowKit Go.Shelf
open Go.ChangeMaps (setBlock heap_setBlock_same heap_setBlock_other)
def Rows (w:World) (base:Nat) (zs:List (aU×Value)) (es:List eX):Prop:=
 zs.length=es.length∧∀(i:Nat) (h1:i<zs.length) (h2:i<es.length),zs[i].1=es[i].1∧∃A n c,zs[i].2= .slice A n c∧aO w base A n c es[i].2∧
  ∀(j:Nat) (_:j<zs.length) A' n' c',j≠i→zs[j].2= .slice A' n' c'→ab A=none∨ab A≠ab A'
theorem Rows.keys {w base zs es} (h:Rows w base zs es):zs.map (·.1)=es.map (·.1):=by
 apply CW (by simp[h.1]);intro i h1 h2;simp only[DL];exact(h.2 i (by simpa using h1) (by simpa using h2)).1
theorem Rows.nil (w base):Rows w base [] []:=⟨rfl,fun i h=>by simp at h⟩
theorem Rows.kept {w w' base zs es row} (h:Rows w base zs es) (hg:w.grownBy w' row)
  (hr:∀r,row=some r→∃o:Obj,w.heap[r]? =some o∧o.isCells=false):Rows w' base zs es:=by
 refine⟨h.1,fun i h1 h2=>?_⟩;obtain⟨e,A,n,c,e2,o,ap⟩:=h.2 i h1 h2;exact⟨e,A,n,c,e2,eG o hg (fun r e=> .inr (hr r e)),ap⟩
theorem iJ {w:World} {b} (o):w.grownBy (setBlock w b o) (some b):=by
 refine⟨rfl,rfl,rfl,by simp[setBlock],fun i _ hi=>?_⟩;show(w.heap.setIfInBounds b o)[i]? =_;rw[Array.getElem?_setIfInBounds_ne];exact fun e=>hi (by rw[e])
theorem Rows.grow {w w1 w2 base zs es} (h:Rows w base zs es) {i} (h1:i<zs.length) (h2:i<es.length) {A A4 n c c4} (e:zs[i].2= .slice A n c)
  (hw1:w.grownBy w1 Option.none) (hg:w1.grownBy w2 (ab A)) (hat:ab A4=ab A∨ab A4=some w1.heap.size) {v} (ho:aO w2 base A4 (n+1) c4 (es[i].2++[v])):
  Rows w2 base (zs.set i (zs[i].1,.slice A4 (n+1) c4)) (es.set i (es[i].1,es[i].2++[v])):=by
 have kA:∀{A':Option Addr} {n' c':Nat} {l':List Int},aO w base A' n' c' l'→aO w1 base A' n' c' l':=fun h=>ag h hw1 (by rcases hq:ab _ with _|g;exact .inl rfl;exact .inr Ah)
 have hsz:=hw1.size;obtain⟨ek,A0,n0,c0,e0,o0,ap0⟩:=h.2 i h1 h2;rw[e]at e0
 injection e0 with e1 e2 e3
 subst e1;subst e2;subst e3;refine⟨by simp[h.1],fun j hj1 hj2=>?_⟩;have VY:j<zs.length:=by simpa using hj1
 have afO:j<es.length:=by simpa using hj2
 simp only[List.getElem_set];by_cases hij:i=j
 ·subst hij;simp only[if_true];refine⟨ek,A4,n+1,c4,rfl,ho,fun k hk A' n' c' hne hk2=>?_⟩;have hk':k<zs.length:=by simpa using hk
  rw[Ng (fun e=>hne e.symm)]at hk2;rcases hat with h4|h4
  ·rw[h4];exact ap0 k hk' A' n' c' hne hk2
  ·rw[h4];refine .inr fun e=>?_
   obtain⟨_,A5,n5,c5,e5,o5,_⟩:=h.2 k hk' (by rw[←h.1];exact hk');rw[hk2]at e5
   injection e5 with e6
   subst e6;have h5:=(ae o5 _ e.symm).2;omega
 ·simp only[Ng hij];obtain⟨ek',A',n',c',e',o',ap'⟩:=h.2 j VY afO;have hap:ab A'=Option.none∨ab A'≠ab A:=ap' i h1 A n c hij e;refine⟨ek',A',n',c',e',ag (kA o') hg hap,fun k hk A5 n5 c5 hne hk2=>?_⟩;have hk':k<zs.length:=by simpa using hk
  by_cases hik:i=k
  ·subst hik;simp only[if_true]at hk2
   injection hk2 with e6
   subst e6;rcases hat with h4|h4
   ·rw[h4];exact hap
   ·rw[h4];rcases hq:ab A' with _|g
    ·exact .inl rfl
    ·refine .inr fun e=>?_
     have h5:=(ae o' g hq).2;have h6:g=w1.heap.size:=by simpa using e
     omega
  ·rw[Ng hik]at hk2;exact ap' k hk' A5 n5 c5 hne hk2
theorem Rows.push {w base zs es} (h:Rows w base zs es) (x):Rows w base (zs++[(x,.slice Option.none 0 0)]) (es++[(x,[])]):=by
 refine⟨by simp[h.1],fun i h1 h2=>?_⟩;by_cases hlt:i<zs.length
 ·have hlt2:i<es.length:=by rw[←h.1];exact hlt
  obtain⟨e,A,n,c,e2,o,ap⟩:=h.2 i hlt hlt2;rw[pF hlt,pF hlt2];refine⟨e,A,n,c,e2,o,fun j hj A' n' c' hne hj2=>?_⟩;by_cases hjl:j<zs.length
  ·rw[pF hjl]at hj2;exact ap j hjl A' n' c' hne hj2
  ·have:j=zs.length:=by simp at hj;omega
   subst this;simp at hj2;rw[←hj2.1];rcases hq:ab A with _|g
   ·exact .inl rfl
   ·exact .inr (by simp[ab])
 ·have hi:i=zs.length:=by simp at h1;omega
  subst hi;refine⟨by simp[h.1],Option.none,0,0,Ah,?_,fun j hj A' n' c' _ _=> .inl rfl⟩;have:(es++[(x,[])])[zs.length]'h2=(x,[]):=by simp[h.1]
  rw[this];exact Bb _ _ _ _
end
section
open Go.RowKit Go.Shelf
open Go.ChangeMaps (setBlock heap_setBlock_same heap_setBlock_other)
namespace Ps
theorem LK:∀(M N) (k),gT (M++N) k=gT M k++gT N (k+M.length)
 |[],N,k=>by simp[gT]
 |m::M,N,k=>by
  rw[Bc,gT,LK M N (k+1),gT,Af,Lc,show k+1+M.length=k+(M.length+1)from om]
theorem Rw (M:List (List aU)) {k} (h:k<M.length):gT (M.take (k+1)) 0=gT (M.take k) 0++M[k].map (fun x=>(x,(k:Int))):=by
 rw[Ts h,LK];have:(M.take k).length=k:=by rw[jD];omega
 rw[this];simp[gT]
theorem rQ:∀(M) (k),(gT M k).length≤wt M
 |[],_=>by simp[gT]
 |m::M,k=>by
  have:=rQ M (k+1);simp only[gT,wt,La,fM,AJ,Bv]at this⊢;omega
theorem LM (M k):wt (M.take k)≤wt M:=by
 unfold wt
 conv=>rhs;rw[←je k M,dN,Dx]
 omega
theorem LQ (x P):(fE x P).length≤P.length:=by
 unfold fE;rw[fM];exact List.length_filter_le _ _
theorem PK.len {P es} (h:PK P es) (hd:(es.map (·.1)).Nodup):es.length≤P.length:=by
 have:=cu _ _ hd (fun x hx=>(h.1 x).1 hx);simpa using this
end Ps
theorem NW {w ops o a K Q E} (hgd:o.guard=none) (s x)
  (ho:o.op= .call {callee:= .builtin .append,args:= #[s,x],argTypes:= #[83,83]})
  (base A n c xs) (hs:a.eval s= .slice A n c) (hown:w.ownsRow base 163 3 (.slice A n c) n xs)
  (B S news) (hx:a.eval x= .slice S 1 1) (hr:Rd w B 3 S 1 1 news) (h1:∀u∈news,u.oneCell'=true)
  (hlen:n≤1000000000) (hbase:base≤w.heap.size)
  (h:∀A2 c2 w',w'.ownsRow base 163 3 (.slice A2 (n+1) c2) (n+1) (xs++news)→w.grownBy w' (ab A)→(ab A2=ab A∨ab A2=some w.heap.size)→K (a.put o.dst (.slice A2 (n+1) c2)) w'):
  if Region.wanted o (yielded ops a.tmps)=true then Oper.wp prog o a w K Q else E:=by
 have hw:Region.wanted o (yielded ops a.tmps)=true:=by simp[Region.wanted,hgd]
 rw[Ps0 hw];obtain⟨i0,hi0,hz0,hz1,hz2⟩:=AY Rj;exact mG w s x _ ho base 163 i0 _ 3 56 underlying83 hi0 hz0 hz1 hz2 rfl Ai A n c xs hs hown B S 1 1 news hx hr h1 (by unfold maxLen;omega) om hbase h
def ZO (w0:World) (b:Nat) (P:List (aU×Int)) (w:World):Prop:=
 ∃zs es,aZ w b zs∧Rows w w0.heap.size zs es∧Ps.PK P es∧Below w0.heap.size w0 w
theorem ZO.start (w):ZO w w.heap.size [] (w.alloc (.map #[] 0)):=⟨[],[],aZ.made w,Rows.nil _ _,Ps.PK.nil,(Ae _ w).alloc Aj _⟩
theorem xC (A n c M w) (hv:l8 w w.heap.size A n c M) (hs:Ps.Sets M):
  Calls prog 37 #[.slice A n c] w fun r w'=>∃A2 n2 c2 E,r= .returned (.slice A2 n2 c2)∧Ps.zl (Ps.gT M 0) E∧bg 163 w' w.heap.size A2 n2 c2 E∧Below w.heap.size w w':=by
 have hcc:=hv.cap;have hlc:=hcc.1;have hcm:=hcc.2;unfold maxLen at hcm;have V:=Al hv;have hn:=Al hv.len;have S:=Al hs;clear hv hs hcc;go_enter func37,ntmps37;have hr0:=run_makeMap (P:=prog) 156 w;go_wp2;have B0:=Al (ZO.start w);have hb0:w.heap.size< (w.alloc (.map #[] 0)).heap.size:=Ah;generalize w.alloc (.map #[] 0)=w1 at*;go_loopw [14] (fun i wr=>∃k:Nat,k≤n∧i= .int .i64 k∧Kept (ZO w w.heap.size (Ps.gT (M.take k) 0) wr)) (fun i _=>n-(intOf i).toNat)
 case atStart=>exact⟨0,om,rfl,⟨by simpa[Ps.gT]using B0.1⟩⟩
 case round=>
  obtain⟨k,hk,rfl,hB⟩:=hrel;by_cases hlt:k<n
  ·have hkl:k<M.length:=by rw[←hn.1];exact hlt
   have hbel:Below w.heap.size w wr:=by obtain⟨_,_,_,_,_,h⟩:=hB.1;exact h
   obtain⟨b,off,A',n',c',rfl,ni,hc0,hrl⟩:=V.1.at_ hkl;have hc:=(hbel.cell (p:=⟨b,off+k,none⟩) (by show b<_;omega)).trans hc0;have hpt:=Al (Ps.Rw M hkl);have HP:Kept (∀j,(Ps.gT (M.take k) 0++(M[k].take j).map (fun x=>(x,(k:Int)))).length≤1000000):=⟨fun j=>by
    have h1:=Ps.rQ (M.take (k+1)) 0;have h2:=Ps.LM M (k+1);have h3:=S.1.2;rw[hpt.1]at h1;simp only[La,fM,jD]at h1⊢;omega⟩
   have hfit:=Al (S.1.1 _ (dR hkl)).2;have hRL:=Al (And.intro hrl hrl.len);have hcl:=hrl.1;have Ze:=hrl.2.1;unfold maxLen at Ze;clear hbel hc0 hrl;go_wp2;have hB0:Kept (ZO w w.heap.size (Ps.gT (M.take k) 0++(M[k].take 0).map (fun x=>(x,(k:Int)))) wr):=⟨by simpa using hB.1⟩
   clear hB hc;generalize M[k]=m at*;obtain⟨wo,rfl⟩:∃wo:World,wo=wr:=⟨_,rfl⟩
   go_loopw [21] (fun i wq=>∃j:Nat,j≤n'∧i= .int .i64 j∧Kept (ZO w w.heap.size (Ps.gT (M.take k) 0++(m.take j).map (fun x=>(x,(k:Int)))) wq)) (fun i _=>n'-(intOf i).toNat)
   case atStart=>exact⟨0,om,rfl,hB0⟩
   case round=>
    obtain⟨j,hj,rfl,hB⟩:=hrel;by_cases hlt2:j<n'
    ·have hjl:j<m.length:=by rw[←hRL.1.2];exact hlt2
     obtain⟨zs,es,hm,hr,hi,hb⟩:=hB.1;obtain⟨b2,vM,rfl,hc2⟩:=hRL.1.1.cells Aj hjl;obtain⟨c0,c1⟩:=hc2 wr hb;have hx:jS m[j]:=hfit.1 _ (dR hjl);have ht:Kept (m.take (j+1)=m.take j++[m[j]]):=⟨Ts hjl⟩
     clear hc2 hB;generalize m[j]=x at*;go_upto_region 8 with(fail)
     have hzb:=hm.lt;have V7:aZ (wr.alloc (Obj.cells #[.string x.n,.string x.v] 59)) w.heap.size zs:=hm.at_ (Ay _ _ _ hm.lt);have Yw:Rows (wr.alloc (Obj.cells #[.string x.n,.string x.v] 59)) w.heap.size zs es:=hr.kept (Ga _ _ none) (fun r e=>by cases e);have ZP:Below w.heap.size w (wr.alloc (Obj.cells #[.string x.n,.string x.v] 59)):=hb.alloc hb.size _;have d0:(wr.alloc (Obj.cells #[.string x.n,.string x.v] 59)).cell? ⟨wr.heap.size,0,none⟩=some (.string x.n):=Aq wr _ _ _ 0;have d1:(wr.alloc (Obj.cells #[.string x.n,.string x.v] 59)).cell? ⟨wr.heap.size,1,none⟩=some (.string x.v):=Aq wr _ _ _ 1;clear hm hr hb c0 c1;generalize wr.heap.size=Z at*;generalize wr.alloc (Obj.cells #[.string x.n,.string x.v] 59)=wA at*;by_cases hin:x∈zs.map (·.1)
     ·obtain⟨p,hp,hpx⟩:=dV.1 hin;obtain⟨i,hil,hip⟩:=iC.1 hp;have hxi:zs[i].1=x:=by rw[hip];exact hpx
      have hie:i<es.length:=by rw[←Yw.1];exact hil
      obtain⟨hke,A1,n1,c1,hv1,ho1,hap⟩:=Yw.2 i hil hie;have Yx:aZ (wA.alloc (Obj.cells #[.int .i64 k] 3)) w.heap.size zs:=V7.at_ (Ay _ _ _ V7.lt);have hME:=Yx.entry hil;rw[hxi,hv1]at hME;unfold kv at hME;have hn1:n1≤1000000:=by
       have h1:=ho1.len;have h2:=hi.2 es[i] (dR hie);have h3:=Ps.LQ es[i].1 (Ps.gT (M.take k) 0++(m.take j).map (fun x=>(x,(k:Int))));rw[←h2]at h3;have h4:=HP.1 j;omega
      have O1:=Al ho1;have HM:=Al V7;have HR:=Al Yw;have HB:=Al ZP;have HV:=Al (And.intro hxi (And.intro hke hv1));have hAm:ab A1≠some w.heap.size:=fun e=>by
       have h1:=jQ ho1 _ _ e V7.blk;cases h1
      have hzA:=ZP.size;clear ho1 V7 Yw ZP hin hp hpx hip hxi hke hv1 hap;go_wp2_with (at_builtin;refine eD rfl (.tmp 27) (.tmp 29) rfl w.heap.size A1 n1 c1 es[i].2 rfl (Oa O1.1 _) (wA.heap.size+1) _ _ _ [(k:Int)] rfl (jF.one wA k) om (by simp;omega) ?_;intro A4 c4 w5 hown5 nu Rx;have Ql:aZ w5 w.heap.size zs:=Yx.at_ (nu.block _ Yx.lt (fun e=>hAm e.symm));have hST:=Ql.store hil (.slice A4 (n1+1) c4);have O5:=Al hown5;have G5:=Al nu;have T5:=Al Rx;have M5:=Al Ql;clear hown5 nu Rx Ql);go_roundw
      case rel=>
       have hnd:(es.map (·.1)).Nodup:=by rw[←HR.1.keys];exact HM.1.dup
       have hex:es[i].1=x:=by rw[←HV.1.2.1];exact HV.1.1
       have hR5:=HR.1.grow hil hie HV.1.2.2 (Ga _ _ none) G5.1 T5.1 O5.1;have hS:=iJ (w:=w5) (b:=w.heap.size) (.map (mE (zs.set i (zs[i].1,.slice A4 (n1+1) c4)) 0).toArray zs.length);have h1:=hi.hit hnd hie (k:Int);rw[hex]at h1;refine⟨j+1,om,by go_num,⟨_,_,M5.1.put hil _ rfl,hR5.kept hS (fun r e=>by cases e;exact⟨_,M5.1.blk,rfl⟩),?_,?_⟩⟩
       ·rw[ht.1,dN,←Af,hex];exact h1
       ·exact((HB.1.alloc hzA _).grown G5.1 (by simp;omega) (fun g e=>(ae O1.1 g e).1)).grown hS (by have:=G5.1.size;simp at this;omega) (fun g e=>by cases e;exact Nr _)
      case measure=>simp[intOf];omega
     ·have Yx:aZ (wA.alloc (Obj.cells #[.int .i64 k] 3)) w.heap.size zs:=V7.at_ (Ay _ _ _ V7.lt);have hME:=Yx.fresh hx hin;unfold kv at hME;have hmC:=Yx.push hx hin (.slice none 0 0);have hgS:=iJ (w:=wA.alloc (Obj.cells #[.int .i64 k] 3)) (b:=w.heap.size) (.map (mE (zs++[(x,.slice none 0 0)]) 0).toArray (zs.length+1));have hrC:=((Yw.kept (Ga _ _ none) (fun r e=>by cases e)).kept hgS (fun r e=>by cases e;exact⟨_,Yx.blk,rfl⟩)).push x;have hZ:w.heap.size<wA.heap.size:=V7.lt;have hrd:jF (setBlock (wA.alloc (Obj.cells #[.int .i64 k] 3)) w.heap.size (.map (mE (zs++[(x,.slice none 0 0)]) 0).toArray (zs.length+1))) (wA.heap.size+1) (some ⟨wA.heap.size,0,none⟩) 1 1 [(k:Int)]:=by
       obtain⟨h1,h2,h3,h4⟩:=jF.one wA (k:Int);refine⟨h1,h2,h3,fun _=>?_⟩;obtain⟨q,off,e,hq,hcells⟩:=h4 om;cases e;exact⟨_,_,rfl,hq,fun i u hu=>(AU (a:=⟨wA.heap.size,_,none⟩) (hgS.block _ Ah (by simp;omega))).trans (hcells i u hu)⟩
      have hbC:Below w.heap.size w (setBlock (wA.alloc (Obj.cells #[.int .i64 k] 3)) w.heap.size (.map (mE (zs++[(x,.slice none 0 0)]) 0).toArray (zs.length+1))):=(ZP.alloc ZP.size _).grown hgS (by have:=ZP.size;simp;omega) (fun g e=>by cases e;exact Nr _);have hsz:(setBlock (wA.alloc (Obj.cells #[.int .i64 k] 3)) w.heap.size (.map (mE (zs++[(x,.slice none 0 0)]) 0).toArray (zs.length+1))).heap.size=wA.heap.size+1:=by simp[setBlock]
      have HM:=Al hmC;have HR:=Al hrC;have HB:=Al hbC;have HX:=Al (And.intro Yw.1 hin);have hr2:=Al Yw;have HQ:=Al hrd;have hzC:wA.heap.size+1≤(setBlock (wA.alloc (Obj.cells #[.int .i64 k] 3)) w.heap.size (.map (mE (zs++[(x,.slice none 0 0)]) 0).toArray (zs.length+1))).heap.size:=om;clear V7 Yw ZP Yx hmC hgS hrC hrd hbC hsz hin;generalize setBlock (wA.alloc (Obj.cells #[.int .i64 k] 3)) w.heap.size (.map (mE (zs++[(x,.slice none 0 0)]) 0).toArray (zs.length+1))=wC at*;go_wp2_with (at_builtin;refine eD rfl (.tmp 27) (.tmp 29) rfl w.heap.size none 0 0 [] rfl (Bb _ _ _ _) (wA.heap.size+1) _ _ _ [(k:Int)] rfl HQ.1 om om ?_;intro A4 c4 w5 hown5 nu Rx;have Ql:aZ w5 w.heap.size (zs++[(x,.slice none 0 0)]):=HM.1.at_ (nu.block _ HM.1.lt (fun e=>by cases e));have hST:=Ql.store (i:=zs.length) Ah (.slice A4 (0+1) c4);have O5:=Al hown5;have G5:=Al nu;have T5:=Al Rx;have M5:=Al Ql;clear hown5 nu Rx Ql);go_roundw
      case rel=>
       have hp:=M5.1.put (i:=zs.length) (w':=w5) Ah (.slice A4 1 c4) rfl;simp only[La,Lc,Ba,bO,List.getElem_concat_length,List.set_append_right _ _ Aj,Dz,Au]at hp;have hR5:=HR.1.grow (i:=zs.length) (A:=none) (n:=0) (c:=0) (A4:=A4) (c4:=c4) (v:=(k:Int)) Ah (by simp[HX.1.1]) Ah (Ci _ _) G5.1 T5.1 (by
        have:=O5.1;simpa[HX.1.1]using this)
       have hS:=iJ (w:=w5) (b:=w.heap.size) (.map (mE (zs++[(x,Value.slice A4 1 c4)]) 0).toArray (zs.length+1));have afQ:x∉es.map (·.1):=by rw[←hr2.1.keys];exact HX.1.2
       have h1:=hi.fresh afQ (k:Int);refine⟨j+1,om,by go_num,⟨_,es++[(x,[(k:Int)])],hp,?_,?_,?_⟩⟩
       ·have:=hR5.kept hS (fun r e=>by cases e;exact⟨_,M5.1.blk,rfl⟩);simpa[HX.1.1]using this
       ·rw[ht.1,dN,←Af];exact h1
       ·exact(HB.1.grown G5.1 HB.1.size (fun g e=>by cases e)).grown hS (by have:=G5.1.size;have:=HB.1.size;omega) (fun g e=>by cases e;exact Nr _)
      case measure=>simp[intOf];omega
    ·obtain rfl:j=n':=by omega
     have hB2:Kept (ZO w w.heap.size (Ps.gT (M.take (k+1)) 0) wr):=⟨by
      have:=hB.1;rw[show m.take j=m from jc (by rw[hRL.1.2];exact Nr _),←hpt.1]at this;exact this⟩
     clear hB hB0;go_wp2;go_roundw
     case rel=>exact⟨k+1,om,by go_num,hB2⟩
     case measure=>simp[intOf];omega
  ·obtain rfl:k=n:=by omega
   have hall:Kept (M.take k=M):=⟨jc (by rw[←hn.1];exact Nr _)⟩
   obtain⟨zs,es,hm,hr,hi,hb⟩:=hB.1;rw[hall.1]at hi;have hzl:zs.length≤1000000:=by
    have h1:(es.map (·.1)).Nodup:=by rw[←hr.keys];exact hm.dup
    have h2:=hi.len h1;have h3:=Ps.rQ M 0;have h4:=S.1.2;have h5:=hr.1;omega
   have SF:=Al (uk wr.heap.size w.heap.size zs (wr.alloc (.cells #[.map (some w.heap.size)] 156)) (Bo wr _ _) (hm.at_ (Ay _ _ _ hm.lt)) hzl);have HM:=Al hm;have HR:=Al hr;have HB:=Al hb;have HI:=Al hi;have hzw:=hb.size;clear hB B0 hlt hm hr hb hi;go_wp2_with (first
    |(go_at_call 78;refine SF.1.mono ?_;rintro e w2 ⟨A3,n3,c3,l,rfl,hF,hS,hR,hb2⟩;have F2:=Al hF;have S2:=Al hS;have R2:=Al hR;have B2:=Al hb2;clear hF hS hR hb2)
    |(go_at_call 79;refine(NU _ _).mono ?_;rintro e w1' ⟨rfl,rfl⟩))
   have hb2:Below wr.heap.size wr w2:=((Ae _ _).alloc Aj _).trans (B2.1.mono Ah);have hm2:aZ w2 w.heap.size zs:=HM.1.at_ (hb2.block _ HM.1.lt);have hr2:Rows w2 w.heap.size zs es:=HR.1.kept (row:=none) (aD hb2) (fun r e=>by cases e);have df:=Al hm2;have HR2:=Al hr2;have HBW:=Al (HB.1.trans (hb2.mono hzw));have LN:=Al R2.1.len;have hl3:n3≤1000000:=by
    have h1:=cu _ _ F2.1.1 (fun x hx=>(F2.1.2 x).1 hx);rw[fM]at h1;have:=R2.1.len;omega
   have akX:=R2.1.1;have afS:=R2.1.2.1;unfold maxLen at afS;clear hb2 hm2 hr2 HM HR B2 HB SF;generalize wr.heap.size=zr at*;go_loopw [8,39] (fun o i wr=>∃k:Nat,k≤n3∧i= .int .i64 k∧∃(A5:Option Addr) (c5:Nat),o= .slice A5 k c5∧bg 163 wr w2.heap.size A5 k c5 ((l.take k).map fun x=>(x,Ps.fE x (Ps.gT M 0)))∧Below w2.heap.size w2 wr) (fun _ i _=>n3-(intOf i).toNat)
   case atStart=>exact⟨0,om,rfl,none,0,rfl,by simpa using bg.nil w2 w2.heap.size,Ae _ _⟩
   case round=>
    obtain⟨k,hk,rfl,A5,c5,rfl,ho,hb⟩:=hrel;have O:=Al ho;have HB:=Al hb;have rf:=hb.size;clear ho hb;by_cases hlt:k<n3
    ·have hkl:k<l.length:=by rw[←LN.1];exact hlt
     obtain⟨b,off,rfl,hc⟩:=R2.1.cells Aj hkl;obtain⟨c0,c1⟩:=hc wr HB.1;have hkey:=(F2.1.2 _).1 (dR hkl);have ht:=Al (Ts hkl);clear hc;generalize l[k]=x at*;obtain⟨p,hp,hpx⟩:=dV.1 hkey;obtain⟨i,hil,hip⟩:=iC.1 hp;have hxi:zs[i].1=x:=by rw[hip];exact hpx
     have hie:i<es.length:=by rw[←HR2.1.1];exact hil
     obtain⟨hke,A1,n1,c1',hv1,ho1,-⟩:=HR2.1.2 i hil hie;have hse:es[i].2=Ps.fE x (Ps.gT M 0):=by
      have h1:=HI.1.2 _ (dR hie);rw[←hke,hxi]at h1;exact h1
     rw[hse]at ho1;have HC:Kept (∀W,Below w2.heap.size w2 W→(Instr.lookup 156 (.map (some w.heap.size)) (.agg #[.string x.n,.string x.v]) false).run prog W= .ok (.slice A1 n1 c1') W):=⟨fun W hW=>by
      have h1:=(df.1.at_ (hW.block _ df.1.lt)).lookup hil;rw[hxi,hv1]at h1;exact h1⟩
     have SS:=Al ho1;clear hkey hp hpx hip hxi hke hv1 hse ho1;go_upto_region 15 with(fail)
     have HWA:Kept (Below w2.heap.size w2 (wr.alloc (Obj.cells #[.string x.n,.string x.v] 59))):=⟨HB.1.alloc rf _⟩
     have d0:(wr.alloc (Obj.cells #[.string x.n,.string x.v] 59)).cell? ⟨wr.heap.size,0,none⟩=some (.string x.n):=Aq wr _ _ _ 0;have d1:(wr.alloc (Obj.cells #[.string x.n,.string x.v] 59)).cell? ⟨wr.heap.size,1,none⟩=some (.string x.v):=Aq wr _ _ _ 1;have OA:=Al (O.1.keep ((Ae _ _).alloc Aj (Obj.cells #[.string x.n,.string x.v] 59)));have hzA:wr.heap.size< (wr.alloc (Obj.cells #[.string x.n,.string x.v] 59)).heap.size:=Ah;have HAZ:Kept (ab A5≠some wr.heap.size):=⟨fun e=>by
      obtain⟨_,_,h2,_⟩:=O.1;have:=(ae h2 _ e).2;omega⟩
     have afT:=HWA.1.size;clear c0 c1;generalize wr.alloc (Obj.cells #[.string x.n,.string x.v] 59)=wA at*;generalize wr.heap.size=Z at*;have HD:Kept (∀W,Below wA.heap.size wA W→W.cell? ⟨Z,0,none⟩=some (.string x.n)∧W.cell? ⟨Z,1,none⟩=some (.string x.v)∧(Instr.lookup 156 (.map (some w.heap.size)) (.agg #[.string x.n,.string x.v]) false).run prog W= .ok (.slice A1 n1 c1') W):=
      ⟨fun W hW=>⟨(hW.cell (p:=⟨Z,0,none⟩) hzA).trans d0,(hW.cell (p:=⟨Z,1,none⟩) hzA).trans d1,HC.1 W (HWA.1.trans (hW.mono HWA.1.size))⟩⟩
     clear d0 d1;obtain⟨d0,d1,d2⟩:=HD.1 wA (Ae _ _);have e0:=fun o=>(HD.1 (wA.alloc o) ((Ae _ _).alloc Aj o)).1
     have e1:=fun o=>(HD.1 (wA.alloc o) ((Ae _ _).alloc Aj o)).2.1
     have e2:=fun o=>(HD.1 (wA.alloc o) ((Ae _ _).alloc Aj o)).2.2
     obtain⟨hs5,f1,f2,f3⟩:=OA.1;have F2':=Al f2;have F1':=Al f1;have F3':=Al (show yQ wA hs5 _ from f3);clear f1 f2 f3;have SA:=Al (show aO wA 0 A1 n1 c1' (Ps.fE x (Ps.gT M 0))from bK (p9 SS.1 HWA.1) (bf _));go_region_held3 (fun w'=>w'.cell? ⟨Z,0,none⟩=some (.string x.n)∧w'.cell? ⟨Z,1,none⟩=some (.string x.v)∧(Instr.lookup 156 (.map (some w.heap.size)) (.agg #[.string x.n,.string x.v]) false).run prog w'= .ok (.slice A1 n1 c1') w') (first|exact⟨d0,d1,d2⟩|exact⟨e0 _,e1 _,e2 _⟩|exact HD.1 _ (((Ae _ _).alloc Aj _).drew)|exact HD.1 _ ((Ae _ _).drew)|exact k9)
      ((refine NW ?g1 (.tmp 43) (.tmp 49) ?g2 w2.heap.size A5 k c5 (gQ ((l.take k).map fun x=>(x,Ps.fE x (Ps.gT M 0))) hs5) ?g3 ?g4 (wA.heap.size+1) (some ⟨wA.heap.size,0,none⟩) [.string x.n,.string x.v,.slice A1 n1 c1'] ?g5 ?g6 ?g7 ?g8 ?g9 ?_;(case g1=>rfl);(case g2=>rfl);(case g3=>rfl);(case g5=>rfl);(case g4=>exact Oa F2'.1 _);(case g6=>exact Rd.ZJ wA _ _ _ _);(case g7=>(intro u hu;simp at hu;rcases hu with rfl|rfl|rfl<;>rfl));(case g8=>omega);(case g9=>(simp;omega));intro A6 c6 w3 hown hgrow hat;have vZ:(wA.alloc (.cells #[.string x.n,.string x.v,.slice A1 n1 c1'] 163)).grownBy w3 (ab A5):=⟨hgrow.os,hgrow.tape,hgrow.output,hgrow.size,hgrow.block⟩;have O6:=Al (bg.Yu Ai F1'.1 F2'.1 F3'.1 SA.1 vZ hown);have hb3:Below w2.heap.size w2 w3:=(HWA.1.alloc afT _).grown vZ (by simp;omega) (fun g e=>(ae F2'.1 g e).1);have B6:=Al hb3;have hzz:w3.heap[Z]? =(wA.alloc (.cells #[.string x.n,.string x.v,.slice A1 n1 c1'] 163)).heap[Z]?:=vZ.block Z (by simp;omega) (fun e=>HAZ.1 e.symm);have k9:w3.cell? ⟨Z,0,none⟩=some (.string x.n)∧w3.cell? ⟨Z,1,none⟩=some (.string x.v)∧(Instr.lookup 156 (.map (some w.heap.size)) (.agg #[.string x.n,.string x.v]) false).run prog w3= .ok (.slice A1 n1 c1') w3:=⟨(AU (a:=⟨Z,0,none⟩) hzz).trans (e0 _),(AU (a:=⟨Z,1,none⟩) hzz).trans (e1 _),HC.1 w3 hb3⟩;clear hown hgrow vZ hb3 hzz))
     go_wp2;go_roundw
     case rel=>exact⟨k+1,om,by go_num,A6,c6,rfl,by rw[ht.1,dN];exact O6.1,B6.1⟩
     case measure=>simp[intOf];omega
    ·obtain rfl:k=n3:=by omega
     have hall:l.take k=l:=jc (by rw[←LN.1];exact Nr _);rw[hall]at O;clear hall;go_wp2;go_ret;refine⟨A5,k,c5,_,rfl,⟨by simpa[Function.comp_def]using S2.1,fun x=>?_,fun e he=>?_⟩,O.1.ZM HBW.1.size,HBW.1.trans (HB.1.mono HBW.1.size)⟩
     ·rw[BQ,Function.comp_def];simp only[List.map_id'];rw[F2.1.2,←HI.1.1,HR2.1.keys]
     ·obtain⟨y,-,rfl⟩:=dV.1 he
      rfl
end
end
section
section
open Go.RowKit Go.Shelf
namespace Pe
def okD (bnd last d:Nat) (first:Bool):Bool:=decide (d<bnd-last)&& (first||decide (0<d))
def sl (l:List UInt8) (bnd:Nat):Nat→Nat→List Int→Nat→List Int×Nat×Int
 |0,_,acc,a=>(acc,a,0)
 |k+1,last,acc,a=>
  if(Wr.uint l a 0 Rc.mx).2.2≠0 then([],(Wr.uint l a 0 Rc.mx).2.1,(Wr.uint l a 0 Rc.mx).2.2)
  else if okD bnd last (Wr.uint l a 0 Rc.mx).1 acc.isEmpty=false then([],(Wr.uint l a 0 Rc.mx).2.1,22)
  else sl l bnd k (last+(Wr.uint l a 0 Rc.mx).1) (acc++[((last+(Wr.uint l a 0 Rc.mx).1:Nat):Int)]) (Wr.uint l a 0 Rc.mx).2.1
def fE (l:List UInt8) (bnd a:Nat):List Int×Nat×Int:=
 if(Rc.cnt l a 0).2.2≠0 then([],(Rc.cnt l a 0).2.1,(Rc.cnt l a 0).2.2)
 else if(Rc.cnt l a 0).1=0 then([],(Rc.cnt l a 0).2.1,22)
 else sl l bnd (Rc.cnt l a 0).1 0 [] (Rc.cnt l a 0).2.1
end Pe
def RP (w:World) (q p:Nat) (TA:Option Addr) (tn tc:Nat) (T:List ByteArray) (l:List UInt8):Prop:=
 w.heap[q]? =some (.cells #[.pointer (some ⟨p,0,none⟩),.slice TA tn tc,.int .i64 (l.length:Int)] 230 (0,0))∧p<q∧bM w p TA tn tc T
section
variable {w w':World} {q p tn tc:Nat} {TA:Option Addr} {T:List ByteArray} {l:List UInt8}
theorem RP.grown (h:RP w q p TA tn tc T l) (hg:w.grownBy w' (some p)):RP w' q p TA tn tc T l:=by
 obtain⟨h1,h2,h3⟩:=h;have hq:q<w.heap.size:=(Ge.1 h1).1;exact⟨(hg.block q hq (fun e=>by have:=Oj e;omega)).trans h1,h2,h3.grown hg om (fun g e=>by have:=Oj e;omega)⟩
theorem RP.cells (h:RP w q p TA tn tc T l):
  w.cell? ⟨q,0,none⟩=some (.pointer (some ⟨p,0,none⟩))∧w.cell? ⟨q,1,none⟩=some (.slice TA tn tc)∧w.cell? ⟨q,2,none⟩=some (.int .i64 (l.length:Int)):=
 ⟨Co _ _ _ _ _ _ h.1,Co _ _ _ _ _ _ h.1,Co _ _ _ _ _ _ h.1⟩
theorem RP.lt (h:RP w q p TA tn tc T l):q<w.heap.size:=(Ge.1 h.1).1
end
theorem dD (q p a tn tc TA T l e f w) (hR:RP w q p TA tn tc T l) (h:aK w p l a e):
  Calls prog 131 #[.pointer (some ⟨q,0,none⟩),.bool true,.int .i64 f] w fun r w'=>r= .returned (.bool (e==0))∧w'=w:=by
 obtain⟨q0,q1,q2⟩:=hR.cells;have E:=Al (ay p a l e w h);clear hR h;go_enter func131,ntmps131;go_wp2_with (go_at_call 120;refine E.1.mono ?_;rintro r w2 ⟨rfl,rfl⟩);go_ret;exact⟨rfl,rfl⟩
theorem fF (q p a tn tc TA T l e f w) (hR:RP w q p TA tn tc T l) (h:aK w p l a e) (hf:f≠0):
  Calls prog 131 #[.pointer (some ⟨q,0,none⟩),.bool false,.int .i64 f] w fun r w'=>r= .returned (.bool false)∧aK w' p l a (if e=0 then f else e)∧w.grownBy w' (some p):=by
 obtain⟨q0,q1,q2⟩:=hR.cells;have HR:=Al hR;have E:=Al (dm p a l e f w h);obtain⟨e2,he2⟩:∃e2,e2=if e=0 then f else e:=⟨_,rfl⟩
 rw[←he2]at E⊢;have hb:(e2==0)=false:=by
  rw[he2];by_cases h0:e=0
  ·rw[Ps0 h0];simpa using hf
  ·rw[Ng h0];simpa using h0
 clear hR h he2;go_enter func131,ntmps131;go_wp2_with (first
  |(go_at_call 120;refine(ay p a l e2 _ R2.1).mono ?_;rintro r w3 ⟨rfl,rfl⟩)
  |(go_at_call 114;refine E.1.mono ?_;rintro r w2 ⟨rfl,hr,hg⟩;have R2:=Al hr;have G2:=Al hg;obtain⟨s0,s1,s2⟩:=(HR.1.grown hg).cells;clear hr hg E))
 go_ret;exact⟨rfl,R2.1,G2.1⟩
theorem JM (q p a tn tc TA T l b e f w) (hR:RP w q p TA tn tc T l) (h:aK w p l a e) (hf:f≠0):
  Calls prog 131 #[.pointer (some ⟨q,0,none⟩),.bool b,.int .i64 f] w fun r w'=>∃e',r= .returned (.bool (e'==0))∧(b=true→e'=e)∧(b=false→e'=if e=0 then f else e)∧aK w' p l a e'∧w.grownBy w' (some p):=by
 cases b with
 |true=>exact(dD q p a tn tc TA T l e f w hR h).mono fun r w' ⟨h1,h2⟩=>⟨e,h1,fun _=>rfl,fun h=>(by cases h),(by rw[h2];exact h),(by rw[h2];exact Ci _ _)⟩
 |false=>
  refine(fF q p a tn tc TA T l e f w hR h hf).mono fun r w' ⟨h1,h2,h3⟩=>⟨if e=0 then f else e,?_,fun h=>(by cases h),fun _=>rfl,h2,h3⟩
  have:((if e=0 then f else e)==0)=false:=by
   by_cases h0:e=0
   ·rw[Ps0 h0];simpa using hf
   ·rw[Ng h0];simpa using h0
  rw[this];exact h1
theorem uo (q p a tn tc TA T l e w) (hR:RP w q p TA tn tc T l) (h:aK w p l a e):
  Calls prog 129 #[.pointer (some ⟨q,0,none⟩)] w fun r w'=>r= .returned (.int .i64 ((Rc.cnt l a e).1:Int))∧aK w' p l (Rc.cnt l a e).2.1 (Rc.cnt l a e).2.2∧w.grownBy w' (some p):=by
 obtain⟨q0,q1,q2⟩:=hR.cells;have U:=Al (ji p a 18446744073709551615 l e w h);have HR:=Al hR;have hle:=Wr.lI l a Rc.mx e;have JN:=Wr.lJ l a Rc.mx e;have hat:=Wr.yG l a Rc.mx e h.len.2;have hC:Rc.cnt l a e=(let r:=Wr.uint l a e Rc.mx;if r.2.2≠0 then(0,r.2.1,r.2.2)else if l.length-r.2.1<r.1 then(0,r.2.1,3)else r):=rfl;have hln:=h.len;unfold Rc.mx at hC hle hat JN;generalize Wr.uint l a e 18446744073709551615=X at*;obtain⟨x,a1,e1⟩:=X;simp only[]at hC hle hat U JN;clear h hR;have hwi:IntKind.i64.wrap ((l.length:Int)-(a1:Int))=(l.length:Int)-(a1:Int):=by simp[IntKind.wrap,IntKind.bits,IntKind.signed];omega
 have Zr:IntKind.u64.wrap ((l.length:Int)-(a1:Int))=(l.length:Int)-(a1:Int):=by simp[IntKind.wrap,IntKind.bits,IntKind.signed];omega
 by_cases he1:e1=0
 ·subst he1;rw[Ng Ah]at hC;clear JN;by_cases hx:l.length-a1<x
  ·rw[Ps0 hx]at hC;rw[hC];have hdb:decide ((x:Int)≤(l.length:Int)-(a1:Int))=false:=AA om;clear hC hx;go_enter func129,ntmps129;go_upto_region 2 with(go_at_call 182;refine U.1.mono ?_;rintro r w2 ⟨rfl,hr,hg⟩;have R2:=Al hr;have G2:=Al hg;clear hr hg)
   obtain⟨s0,s1,s2⟩:=(HR.1.grown G2.1).cells;have RD:Kept (aK w2.drew p l a1 0):=⟨R2.1⟩
   have Yy:Kept (RP w2.drew q p TA tn tc T l):=⟨show RP w2 q p TA tn tc T l from HR.1.grown G2.1⟩
   have hgd:Kept (w2.grownBy w2.drew (some p)):=⟨⟨rfl,rfl,rfl,Nr _,fun _ _ _=>rfl⟩⟩
   refine Du 14 kr kr ?_;simp only[Cb,Eg,BP,Ct]
   repeat still_step
   still_call ((iX p a1 l 0 w2.drew RD.1).mono fun _ _ q=>⟨q.1,q.2.symm⟩)
   repeat still_step
   refine wpStill_nil ?_
   change wpList _ _ _ _ _ w2.drew
   clear s0 s1 s2;generalize w2.drew=wd at*
   try simp only[hwi,Zr,hdb]
   obtain⟨s0,s1,s2⟩:=Yy.1.cells;go_wp2_with (go_at_call 131;refine(fF q p a1 tn tc TA T l 0 3 _ Yy.1 RD.1 Ai).mono ?_;rintro r w3 ⟨rfl,hr,hg⟩;rw[Ps0 rfl]at hr;have R3:=Al hr;have G3:=Al (hgd.1.trans hg);clear hr hg);go_ret;exact⟨rfl,R3.1,G2.1.trans G3.1⟩
  ·rw[Ng hx]at hC;rw[hC];have hdb:decide ((x:Int)≤(l.length:Int)-(a1:Int))=true:=BI om;have hx1:(x:Int)≤140737488354000:=om;clear hC hx;go_enter func129,ntmps129;go_upto_region 2 with(go_at_call 182;refine U.1.mono ?_;rintro r w2 ⟨rfl,hr,hg⟩;have R2:=Al hr;have G2:=Al hg;clear hr hg)
   obtain⟨s0,s1,s2⟩:=(HR.1.grown G2.1).cells;have RD:Kept (aK w2.drew p l a1 0):=⟨R2.1⟩
   have Yy:Kept (RP w2.drew q p TA tn tc T l):=⟨show RP w2 q p TA tn tc T l from HR.1.grown G2.1⟩
   have hgd:Kept (w2.grownBy w2.drew (some p)):=⟨⟨rfl,rfl,rfl,Nr _,fun _ _ _=>rfl⟩⟩
   refine Du 14 kr kr ?_;simp only[Cb,Eg,BP,Ct]
   repeat still_step
   still_call ((iX p a1 l 0 w2.drew RD.1).mono fun _ _ q=>⟨q.1,q.2.symm⟩)
   repeat still_step
   refine wpStill_nil ?_
   change wpList _ _ _ _ _ w2.drew
   clear s0 s1 s2;generalize w2.drew=wd at*
   try simp only[hwi,Zr,hdb]
   obtain⟨s0,s1,s2⟩:=Yy.1.cells;go_wp2_with (go_at_call 131;refine(dD q p a1 tn tc TA T l 0 3 _ Yy.1 RD.1).mono ?_;rintro r w3 ⟨rfl,hw⟩;obtain rfl:=hw.symm);go_ret;exact⟨by go_num,RD.1,G2.1.trans hgd.1⟩
 ·rw[Ps0 he1]at hC;rw[hC];have yg:(e1==0)=false:=by simpa using he1
  have hx0:=JN he1;subst hx0;have hdb:decide (((0:Nat):Int)≤(l.length:Int)-(a1:Int))=true:=BI om;clear hC JN;go_enter func129,ntmps129;go_upto_region 2 with(go_at_call 182;refine U.1.mono ?_;rintro r w2 ⟨rfl,hr,hg⟩;have R2:=Al hr;have G2:=Al hg;clear hr hg)
  obtain⟨s0,s1,s2⟩:=(HR.1.grown G2.1).cells;have RD:Kept (aK w2.drew p l a1 e1):=⟨R2.1⟩
  have Yy:Kept (RP w2.drew q p TA tn tc T l):=⟨show RP w2 q p TA tn tc T l from HR.1.grown G2.1⟩
  have hgd:Kept (w2.grownBy w2.drew (some p)):=⟨⟨rfl,rfl,rfl,Nr _,fun _ _ _=>rfl⟩⟩
  refine Du 14 kr kr ?_;simp only[Cb,Eg,BP,Ct]
  repeat still_step
  still_call ((iX p a1 l e1 w2.drew RD.1).mono fun _ _ q=>⟨q.1,q.2.symm⟩)
  repeat still_step
  refine wpStill_nil ?_
  change wpList _ _ _ _ _ w2.drew
  clear s0 s1 s2;generalize w2.drew=wd at*
  try simp only[hwi,Zr,hdb]
  obtain⟨s0,s1,s2⟩:=Yy.1.cells;go_wp2_with (go_at_call 131;refine(dD q p a1 tn tc TA T l e1 3 _ Yy.1 RD.1).mono ?_;rintro r w3 ⟨rfl,hw⟩;obtain rfl:=hw.symm);go_ret;exact⟨rfl,RD.1,G2.1.trans hgd.1⟩
end
section
open Go.RowKit Go.Shelf
theorem qO (q p a tn tc TA T l e w) (hR:RP w q p TA tn tc T l) (h:aK w p l a e):
  Calls prog 130 #[.pointer (some ⟨q,0,none⟩)] w fun r w'=>r= .returned (.string (Rc.sym T l a e).1)∧aK w' p l (Rc.sym T l a e).2.1 (Rc.sym T l a e).2.2∧w.grownBy w' (some p):=by
 obtain⟨q0,q1,q2⟩:=hR.cells;have U:=Al (ji p a 18446744073709551615 l e w h);have HR:=Al hR;have hle:=Wr.lI l a Rc.mx e;have JN:=Wr.lJ l a Rc.mx e;have hC:Rc.sym T l a e=(let r:=Wr.uint l a e Rc.mx;if r.2.2≠0 then(ByteArray.empty,r.2.1,r.2.2)else if T.length≤r.1 then(ByteArray.empty,r.2.1,14)else(T.getD r.1 ByteArray.empty,r.2.1,0)):=rfl;have htl:=hR.2.2.len;have htm:=hR.2.2.2.1;have htc:=hR.2.2.1;unfold maxLen at htm;unfold Rc.mx at hC hle JN;generalize Wr.uint l a e 18446744073709551615=X at*;obtain⟨x,a1,e1⟩:=X;simp only[]at hC hle U JN;have Zr:IntKind.u64.wrap (tn:Int)=(tn:Int):=by simp[IntKind.wrap,IntKind.bits,IntKind.signed];omega
 have HT:=Al htl;clear h hR htl;by_cases he1:e1=0
 ·subst he1;rw[Ng Ah]at hC;clear JN;by_cases hx:T.length≤x
  ·rw[Ps0 hx]at hC;rw[hC];have hdb:decide ((x:Int)< (tn:Int))=false:=AA (by have:=HT.1;omega);have hgt:¬(x:Int)< (tn:Int):=by have:=HT.1;omega
   have hgt2:¬x<tn:=om;clear hC hx;go_enter func130,ntmps130;go_wp2_with (first
    |(go_at_call 182;refine U.1.mono ?_;rintro r w2 ⟨rfl,hr,hg⟩;have R2:=Al hr;have G2:=Al hg;have PL:=Al (HR.1.grown hg);obtain⟨s0,s1,s2⟩:=(HR.1.grown hg).cells;clear hr hg)
    |(go_at_call 131;refine(fF q p a1 tn tc TA T l 0 14 _ PL.1 R2.1 Ai).mono ?_;rintro r w3 ⟨rfl,hr,hg⟩;rw[Ps0 rfl]at hr;have R3:=Al hr;have G3:=Al hg;clear hr hg))
   go_ret;exact⟨rfl,R3.1,G2.1.trans G3.1⟩
  ·rw[Ng hx]at hC;have hxl:x<T.length:=om;rw[show T.getD x ByteArray.empty=T[x]by simp[List.getD,hxl]]at hC;rw[hC];have hgt:(x:Int)< (tn:Int):=by have:=HT.1;omega
   have ach:x<tn:=om;obtain⟨b,off,rfl,hbp,hcell⟩:=HR.1.2.2.at_ hxl;have CC:Kept (∀W,w.grownBy W (some p)→W.cell? ⟨b,off+x,none⟩=some (.string T[x])):=⟨fun W hg=>by
    obtain⟨b',off',e',-,hc'⟩:=((HR.1.grown hg).2.2).at_ hxl;simp only[gU,Ce,BO]at e';obtain⟨rfl,rfl⟩:=e';exact hc'⟩
   generalize T[x]=s at*;clear hC hx hcell;go_enter func130,ntmps130;go_wp2_with (first
    |(go_at_call 182;refine U.1.mono ?_;rintro r w2 ⟨rfl,hr,hg⟩;have R2:=Al hr;have G2:=Al hg;have PL:=Al (HR.1.grown hg);obtain⟨s0,s1,s2⟩:=(HR.1.grown hg).cells;clear hr hg;have cc:=CC.1 w2 G2.1)
    |(go_at_call 131;refine(dD q p a1 tn tc _ T l 0 14 _ PL.1 R2.1).mono ?_;rintro r w3 ⟨rfl,hw⟩;obtain rfl:=hw.symm))
   go_ret;exact⟨rfl,R2.1,G2.1⟩
 ·rw[Ps0 he1]at hC;rw[hC];have yg:(e1==0)=false:=by simpa using he1
  have hx0:=JN he1;subst hx0;clear hC JN;by_cases ht0:tn=0
  ·subst ht0;go_enter func130,ntmps130;go_wp2_with (first
    |(go_at_call 182;refine U.1.mono ?_;rintro r w2 ⟨rfl,hr,hg⟩;have R2:=Al hr;have G2:=Al hg;have PL:=Al (HR.1.grown hg);obtain⟨s0,s1,s2⟩:=(HR.1.grown hg).cells;clear hr hg)
    |(go_at_call 131;refine(fF q p a1 0 tc TA T l e1 14 _ PL.1 R2.1 Ai).mono ?_;rintro r w3 ⟨rfl,hr,hg⟩;rw[Ng he1]at hr;have R3:=Al hr;have G3:=Al hg;clear hr hg))
   go_ret;exact⟨rfl,R3.1,G2.1.trans G3.1⟩
  ·have hgt:(0:Int)< (tn:Int):=by omega
   have ach:0<tn:=om;go_enter func130,ntmps130;go_wp2_with (first
    |(go_at_call 182;refine U.1.mono ?_;rintro r w2 ⟨rfl,hr,hg⟩;have R2:=Al hr;have G2:=Al hg;have PL:=Al (HR.1.grown hg);obtain⟨s0,s1,s2⟩:=(HR.1.grown hg).cells;clear hr hg)
    |(go_at_call 131;refine(dD q p a1 tn tc TA T l e1 14 _ PL.1 R2.1).mono ?_;rintro r w3 ⟨rfl,hw⟩;obtain rfl:=hw.symm))
   go_ret;exact⟨rfl,R2.1,G2.1⟩
namespace Pe
theorem LU (l bnd last acc a):sl l bnd 0 last acc a=(acc,a,0):=rfl
theorem ZQ {l bnd last a x a1 acc e1} (k) (h:Wr.uint l a 0 Rc.mx=(x,a1,e1)) (he:e1≠0):sl l bnd (k+1) last acc a=([],a1,e1):=by
 rw[sl,h];simp[he]
theorem acF {l bnd last a x a1 acc} (k) (h:Wr.uint l a 0 Rc.mx=(x,a1,0)) (ho:okD bnd last x acc.isEmpty=false):sl l bnd (k+1) last acc a=([],a1,22):=by
 rw[sl,h];simp[ho]
theorem Yz {l bnd last a x a1 acc} (k) (h:Wr.uint l a 0 Rc.mx=(x,a1,0)) (ho:okD bnd last x acc.isEmpty=true):sl l bnd (k+1) last acc a=sl l bnd k (last+x) (acc++[((last+x:Nat):Int)]) a1:=by
 rw[sl,h];simp[ho]
theorem YA (l a e) (h:(Rc.cnt l a e).2.2≠0):(Rc.cnt l a e).1=0:=by
 unfold Rc.cnt at h⊢;simp only[]at h⊢;split at h
 ·rw[Ps0 (by assumption)]
 ·rename_i h1
  rw[Ng h1];split at h
  ·rw[Ps0 (by assumption)]
  ·exact absurd h h1
end Pe
theorem Gh {w w' p a l e B} (h:aK w p l a e) (hb:Below B w w') (hp:p<B):aK w' p l a e:=h.below hb hp
theorem uq {w w1 w':World} {p} (h:w.grownBy w1 (some p)) (b:Below w.heap.size w1 w'):w.grownBy w' (some p):=
 ⟨b.os.trans h.os,b.tape.trans h.tape,b.output.trans h.output,Lt h.size b.size,fun k hk hne=>(b.block k hk).trans (h.block k hk hne)⟩
theorem Gi (q p a tn tc bnd:Nat) (TA T l w) (hR:RP w q p TA tn tc T l) (h:aK w p l a 0) (hbd:bnd<9223372036854775808) (hl9:l.length≤20000000):
  Calls prog 132 #[.pointer (some ⟨q,0,none⟩),.int .u64 (bnd:Int)] w fun r w'=>∃A2 n2 c2,r= .returned (.slice A2 n2 c2)∧aO w' w.heap.size A2 n2 c2 (Pe.fE l bnd a).1∧aK w' p l (Pe.fE l bnd a).2.1 (Pe.fE l bnd a).2.2∧w.grownBy w' (some p):=by
 have HR:=Al hR;have CN:=Al (uo q p a tn tc TA T l 0 w hR h);have hln:=h.len;have hpl:=h.lt;obtain⟨M,hM⟩:∃M,M=Pe.fE l bnd a:=⟨_,rfl⟩
 rw[←hM];unfold Pe.fE at hM;have hcl:=Rc.tq l a 0 h.len.2;have hcz:=Pe.YA l a 0;generalize Rc.cnt l a 0=X at*;obtain⟨n,a1,e1⟩:=X;simp only[]at CN hM hcl;clear h hR;by_cases hn0:n=0
 ·subst hn0;obtain⟨e2,he2⟩:∃e2,(if e1=0 then 22 else e1)=e2:=⟨_,rfl⟩
  have HE2:=Al he2;have hM2:M=([],a1,e2):=by
   rw[hM,←he2];by_cases h0:e1=0
   ·simp[h0]
   ·simp[h0]
  rw[hM2];clear hM hM2 hcz he2;go_enter func132,ntmps132;go_wp2_with (first
   |(go_at_call 129;refine CN.1.mono ?_;rintro r w2 ⟨rfl,hr,hg⟩;have R2:=Al hr;have G2:=Al hg;have PL:=Al (HR.1.grown hg);clear hr hg)
   |(go_at_call 131;refine(fF q p a1 tn tc TA T l e1 22 _ PL.1 R2.1 Ai).mono ?_;rintro r w3 ⟨rfl,hr,hg⟩;rw[HE2.1]at hr;have R3:=Al hr;have G3:=Al hg;clear hr hg))
  go_loopw [6,17] (fun o i wr=>o= .slice none 0 0∧i= .int .i64 0∧wr=w3) (fun _ i _=>1)
  case atStart=>exact⟨rfl,rfl,rfl⟩
  case round=>
   obtain⟨rfl,rfl,hw⟩:=hrel;obtain rfl:=hw.symm;go_wp2;go_ret;exact⟨none,0,0,rfl,Bb _ _ _ _,R3.1,G2.1.trans G3.1⟩
 ·have he1:e1=0:=Dl fun h=>hn0 (hcz h)
  subst he1;have HM:Kept (M=Pe.sl l bnd n 0 [] a1):=⟨by rw[hM,Ng Ah,Ng hn0]⟩
  have ak1:(0:Int)< (n:Int):=om;clear hM hcz;have hn9:n≤20000000:=om;have hgt1:0<n:=om;go_enter func132,ntmps132;go_wp2_with (first
   |(go_at_call 129;refine CN.1.mono ?_;rintro r w2 ⟨rfl,hr,hg⟩;have R2:=Al hr;have G2:=Al hg;have PL:=Al (HR.1.grown hg);clear hr hg)
   |(go_at_call 131;refine(dD q p a1 tn tc TA T l 0 22 _ PL.1 R2.1).mono ?_;rintro r w3 ⟨rfl,hw⟩;obtain rfl:=hw.symm;clear hw))
  go_loopw [6,7,17] (fun o la i wr=>∃k:Nat,k≤n∧i= .int .i64 k∧∃(last at_:Nat) (acc:List Int) (A2:Option Addr) (c2:Nat),la= .int .u64 (last:Int)∧o= .slice A2 k c2∧aO wr w.heap.size A2 k c2 acc∧aK wr p l at_ 0∧w.grownBy wr (some p)∧Kept (M=Pe.sl l bnd (n-k) last acc at_∧acc.length=k∧last≤bnd)) (fun _ _ i _=>n-(intOf i).toNat)
  case atStart=>exact⟨0,om,rfl,0,a1,[],none,0,rfl,rfl,Bb _ _ _ _,R2.1,G2.1,⟨HM.1,rfl,om⟩⟩
  case round=>
   clear HM R2 G2 PL CN;obtain⟨k,hk,rfl,last,at_,acc,A2,c2,rfl,rfl,ho,hr,hg,hd⟩:=hrel;have O:=Al ho;have R:=Al hr;have G:=Al hg;have rf:=hg.size;obtain⟨q0,q1,q2⟩:=(HR.1.grown hg).cells;have RQ:=Al (HR.1.grown hg);by_cases hlt:k<n
   ·have U:=Al (ji p at_ 18446744073709551615 l 0 wr hr);have hle:=Wr.lI l at_ Rc.mx 0;have JN:=Wr.lJ l at_ Rc.mx 0;obtain⟨hd1,hd2,hd3⟩:=hd.1;rw[show n-k=(n-(k+1))+1 from om]at hd1;have NY:=fun x a1 e1 (h1:Wr.uint l at_ 0 Rc.mx=(x,a1,e1)) (h2:e1≠0)=>hd1.trans (Pe.ZQ (n-(k+1)) h1 h2)
    have ZR:=fun x a1 (h1:Wr.uint l at_ 0 Rc.mx=(x,a1,0)) h2=>hd1.trans (Pe.acF (n-(k+1)) h1 h2)
    have V8:=fun x a1 (h1:Wr.uint l at_ 0 Rc.mx=(x,a1,0)) h2=>hd1.trans (Pe.Yz (n-(k+1)) h1 h2)
    have hemp:acc.isEmpty=decide (k=0):=by
     cases acc with
     |nil=>simp at hd2;simp[←hd2]
     |cons a b=>simp at hd2;simp[←hd2]
    clear ho hr hg hd hd1;unfold Rc.mx at NY ZR V8 hle JN;generalize Wr.uint l at_ 0 18446744073709551615=X at*;obtain⟨x,a2,e2⟩:=X;simp only[]at U hle JN;obtain⟨m,hm⟩:∃m,m=bnd-last:=⟨_,rfl⟩
    have hwm:IntKind.u64.wrap ((bnd:Int)-(last:Int))=(m:Int):=by simp[IntKind.wrap,IntKind.bits,IntKind.signed];omega
    have hmb:m≤bnd:=om;by_cases he2:e2=0
    ·subst he2;by_cases hxm:x<m
     ·have afV:(x:Int)< (m:Int):=by omega
      by_cases hz:k=0∨0<x
      ·have ho:Pe.okD bnd last x acc.isEmpty=true:=by
        unfold Pe.okD;rw[hemp,BI (show x<bnd-last from om)];rcases hz with h|h
        ·simp[h]
        ·simp[h]
       obtain⟨s,hs⟩:∃s,s=last+x:=⟨_,rfl⟩
       have hM3:=V8 x a2 rfl ho;rw[←hs]at hM3;have ZI:Kept (M=Pe.sl l bnd (n-(k+1)) s (acc++[(s:Int)]) a2∧(acc++[(s:Int)]).length=k+1∧s≤bnd):=⟨hM3,by simp[hd2],om⟩
       have hws:IntKind.u64.wrap ((last:Int)+(x:Int))=(s:Int):=by simp[IntKind.wrap,IntKind.bits,IntKind.signed];omega
       have hwi:IntKind.i64.wrap (s:Int)=(s:Int):=by simp[IntKind.wrap,IntKind.bits,IntKind.signed];omega
       have hsx:s<9223372036854775808:=om;clear NY ZR V8 ho hM3 hs hm hemp hd2 hd3 hmb hle;by_cases hk0:k=0
       ·subst hk0;clear hz;go_wp2_with (first
         |(go_at_call 182;refine U.1.mono ?_;rintro r w4 ⟨rfl,hr,hg⟩;have R4:=Al hr;have G4:=Al (G.1.trans hg);have NZ:=Al (RQ.1.grown hg);have O4:=Al (bS O.1 hg hpl);obtain⟨s0,s1,s2⟩:=(RQ.1.grown hg).cells;clear hr hg)
         |(go_at_call 131;refine(dD q p a2 tn tc TA T l 0 22 _ NZ.1 R4.1).mono ?_;rintro r w5 ⟨rfl,hw⟩;obtain rfl:=hw.symm;clear hw)
         |(at_builtin;refine eD rfl (.tmp 44) (.tmp 47) rfl w.heap.size A2 _ c2 _ rfl (Oa O4.1 _) (w4.heap.size+1) _ _ _ [(s:Int)] rfl (jF.one w4 s) om (by simp;have:=G4.1.size;omega) ?_;intro A6 c6 w6 hown6 iK JO;have hb6:Below w.heap.size w4 w6:=((Ae _ _).alloc G4.1.size _).grown iK (by simp;have:=G4.1.size;omega) (fun g hg=>(ae O4.1 g hg).1);have O6:=Al hown6;have B6:=Al hb6;clear hown6 iK JO hb6))
        go_roundw
        case rel=>exact⟨1,om,rfl,s,a2,_,A6,c6,rfl,rfl,O6.1,Gh R4.1 B6.1 hpl,uq G4.1 B6.1,ZI⟩
        case measure=>simp[intOf];omega
       ·have hk1:((k:Int)==0)=false:=by simpa using hk0
        have hx1:0<x:=om;have hx2:(0:Int)< (x:Int):=om;clear hz;go_wp2_with (first
         |(go_at_call 182;refine U.1.mono ?_;rintro r w4 ⟨rfl,hr,hg⟩;have R4:=Al hr;have G4:=Al (G.1.trans hg);have NZ:=Al (RQ.1.grown hg);have O4:=Al (bS O.1 hg hpl);obtain⟨s0,s1,s2⟩:=(RQ.1.grown hg).cells;clear hr hg)
         |(go_at_call 131;refine(dD q p a2 tn tc TA T l 0 22 _ NZ.1 R4.1).mono ?_;rintro r w5 ⟨rfl,hw⟩;obtain rfl:=hw.symm;clear hw)
         |(at_builtin;refine eD rfl (.tmp 44) (.tmp 47) rfl w.heap.size A2 k c2 _ rfl (Oa O4.1 _) (w4.heap.size+1) _ _ _ [(s:Int)] rfl (jF.one w4 s) om (by simp;have:=G4.1.size;omega) ?_;intro A6 c6 w6 hown6 iK JO;have hb6:Below w.heap.size w4 w6:=((Ae _ _).alloc G4.1.size _).grown iK (by simp;have:=G4.1.size;omega) (fun g hg=>(ae O4.1 g hg).1);have O6:=Al hown6;have B6:=Al hb6;clear hown6 iK JO hb6))
        go_roundw
        case rel=>exact⟨k+1,om,by go_num,s,a2,_,A6,c6,rfl,rfl,O6.1,Gh R4.1 B6.1 hpl,uq G4.1 B6.1,ZI⟩
        case measure=>simp[intOf];omega
      ·have hk0:¬k=0:=fun h=>hz (.inl h)
       have hx0:x=0:=om;subst hx0;have ho:Pe.okD bnd last 0 acc.isEmpty=false:=by
        unfold Pe.okD;rw[hemp,AA hk0];simp
       have df:=Al (ZR 0 a2 rfl ho);have hk1:((k:Int)==0)=false:=by simpa using hk0
       clear NY ZR V8 ho hm hemp hd2 hd3 hmb hle hz;go_wp2_with (first
        |(go_at_call 182;refine U.1.mono ?_;rintro r w4 ⟨rfl,hr,hg⟩;have R4:=Al hr;have G4:=Al (G.1.trans hg);have NZ:=Al (RQ.1.grown hg);have O4:=Al (bS O.1 hg hpl);obtain⟨s0,s1,s2⟩:=(RQ.1.grown hg).cells;clear hr hg)
        |(go_at_call 131;refine(fF q p a2 tn tc TA T l 0 22 _ NZ.1 R4.1 Ai).mono ?_;rintro r w5 ⟨rfl,hr,hg⟩;rw[Ps0 rfl]at hr;have R5:=Al hr;have G5:=Al (G4.1.trans hg);clear hr hg))
       go_ret;refine⟨none,0,0,rfl,?_,?_,G5.1⟩
       ·rw[df.1];exact Bb _ _ _ _
       ·rw[df.1];exact R5.1
     ·have afV:¬(x:Int)< (m:Int):=by omega
      have ho:Pe.okD bnd last x acc.isEmpty=false:=by
       unfold Pe.okD;rw[AA (show¬x<bnd-last from om)];simp
      have df:=Al (ZR x a2 rfl ho);clear NY ZR V8 ho hm hemp hd2 hd3 hmb;go_wp2_with (first
       |(go_at_call 182;refine U.1.mono ?_;rintro r w4 ⟨rfl,hr,hg⟩;have R4:=Al hr;have G4:=Al (G.1.trans hg);have NZ:=Al (RQ.1.grown hg);have O4:=Al (bS O.1 hg hpl);obtain⟨s0,s1,s2⟩:=(RQ.1.grown hg).cells;clear hr hg)
       |(go_at_call 131;refine(fF q p a2 tn tc TA T l 0 22 _ NZ.1 R4.1 Ai).mono ?_;rintro r w5 ⟨rfl,hr,hg⟩;rw[Ps0 rfl]at hr;have R5:=Al hr;have G5:=Al (G4.1.trans hg);clear hr hg))
      go_ret;refine⟨none,0,0,rfl,?_,?_,G5.1⟩
      ·rw[df.1];exact Bb _ _ _ _
      ·rw[df.1];exact R5.1
    ·have df:=Al (NY x a2 e2 rfl he2);have hx0:x=0:=JN he2;subst hx0;have yg:(e2==0)=false:=by simpa using he2
     clear NY ZR V8 hemp hd2 hd3;by_cases hm0:m=0
     ·subst hm0;clear hm hmb;go_wp2_with (first
       |(go_at_call 182;refine U.1.mono ?_;rintro r w4 ⟨rfl,hr,hg⟩;have R4:=Al hr;have G4:=Al (G.1.trans hg);have NZ:=Al (RQ.1.grown hg);have O4:=Al (bS O.1 hg hpl);obtain⟨s0,s1,s2⟩:=(RQ.1.grown hg).cells;clear hr hg)
       |(go_at_call 131;refine(fF q p a2 tn tc TA T l e2 22 _ NZ.1 R4.1 Ai).mono ?_;rintro r w5 ⟨rfl,hr,hg⟩;rw[Ng he2]at hr;have R5:=Al hr;have G5:=Al (G4.1.trans hg);clear hr hg))
      go_ret;refine⟨none,0,0,rfl,?_,?_,G5.1⟩
      ·rw[df.1];exact Bb _ _ _ _
      ·rw[df.1];exact R5.1
     ·have hm1:0<m:=by omega
      have hm2:(0:Int)< (m:Int):=om;by_cases hk0:k=0
      ·subst hk0;clear hm hmb;go_wp2_with (first
        |(go_at_call 182;refine U.1.mono ?_;rintro r w4 ⟨rfl,hr,hg⟩;have R4:=Al hr;have G4:=Al (G.1.trans hg);have NZ:=Al (RQ.1.grown hg);have O4:=Al (bS O.1 hg hpl);obtain⟨s0,s1,s2⟩:=(RQ.1.grown hg).cells;clear hr hg)
        |(go_at_call 131;refine(dD q p a2 tn tc TA T l e2 22 _ NZ.1 R4.1).mono ?_;rintro r w5 ⟨rfl,hw⟩;obtain rfl:=hw.symm;clear hw))
       go_ret;refine⟨none,0,0,rfl,?_,?_,G4.1⟩
       ·rw[df.1];exact Bb _ _ _ _
       ·rw[df.1];exact R4.1
      ·have hk1:((k:Int)==0)=false:=by simpa using hk0
       clear hm hmb;go_wp2_with (first
        |(go_at_call 182;refine U.1.mono ?_;rintro r w4 ⟨rfl,hr,hg⟩;have R4:=Al hr;have G4:=Al (G.1.trans hg);have NZ:=Al (RQ.1.grown hg);have O4:=Al (bS O.1 hg hpl);obtain⟨s0,s1,s2⟩:=(RQ.1.grown hg).cells;clear hr hg)
        |(go_at_call 131;refine(fF q p a2 tn tc TA T l e2 22 _ NZ.1 R4.1 Ai).mono ?_;rintro r w5 ⟨rfl,hr,hg⟩;rw[Ng he2]at hr;have R5:=Al hr;have G5:=Al (G4.1.trans hg);clear hr hg))
       go_ret;refine⟨none,0,0,rfl,?_,?_,G5.1⟩
       ·rw[df.1];exact Bb _ _ _ _
       ·rw[df.1];exact R5.1
   ·obtain rfl:k=n:=by omega
    obtain⟨hd1,hd2,hd3⟩:=hd.1;rw[Dz,Pe.LU]at hd1;have df:=Al hd1;clear ho hr hg hd hd1 hd2 hd3;go_wp2;go_ret;refine⟨A2,k,c2,rfl,?_,?_,G.1⟩
    ·rw[df.1];exact O.1
    ·rw[df.1];exact R.1
end
end
section
section
open Go.RowKit Go.Shelf Go.Sort
namespace Pe
def Gj (acc:List eX) (x:aU):Bool:=match acc.getLast? with|none=>true|some e=>Lb.Gb e.1 x
def iL (acc:List eX) (r:aU×Nat×Int):Int:=if r.2.2≠0 then r.2.2 else if Gj acc r.1=true then 0 else 16
def el (T:List ByteArray) (l:List UInt8) (bnd:Nat):Nat→List eX→Nat→List eX×Nat×Int
 |0,acc,a=>(acc,a,0)
 |k+1,acc,a=>
  if iL acc (Rc.lab T l a 0)≠0 then([],(Rc.lab T l a 0).2.1,iL acc (Rc.lab T l a 0))
  else if(fE l bnd (Rc.lab T l a 0).2.1).2.2≠0 then([],(fE l bnd (Rc.lab T l a 0).2.1).2)
  else el T l bnd k (acc++[((Rc.lab T l a 0).1,(fE l bnd (Rc.lab T l a 0).2.1).1)]) (fE l bnd (Rc.lab T l a 0).2.1).2.1
def dI (T:List ByteArray) (l:List UInt8) (bnd:Nat):List eX×Nat×Int:=if(Rc.cnt l 0 0).2.2≠0 then([],(Rc.cnt l 0 0).2)else el T l bnd (Rc.cnt l 0 0).1 [] (Rc.cnt l 0 0).2.1
def dec (T:List ByteArray) (n:Int) (l:List UInt8):List eX×Int:=
 if n<0 then([],2)
 else if Wr.fin l (dI T l n.toNat).2.1 (dI T l n.toNat).2.2≠0 then([],Wr.fin l (dI T l n.toNat).2.1 (dI T l n.toNat).2.2)
 else((dI T l n.toNat).1,0)
theorem LV (T l bnd acc a):el T l bnd 0 acc a=(acc,a,0):=rfl
theorem ZT {T l bnd acc a X} (k) (h:Rc.lab T l a 0=X) (he:iL acc X≠0):el T l bnd (k+1) acc a=([],X.2.1,iL acc X):=by
 rw[el,h,Ps0 he]
theorem ZU {T l bnd acc a X Y} (k) (h:Rc.lab T l a 0=X) (he:iL acc X=0) (h2:fE l bnd X.2.1=Y) (he2:Y.2.2≠0):el T l bnd (k+1) acc a=([],Y.2):=by
 rw[el,h,Ng (by simp[he]),h2,Ps0 he2]
theorem YB {T l bnd acc a X Y} (k) (h:Rc.lab T l a 0=X) (he:iL acc X=0) (h2:fE l bnd X.2.1=Y) (he2:Y.2.2=0):el T l bnd (k+1) acc a=el T l bnd k (acc++[(X.1,Y.1)]) Y.2.1:=by
 rw[el,h,Ng (by simp[he]),h2,Ng (by simp[he2])]
theorem Ry (x):Gj [] x=true:=rfl
theorem V9 {acc x k} (h:k=acc.length) (hk:k-1<acc.length):Gj acc x=decide (Lb.pc acc[k-1].1 x<0):=by
 subst h;unfold Gj;rw[List.getLast?_eq_getElem?,kC hk]
 rfl
theorem zn (l a) {e} (h:e≠0):Wr.fin l a e=e:=by
 unfold Wr.fin;simp[h]
end Pe
structure Dw (w W:World) (q p:Nat) (TA:Option Addr) (tn tc:Nat) (T:List ByteArray) (l:List UInt8) (A:Option Addr) (n c:Nat) (acc:List eX) (a:Nat) (e:Int):Prop where
 own:bg 163 W (q+1) A n c acc
 rd:aK W p l a e
 rp:RP W q p TA tn tc T l
 below:Below w.heap.size w W
 hp:w.heap.size≤p
structure Db (w W:World) (q p:Nat) (TA:Option Addr) (tn tc:Nat) (T:List ByteArray) (l:List UInt8) (A:Option Addr) (n c:Nat) (acc:List eX) (a:Nat) (e:Int) (G:Nat) (cs:Array Value):Prop where
 dw:Dw w W q p TA tn tc T l A n c acc a e
 box:W.heap[G]? =some (.cells cs 163 (0,0))
 apart:ab A≠some G
 hq:q<G
section
variable {w W W':World} {q p tn tc n c a G:Nat} {TA A:Option Addr} {T:List ByteArray} {l:List UInt8} {acc:List eX} {e:Int} {cs:Array Value}
theorem bg.ZV {t base g cs T fr} (h:bg t W base A n c acc) (hg:W.heap[g]? =some (.cells cs T fr)) (ht:T≠t):ab A≠some g:=by
 obtain⟨hs,_,h2,_⟩:=h;intro e;rcases h2.2 with⟨hv,_⟩|⟨g',cap,cur,hv,_,hg',_⟩
 ·injection hv with h1;rw[h1]at e;cases e
 ·injection hv with h1
  rw[h1]at e;have:g'=g:=Oj e;subst this;rw[hg]at hg'
  injection hg' with h2
  injection h2 with _ h3
  exact ht h3
theorem xD {base sz g xs e cs T fr} (h:W.ownsRow base e sz (.slice A n c) n xs) (hg:W.heap[g]? =some (.cells cs T fr)) (ht:T≠e) (hgr:W.grownBy W' (some g)):W'.ownsRow base e sz (.slice A n c) n xs:=by
 refine ag h hgr (.inr fun e=>?_);rcases h.2 with⟨hv,_⟩|⟨g',cap,cur,hv,_,hg',_⟩
 ·injection hv with h1;rw[h1]at e;cases e
 ·injection hv with h1
  rw[h1]at e;have:g'=g:=Oj e;subst this;rw[hg]at hg'
  injection hg' with h2
  injection h2 with _ h3
  exact ht h3
theorem bg.acG {t base g cs T fr} (h:bg t W base A n c acc) (hg:W.heap[g]? =some (.cells cs T fr)) (ht:T≠t) (hi:T≠3) (hgr:W.grownBy W' (some g)):bg t W' base A n c acc:=by
 obtain⟨hs,h1,h2,h3⟩:=h;refine⟨hs,h1,xD h2 hg ht hgr,fun i h4 h5=>?_⟩;obtain⟨A1,n1,c1,e,o⟩:=h3 i h4 h5;exact⟨A1,n1,c1,e,xD o hg hi hgr⟩
theorem uu {base sz g k v xs e t cs} (h:W.ownsRow base e sz (.slice A n c) n xs) (hA:ab A≠some g) (_:W.heap[g]? =some (.cells cs t (0,0))):(W.setCell ⟨g,k,none⟩ v).ownsRow base e sz (.slice A n c) n xs:=by
 refine⟨h.1,h.2.imp id fun⟨b,cap,cur,h1,h2,h3,h4⟩=>⟨b,cap,cur,h1,h2,?_,h4⟩⟩;have hbg:b≠g:=fun e1=>by
  injection h1 with h1
  exact hA (by rw[h1,←e1];rfl)
 rw[AQ _ _ _ _ (by exact hbg)];exact h3
theorem uw {base sz g xs e cs T fr} (h:W.ownsRow base e sz (.slice A n c) n xs) (hg:W.heap[g]? =some (.cells cs T fr)) (ht:T≠e):ab A≠some g:=by
 intro e;rcases h.2 with⟨hv,_⟩|⟨g',cap,cur,hv,_,hg',_⟩
 ·injection hv with h1;rw[h1]at e;cases e
 ·injection hv with h1
  rw[h1]at e;have:g'=g:=Oj e;subst this;rw[hg]at hg'
  injection hg' with h2
  injection h2 with _ h3
  exact ht h3
theorem bg.set1 {t base g k v cs T} (h:bg t W base A n c acc) (hA:ab A≠some g) (hg:W.heap[g]? =some (.cells cs T (0,0))) (hi:T≠3):bg t (W.setCell ⟨g,k,none⟩ v) base A n c acc:=by
 obtain⟨hs,h1,h2,h3⟩:=h;refine⟨hs,h1,uu h2 hA hg,fun i h4 h5=>?_⟩;obtain⟨A1,n1,c1,e,o⟩:=h3 i h4 h5;exact⟨A1,n1,c1,e,uu o (uw o hg hi) hg⟩
theorem Dw.step (h:Dw w W q p TA tn tc T l A n c acc a e) {a' e'} (hr:aK W' p l a' e') (hg:W.grownBy W' (some p)):Dw w W' q p TA tn tc T l A n c acc a' e':=by
 obtain⟨Ar,nr,cr,hb,_⟩:=h.rd;exact⟨h.own.acG hb Ai Ai hg,hr,h.rp.grown hg,h.below.grown hg h.below.size (fun g e=>by have:=Oj e;have:=h.hp;omega),h.hp⟩
theorem Dw.on (h:Dw w W q p TA tn tc T l A n c acc a e) (hb:Below W.heap.size W W'):Dw w W' q p TA tn tc T l A n c acc a e:=
 ⟨h.own.keep hb,h.rd.below hb h.rd.lt,h.rp.grown (aD hb),h.below.trans (hb.mono h.below.size),h.hp⟩
theorem Db.step (h:Db w W q p TA tn tc T l A n c acc a e G cs) {a' e'} (hr:aK W' p l a' e') (hg:W.grownBy W' (some p)):Db w W' q p TA tn tc T l A n c acc a' e' G cs:=
 ⟨h.dw.step hr hg,(hg.block G (Ge.1 h.box).1 (fun e=>by have:=Oj e;have:=h.hq;have:=h.dw.rp.2.1;omega)).trans h.box,h.apart,h.hq⟩
theorem Db.on (h:Db w W q p TA tn tc T l A n c acc a e G cs) (hb:Below W.heap.size W W'):Db w W' q p TA tn tc T l A n c acc a e G cs:=
 ⟨h.dw.on hb,(hb.block G (Ge.1 h.box).1).trans h.box,h.apart,h.hq⟩
theorem Db.set (h:Db w W q p TA tn tc T l A n c acc a e G cs) (k v):Db w (W.setCell ⟨G,k,none⟩ v) q p TA tn tc T l A n c acc a e G (cs.setIfInBounds k v):=by
 have hq:=h.hq;have hpq:=h.dw.rp.2.1;have hp:=h.dw.hp;have hg:W.grownBy (W.setCell ⟨G,k,none⟩ v) (some G):=by
  have hb:Below G W (W.setCell ⟨G,k,none⟩ v):=(Ae _ W).setCell (p:=⟨G,k,none⟩) Aj _;exact⟨hb.os,hb.tape,hb.output,hb.size,fun i _ hi=>AQ _ _ _ _ (by exact fun e=>hi (by rw[e]))⟩
 have hb:Below G W (W.setCell ⟨G,k,none⟩ v):=(Ae _ W).setCell (p:=⟨G,k,none⟩) Aj _;refine⟨⟨h.dw.own.set1 h.apart h.box Ai,h.dw.rd.below hb om,?_,h.dw.below.setCell (p:=⟨G,k,none⟩) (by show _≤G;omega) _,hp⟩,Ag W G k _ _ _ h.box,h.apart,hq⟩;obtain⟨r1,r2,r3⟩:=h.dw.rp;exact⟨(hb.block q hq).trans r1,r2,Rd.below r3 (hb.mono om)⟩
theorem Db.cells (h:Db w W q p TA tn tc T l A n c acc a e G cs) (k):W.cell? ⟨G,k,none⟩=cs[k]?∧W.frozen? ⟨G,k,none⟩=false:=⟨Co _ _ _ _ _ _ h.box,Fr _ _ _ _ _ h.box⟩
theorem Dw.box (h:Dw w W q p TA tn tc T l A n c acc a e) (cs):Db w (W.alloc (.cells cs 163)) q p TA tn tc T l A n c acc a e W.heap.size cs:=
 ⟨h.on ((Ae _ _).alloc Aj _),Aw W _,fun e=>by
  obtain⟨hs,_,h2,_⟩:=h.own;have:=(ae h2 _ e).2;omega,h.rp.lt⟩
end
theorem Gm (TA A tn tc n c bn T l w) (hT:bM w w.heap.size TA tn tc T) (hv:aY w w.heap.size A n c l) (hl:n≤20000000) (hbn:bn<9223372036854775808):
  Calls prog 77 #[.slice TA tn tc,.int .i64 bn,.slice A n c] w fun r w'=>∃A2 n2 c2,r= .returned (.tuple #[.slice A2 n2 c2,.int .i64 (Pe.dec T bn l).2])∧gL w' w'.heap.size A2 n2 c2 (Pe.dec T bn l).1∧Below w.heap.size w w':=by
 have hlc:=hv.1;have hcm:=hv.2.1;unfold maxLen at hcm;have HN:=Al hv.len;have V:=Al hv;have VT:=Al hT;clear hv hT;rcases Int.lt_or_le bn 0 with hneg|hpos
 ·have hM:Pe.dec T bn l=([],2):=by unfold Pe.dec;rw[Ps0 hneg]
  rw[hM];clear hM;go_enter func77,ntmps77;go_wp2;go_ret2;exact⟨none,0,0,rfl,gL.nil _ _,Ae _ _⟩
 ·obtain⟨bnd,rfl⟩:=Cr hpos;have hge:¬(bnd:Int)<0:=om;have hbd:bnd<9223372036854775808:=om;obtain⟨X,hX⟩:∃X,X=Pe.dI T l bnd:=⟨_,rfl⟩
  obtain⟨M,hM⟩:∃M,M=Pe.dec T (bnd:Int) l:=⟨_,rfl⟩
  rw[←hM];unfold Pe.dec at hM;rw[Ng om,lZ,←hX]at hM;have HX:=Al hX;have HM:=Al hM;have hwb:IntKind.u64.wrap (bnd:Int)=(bnd:Int):=wrap_u64 _ om om;have HBD:=Al hbd;have HL9:=Al hl;clear hX hM hbd hbn hl;go_enter func77,ntmps77;go_upto_region 4 with(go_at_call 110;refine(dK A n c w.heap.size l w V.1 Aj (by have:=HL9.1;omega)).mono ?_;rintro r w1 ⟨p,rfl,hp1,hp2,hr1,hb1⟩;have R1:=Al hr1;have B1:=Al hb1;clear hr1 hb1)
  have D0:Kept (Dw w (w1.alloc (.cells #[.pointer (some ⟨p,0,none⟩),.slice TA tn tc,.int .i64 (n:Int)] 230)) w1.heap.size p TA tn tc T l none 0 0 [] 0 0):=
   ⟨⟨bg.nil _ _,R1.1.box _,⟨by rw[←HN.1];exact Aw w1 _,hp2,Rd.alloc (Rd.more (Rd.below VT.1 B1.1) hp1) om _⟩,B1.1.alloc (by have:=B1.1.size;omega) _,hp1⟩⟩
  clear R1 B1;generalize w1.alloc (.cells #[.pointer (some ⟨p,0,none⟩),.slice TA tn tc,.int .i64 (n:Int)] 230)=w2 at*;generalize w1.heap.size=q at*;have mixed:prog.follows .mixedOrders=true:=kr;have CN:=Al (uo q p 0 tn tc TA T l 0 w2 D0.1.rp D0.1.rd);have hcl:=Rc.tq l 0 0 (bf _);have hcz:=Pe.YA l 0 0;have hX2:=HX.1;unfold Pe.dI at hX2;generalize Rc.cnt l 0 0=CT at*;obtain⟨m,a0,e0⟩:=CT;simp only[]at CN hcl hcz hX2;by_cases he0:e0=0
  ·subst he0;rw[Ng Ah]at hX2;have YC:=Al hX2;have HM9:Kept (m≤20000000):=⟨by have:=HN.1;have:=HL9.1;omega⟩
   have hmI:(m:Int)≤20000000:=by have:=HM9.1;omega
   clear hX2 hcz HX hcl;go_upto_region 6 with(go_at_call 129;refine CN.1.mono ?_;rintro r w3 ⟨rfl,hr,hg⟩;have D3:=Al (D0.1.step hr hg);clear hr hg)
   go_loopw [9,24] (fun o i wr=>∃k:Nat,k≤m∧i= .int .i64 k∧∃(A2:Option Addr) (c2:Nat) (acc:List eX) (at_:Nat),o= .slice A2 k c2∧Dw w wr q p TA tn tc T l A2 k c2 acc at_ 0∧Kept (X=Pe.el T l bnd (m-k) acc at_∧acc.length=k)) (fun _ i _=>m-(intOf i).toNat)
   case atStart=>exact⟨0,om,rfl,none,0,[],a0,rfl,D3.1,⟨YC.1,rfl⟩⟩
   case round=>
    clear YC D3 CN D0;obtain⟨k,hk,rfl,A2,c2,acc,at_,rfl,hD,hd⟩:=hrel;have D:=Al hD;have rf:=hD.below.size;clear hD;by_cases hlt:k<m
    ·obtain⟨hd1,hd2⟩:=hd.1;rw[show m-k=(m-(k+1))+1 from om]at hd1;have acH:=fun X1 h1 h2=>hd1.trans (Pe.ZT (X:=X1) (m-(k+1)) h1 h2)
     have acI:=fun X1 Y1 h1 h2 h3 h4=>hd1.trans (Pe.ZU (X:=X1) (Y:=Y1) (m-(k+1)) h1 h2 h3 h4)
     have V8:=fun X1 Y1 h1 h2 h3 h4=>hd1.trans (Pe.YB (X:=X1) (Y:=Y1) (m-(k+1)) h1 h2 h3 h4)
     have hLB:Rc.lab T l at_ 0=(⟨(Rc.sym T l at_ 0).1,(Rc.sym T l (Rc.sym T l at_ 0).2.1 (Rc.sym T l at_ 0).2.2).1⟩,(Rc.sym T l (Rc.sym T l at_ 0).2.1 (Rc.sym T l at_ 0).2.2).2):=rfl;have S1:=Al (fun W (d1:RP W q p TA tn tc T l) (d2:aK W p l at_ 0)=>qO q p at_ tn tc TA T l 0 W d1 d2);generalize Rc.sym T l at_ 0=Y1 at*;obtain⟨s1,a1,e1⟩:=Y1;simp only[]at S1 hLB;have S2:=Al (fun W (d1:RP W q p TA tn tc T l) (d2:aK W p l a1 e1)=>qO q p a1 tn tc TA T l e1 W d1 d2);generalize Rc.sym T l a1 e1=Y2 at*;obtain⟨s2,a2,e2⟩:=Y2;simp only[]at S2 hLB;have ZW:=Al (acH _ hLB);have ZX:=Al (fun Y1=>acI _ Y1 hLB);have HOK:=Al (fun Y1=>V8 _ Y1 hLB);have HL:=Al hd2;simp only[]at ZW ZX HOK;clear acH acI V8 hLB hd hd1 hd2;go_upto_region 9 with(fail)
     have D1:=Al (D.1.box #[.string ⟨#[]⟩,.string ⟨#[]⟩,.slice none 0 0]);have hzg:w.heap.size≤wr.heap.size:=rf;clear D;generalize wr.alloc (Obj.cells #[.string ⟨#[]⟩,.string ⟨#[]⟩,.slice none 0 0] 163)=w4 at*;generalize wr.heap.size=G at*;go_upto_region 10 with(go_at_call 130;refine(S1.1 w4 D1.1.dw.rp D1.1.dw.rd).mono ?_;rintro r w5 ⟨rfl,hr,hg⟩;have D2:=Al (D1.1.step hr hg);obtain⟨y0,f0⟩:=D2.1.cells 0;clear hr hg D1)
     have D3:=Al (D2.1.set 0 (.string s1));clear D2 y0 f0;generalize w5.setCell ⟨G,0,none⟩ (.string s1)=w6 at*;go_upto_region 11 with(go_at_call 130;refine(S2.1 w6 D3.1.dw.rp D3.1.dw.rd).mono ?_;rintro r w7 ⟨rfl,hr,hg⟩;have D4:=Al (D3.1.step hr hg);obtain⟨y1,f1⟩:=D4.1.cells 1;clear hr hg D3)
     have D5:=Al (D4.1.set 1 (.string s2));clear D4 y1 f1;generalize w7.setCell ⟨G,1,none⟩ (.string s2)=w8 at*;have D5:Kept (Db w w8 q p TA tn tc T l A2 k c2 acc a2 e2 G #[.string s1,.string s2,.slice none 0 0]):=D5;obtain⟨e3,kg⟩:∃e3,e3=Pe.iL acc (⟨s1,s2⟩,a2,e2):=⟨_,rfl⟩
     have HE3:=Al kg;rw[←kg]at ZW ZX HOK;unfold Pe.iL at kg;simp only[]at kg;have PC:=Al (fun(z:aU) W=>ow z ⟨s1,s2⟩ W);unfold lbv at PC;simp only[]at PC;go_cut [51] (fun t W=>t= .bool (!(e3==0))∧Db w W q p TA tn tc T l A2 k c2 acc a2 e3 G #[.string s1,.string s2,.slice none 0 0])
     case first=>
      by_cases hk0:k=0
      ·have hacc:acc=[]:=qU (by rw[HL.1,hk0]);subst hacc;subst hk0;have zX:e3=e2:=by
        rw[kg];by_cases h:e2=0
        ·simp[h,Pe.Ry]
        ·simp[h]
       subst zX;have CK:=Al (fun W (h:Db w W q p TA tn tc T l A2 0 c2 [] a2 e3 G #[.string s1,.string s2,.slice none 0 0])=>dD q p a2 tn tc TA T l e3 16 W h.dw.rp h.dw.rd);have DN:Kept (∀nq,Db w (w8.drewN nq) q p TA tn tc T l A2 0 c2 [] a2 e3 G #[.string s1,.string s2,.slice none 0 0]):=⟨fun nq=>D5.1.on (below_drewN (Ae _ _) nq)⟩
       clear kg;go_quiet (first|(go_at_call 131;exact(CK.1 _ (DN.1 _)).mono fun _ _ h=>⟨h.1,_,h.2⟩));go_wp2_with fail;go_meet;exact⟨rfl,DN.1 _⟩
      ·have hk1:k-1<acc.length:=by rw[HL.1];omega
       obtain⟨b,off,A5,n5,c5,hA2,ni,-,hcc⟩:=D5.1.dw.own.rd.cells Aj hk1;subst hA2;rw[Pe.V9 (x:=⟨s1,s2⟩) (k:=k) HL.1.symm hk1]at kg;generalize acc[k-1]=pe at*;obtain⟨y,sy⟩:=pe;simp only[]at kg hcc;have hGs:=(Ge.1 D5.1.box).1;have ek:(k:Int)-1=((k-1:Nat):Int):=om;have Nz:((k-1:Nat):Int)< (k:Int):=om;have ew:IntKind.i64.wrap ((k-1:Nat):Int)=((k-1:Nat):Int):=by rw[AZ];have:=HM9.1;omega
       have hk2:((k:Int)==0)=false:=by simpa using hk0
       have PC1:=fun W=>PC.1 y W
       rcases Int.lt_or_le (Lb.pc y ⟨s1,s2⟩) 0 with hq|hq
       ·have zX:e3=e2:=by
         rw[kg,BI hq];by_cases h:e2=0
         ·simp[h]
         ·simp[h]
        subst zX;have c0:=Eh (w:=w8) (show(⟨b,off+(k-1)*3,none⟩:Addr).block<w8.heap.size by show b<_;omega) (hcc w8 (Ae _ _)).1;have c1:=Eh (w:=w8) (show(⟨b,off+(k-1)*3+1,none⟩:Addr).block<w8.heap.size by show b<_;omega) (hcc w8 (Ae _ _)).2.1;have d0:=Eh (w:=w8) (a:=⟨G,0,none⟩) (v:= .string s1) (by show G<_;exact hGs) (D5.1.cells 0).1;have d1:=Eh (w:=w8) (a:=⟨G,1,none⟩) (v:= .string s2) (by show G<_;exact hGs) (D5.1.cells 1).1;have CK:=Al (fun W (h:Db w W q p TA tn tc T l (some ⟨b,off,none⟩) k c2 acc a2 e3 G #[.string s1,.string s2,.slice none 0 0])=>dD q p a2 tn tc TA T l e3 16 W h.dw.rp h.dw.rd);have DN:Kept (∀W,Gr w8 W→Db w W q p TA tn tc T l (some ⟨b,off,none⟩) k c2 acc a2 e3 G #[.string s1,.string s2,.slice none 0 0]):=⟨fun W g=>D5.1.on g.below⟩
        clear kg hcc;generalize Lb.pc y ⟨s1,s2⟩=pq at*;go_quiet_grown (first
         |(go_at_call 80;refine BU (PC1 _))
         |(go_at_call 131;refine BU ((CK.1 _ (DN.1 _ ⟨_,_,rfl⟩)).mono fun _ _ h=>⟨h.1,by rw[h.2];exact Gr.refl _⟩)))
        go_wp2_with fail;go_meet;exact⟨rfl,DN.1 _ ⟨_,_,rfl⟩⟩
       ·have zX:(if e2=0 then(16:Int)else e2)=e3:=by
         rw[kg,AA (show¬Lb.pc y ⟨s1,s2⟩<0 from om)];by_cases h:e2=0
         ·simp[h]
         ·simp[h]
        have hb3:(e3==0)=false:=by
         rw[←zX];by_cases h:e2=0
         ·simp[h]
         ·simp[h]
        have hq1:¬Lb.pc y ⟨s1,s2⟩<0:=om;have HE4:=Al zX;have HCC:=Al hcc;have HBP:Kept (b≠p):=⟨fun e=>by
         obtain⟨Ar,nr,cr,hbx,_⟩:=D5.1.dw.rd;exact D5.1.dw.own.ZV hbx Ai (by rw[←e];rfl)⟩
        obtain⟨c0,c1,-⟩:=hcc w8 (Ae _ _);have d0:w8.cell? ⟨G,0,none⟩=some (.string s1):=(D5.1.cells 0).1;have d1:w8.cell? ⟨G,1,none⟩=some (.string s2):=(D5.1.cells 1).1;clear kg zX hcc;generalize Lb.pc y ⟨s1,s2⟩=pq at*;go_region_held3 (fun w'=>w'.cell? ⟨b,off+(k-1)*3,none⟩=some (.string y.n)∧w'.cell? ⟨b,off+(k-1)*3+1,none⟩=some (.string y.v)∧w'.cell? ⟨G,0,none⟩=some (.string s1)∧w'.cell? ⟨G,1,none⟩=some (.string s2)) (first|exact⟨c0,c1,d0,d1⟩|exact k8|exact k9)
         (first
         |(go_at_call 80;refine(PC1 _).mono ?_;rintro r w9 ⟨rfl,hg⟩;have xE:Below w8.heap.size w8 w9:=(by first|exact hg.below|exact dJ hg.below);have D9:=Al (D5.1.on xE);have k8:w9.cell? ⟨b,off+(k-1)*3,none⟩=some (.string y.n)∧w9.cell? ⟨b,off+(k-1)*3+1,none⟩=some (.string y.v)∧w9.cell? ⟨G,0,none⟩=some (.string s1)∧w9.cell? ⟨G,1,none⟩=some (.string s2):=⟨(HCC.1 w9 xE).1,(HCC.1 w9 xE).2.1,(D9.1.cells 0).1,(D9.1.cells 1).1⟩;have hz9:b<w9.heap.size:=jE ni xE.size;clear hg xE)
         |(go_at_call 131;refine(JM q p a2 tn tc TA T l _ e2 16 _ D9.1.dw.rp D9.1.dw.rd Ai).mono ?_;rintro r PH ⟨e9,rfl,hT,hF,hr,hg⟩;have he9:e9=e3:=(hF (by simp[hq1])).trans HE4.1;subst he9;have D10:=Al (D9.1.step hr hg);have hbk:PH.heap[b]? =w9.heap[b]?:=hg.block b hz9 (fun e=>HBP.1 (Oj e));have k9:PH.cell? ⟨b,off+(k-1)*3,none⟩=some (.string y.n)∧PH.cell? ⟨b,off+(k-1)*3+1,none⟩=some (.string y.v)∧PH.cell? ⟨G,0,none⟩=some (.string s1)∧PH.cell? ⟨G,1,none⟩=some (.string s2):=⟨(AU (a:=⟨b,off+(k-1)*3,none⟩) hbk).trans k8.1,(AU (a:=⟨b,off+(k-1)*3+1,none⟩) hbk).trans k8.2.1,(D10.1.cells 0).1,(D10.1.cells 1).1⟩;clear hr hg hT hF hbk))
        go_wp2_with fail;go_meet;exact⟨by rw[hb3];rfl,D10.1⟩
     case rest=>
      obtain⟨rfl,hD6⟩:=hcut;have D6:=Al hD6;clear D5 hD6 kg;have hqs:=D6.1.dw.rp.lt;by_cases h3:e3=0
      ·subst h3;obtain⟨Y,hY⟩:∃Y,Pe.fE l bnd a2=Y:=⟨_,rfl⟩
       have SR:=Al (Gi q p a2 tn tc bnd TA T l wc D6.1.dw.rp D6.1.dw.rd HBD.1 (by rw[←HN.1];exact HL9.1));have YD:=Al (ZX.1 Y rfl hY);have acJ:=Al (HOK.1 Y rfl hY);rw[hY]at SR;clear hY;obtain⟨sr,a4,e4⟩:=Y;simp only[]at SR YD acJ;go_upto_region 13 with(go_at_call 132;refine SR.1.mono ?_;rintro r PI ⟨A8,n8,c8,rfl,ho,hr,hg⟩;have O8:=Al (show aO PI 0 A8 n8 c8 sr from bK ho (bf _));have D7:=Al (D6.1.step hr hg);obtain⟨y2,f2⟩:=D7.1.cells 2;clear ho hr hg SR)
       have D8:=Al (D7.1.set 2 (.slice A8 n8 c8));have O9:=Al (show aO (PI.setCell ⟨G,2,none⟩ (.slice A8 n8 c8)) 0 A8 n8 c8 sr from uu O8.1 (uw O8.1 D7.1.box Ai) D7.1.box);clear D6 D7 y2 f2 O8;generalize PI.setCell ⟨G,2,none⟩ (.slice A8 n8 c8)=Zl at*;have D8:Kept (Db w Zl q p TA tn tc T l A2 k c2 acc a4 e4 G #[.string s1,.string s2,.slice A8 n8 c8]):=D8;have ak5:=D8.1.dw.rp.lt;have hpq:=D8.1.dw.rp.2.1;have hwp:=D8.1.dw.hp;obtain⟨q0,q1,q2⟩:=D8.1.dw.rp.cells;have z0:Zl.cell? ⟨G,0,none⟩=some (.string s1):=(D8.1.cells 0).1;have z1:Zl.cell? ⟨G,1,none⟩=some (.string s2):=(D8.1.cells 1).1;have z2:Zl.cell? ⟨G,2,none⟩=some (.slice A8 n8 c8):=(D8.1.cells 2).1;by_cases h4:e4=0
       ·subst h4;have HX3:=Al (acJ.1 rfl);have HOW:=Al D8.1.dw.own;go_wp2_with (first
         |(at_builtin;refine zm (y:=⟨s1,s2⟩) (s:=sr) rfl (.tmp 63) (.tmp 65) rfl (q+1) A2 k c2 acc rfl HOW.1 _ rfl rfl O9.1 (by have:=HM9.1;omega) om ?_;intro A9 c9 Vf ho9 xE;have O10:=Al ho9;have B10:=Al xE;clear ho9 xE)
         |(go_at_call 120;refine(ay p a4 l 0 _ D8.1.dw.rd).mono ?_;rintro r wE ⟨rfl,Wh⟩;obtain rfl:=Wh))
        go_roundw
        case rel=>
         refine⟨k+1,om,by go_num,A9,c9,_,a4,rfl,⟨O10.1,D8.1.dw.rd.below B10.1 om,⟨(B10.1.block q om).trans D8.1.dw.rp.1,hpq,Rd.below D8.1.dw.rp.2.2 (B10.1.mono om)⟩,D8.1.dw.below.trans (B10.1.mono om),hwp⟩,⟨HX3.1,by simp[HL.1]⟩⟩
        case measure=>simp[intOf];omega
       ·have h4b:(e4==0)=false:=by simpa using h4
        have HX3:=Al (YD.1 h4);obtain⟨F,hF⟩:∃F,Wr.fin l a4 e4=F:=⟨_,rfl⟩
        have Rz:F=e4:=by rw[←hF];exact Pe.zn l a4 h4
        have hFn:(F==0)=false:=by rw[Rz];exact h4b
        have df:Kept (M=([],F)):=⟨by
         have:=HM.1;rw[HX3.1]at this;simp only[]at this;rw[hF,Ps0 (by rw[Rz];exact h4)]at this;exact this⟩
        have HF:=Al hF;have D9:=Al D8.1.dw;clear hF Rz;go_wp2_with (first
         |(go_at_call 120;refine(ay p a4 l e4 _ D9.1.rd).mono ?_;rintro r wE ⟨rfl,Wh⟩;obtain rfl:=Wh)
         |(go_at_call 117;refine(gV p a4 l e4 _ D9.1.rd).mono ?_;rintro r wE ⟨LW,Wh⟩;rw[HF.1]at LW;subst LW;obtain rfl:=Wh))
        go_ret2;refine⟨none,0,0,?_,?_,D9.1.below⟩
        ·rw[df.1];rfl
        ·rw[df.1];exact gL.nil _ _
      ·have h3b:(e3==0)=false:=by simpa using h3
       have HX3:=Al (ZW.1 h3);obtain⟨F,hF⟩:∃F,Wr.fin l a2 e3=F:=⟨_,rfl⟩
       have Rz:F=e3:=by rw[←hF];exact Pe.zn l a2 h3
       have hFn:(F==0)=false:=by rw[Rz];exact h3b
       have df:Kept (M=([],F)):=⟨by
        have:=HM.1;rw[HX3.1]at this;simp only[]at this;rw[hF,Ps0 (by rw[Rz];exact h3)]at this;exact this⟩
       have HF:=Al hF;have D9:=Al D6.1.dw;obtain⟨q0,q1,q2⟩:=D9.1.rp.cells;clear hF Rz;rw[show(!(e3==0))=true by rw[h3b];rfl];go_wp2_with (go_at_call 117;refine(gV p a2 l e3 _ D9.1.rd).mono ?_;rintro r wE ⟨LW,Wh⟩;rw[HF.1]at LW;subst LW;obtain rfl:=Wh);go_ret2;refine⟨none,0,0,?_,?_,D9.1.below⟩
       ·rw[df.1];rfl
       ·rw[df.1];exact gL.nil _ _
    ·obtain rfl:k=m:=by omega
     obtain⟨hd1,hd2⟩:=hd.1;rw[Dz,Pe.LV]at hd1;obtain⟨F,hF⟩:∃F,Wr.fin l at_ 0=F:=⟨_,rfl⟩
     have HF:=Al hF;have UD:=HM.1;rw[hd1]at UD;simp only[]at UD;rw[hF]at UD;clear hd hd1 hd2 hF;by_cases hf:F=0
     ·subst hf;have df:Kept (M=(acc,0)):=⟨by rw[UD];simp⟩
      clear UD;obtain⟨q0,q1,q2⟩:=D.1.rp.cells;go_wp2_with (go_at_call 117;refine(gV p at_ l 0 _ D.1.rd).mono ?_;rintro r wE ⟨LW,rfl⟩;rw[HF.1]at LW;subst LW);go_ret2;refine⟨A2,k,c2,?_,?_,D.1.below⟩
      ·rw[df.1];rfl
      ·rw[df.1];exact D.1.own.rd
     ·have Fx:(F==0)=false:=by simpa using hf
      have df:Kept (M=([],F)):=⟨by rw[UD,Ps0 hf]⟩
      clear UD;obtain⟨q0,q1,q2⟩:=D.1.rp.cells;go_wp2_with (go_at_call 117;refine(gV p at_ l 0 _ D.1.rd).mono ?_;rintro r wE ⟨LW,rfl⟩;rw[HF.1]at LW;subst LW);go_ret2;refine⟨none,0,0,?_,?_,D.1.below⟩
      ·rw[df.1];rfl
      ·rw[df.1];exact gL.nil _ _
  ·have hm0:=hcz he0;subst hm0;rw[Ps0 he0]at hX2;obtain⟨F,hF⟩:∃F,Wr.fin l a0 e0=F:=⟨_,rfl⟩
   have Rz:F=e0:=by rw[←hF];exact Pe.zn l a0 he0
   have hFn:(F==0)=false:=by rw[Rz];simpa using he0
   have df:Kept (M=([],F)):=⟨by
    have:=HM.1;rw[hX2]at this;simp only[]at this;rw[hF,Ps0 (by rw[Rz];exact he0)]at this;exact this⟩
   have HF:=Al hF;clear hF Rz hX2 hcz hcl HX;go_upto_region 6 with(go_at_call 129;refine CN.1.mono ?_;rintro r w3 ⟨rfl,hr,hg⟩;have D9:=Al (D0.1.step hr hg);clear hr hg)
   go_loopw [9,24] (fun o i wr=>o= .slice none 0 0∧i= .int .i64 0∧wr=w3) (fun _ i _=>1)
   case atStart=>exact⟨rfl,rfl,rfl⟩
   case round=>
    obtain⟨rfl,rfl,hw⟩:=hrel;obtain rfl:=hw.symm;obtain⟨q0,q1,q2⟩:=D9.1.rp.cells;go_wp2_with (go_at_call 117;refine(gV p a0 l e0 _ D9.1.rd).mono ?_;rintro r wE ⟨LW,Wh⟩;rw[HF.1]at LW;subst LW;obtain rfl:=Wh);go_ret2;refine⟨none,0,0,?_,?_,D9.1.below⟩
    ·rw[df.1];rfl
    ·rw[df.1];exact gL.nil _ _
end
end
end Go.Proofs.YtongopommlghgaaGreatDoor
