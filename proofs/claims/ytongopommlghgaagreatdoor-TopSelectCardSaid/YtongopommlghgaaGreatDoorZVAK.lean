/- Part 11. -/
import Derived.Test.YtongopommlghgaaGreatDoorZVAI
import Derived.Test.YtongopommlghgaaGreatDoorZVAJ
namespace Go.Proofs.YtongopommlghgaaGreatDoor
set_option maxRecDepth 100000
set_option maxHeartbeats 0
open _root_.Go.Proofs.Tryz
section
section
open Go.RowKit Go.Shelf Go.Sort
theorem jW {w ops rest o a Q y s A1 n1 c1} (hgd:Region.wanted o (yielded ops a.tmps)=true) (p q)
  (ho:o.op= .call {callee:= .builtin .append,args:= #[p,q],argTypes:= #[83,83]})
  (base A n c es) (hp:a.eval p= .slice A n c) (hown:aP 163 w base A n c es)
  (g) (hq:a.eval q= .slice (some ⟨g,0,none⟩) 1 1) (hgz:g=w.heap.size) (hS:ax w 0 A1 n1 c1 s)
  (hlen:n≤1000000000) (hbase:base≤w.heap.size)
  (h:∀A2 c2 w',aP 163 w' base A2 (n+1) c2 (es++[(y,s)])→Below base w w'→wpList prog ops Q rest (a.put o.dst (.slice A2 (n+1) c2)) w'):
  wpList prog ops Q (o::rest) a (w.alloc (.cells #[.string y.n,.string y.v,.slice A1 n1 c1] 163)):=by
 obtain⟨i0,hi0,hz0,hz1,hz2⟩:=AV Sb;obtain⟨hs,h1,h2,h3⟩:=hown;subst hgz;refine aR _ hgd p q _ ho base 163 i0 _ 3 56 underlying83 hi0 hz0 hz1 hz2 rfl Ah A n c _ hp (Oa h2 _) _ _ 1 1 _ hq (Rd.Wv w (.string y.n) (.string y.v) (.slice A1 n1 c1) _) (by simp[Value.oneCell']) (by unfold maxLen;omega) om (by simp;omega) ?_;intro A2 c2 w' hown2 hg hat;exact h A2 c2 w' (aP.YQ Ah h1 h2 h3 hS hg hown2) (((Ae _ w).alloc hbase _).grown hg (by simp;omega) (fun g e=>(ae h2 g e).1))
theorem aP.aae {w b1 b2 n c A es t} (h:aP t w b1 A n c es) (hb:b2≤b1):aP t w b2 A n c es:=by
 obtain⟨hs,h1,h2,h3⟩:=h;exact⟨hs,h1,aC h2 hb,h3⟩
theorem ig {w w' base n c A l} (h:ax w base A n c l) (hb:Below w.heap.size w w'):ax w' base A n c l:=aN h hb
end
end
section
section
open Go.RowKit Go.Shelf
namespace Pe
def gap:Int→List Int→List UInt8
 |_,[]=>[]
 |a,x::r=>Vi.enc (x-a).toNat++gap x r
def Up:Int→List Int→Prop
 |_,[]=>True
 |a,x::r=>a≤x∧x<9223372036854775808∧Up x r
def Gn (T:List ByteArray) (e:dV):Bool:=(Sy.idx T e.1.n).isSome&& (Sy.idx T e.1.v).isSome
def gY (T:List ByteArray) (e:dV):List UInt8:=Rc.dU T e.1.n++Rc.dU T e.1.v++(Vi.enc e.2.length++gap 0 e.2)
def aM (T:List ByteArray) (E:List dV):List UInt8:=Vi.enc E.length++E.flatMap (gY T)
def enc (T:List ByteArray) (E:List dV):List UInt8×Int:=if E.all (Gn T)=true then(aM T E,0)else([],14)
theorem Up.get:∀{l:List Int} {a:Int} (_:Up a l) {k:Nat} (hk:k<l.length),(a::l)[k]'(by simp;omega)≤l[k]∧l[k]<9223372036854775808
 |x::r,a,h,0,_=>⟨h.1,h.2.1⟩
 |x::r,a,h,k+1,hk=>by
  have:=Up.get (a:=x) h.2.2 (k:=k) (by simpa using hk);simpa using this
theorem Up.nn:∀{l} {a} (_:Up a l) (_:0≤a) {k} (hk:k<l.length+1),0≤(a::l)[k]'(by simpa using hk)
 |[],a,_,h0,0,_=>h0
 |x::r,a,_,h0,0,_=>h0
 |x::r,a,h,h0,k+1,hk=>by
  have:=Up.nn (a:=x) h.2.2 (by have:=h.1;omega) (k:=k) (by simpa using hk);simpa using this
theorem aaf {l:List Int} {a:Int} {k:Nat} (hk:k<l.length):gap ((a::l)[k]'(by simp;omega)) (l.drop k)=Vi.enc (l[k]-(a::l)[k]'(by simp;omega)).toNat++gap ((a::l)[k+1]'(by simp;omega)) (l.drop (k+1)):=by
 rw[o9 hk,gap,BZ]
end Pe
structure Be (w W:World) (A:Option Addr) (n c:Nat) (l:List UInt8) (G H:Nat) (x y:ByteArray) (u:Value):Prop where
 own:ah W w.heap.size A n c l
 below:Below w.heap.size w W
 box:W.heap[G]? =some (.cells #[.string x,.string y,u] 163 (0,0))
 strs:W.heap[H]? =some (.cells #[.string x,.string y] 9 (0,0))
theorem Be.cells {w W A n c G H l x y u} (h:Be w W A n c l G H x y u):
  W.cell? ⟨G,0,none⟩=some (.string x)∧W.cell? ⟨G,1,none⟩=some (.string y)∧W.cell? ⟨G,2,none⟩=some u∧W.cell? ⟨H,0,none⟩=some (.string x)∧W.cell? ⟨H,1,none⟩=some (.string y):=
 ⟨fC W G 0 _ _ _ h.box,fC W G 1 _ _ _ h.box,fC W G 2 _ _ _ h.box,fC W H 0 _ _ _ h.strs,fC W H 1 _ _ _ h.strs⟩
theorem Be.drewN {w W A n c G H l x y u} (h:Be w W A n c l G H x y u) (q):Be w (W.drewN q) A n c l G H x y u:=
 ⟨h.own,below_drewN h.below q,h.box,h.strs⟩
theorem JZ {w W A} {n c G H k:Nat} {l x y u} (h:Be w W A n c l G H x y u) (hx:k<18446744073709551616) (hn:n≤140737488355000):
  Calls prog 145 #[.slice A n c,.int .u64 (k:Int)] W fun e w'=>∃A3 n3 c3,e= .returned (.slice A3 n3 c3)∧Be w w' A3 n3 c3 (l++Vi.enc k) G H x y u:=
 (dA A n c w.heap.size k l W h.own h.below.size hx hn).mono fun e w' ⟨A3,n3,c3,h1,h2,h3,_⟩=>
  ⟨A3,n3,c3,h1,h2,h.below.trans (aH h.own h.below.size h3),
   (h3.block G (Ge.1 h.box).1 (Ne.symm (h.own.JL h.box Ah))).trans h.box,
   (h3.block H (Ge.1 h.strs).1 (Ne.symm (h.own.JL h.strs Ah))).trans h.strs⟩
theorem WI {a x} (h0:0≤a) (h1:a≤x) (h2:x<9223372036854775808):∃g:Nat,(x-a).toNat=g∧IntKind.i64.wrap (x-a)=(g:Int)∧IntKind.u64.wrap (g:Int)=(g:Int)∧g<18446744073709551616:=by
 refine⟨(x-a).toNat,rfl,?_,?_,om⟩
 ·rw[Int.toNat_of_nonneg om];simp[IntKind.wrap,IntKind.bits,IntKind.signed];omega
 ·exact wrap_u64 _ om om
theorem J3 {w w' base n c A l} (h:ax w base A n c l) (hb:Below w.heap.size w w'):ax w' base A n c l:=aN h hb
theorem Gp (TA A tn tc n c T es w) (hT:bK w w.heap.size TA tn tc T) (hS:Sy.iO T) (hv:cZ w w.heap.size A n c es) (htn:tn≤1000000)
  (hn:n≤1000000) (hr:∀e∈es,e.2.length≤1000000∧Pe.Up 0 e.2) (hsz:(Pe.aM T es).length≤1000000000):
  Calls prog 88 #[.slice TA tn tc,.slice A n c] w fun e w'=>∃A3 n3 c3,e= .returned (.tuple #[.slice A3 n3 c3,.int .i64 (Pe.enc T es).2])∧ah w' w.heap.size A3 n3 c3 (Pe.enc T es).1∧Below w.heap.size w w':=by
 obtain⟨hlc,hcm⟩:=hv.cap;unfold maxLen at hcm;have HN:=Aj hv.len;have V:=Aj hv;have VT:=Aj hT;have HR:=Aj hr;have HS:=Aj hS;obtain⟨M,hM⟩:∃M,M=Pe.enc T es:=⟨_,rfl⟩
 rw[←hM];obtain⟨E,hE⟩:∃E,E=Pe.aM T es:=⟨_,rfl⟩
 rw[←hE]at hsz;have HE:=Aj hE;have HM:Kept (M=if es.all (Pe.Gn T)=true then(E,0)else([],14)):=⟨by rw[hM,hE];rfl⟩
 have SZ:=Aj hsz;have hwn:=wrap_u64 (n:Int) om om;clear hv hT hr hM hE hS hsz;go_enter func88,ntmps88;go_upto_region 3 with(go_at_call 145;refine(dA none 0 0 w.heap.size n [] _ (ah.nil _ _) Ai om om).mono ?_;rintro e w1 ⟨A1,n1,c1,rfl,ho1,hg1,-⟩;have O1:=Aj ho1;have B1:=Aj (aH (ah.nil w w.heap.size) Ai hg1);clear ho1 hg1)
 go_loopw [6,22] (fun b i wr=>∃k:Nat,k≤n∧i= .int .i64 k∧∃(A2:Option Addr) (n2 c2:Nat) (bl:List UInt8),b= .slice A2 n2 c2∧ah wr w.heap.size A2 n2 c2 bl∧Below w.heap.size w wr∧Kept (bl++(es.drop k).flatMap (Pe.gY T)=E∧es.all (Pe.Gn T)=(es.drop k).all (Pe.Gn T))) (fun _ i _=>n-(intOf i).toNat)
 case atStart=>exact⟨0,om,rfl,A1,n1,c1,_,rfl,O1.1,B1.1,⟨by rw[HE.1,Pe.aM,HN.1];simp,rfl⟩⟩
 case round=>
  clear O1 B1;obtain⟨k,hk,rfl,A2,n2,c2,bl,rfl,ho,hb,hd⟩:=hrel;by_cases hlt:k<n
  ·have hkl:k<es.length:=by rw[←HN.1];exact hlt
   obtain⟨b,off,A3,n3,c3,rfl,kK,hL,hc⟩:=V.1.cells Ai hkl;obtain⟨r0,r1,r2⟩:=hc wr hb;obtain⟨h6a,h6b⟩:=HR.1 _ (gG hkl);have hdg:=Rc.kY es k hkl;have hd1:=hd.1.1;have hd2:=hd.1.2;rw[hdg]at hd1 hd2;rw[Au]at hd1;rw[List.all_cons]at hd2;unfold Pe.gY at hd1;clear hd hdg hc;obtain⟨R,hRR⟩:∃R,R=(es.drop (k+1)).flatMap (Pe.gY T):=⟨_,rfl⟩
   have HRR:=Aj hRR;unfold Pe.gY at hRR;rw[←hRR]at hd1;clear hRR;obtain⟨Q,hQQ⟩:∃Q,Q=(es.drop (k+1)).all (Pe.Gn T):=⟨_,rfl⟩
   have HQQ:=Aj hQQ;rw[←hQQ]at hd2;clear hQQ;generalize es[k]=ek at*;obtain⟨⟨xn,xv⟩,s⟩:=ek;simp only[]at hL h6a h6b hd1 hd2 r0 r1 r2;have HL:=Aj hL;have hl3:=ax.len hL;have hc3:=(ax.rd hL).1;have FV:=(ax.rd hL).2.1;unfold maxLen at FV;have h36:n3≤1000000:=om;have hw3:=wrap_u64 (n3:Int) om om;have H3:=Aj hl3;have UP:=Aj h6b;have hbz:=hb.size;obtain⟨TL,hTL⟩:∃TL,TL=Vi.enc s.length++(Pe.gap 0 s++R):=⟨_,rfl⟩
   have D1:Kept (bl++(([xn,xv]:List ByteArray).flatMap (Rc.dU T)++TL)=E):=⟨by rw[←hd1,hTL];simp⟩
   have D2:Kept (es.all (Pe.Gn T)=(([xn,xv]:List ByteArray).all (fun z=>(Sy.idx T z).isSome)&&Q)):=⟨by rw[hd2];simp[Pe.Gn]⟩
   have HTL:=Aj hTL;have X1:Kept (Be w ((wr.alloc (.cells #[.string xn,.string xv,.slice A3 n3 c3] 163)).alloc (.cells #[.string xn,.string xv] 9)) A2 n2 c2 bl wr.heap.size (wr.heap.size+1) xn xv (.slice A3 n3 c3)):=
    ⟨⟨Oa (Oa ho _) _,(hb.alloc hbz _).alloc (by simp;omega) _,
     (Aw _ _ _ sm).trans (Av wr _),by
      have:=Av (wr.alloc (.cells #[.string xn,.string xv,.slice A3 n3 c3] 163)) (.cells #[.string xn,.string xv] 9);rw[AU]at this;exact this⟩⟩
   clear hd1 hd2 hl3 hTL hL ho hb h6a h6b;go_upto_region 6 with(fail)
   clear r0 r1 r2 hbz;generalize (wr.alloc (.cells #[.string xn,.string xv,.slice A3 n3 c3] 163)).alloc (.cells #[.string xn,.string xv] 9)=w2 at*;generalize wr.heap.size+1=H at*;generalize wr.heap.size=G at*;go_loopw [6,34] (fun b j wi=>∃i:Nat,i≤2∧j= .int .i64 i∧∃(A7:Option Addr) (n7 c7:Nat) (bm:List UInt8),b= .slice A7 n7 c7∧Be w wi A7 n7 c7 bm G H xn xv (.slice A3 n3 c3)∧Kept (bm++((([xn,xv]:List ByteArray).drop i).flatMap (Rc.dU T)++TL)=E∧es.all (Pe.Gn T)=((([xn,xv]:List ByteArray).drop i).all (fun z=>(Sy.idx T z).isSome)&&Q))) (fun _ j _=>2-(intOf j).toNat)
   case atStart=>exact⟨0,om,rfl,A2,n2,c2,bl,rfl,X1.1,⟨D1.1,D2.1⟩⟩
   case round=>
    clear X1 D1 D2;obtain⟨i,hi,rfl,A7,n7,c7,bm,rfl,hx,hd⟩:=hrel;have U6:n7≤1000000000:=by
     have h1:=hx.own.len;have h2:=SZ.1;rw[←hd.1.1]at h2;simp at h2;omega
    by_cases hlt2:i<2
    ·have hil:i< ([xn,xv]:List ByteArray).length:=hlt2;have z0:wr.cell? ⟨H,i,none⟩=some (.string ([xn,xv]:List ByteArray)[i]):=by
      obtain⟨-,-,-,h3,h4⟩:=hx.cells
      match i,hil with
      |0,_=>exact h3
      |1,_=>exact h4
     have hd1:=hd.1.1;have hd2:=hd.1.2;rw[Rc.kY _ i hil]at hd1 hd2;rw[Au]at hd1;rw[List.all_cons]at hd2;have X:=Aj hx;have SI:=fun s=>Aj (tZ TA tn tc T s wr ((VT.1.below hx.below).more hx.below.size) HS.1 htn)
     have hsT:Rc.dU T ([xn,xv]:List ByteArray)[i]=Vi.enc ((Sy.idx T ([xn,xv]:List ByteArray)[i]).getD 0):=rfl;rw[hsT]at hd1;have V7:=SI ([xn,xv]:List ByteArray)[i];have Z6:=fun k (h:Sy.idx T ([xn,xv]:List ByteArray)[i]=some k)=>Sy.jv h
     clear hx SI hsT hd;generalize ([xn,xv]:List ByteArray)[i]=s2 at*;generalize Sy.idx T s2=o at*;cases o with
     |none=>
      simp only[Option.isSome_none,Option.getD_none]at V7;have dz:Kept (M=([],14)):=⟨by rw[HM.1,hd2];simp⟩
      clear hd1 hd2 Z6;go_wp2_with (go_at_call 147;refine V7.1.mono ?_;rintro e w4 ⟨rfl,q,rfl⟩);go_ret2;refine⟨none,0,0,?_,?_,below_drewN X.1.below q⟩
      ·rw[dz.1];rfl
      ·rw[dz.1];exact ah.nil _ _
     |some k2=>
      obtain⟨hk2,-,-⟩:=Z6 k2 rfl;have hk3:k2≤1000000:=by have:=VT.1.len;omega
      have hwk:=wrap_u64 (k2:Int) om om;simp only[Option.isSome_some,Dq]at V7 hd1;have HD:Kept (bm++Vi.enc k2++((([xn,xv]:List ByteArray).drop (i+1)).flatMap (Rc.dU T)++TL)=E∧es.all (Pe.Gn T)=((([xn,xv]:List ByteArray).drop (i+1)).all (fun z=>(Sy.idx T z).isSome)&&Q)):=⟨by rw[←hd1];simp,by rw[hd2];simp⟩
      clear hd1 hd2 Z6 hk2;go_wp2_with (first
       |(go_at_call 147;refine V7.1.mono ?_;rintro e w4 ⟨rfl,q,rfl⟩;have X4:=Aj (X.1.drewN q))
       |(go_at_call 145;refine(JZ X4.1 om om).mono ?_;rintro e w5 ⟨A8,n8,c8,rfl,hx⟩;have X5:=Aj hx;clear hx))
      go_roundw
      case rel=>exact⟨i+1,om,by go_num,A8,n8,c8,_,rfl,X5.1,HD⟩
      case measure=>simp[intOf];omega
    ·obtain rfl:i=2:=by omega
     have hd1:=hd.1.1;have hd2:=hd.1.2;simp only[AY,List.drop_nil,Dp,AA,List.all_nil,Bool.true_and]at hd1 hd2;rw[HTL.1]at hd1;have D3:Kept (bm++Vi.enc n3++(Pe.gap 0 s++R)=E):=⟨by rw[←hd1,H3.1];simp⟩
     have D4:Kept (es.all (Pe.Gn T)=(es.drop (k+1)).all (Pe.Gn T)):=⟨by rw[hd2,HQQ.1]⟩
     have X:=Aj hx;obtain⟨y0,y1,y2,-,-⟩:=hx.cells;clear hd hd1 hd2 hx;go_upto_region 16 with(go_at_call 145;refine(JZ X.1 om om).mono ?_;rintro e w5 ⟨A8,n8,c8,rfl,hx⟩;obtain⟨x0,x1,x2,-,-⟩:=hx.cells;have X5:=Aj hx;clear hx X)
     clear y0 y1 y2 x0 x1 x2;go_loopw [6,13,60] (fun b la j wi=>∃i:Nat,i≤n3∧j= .int .i64 i∧∃(a:Int) (A7:Option Addr) (n7 c7:Nat) (bm:List UInt8),la= .int .i64 a∧b= .slice A7 n7 c7∧Be w wi A7 n7 c7 bm G H xn xv (.slice A3 n3 c3)∧Kept ((0::s)[i]? =some a∧bm++(Pe.gap a (s.drop i)++R)=E)) (fun _ _ j _=>n3-(intOf j).toNat)
     case atStart=>exact⟨0,om,rfl,0,A8,n8,c8,_,rfl,rfl,X5.1,⟨rfl,D3.1⟩⟩
     case round=>
      clear X5 D3 U6;obtain⟨i2,hi2,rfl,a,A7,n7,c7,bm,rfl,rfl,hx,hd⟩:=hrel;have hd1:=hd.1.2;have hda:=hd.1.1;have U6:n7≤1000000000:=by
       have h1:=hx.own.len;have h2:=SZ.1;rw[←hd1]at h2;simp at h2;omega
      clear hd;by_cases hlt3:i2<n3
      ·have hil:i2<s.length:=by rw[←H3.1];exact hlt3
       have hS2:=ax.rd (J3 HL.1 hx.below);obtain⟨b4,Z8,rfl,-,z0⟩:=hS2.at_ hil;have af2:i2< (0::s).length:=by simp;omega
       have haa:(0::s)[i2]=a:=by rw[ja af2]at hda;exact Oj hda
       have hup:=Pe.Up.get UP.1 hil;have hnn:=Pe.Up.nn UP.1 (Int.le_refl 0) (k:=i2) om;have hga:=Pe.aaf (a:=0) hil;rw[haa]at hup hnn hga;rw[hga]at hd1;have hnx:(0::s)[i2+1]? =some s[i2]:=by simp[hil]
       rw[BZ]at hd1;have X:=Aj hx;clear hx hS2 hga haa hda;generalize s[i2]=x at*;obtain⟨g,hg,hs1,hs2,hs3⟩:=WI hnn hup.1 hup.2;rw[hg]at hd1;have HD:Kept ((0::s)[i2+1]? =some x∧bm++Vi.enc g++(Pe.gap x (s.drop (i2+1))++R)=E):=⟨hnx,by rw[←hd1];simp⟩
       clear hg;clear hd1 hnx hup hnn;go_wp2_with (go_at_call 145;refine(JZ X.1 hs3 om).mono ?_;rintro e w5 ⟨A8,n8,c8,rfl,hx⟩;have X5:=Aj hx;clear hx);go_roundw
       case rel=>exact⟨i2+1,om,by go_num,x,A8,n8,c8,_,rfl,rfl,X5.1,HD⟩
       case measure=>simp[intOf];omega
      ·obtain rfl:i2=n3:=by omega
       have X:=Aj hx;rw[ru (by have:=H3.1;omega),Pe.gap,AA,HRR.1]at hd1;have D5:Kept (bm++(es.drop (k+1)).flatMap (Pe.gY T)=E∧es.all (Pe.Gn T)=(es.drop (k+1)).all (Pe.Gn T)):=⟨hd1,D4.1⟩
       clear hx hda hd1;go_wp2;go_roundw
       case rel=>exact⟨k+1,om,by go_num,A7,n7,c7,bm,rfl,X.1.own,X.1.below,D5⟩
       case measure=>simp[intOf];omega
  ·obtain rfl:k=n:=by omega
   have hd1:=hd.1.1;have hd2:=hd.1.2;rw[ru (by have:=HN.1;omega)]at hd1 hd2;rw[Dp,Bh]at hd1;have dz:Kept (M=(E,0)):=⟨by rw[HM.1,hd2];rfl⟩
   have O:=Aj ho;have HB:=Aj hb;have HD1:=Aj hd1;clear ho hb hd hd1 hd2;go_wp2;go_ret2;refine⟨A2,n2,c2,?_,?_,HB.1⟩
   ·rw[dz.1];rfl
   ·rw[dz.1];show ah _ _ _ _ _ E;rw[←HD1.1];exact O.1
end
end
section
section
open Go.RowKit Go.Shelf
open Go.ChangeMaps (setBlock heap_setBlock_same heap_setBlock_other)
def Rows (w:World) (base:Nat) (zs:List (aQ×Value)) (es:List dV):Prop:=
 zs.length=es.length∧∀(i:Nat) (h1:i<zs.length) (h2:i<es.length),zs[i].1=es[i].1∧∃A n c,zs[i].2= .slice A n c∧ax w base A n c es[i].2∧
  ∀(j:Nat) (_:j<zs.length) A' n' c',j≠i→zs[j].2= .slice A' n' c'→ab A=none∨ab A≠ab A'
theorem Rows.keys {w base zs es} (h:Rows w base zs es):zs.map (·.1)=es.map (·.1):=by
 apply DD (by simp[h.1]);intro i h1 h2;simp only[Ey];exact(h.2 i (by simpa using h1) (by simpa using h2)).1
theorem Rows.nil (w base):Rows w base [] []:=⟨rfl,fun i h=>by simp at h⟩
theorem Rows.kept {w w' base zs es row} (h:Rows w base zs es) (hg:w.grownBy w' row)
  (hr:∀r,row=some r→∃o:Obj,w.heap[r]? =some o∧o.isCells=false):Rows w' base zs es:=by
 refine⟨h.1,fun i h1 h2=>?_⟩;obtain⟨e,A,n,c,e2,o,ap⟩:=h.2 i h1 h2;exact⟨e,A,n,c,e2,eQ o hg (fun r e=> .inr (hr r e)),ap⟩
theorem iG {w:World} {b} (o):w.grownBy (setBlock w b o) (some b):=by
 refine⟨rfl,rfl,rfl,by simp[setBlock],fun i _ hi=>?_⟩;show(w.heap.setIfInBounds b o)[i]? =_;rw[Array.getElem?_setIfInBounds_ne];exact fun e=>hi (by rw[e])
theorem Rows.grow {w w1 w2 base zs es} (h:Rows w base zs es) {i} (h1:i<zs.length) (h2:i<es.length) {A A4 n c c4} (e:zs[i].2= .slice A n c)
  (hw1:w.grownBy w1 Option.none) (hg:w1.grownBy w2 (ab A)) (hat:ab A4=ab A∨ab A4=some w1.heap.size) {v} (ho:ax w2 base A4 (n+1) c4 (es[i].2++[v])):
  Rows w2 base (zs.set i (zs[i].1,.slice A4 (n+1) c4)) (es.set i (es[i].1,es[i].2++[v])):=by
 have kA:∀{A':Option Addr} {n' c':Nat} {l':List Int},ax w base A' n' c' l'→ax w1 base A' n' c' l':=fun h=>ag h hw1 (by rcases hq:ab _ with _|g;exact .inl rfl;exact .inr sm)
 have hsz:=hw1.size;obtain⟨ek,A0,n0,c0,e0,o0,ap0⟩:=h.2 i h1 h2;rw[e]at e0
 injection e0 with e1 e2 e3
 subst e1;subst e2;subst e3;refine⟨by simp[h.1],fun j hj1 hj2=>?_⟩;have WA:j<zs.length:=by simpa using hj1
 have af3:j<es.length:=by simpa using hj2
 simp only[List.getElem_set];by_cases hij:i=j
 ·subst hij;simp only[if_true];refine⟨ek,A4,n+1,c4,rfl,ho,fun k hk A' n' c' hne hk2=>?_⟩;have hk':k<zs.length:=by simpa using hk
  rw[Ng (fun e=>hne e.symm)]at hk2;rcases hat with h4|h4
  ·rw[h4];exact ap0 k hk' A' n' c' hne hk2
  ·rw[h4];refine .inr fun e=>?_
   obtain⟨_,A5,n5,c5,e5,o5,_⟩:=h.2 k hk' (by rw[←h.1];exact hk');rw[hk2]at e5
   injection e5 with e6
   subst e6;have h5:=(ae o5 _ e.symm).2;omega
 ·simp only[Ng hij];obtain⟨ek',A',n',c',e',o',ap'⟩:=h.2 j WA af3;have hap:ab A'=Option.none∨ab A'≠ab A:=ap' i h1 A n c hij e;refine⟨ek',A',n',c',e',ag (kA o') hg hap,fun k hk A5 n5 c5 hne hk2=>?_⟩;have hk':k<zs.length:=by simpa using hk
  by_cases hik:i=k
  ·subst hik;simp only[if_true]at hk2
   injection hk2 with e6
   subst e6;rcases hat with h4|h4
   ·rw[h4];exact hap
   ·rw[h4];rcases hq:ab A' with _|g
    ·exact .inl rfl
    ·refine .inr fun e=>?_
     have h5:=(ae o' g hq).2;have h6:g=w1.heap.size:=by simpa using e
     omega
  ·rw[Ng hik]at hk2;exact ap' k hk' A5 n5 c5 hne hk2
theorem Rows.push {w base zs es} (h:Rows w base zs es) (x):Rows w base (zs++[(x,.slice Option.none 0 0)]) (es++[(x,[])]):=by
 refine⟨by simp[h.1],fun i h1 h2=>?_⟩;by_cases hlt:i<zs.length
 ·have hlt2:i<es.length:=by rw[←h.1];exact hlt
  obtain⟨e,A,n,c,e2,o,ap⟩:=h.2 i hlt hlt2;rw[tK hlt,tK hlt2];refine⟨e,A,n,c,e2,o,fun j hj A' n' c' hne hj2=>?_⟩;by_cases hjl:j<zs.length
  ·rw[tK hjl]at hj2;exact ap j hjl A' n' c' hne hj2
  ·have:j=zs.length:=by simp at hj;omega
   subst this;simp at hj2;rw[←hj2.1];rcases hq:ab A with _|g
   ·exact .inl rfl
   ·exact .inr (by simp[ab])
 ·have hi:i=zs.length:=by simp at h1;omega
  subst hi;refine⟨by simp[h.1],Option.none,0,0,sm,?_,fun j hj A' n' c' _ _=> .inl rfl⟩;have:(es++[(x,[])])[zs.length]'h2=(x,[]):=by simp[h.1]
  rw[this];exact AX _ _ _ _
end
section
open Go.RowKit Go.Shelf
open Go.ChangeMaps (setBlock heap_setBlock_same heap_setBlock_other)
namespace Ps
theorem Mm:∀(M N) (k),fu (M++N) k=fu M k++fu N (k+M.length)
 |[],N,k=>by simp[fu]
 |m::M,N,k=>by
  rw[Bb,fu,Mm M N (k+1),fu,Af,Lc,show k+1+M.length=k+(M.length+1)from om]
theorem Su (M:List (List aQ)) {k} (h:k<M.length):fu (M.take (k+1)) 0=fu (M.take k) 0++M[k].map (fun x=>(x,(k:Int))):=by
 rw[Ts h,Mm];have:(M.take k).length=k:=by rw[oV];omega
 rw[this];simp[fu]
theorem l6:∀(M) (k),(fu M k).length≤wt M
 |[],_=>by simp[fu]
 |m::M,k=>by
  have:=l6 M (k+1);simp only[fu,wt,La,fM,Az,AZ]at this⊢;omega
theorem Mo (M k):wt (M.take k)≤wt M:=by
 unfold wt
 conv=>rhs;rw[←jJ k M,dR,Dv]
 omega
theorem Mq (x P):(fq x P).length≤P.length:=by
 unfold fq;rw[fM];exact Dm _ _
theorem Qf.len {P es} (h:Qf P es) (hd:(es.map (·.1)).Nodup):es.length≤P.length:=by
 have:=cu _ _ hd (fun x hx=>(h.1 x).1 hx);simpa using this
end Ps
theorem Ou {w ops o a K Q E} (hgd:o.guard=none) (s x)
  (ho:o.op= .call {callee:= .builtin .append,args:= #[s,x],argTypes:= #[83,83]})
  (base A n c xs) (hs:a.eval s= .slice A n c) (hown:w.ownsRow base 163 3 (.slice A n c) n xs)
  (B S news) (hx:a.eval x= .slice S 1 1) (hr:Rd w B 3 S 1 1 news) (h1:∀u∈news,u.oneCell'=true)
  (hlen:n≤1000000000) (hbase:base≤w.heap.size)
  (h:∀A2 c2 w',w'.ownsRow base 163 3 (.slice A2 (n+1) c2) (n+1) (xs++news)→w.grownBy w' (ab A)→(ab A2=ab A∨ab A2=some w.heap.size)→K (a.put o.dst (.slice A2 (n+1) c2)) w'):
  if Region.wanted o (yielded ops a.tmps)=true then Oper.wp prog o a w K Q else E:=by
 have hw:Region.wanted o (yielded ops a.tmps)=true:=by simp[Region.wanted,hgd]
 rw[Ps0 hw];obtain⟨i0,hi0,hz0,hz1,hz2⟩:=AV Sb;exact mO w s x _ ho base 163 i0 _ 3 56 underlying83 hi0 hz0 hz1 hz2 rfl Ah A n c xs hs hown B S 1 1 news hx hr h1 (by unfold maxLen;omega) om hbase h
def BIn (w0:World) (b:Nat) (P:List (aQ×Int)) (w:World):Prop:=
 ∃zs es,bg w b zs∧Rows w w0.heap.size zs es∧Ps.Qf P es∧Below w0.heap.size w0 w
theorem BIn.start (w):BIn w w.heap.size [] (w.alloc (.map #[] 0)):=⟨[],[],bg.made w,Rows.nil _ _,Ps.Qf.nil,(Ae _ w).alloc Ai _⟩
theorem qf (A n c M w) (hv:jV w w.heap.size A n c M) (hs:Ps.Sets M):
  Calls prog 37 #[.slice A n c] w fun r w'=>∃A2 n2 c2 E,r= .returned (.slice A2 n2 c2)∧Ps.rD (Ps.fu M 0) E∧aP 163 w' w.heap.size A2 n2 c2 E∧Below w.heap.size w w':=by
 have hcc:=hv.cap;have hlc:=hcc.1;have hcm:=hcc.2;unfold maxLen at hcm;have V:=Aj hv;have hn:=Aj hv.len;have S:=Aj hs;clear hv hs hcc;go_enter func37,ntmps37;have hr0:=run_makeMap (P:=prog) 156 w;go_wp2;have B0:=Aj (BIn.start w);have hb0:w.heap.size< (w.alloc (.map #[] 0)).heap.size:=sm;generalize w.alloc (.map #[] 0)=w1 at*;go_loopw [14] (fun i wr=>∃k:Nat,k≤n∧i= .int .i64 k∧Kept (BIn w w.heap.size (Ps.fu (M.take k) 0) wr)) (fun i _=>n-(intOf i).toNat)
 case atStart=>exact⟨0,om,rfl,⟨by simpa[Ps.fu]using B0.1⟩⟩
 case round=>
  obtain⟨k,hk,rfl,hB⟩:=hrel;by_cases hlt:k<n
  ·have hkl:k<M.length:=by rw[←hn.1];exact hlt
   have hbel:Below w.heap.size w wr:=by obtain⟨_,_,_,_,_,h⟩:=hB.1;exact h
   obtain⟨b,off,A',n',c',rfl,kK,hc0,hrl⟩:=V.1.at_ hkl;have hc:=(hbel.cell (p:=⟨b,off+k,none⟩) (by show b<_;omega)).trans hc0;have hpt:=Aj (Ps.Su M hkl);have HP:Kept (∀j,(Ps.fu (M.take k) 0++(M[k].take j).map (fun x=>(x,(k:Int)))).length≤1000000):=⟨fun j=>by
    have h1:=Ps.l6 (M.take (k+1)) 0;have h2:=Ps.Mo M (k+1);have h3:=S.1.2;rw[hpt.1]at h1;simp only[La,fM,oV]at h1⊢;omega⟩
   have hfit:=Aj (S.1.1 _ (gG hkl)).2;have hRL:=Aj (And.intro hrl hrl.len);have hcl:=hrl.1;have Zz:=hrl.2.1;unfold maxLen at Zz;clear hbel hc0 hrl;go_wp2;have hB0:Kept (BIn w w.heap.size (Ps.fu (M.take k) 0++(M[k].take 0).map (fun x=>(x,(k:Int)))) wr):=⟨by simpa using hB.1⟩
   clear hB hc;generalize M[k]=m at*;obtain⟨wo,rfl⟩:∃wo:World,wo=wr:=⟨_,rfl⟩
   go_loopw [21] (fun i wq=>∃j:Nat,j≤n'∧i= .int .i64 j∧Kept (BIn w w.heap.size (Ps.fu (M.take k) 0++(m.take j).map (fun x=>(x,(k:Int)))) wq)) (fun i _=>n'-(intOf i).toNat)
   case atStart=>exact⟨0,om,rfl,hB0⟩
   case round=>
    obtain⟨j,hj,rfl,hB⟩:=hrel;by_cases hlt2:j<n'
    ·have hjl:j<m.length:=by rw[←hRL.1.2];exact hlt2
     obtain⟨zs,es,hm,hr,hi,hb⟩:=hB.1;obtain⟨b2,sS,rfl,hc2⟩:=hRL.1.1.cells Ai hjl;obtain⟨c0,c1⟩:=hc2 wr hb;have hx:jU m[j]:=hfit.1 _ (gG hjl);have ht:Kept (m.take (j+1)=m.take j++[m[j]]):=⟨Ts hjl⟩
     clear hc2 hB;generalize m[j]=x at*;go_upto_region 8 with(fail)
     have hzb:=hm.lt;have WJ:bg (wr.alloc (Obj.cells #[.string x.n,.string x.v] 59)) w.heap.size zs:=hm.at_ (Aw _ _ _ hm.lt);have YS:Rows (wr.alloc (Obj.cells #[.string x.n,.string x.v] 59)) w.heap.size zs es:=hr.kept (Ga _ _ none) (fun r e=>by cases e);have WK:Below w.heap.size w (wr.alloc (Obj.cells #[.string x.n,.string x.v] 59)):=hb.alloc hb.size _;have d0:(wr.alloc (Obj.cells #[.string x.n,.string x.v] 59)).cell? ⟨wr.heap.size,0,none⟩=some (.string x.n):=Ao wr _ _ _ 0;have d1:(wr.alloc (Obj.cells #[.string x.n,.string x.v] 59)).cell? ⟨wr.heap.size,1,none⟩=some (.string x.v):=Ao wr _ _ _ 1;clear hm hr hb c0 c1;generalize wr.heap.size=Z at*;generalize wr.alloc (Obj.cells #[.string x.n,.string x.v] 59)=wA at*;by_cases hin:x∈zs.map (·.1)
     ·obtain⟨p,hp,hpx⟩:=bY.1 hin;obtain⟨i,hil,hip⟩:=jw.1 hp;have hxi:zs[i].1=x:=by rw[hip];exact hpx
      have hie:i<es.length:=by rw[←YS.1];exact hil
      obtain⟨hke,A1,n1,c1,hv1,ho1,hap⟩:=YS.2 i hil hie;have YT:bg (wA.alloc (Obj.cells #[.int .i64 k] 3)) w.heap.size zs:=WJ.at_ (Aw _ _ _ WJ.lt);have hME:=YT.entry hil;rw[hxi,hv1]at hME;unfold kv at hME;have hn1:n1≤1000000:=by
       have h1:=ho1.len;have h2:=hi.2 es[i] (gG hie);have h3:=Ps.Mq es[i].1 (Ps.fu (M.take k) 0++(m.take j).map (fun x=>(x,(k:Int))));rw[←h2]at h3;have h4:=HP.1 j;omega
      have O1:=Aj ho1;have HM:=Aj WJ;have HR:=Aj YS;have HB:=Aj WK;have HV:=Aj (And.intro hxi (And.intro hke hv1));have hAm:ab A1≠some w.heap.size:=fun e=>by
       have h1:=jS ho1 _ _ e WJ.blk;cases h1
      have hzA:=WK.size;clear ho1 WJ YS WK hin hp hpx hip hxi hke hv1 hap;go_wp2_with (at_builtin;refine bT rfl (.tmp 27) (.tmp 29) rfl w.heap.size A1 n1 c1 es[i].2 rfl (Oa O1.1 _) (wA.heap.size+1) _ _ _ [(k:Int)] rfl (bQ.one wA k) om (by simp;omega) ?_;intro A4 c4 w5 hown5 jg J4;have QH:bg w5 w.heap.size zs:=YT.at_ (jg.block _ YT.lt (fun e=>hAm e.symm));have hST:=QH.store hil (.slice A4 (n1+1) c4);have O5:=Aj hown5;have G5:=Aj jg;have T5:=Aj J4;have M5:=Aj QH;clear hown5 jg J4 QH);go_roundw
      case rel=>
       have hnd:(es.map (·.1)).Nodup:=by rw[←HR.1.keys];exact HM.1.dup
       have hex:es[i].1=x:=by rw[←HV.1.2.1];exact HV.1.1
       have hR5:=HR.1.grow hil hie HV.1.2.2 (Ga _ _ none) G5.1 T5.1 O5.1;have hS:=iG (w:=w5) (b:=w.heap.size) (.map (mE (zs.set i (zs[i].1,.slice A4 (n1+1) c4)) 0).toArray zs.length);have h1:=hi.hit hnd hie (k:Int);rw[hex]at h1;refine⟨j+1,om,by go_num,⟨_,_,M5.1.put hil _ rfl,hR5.kept hS (fun r e=>by cases e;exact⟨_,M5.1.blk,rfl⟩),?_,?_⟩⟩
       ·rw[ht.1,dR,←Af,hex];exact h1
       ·exact((HB.1.alloc hzA _).grown G5.1 (by simp;omega) (fun g e=>(ae O1.1 g e).1)).grown hS (by have:=G5.1.size;simp at this;omega) (fun g e=>by cases e;exact Nr _)
      case measure=>simp[intOf];omega
     ·have YT:bg (wA.alloc (Obj.cells #[.int .i64 k] 3)) w.heap.size zs:=WJ.at_ (Aw _ _ _ WJ.lt);have hME:=YT.fresh hx hin;unfold kv at hME;have hmC:=YT.push hx hin (.slice none 0 0);have hgS:=iG (w:=wA.alloc (Obj.cells #[.int .i64 k] 3)) (b:=w.heap.size) (.map (mE (zs++[(x,.slice none 0 0)]) 0).toArray (zs.length+1));have hrC:=((YS.kept (Ga _ _ none) (fun r e=>by cases e)).kept hgS (fun r e=>by cases e;exact⟨_,YT.blk,rfl⟩)).push x;have hZ:w.heap.size<wA.heap.size:=WJ.lt;have hrd:bQ (setBlock (wA.alloc (Obj.cells #[.int .i64 k] 3)) w.heap.size (.map (mE (zs++[(x,.slice none 0 0)]) 0).toArray (zs.length+1))) (wA.heap.size+1) (some ⟨wA.heap.size,0,none⟩) 1 1 [(k:Int)]:=by
       obtain⟨h1,h2,h3,h4⟩:=bQ.one wA (k:Int);refine⟨h1,h2,h3,fun _=>?_⟩;obtain⟨q,off,e,hq,hcells⟩:=h4 om;cases e;exact⟨_,_,rfl,hq,fun i u hu=>(AR (a:=⟨wA.heap.size,_,none⟩) (hgS.block _ sm (by simp;omega))).trans (hcells i u hu)⟩
      have hbC:Below w.heap.size w (setBlock (wA.alloc (Obj.cells #[.int .i64 k] 3)) w.heap.size (.map (mE (zs++[(x,.slice none 0 0)]) 0).toArray (zs.length+1))):=(WK.alloc WK.size _).grown hgS (by have:=WK.size;simp;omega) (fun g e=>by cases e;exact Nr _);have hsz:(setBlock (wA.alloc (Obj.cells #[.int .i64 k] 3)) w.heap.size (.map (mE (zs++[(x,.slice none 0 0)]) 0).toArray (zs.length+1))).heap.size=wA.heap.size+1:=by simp[setBlock]
      have HM:=Aj hmC;have HR:=Aj hrC;have HB:=Aj hbC;have HX:=Aj (And.intro YS.1 hin);have hr2:=Aj YS;have HQ:=Aj hrd;have hzC:wA.heap.size+1≤(setBlock (wA.alloc (Obj.cells #[.int .i64 k] 3)) w.heap.size (.map (mE (zs++[(x,.slice none 0 0)]) 0).toArray (zs.length+1))).heap.size:=om;clear WJ YS WK YT hmC hgS hrC hrd hbC hsz hin;generalize setBlock (wA.alloc (Obj.cells #[.int .i64 k] 3)) w.heap.size (.map (mE (zs++[(x,.slice none 0 0)]) 0).toArray (zs.length+1))=wC at*;go_wp2_with (at_builtin;refine bT rfl (.tmp 27) (.tmp 29) rfl w.heap.size none 0 0 [] rfl (AX _ _ _ _) (wA.heap.size+1) _ _ _ [(k:Int)] rfl HQ.1 om om ?_;intro A4 c4 w5 hown5 jg J4;have QH:bg w5 w.heap.size (zs++[(x,.slice none 0 0)]):=HM.1.at_ (jg.block _ HM.1.lt (fun e=>by cases e));have hST:=QH.store (i:=zs.length) sm (.slice A4 (0+1) c4);have O5:=Aj hown5;have G5:=Aj jg;have T5:=Aj J4;have M5:=Aj QH;clear hown5 jg J4 QH);go_roundw
      case rel=>
       have hp:=M5.1.put (i:=zs.length) (w':=w5) sm (.slice A4 1 c4) rfl;simp only[La,Lc,Ba,cK,List.getElem_concat_length,List.set_append_right _ _ Ai,Dy,Aq]at hp;have hR5:=HR.1.grow (i:=zs.length) (A:=none) (n:=0) (c:=0) (A4:=A4) (c4:=c4) (v:=(k:Int)) sm (by simp[HX.1.1]) sm (Dn _ _) G5.1 T5.1 (by
        have:=O5.1;simpa[HX.1.1]using this)
       have hS:=iG (w:=w5) (b:=w.heap.size) (.map (mE (zs++[(x,Value.slice A4 1 c4)]) 0).toArray (zs.length+1));have af5:x∉es.map (·.1):=by rw[←hr2.1.keys];exact HX.1.2
       have h1:=hi.fresh af5 (k:Int);refine⟨j+1,om,by go_num,⟨_,es++[(x,[(k:Int)])],hp,?_,?_,?_⟩⟩
       ·have:=hR5.kept hS (fun r e=>by cases e;exact⟨_,M5.1.blk,rfl⟩);simpa[HX.1.1]using this
       ·rw[ht.1,dR,←Af];exact h1
       ·exact(HB.1.grown G5.1 HB.1.size (fun g e=>by cases e)).grown hS (by have:=G5.1.size;have:=HB.1.size;omega) (fun g e=>by cases e;exact Nr _)
      case measure=>simp[intOf];omega
    ·obtain rfl:j=n':=by omega
     have hB2:Kept (BIn w w.heap.size (Ps.fu (M.take (k+1)) 0) wr):=⟨by
      have:=hB.1;rw[show m.take j=m from iM (by rw[hRL.1.2];exact Nr _),←hpt.1]at this;exact this⟩
     clear hB hB0;go_wp2;go_roundw
     case rel=>exact⟨k+1,om,by go_num,hB2⟩
     case measure=>simp[intOf];omega
  ·obtain rfl:k=n:=by omega
   have hall:Kept (M.take k=M):=⟨iM (by rw[←hn.1];exact Nr _)⟩
   obtain⟨zs,es,hm,hr,hi,hb⟩:=hB.1;rw[hall.1]at hi;have hzl:zs.length≤1000000:=by
    have h1:(es.map (·.1)).Nodup:=by rw[←hr.keys];exact hm.dup
    have h2:=hi.len h1;have h3:=Ps.l6 M 0;have h4:=S.1.2;have h5:=hr.1;omega
   have SF:=Aj (uq wr.heap.size w.heap.size zs (wr.alloc (.cells #[.map (some w.heap.size)] 156)) (Bd wr _ _) (hm.at_ (Aw _ _ _ hm.lt)) hzl);have HM:=Aj hm;have HR:=Aj hr;have HB:=Aj hb;have HI:=Aj hi;have hzw:=hb.size;clear hB B0 hlt hm hr hb hi;go_wp2_with (first
    |(go_at_call 78;refine SF.1.mono ?_;rintro e w2 ⟨A3,n3,c3,l,rfl,hF,hS,hR,hb2⟩;have F2:=Aj hF;have S2:=Aj hS;have R2:=Aj hR;have B2:=Aj hb2;clear hF hS hR hb2)
    |(go_at_call 79;refine(Oo _ _).mono ?_;rintro e w1' ⟨rfl,rfl⟩))
   have hb2:Below wr.heap.size wr w2:=((Ae _ _).alloc Ai _).trans (B2.1.mono sm);have hm2:bg w2 w.heap.size zs:=HM.1.at_ (hb2.block _ HM.1.lt);have hr2:Rows w2 w.heap.size zs es:=HR.1.kept (row:=none) (aB hb2) (fun r e=>by cases e);have dz:=Aj hm2;have HR2:=Aj hr2;have HBW:=Aj (HB.1.trans (hb2.mono hzw));have LN:=Aj R2.1.len;have hl3:n3≤1000000:=by
    have h1:=cu _ _ F2.1.1 (fun x hx=>(F2.1.2 x).1 hx);rw[fM]at h1;have:=R2.1.len;omega
   have als:=R2.1.1;have af7:=R2.1.2.1;unfold maxLen at af7;clear hb2 hm2 hr2 HM HR B2 HB SF;generalize wr.heap.size=zr at*;go_loopw [8,39] (fun o i wr=>∃k:Nat,k≤n3∧i= .int .i64 k∧∃(A5:Option Addr) (c5:Nat),o= .slice A5 k c5∧aP 163 wr w2.heap.size A5 k c5 ((l.take k).map fun x=>(x,Ps.fq x (Ps.fu M 0)))∧Below w2.heap.size w2 wr) (fun _ i _=>n3-(intOf i).toNat)
   case atStart=>exact⟨0,om,rfl,none,0,rfl,by simpa using aP.nil w2 w2.heap.size,Ae _ _⟩
   case round=>
    obtain⟨k,hk,rfl,A5,c5,rfl,ho,hb⟩:=hrel;have O:=Aj ho;have HB:=Aj hb;have kP:=hb.size;clear ho hb;by_cases hlt:k<n3
    ·have hkl:k<l.length:=by rw[←LN.1];exact hlt
     obtain⟨b,off,rfl,hc⟩:=R2.1.cells Ai hkl;obtain⟨c0,c1⟩:=hc wr HB.1;have hkey:=(F2.1.2 _).1 (gG hkl);have ht:=Aj (Ts hkl);clear hc;generalize l[k]=x at*;obtain⟨p,hp,hpx⟩:=bY.1 hkey;obtain⟨i,hil,hip⟩:=jw.1 hp;have hxi:zs[i].1=x:=by rw[hip];exact hpx
     have hie:i<es.length:=by rw[←HR2.1.1];exact hil
     obtain⟨hke,A1,n1,c1',hv1,ho1,-⟩:=HR2.1.2 i hil hie;have hse:es[i].2=Ps.fq x (Ps.fu M 0):=by
      have h1:=HI.1.2 _ (gG hie);rw[←hke,hxi]at h1;exact h1
     rw[hse]at ho1;have HC:Kept (∀W,Below w2.heap.size w2 W→(Instr.lookup 156 (.map (some w.heap.size)) (.agg #[.string x.n,.string x.v]) false).run prog W= .ok (.slice A1 n1 c1') W):=⟨fun W hW=>by
      have h1:=(dz.1.at_ (hW.block _ dz.1.lt)).lookup hil;rw[hxi,hv1]at h1;exact h1⟩
     have SS:=Aj ho1;clear hkey hp hpx hip hxi hke hv1 hse ho1;go_upto_region 15 with(fail)
     have HWA:Kept (Below w2.heap.size w2 (wr.alloc (Obj.cells #[.string x.n,.string x.v] 59))):=⟨HB.1.alloc kP _⟩
     have d0:(wr.alloc (Obj.cells #[.string x.n,.string x.v] 59)).cell? ⟨wr.heap.size,0,none⟩=some (.string x.n):=Ao wr _ _ _ 0;have d1:(wr.alloc (Obj.cells #[.string x.n,.string x.v] 59)).cell? ⟨wr.heap.size,1,none⟩=some (.string x.v):=Ao wr _ _ _ 1;have OA:=Aj (O.1.keep ((Ae _ _).alloc Ai (Obj.cells #[.string x.n,.string x.v] 59)));have hzA:wr.heap.size< (wr.alloc (Obj.cells #[.string x.n,.string x.v] 59)).heap.size:=sm;have HAZ:Kept (ab A5≠some wr.heap.size):=⟨fun e=>by
      obtain⟨_,_,h2,_⟩:=O.1;have:=(ae h2 _ e).2;omega⟩
     have af8:=HWA.1.size;clear c0 c1;generalize wr.alloc (Obj.cells #[.string x.n,.string x.v] 59)=wA at*;generalize wr.heap.size=Z at*;have HD:Kept (∀W,Below wA.heap.size wA W→W.cell? ⟨Z,0,none⟩=some (.string x.n)∧W.cell? ⟨Z,1,none⟩=some (.string x.v)∧(Instr.lookup 156 (.map (some w.heap.size)) (.agg #[.string x.n,.string x.v]) false).run prog W= .ok (.slice A1 n1 c1') W):=
      ⟨fun W hW=>⟨(hW.cell (p:=⟨Z,0,none⟩) hzA).trans d0,(hW.cell (p:=⟨Z,1,none⟩) hzA).trans d1,HC.1 W (HWA.1.trans (hW.mono HWA.1.size))⟩⟩
     clear d0 d1;obtain⟨d0,d1,d2⟩:=HD.1 wA (Ae _ _);have e0:=fun o=>(HD.1 (wA.alloc o) ((Ae _ _).alloc Ai o)).1
     have e1:=fun o=>(HD.1 (wA.alloc o) ((Ae _ _).alloc Ai o)).2.1
     have e2:=fun o=>(HD.1 (wA.alloc o) ((Ae _ _).alloc Ai o)).2.2
     obtain⟨hs5,f1,f2,f3⟩:=OA.1;have F2':=Aj f2;have F1':=Aj f1;have F3':=Aj (show L6 wA hs5 _ from f3);clear f1 f2 f3;have SA:=Aj (show ax wA 0 A1 n1 c1' (Ps.fq x (Ps.fu M 0))from aC (ig SS.1 HWA.1) (bH _));go_region_held3 (fun w'=>w'.cell? ⟨Z,0,none⟩=some (.string x.n)∧w'.cell? ⟨Z,1,none⟩=some (.string x.v)∧(Instr.lookup 156 (.map (some w.heap.size)) (.agg #[.string x.n,.string x.v]) false).run prog w'= .ok (.slice A1 n1 c1') w') (first|exact⟨d0,d1,d2⟩|exact⟨e0 _,e1 _,e2 _⟩|exact HD.1 _ (((Ae _ _).alloc Ai _).drew)|exact HD.1 _ ((Ae _ _).drew)|exact k9)
      ((refine Ou ?g1 (.tmp 43) (.tmp 49) ?g2 w2.heap.size A5 k c5 (gM ((l.take k).map fun x=>(x,Ps.fq x (Ps.fu M 0))) hs5) ?g3 ?g4 (wA.heap.size+1) (some ⟨wA.heap.size,0,none⟩) [.string x.n,.string x.v,.slice A1 n1 c1'] ?g5 ?g6 ?g7 ?g8 ?g9 ?_;(case g1=>rfl);(case g2=>rfl);(case g3=>rfl);(case g5=>rfl);(case g4=>exact Oa F2'.1 _);(case g6=>exact Rd.Wv wA _ _ _ _);(case g7=>(intro u hu;simp at hu;rcases hu with rfl|rfl|rfl<;>rfl));(case g8=>omega);(case g9=>(simp;omega));intro A6 c6 w3 hown hgrow hat;have wK:(wA.alloc (.cells #[.string x.n,.string x.v,.slice A1 n1 c1'] 163)).grownBy w3 (ab A5):=⟨hgrow.os,hgrow.tape,hgrow.output,hgrow.size,hgrow.block⟩;have O6:=Aj (aP.YQ Ah F1'.1 F2'.1 F3'.1 SA.1 wK hown);have hb3:Below w2.heap.size w2 w3:=(HWA.1.alloc af8 _).grown wK (by simp;omega) (fun g e=>(ae F2'.1 g e).1);have B6:=Aj hb3;have hzz:w3.heap[Z]? =(wA.alloc (.cells #[.string x.n,.string x.v,.slice A1 n1 c1'] 163)).heap[Z]?:=wK.block Z (by simp;omega) (fun e=>HAZ.1 e.symm);have k9:w3.cell? ⟨Z,0,none⟩=some (.string x.n)∧w3.cell? ⟨Z,1,none⟩=some (.string x.v)∧(Instr.lookup 156 (.map (some w.heap.size)) (.agg #[.string x.n,.string x.v]) false).run prog w3= .ok (.slice A1 n1 c1') w3:=⟨(AR (a:=⟨Z,0,none⟩) hzz).trans (e0 _),(AR (a:=⟨Z,1,none⟩) hzz).trans (e1 _),HC.1 w3 hb3⟩;clear hown hgrow wK hb3 hzz))
     go_wp2;go_roundw
     case rel=>exact⟨k+1,om,by go_num,A6,c6,rfl,by rw[ht.1,dR];exact O6.1,B6.1⟩
     case measure=>simp[intOf];omega
    ·obtain rfl:k=n3:=by omega
     have hall:l.take k=l:=iM (by rw[←LN.1];exact Nr _);rw[hall]at O;clear hall;go_wp2;go_ret;refine⟨A5,k,c5,_,rfl,⟨by simpa[Function.comp_def]using S2.1,fun x=>?_,fun e he=>?_⟩,O.1.aae HBW.1.size,HBW.1.trans (HB.1.mono HBW.1.size)⟩
     ·rw[Ca,Function.comp_def];simp only[List.map_id'];rw[F2.1.2,←HI.1.1,HR2.1.keys]
     ·obtain⟨y,-,rfl⟩:=bY.1 he
      rfl
end
end
end Go.Proofs.YtongopommlghgaaGreatDoor
