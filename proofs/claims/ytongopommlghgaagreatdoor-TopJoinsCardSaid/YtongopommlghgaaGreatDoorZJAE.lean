/- Part 5. -/
import Derived.Test.YtongopommlghgaaGreatDoorZJAC
import Derived.Test.YtongopommlghgaaGreatDoorZJAD
import Derived.Shelf.SlicesE.Kit
namespace Go.Proofs.YtongopommlghgaaGreatDoor
set_option maxRecDepth 100000
set_option maxHeartbeats 0
open _root_.Go.Proofs.Tryz
section
section
open Go.RowKit Go.Shelf
theorem Wr.lI (l a m e):(Wr.uint l a e m).1≤m:=by
 unfold Wr.uint;split
 ·exact bf _
 ·simp only[];split
  ·exact bf _
  ·split
   ·exact bf _
   ·omega
theorem Wr.lJ (l a m e) (h:(Wr.uint l a e m).2.2≠0):(Wr.uint l a e m).1=0:=by
 unfold Wr.uint at h⊢;split
 ·rfl
 ·rw[Ng (by assumption)]at h;simp only[]at h⊢;split
  ·rfl
  ·rw[Ng (by assumption)]at h;split
   ·rfl
   ·rw[Ng (by assumption)]at h;exact absurd rfl h
theorem Wr.yG (l a m e) (h:a≤l.length):(Wr.uint l a e m).2.1≤l.length:=by
 unfold Wr.uint;split
 ·exact h
 ·simp only[];split
  ·exact h
  ·next h2=>
   split
   ·exact h
   ·have h3:(Vi.get l (a:Int)).2.2=0:=by simpa using h2
    generalize hg:Vi.get l (a:Int)=G at*;obtain⟨x,t,f⟩:=G;have h5:f=0:=h3;subst h5;have h4:=(Vi.iY hg).2;show t.toNat≤l.length;omega
namespace Rc
def mx:Nat:=18446744073709551615
def cnt (l:List UInt8) (a:Nat) (e:Int):Nat×Nat×Int:=
 let r:=Wr.uint l a e mx
 if r.2.2≠0 then(0,r.2.1,r.2.2)else if l.length-r.2.1<r.1 then(0,r.2.1,3)else r
def sym (T:List ByteArray) (l:List UInt8) (a:Nat) (e:Int):ByteArray×Nat×Int:=
 let r:=Wr.uint l a e mx
 if r.2.2≠0 then(ByteArray.empty,r.2.1,r.2.2)else if T.length≤r.1 then(ByteArray.empty,r.2.1,14)else(T.getD r.1 ByteArray.empty,r.2.1,0)
def lab (T:List ByteArray) (l:List UInt8) (a:Nat) (e:Int):aU×Nat×Int:=
 let r:=sym T l a e
 let s:=sym T l r.2.1 r.2.2
 (⟨r.1,s.1⟩,s.2)
def len (l:List UInt8) (a:Nat) (e:Int):Nat×Nat×Int:=
 let r:=Wr.uint l a e mx
 if r.1<1∨2147483647<r.1 then(r.1,r.2.1,if r.2.2=0 then 23 else r.2.2)else r
end Rc
theorem Fq {w w':World} {n row} (h:(w.drewN n).grownBy w' row):w.grownBy w' row:=⟨h.os,h.tape,h.output,h.size,h.block⟩
theorem nO {row} (w:World) (n):w.grownBy (w.drewN n) row:=⟨rfl,rfl,rfl,Nr _,fun _ _ _=>rfl⟩
def RR (w:World) (q p:Nat) (TA:Option Addr) (tn tc:Nat) (T:List ByteArray) (l:List UInt8):Prop:=
 w.heap[q]? =some (.cells #[.pointer (some ⟨p,0,none⟩),.slice TA tn tc,.int .i64 (l.length:Int)] 218 (0,0))∧p<q∧bM w p TA tn tc T
theorem RR.grown {w w' q p tn tc TA T l} (h:RR w q p TA tn tc T l) (hg:w.grownBy w' (some p)):RR w' q p TA tn tc T l:=by
 obtain⟨h1,h2,h3⟩:=h;have hq:q<w.heap.size:=(Ge.1 h1).1;exact⟨(hg.block q hq (fun e=>by have:=Oj e;omega)).trans h1,h2,h3.grown hg om (fun g e=>by have:=Oj e;omega)⟩
theorem RR.cells {w q p tn tc TA T l} (h:RR w q p TA tn tc T l):
  w.cell? ⟨q,0,none⟩=some (.pointer (some ⟨p,0,none⟩))∧w.cell? ⟨q,1,none⟩=some (.slice TA tn tc)∧w.cell? ⟨q,2,none⟩=some (.int .i64 (l.length:Int)):=
 ⟨Co _ _ _ _ _ _ h.1,Co _ _ _ _ _ _ h.1,Co _ _ _ _ _ _ h.1⟩
theorem pz (q p a tn tc TA T l e w) (hR:RR w q p TA tn tc T l) (h:aK w p l a e):
  Calls prog 171 #[.pointer (some ⟨q,0,none⟩)] w fun r w'=>r= .returned (.int .i64 ((Rc.cnt l a e).1:Int))∧aK w' p l (Rc.cnt l a e).2.1 (Rc.cnt l a e).2.2∧w.grownBy w' (some p):=by
 obtain⟨q0,q1,q2⟩:=hR.cells;have U:=Al (ji p a 18446744073709551615 l e w h);have HR:=Al hR;have hle:=Wr.lI l a Rc.mx e;have hat:=Wr.yG l a Rc.mx e h.len.2;have hC:Rc.cnt l a e=(let r:=Wr.uint l a e Rc.mx;if r.2.2≠0 then(0,r.2.1,r.2.2)else if l.length-r.2.1<r.1 then(0,r.2.1,3)else r):=rfl;have hln:=h.len;unfold Rc.mx at hC hle hat;generalize Wr.uint l a e 18446744073709551615=X at*;obtain⟨x,a1,e1⟩:=X;simp only[]at hC hle hat U;clear h hR;have Zr:IntKind.u64.wrap ((l.length:Int)-(a1:Int))=(l.length:Int)-(a1:Int):=by simp[IntKind.wrap,IntKind.bits,IntKind.signed];omega
 by_cases he1:e1=0
 ·subst he1;rw[Ng Ah]at hC;by_cases hx:l.length-a1<x
  ·rw[Ps0 hx]at hC;rw[hC];have hgt:(l.length:Int)-(a1:Int)< (x:Int):=om;clear hC hx;go_enter func171,ntmps171;go_upto_region 2 with(go_at_call 182;refine U.1.mono ?_;rintro r w2 ⟨rfl,hr,hg⟩;have R2:=Al hr;have G2:=Al hg;clear hr hg)
   obtain⟨s0,s1,s2⟩:=(HR.1.grown G2.1).cells;go_quiet (first
    |(go_at_call 112;exact(iX p a1 l 0 _ (by exact R2.1)).mono fun _ _ q=>⟨q.1,_,q.2.symm⟩)
    |(go_at_call 120;exact(ay p a1 l 0 _ (by exact R2.1)).mono fun _ _ q=>⟨q.1,_,q.2.symm⟩))
   go_wp2_with (first
    |(go_at_call 114;refine(dm p a1 l 0 3 _ (by exact R2.1)).mono ?_;rintro r w3 ⟨rfl,hr,hg⟩;rw[Ps0 rfl]at hr;have R3:=Al hr;have G3:Kept (w2.grownBy w3 (some p)):=⟨Fq hg⟩;obtain⟨t0,t1,t2⟩:=((HR.1.grown G2.1).grown G3.1).cells;clear hr hg)
    |(go_at_call 120;refine(ay p a1 l 3 _ R3.1).mono ?_;rintro r w4 ⟨rfl,rfl⟩))
   go_ret;exact⟨rfl,R3.1,G2.1.trans G3.1⟩
  ·rw[Ng hx]at hC;rw[hC];have hgt:¬(l.length:Int)-(a1:Int)< (x:Int):=om;have hx1:(x:Int)≤140737488354000:=om;clear hC hx;go_enter func171,ntmps171;go_upto_region 2 with(go_at_call 182;refine U.1.mono ?_;rintro r w2 ⟨rfl,hr,hg⟩;have R2:=Al hr;have G2:=Al hg;clear hr hg)
   obtain⟨s0,s1,s2⟩:=(HR.1.grown G2.1).cells;go_quiet (first
    |(go_at_call 112;exact(iX p a1 l 0 _ (by exact R2.1)).mono fun _ _ q=>⟨q.1,_,q.2.symm⟩)
    |(go_at_call 120;exact(ay p a1 l 0 _ (by exact R2.1)).mono fun _ _ q=>⟨q.1,_,q.2.symm⟩))
   go_wp2_with (go_at_call 120;refine(ay p a1 l 0 _ (by exact R2.1)).mono ?_;rintro r w4 ⟨rfl,rfl⟩);go_ret;exact⟨by go_num,R2.1,G2.1.trans (nO _ _)⟩
 ·rw[Ps0 he1]at hC;rw[hC];have yg:(e1==0)=false:=by simpa using he1
  clear hC;go_enter func171,ntmps171;go_upto_region 2 with(go_at_call 182;refine U.1.mono ?_;rintro r w2 ⟨rfl,hr,hg⟩;have R2:=Al hr;have G2:=Al hg;clear hr hg)
  obtain⟨s0,s1,s2⟩:=(HR.1.grown G2.1).cells;go_quiet (first
   |(go_at_call 112;exact(iX p a1 l e1 _ (by exact R2.1)).mono fun _ _ q=>⟨q.1,_,q.2.symm⟩)
   |(go_at_call 120;exact(ay p a1 l e1 _ (by exact R2.1)).mono fun _ _ q=>⟨q.1,_,q.2.symm⟩))
  go_wp2_with (go_at_call 120;refine(ay p a1 l e1 _ (by exact R2.1)).mono ?_;rintro r w4 ⟨rfl,rfl⟩);go_ret;exact⟨rfl,R2.1,G2.1.trans (nO _ _)⟩
end
end
section
section
open Go.RowKit Go.Shelf
theorem sZ (q p a tn tc TA T l e w) (hR:RR w q p TA tn tc T l) (h:aK w p l a e):
  Calls prog 211 #[.pointer (some ⟨q,0,none⟩)] w fun r w'=>r= .returned (.string (Rc.sym T l a e).1)∧aK w' p l (Rc.sym T l a e).2.1 (Rc.sym T l a e).2.2∧w.grownBy w' (some p):=by
 obtain⟨q0,q1,q2⟩:=hR.cells;have U:=Al (ji p a 18446744073709551615 l e w h);have HR:=Al hR;have hle:=Wr.lI l a Rc.mx e;have hC:Rc.sym T l a e=(let r:=Wr.uint l a e Rc.mx;if r.2.2≠0 then(ByteArray.empty,r.2.1,r.2.2)else if T.length≤r.1 then(ByteArray.empty,r.2.1,14)else(T.getD r.1 ByteArray.empty,r.2.1,0)):=rfl;have htl:=hR.2.2.len;have htm:=hR.2.2.2.1;have htc:=hR.2.2.1;unfold maxLen at htm;unfold Rc.mx at hC hle;generalize Wr.uint l a e 18446744073709551615=X at*;obtain⟨x,a1,e1⟩:=X;simp only[]at hC hle U;have Zr:IntKind.u64.wrap (tn:Int)=(tn:Int):=by simp[IntKind.wrap,IntKind.bits,IntKind.signed];omega
 have HT:=Al htl;clear h hR htl;by_cases he1:e1=0
 ·subst he1;rw[Ng Ah]at hC;by_cases hx:T.length≤x
  ·rw[Ps0 hx]at hC;rw[hC];have hgt:(tn:Int)≤(x:Int):=by have:=HT.1;omega
   have hgt2:tn≤x:=om;clear hC hx;go_enter func211,ntmps211;go_wp2_with (first
    |(go_at_call 182;refine U.1.mono ?_;rintro r w2 ⟨rfl,hr,hg⟩;have R2:=Al hr;have G2:=Al hg;obtain⟨s0,s1,s2⟩:=(HR.1.grown hg).cells;clear hr hg)
    |(go_at_call 114;refine(dm p a1 l 0 14 _ R2.1).mono ?_;rintro r w3 ⟨rfl,hr,hg⟩;rw[Ps0 rfl]at hr;have R3:=Al hr;have G3:=Al hg;obtain⟨t0,t1,t2⟩:=((HR.1.grown G2.1).grown hg).cells;clear hr hg R2)
    |(go_at_call 120;refine(ay p a1 l 14 _ R3.1).mono ?_;rintro r w9 ⟨rfl,rfl⟩)
    |(go_at_call 120;refine(ay p a1 l 0 _ R2.1).mono ?_;rintro r w9 ⟨rfl,rfl⟩))
   go_ret;exact⟨rfl,R3.1,G2.1.trans G3.1⟩
  ·rw[Ng hx]at hC;have hxl:x<T.length:=om;rw[show T.getD x ByteArray.empty=T[x]by simp[List.getD,hxl]]at hC;rw[hC];have hgt:(x:Int)< (tn:Int):=by have:=HT.1;omega
   have hgt2:¬tn≤x:=om;have ach:x<tn:=om;obtain⟨b,off,rfl,hbp,hcell⟩:=HR.1.2.2.at_ hxl;have CC:Kept (∀W,w.grownBy W (some p)→W.cell? ⟨b,off+x,none⟩=some (.string T[x])):=⟨fun W hg=>by
    obtain⟨b',off',e',-,hc'⟩:=((HR.1.grown hg).2.2).at_ hxl;simp only[gU,Ce,BO]at e';obtain⟨rfl,rfl⟩:=e';exact hc'⟩
   generalize T[x]=s at*;clear hC hx hcell;go_enter func211,ntmps211;go_wp2_with (first
    |(go_at_call 182;refine U.1.mono ?_;rintro r w2 ⟨rfl,hr,hg⟩;have R2:=Al hr;have G2:=Al hg;obtain⟨s0,s1,s2⟩:=(HR.1.grown hg).cells;clear hr hg;have cc:=CC.1 w2 G2.1)
    |(go_at_call 120;refine(ay p a1 l 0 _ R2.1).mono ?_;rintro r w9 ⟨rfl,rfl⟩))
   go_ret;exact⟨rfl,R2.1,G2.1⟩
 ·rw[Ps0 he1]at hC;rw[hC];have yg:(e1==0)=false:=by simpa using he1
  clear hC;go_enter func211,ntmps211;go_wp2_with (first
   |(go_at_call 182;refine U.1.mono ?_;rintro r w2 ⟨rfl,hr,hg⟩;have R2:=Al hr;have G2:=Al hg;obtain⟨s0,s1,s2⟩:=(HR.1.grown hg).cells;clear hr hg)
   |(go_at_call 120;refine(ay p a1 l e1 _ R2.1).mono ?_;rintro r w9 ⟨rfl,rfl⟩))
  go_ret;exact⟨rfl,R2.1,G2.1⟩
theorem Jh (q p a tn tc TA T l e w) (hR:RR w q p TA tn tc T l) (h:aK w p l a e):
  Calls prog 175 #[.pointer (some ⟨q,0,none⟩)] w fun r w'=>∃v:Int,r= .returned (.int .i64 v)∧((Rc.len l a e).2.2=0→v=((Rc.len l a e).1:Int))∧aK w' p l (Rc.len l a e).2.1 (Rc.len l a e).2.2∧w.grownBy w' (some p):=by
 obtain⟨q0,q1,q2⟩:=hR.cells;have U:=Al (ji p a 18446744073709551615 l e w h);have HR:=Al hR;have hle:=Wr.lI l a Rc.mx e;have hz:=Wr.lJ l a Rc.mx e;have hC:Rc.len l a e=(let r:=Wr.uint l a e Rc.mx;if r.1<1∨2147483647<r.1 then(r.1,r.2.1,if r.2.2=0 then 23 else r.2.2)else r):=rfl;unfold Rc.mx at hC hle hz;generalize Wr.uint l a e 18446744073709551615=X at*;obtain⟨x,a1,e1⟩:=X;simp only[]at hC hle hz U;clear h hR;by_cases hx:x<1∨2147483647<x
 ·rw[Ps0 hx]at hC;rw[hC];have hne:Kept (¬(if e1=0 then(23:Int)else e1)=0):=⟨by split<;>omega⟩
  have F:=Al (fun w2 (hr:aK w2 p l a1 e1)=>dm p a1 l e1 23 w2 hr);generalize (if e1=0 then(23:Int)else e1)=e2 at*;rcases Cy x 1 with h1|h1
  ·have h1':(x:Int)<1:=by omega
   clear hC hx hz;go_enter func175,ntmps175;go_wp2_with (first
    |(go_at_call 182;refine U.1.mono ?_;rintro r w2 ⟨rfl,hr,hg⟩;have R2:=Al hr;have G2:=Al hg;obtain⟨s0,s1,s2⟩:=(HR.1.grown hg).cells;clear hr hg)
    |(go_at_call 114;refine(F.1 _ R2.1).mono ?_;rintro r w3 ⟨rfl,hr,hg⟩;have R3:=Al hr;have G3:=Al hg;clear hr hg))
   go_ret;exact⟨_,rfl,fun h=>absurd h hne.1,R3.1,G2.1.trans G3.1⟩
  ·have h1':¬(x:Int)<1:=by omega
   have h2':(2147483647:Int)< (x:Int):=om;clear hC hx hz;go_enter func175,ntmps175;go_wp2_with (first
    |(go_at_call 182;refine U.1.mono ?_;rintro r w2 ⟨rfl,hr,hg⟩;have R2:=Al hr;have G2:=Al hg;obtain⟨s0,s1,s2⟩:=(HR.1.grown hg).cells;clear hr hg)
    |(go_at_call 114;refine(F.1 _ R2.1).mono ?_;rintro r w3 ⟨rfl,hr,hg⟩;have R3:=Al hr;have G3:=Al hg;clear hr hg))
   go_ret;exact⟨_,rfl,fun h=>absurd h hne.1,R3.1,G2.1.trans G3.1⟩
 ·rw[Ng hx]at hC;rw[hC];have h1':¬(x:Int)<1:=om;have h2':¬(2147483647:Int)< (x:Int):=om;have h3':(x:Int)≤2147483647:=om;clear hC hx hz;go_enter func175,ntmps175;go_wp2_with (go_at_call 182;refine U.1.mono ?_;rintro r w2 ⟨rfl,hr,hg⟩;have R2:=Al hr;have G2:=Al hg;obtain⟨s0,s1,s2⟩:=(HR.1.grown hg).cells;clear hr hg);go_ret;exact⟨_,rfl,fun _=>by go_num,R2.1,G2.1⟩
end
end
section
section
open Go.RowKit Go.Shelf
theorem xg {w w3:World} {o row} (h:(w.alloc o).grownBy w3 row):w.grownBy w3 row:=
 ⟨h.os,h.tape,h.output,by have:=h.size;simp at this;omega,fun k hk hne=>(h.block k (by simp;omega) hne).trans (Ay _ _ k hk)⟩
theorem dO {w w3:World} {row g k v} (h:w.grownBy w3 row) (hg:w.heap.size≤g):w.grownBy (w3.setCell ⟨g,k,none⟩ v) row:=by
 have s:=ak w3 ⟨g,k,none⟩ v;exact⟨s.os.trans h.os,s.tape.trans h.tape,s.output.trans h.output,Lt h.size s.size,fun j hj hne=>(s.block j (by have:=h.size;omega) (fun e=>by have:=Oj e;simp at this;omega)).trans (h.block j hj hne)⟩
theorem aD {w w' row} (h:Below w.heap.size w w'):w.grownBy w' row:=⟨h.os,h.tape,h.output,h.size,fun k hk _=>h.block k hk⟩
theorem RR.box {w q p tn tc TA T l} (h:RR w q p TA tn tc T l) (o):RR (w.alloc o) q p TA tn tc T l:=
 h.grown (aD ((Ae _ w).alloc Aj o))
theorem xh (w:World) (g a b) {cs t} (h:w.heap[g]? =some (.cells cs t (0,0))) (hs:cs.size=2):((w.setCell ⟨g,0,none⟩ a).setCell ⟨g,1,none⟩ b).heap[g]? =some (.cells #[a,b] t (0,0)):=by
 rw[Ag _ g 1 _ t _ (Ag w g 0 _ t _ h)];obtain⟨L,rfl⟩:∃L:List Value,cs=L.toArray:=⟨cs.toList,Ah⟩
 match L,hs with
 |[_,_],_=>rfl
theorem Ny (q p a tn tc TA T l e w) (hR:RR w q p TA tn tc T l) (h:aK w p l a e):
  Calls prog 173 #[.pointer (some ⟨q,0,none⟩)] w fun r w'=>r= .returned (.agg #[.string (Rc.lab T l a e).1.n,.string (Rc.lab T l a e).1.v])∧aK w' p l (Rc.lab T l a e).2.1 (Rc.lab T l a e).2.2∧w.grownBy w' (some p):=by
 have hpl:=h.lt;obtain⟨W1,hW1⟩:∃W1,W1=w.alloc (.cells #[.string ⟨#[]⟩,.string ⟨#[]⟩] 59):=⟨_,rfl⟩
 have R1:Kept (RR W1 q p TA tn tc T l):=⟨by rw[hW1];exact hR.box _⟩
 have D1:Kept (aK W1 p l a e):=⟨by rw[hW1];exact h.box _⟩
 have H1:Kept (W1.heap[w.heap.size]? =some (.cells #[.string ⟨#[]⟩,.string ⟨#[]⟩] 59 (0,0))):=⟨by rw[hW1];exact Aw w _⟩
 have G1:Kept (∀W,W1.grownBy W (some p)→w.grownBy W (some p)):=⟨fun W hg=>by rw[hW1]at hg;exact xg hg⟩
 have HW:=Al hW1.symm;have S1:=Al (sZ q p a tn tc TA T l e W1 R1.1 D1.1);have hC:Rc.lab T l a e=(⟨(Rc.sym T l a e).1,(Rc.sym T l (Rc.sym T l a e).2.1 (Rc.sym T l a e).2.2).1⟩,(Rc.sym T l (Rc.sym T l a e).2.1 (Rc.sym T l a e).2.2).2):=rfl;rw[hC];generalize Rc.sym T l a e=X at*;obtain⟨x,a1,e1⟩:=X;have S2:=Al (fun w2 (r:RR w2 q p TA tn tc T l) (d:aK w2 p l a1 e1)=>sZ q p a1 tn tc TA T l e1 w2 r d);simp only[]at S1 S2⊢;generalize Rc.sym T l a1 e1=Y at*;obtain⟨y,a2,e2⟩:=Y;simp only[]at S2⊢;clear h hR hC hW1;go_enter func173,ntmps173;go_upto_region 1 with fail;rw[HW.1];go_upto_region 3 with(first
  |(go_at_call 211;refine(S2.1 w2 R2.1 D2.1).mono ?_;rintro r w3 ⟨rfl,hr,hg⟩;have D3:=Al hr;have G3:=Al (G2.1.trans hg);have x3:=(hg.block w.heap.size (by have:=G2.1.size;have:=(Ge.1 H1.1).1;omega) (fun e=>by have:=Oj e;omega)).trans X2.1;have c0:=Co _ _ 0 _ _ _ x3;have c1:=Co _ _ 1 _ _ _ x3;have f0:=fun k=>Fr _ _ k _ _ x3;have X3:=Al x3;clear hr hg x3)
  |(go_at_call 211;refine S1.1.mono ?_;rintro r w2 ⟨rfl,hr,hg⟩;have D2:=Al hr;have G2:=Al hg;have R2:=Al (R1.1.grown hg);have X2:=Al ((hg.block w.heap.size ((Ge.1 H1.1).1) (fun e=>by have:=Oj e;omega)).trans H1.1);clear hr hg S1))
 refine Bg (v:= .agg #[.string x,.string y]) ?hr rfl ⟨rfl,?_,?_⟩
 case hr=>exact results_cell_row (fn:=Tryz.f173) (p:=2) (ty:=59) rfl _ _ w.heap.size _ _ _ _ rfl (xh w3 w.heap.size _ _ X3.1 rfl) underlying59 rfl kr
 ·exact D3.1.below (((Ae w.heap.size w3).setCell (p:=⟨w.heap.size,0,none⟩) Aj _).setCell (p:=⟨w.heap.size,1,none⟩) Aj _) hpl
 ·exact dO (dO (G1.1 w3 G3.1) Aj) Aj
namespace Rc
def dI {X:Type} (rd:Nat→Int→X×Nat×Int):Nat→List X→Nat→Int→List X×Nat×Int
 |0,acc,a,e=>(acc,a,e)
 |n+1,acc,a,e=>let r:=rd a e;if r.2.2≠0 then([],r.2.1,r.2.2)else dI rd n (acc++[r.1]) r.2.1 r.2.2
theorem dz {X} (rd:Nat→Int→X×Nat×Int) (acc a e):dI rd 0 acc a e=(acc,a,e):=rfl
theorem iT {X} (rd:Nat→Int→X×Nat×Int) (n acc a e) (hn:0<n) (h:(rd a e).2.2≠0):dI rd n acc a e=([],(rd a e).2.1,(rd a e).2.2):=by
 obtain⟨m,rfl⟩:∃m,n=m+1:=⟨n-1,om⟩
 unfold dI;exact Ps0 h
theorem iZ {X} (rd:Nat→Int→X×Nat×Int) (n acc a e) (hn:0<n) (h:(rd a e).2.2=0):dI rd n acc a e=dI rd (n-1) (acc++[(rd a e).1]) (rd a e).2.1 0:=by
 obtain⟨m,rfl⟩:∃m,n=m+1:=⟨n-1,om⟩
 rw[Bj]
 conv=>lhs;unfold dI
 refine(Ng (by simp[h])).trans ?_;rw[h]
def gu (T:List ByteArray) (l:List UInt8) (a:Nat) (e:Int):List aU×Nat×Int:=dI (lab T l) (cnt l a e).1 [] (cnt l a e).2.1 (cnt l a e).2.2
def lens (l:List UInt8) (a:Nat) (e:Int):List Nat×Nat×Int:=dI (len l) (cnt l a e).1 [] (cnt l a e).2.1 (cnt l a e).2.2
theorem tq (l a e) (h:a≤l.length):(cnt l a e).1≤l.length:=by
 unfold cnt;simp only[];split
 ·exact bf _
 ·split
  ·exact bf _
  ·have:=Wr.yG l a mx e h;omega
end Rc
end
end
section
section
open Go.RowKit Go.Shelf
theorem aJ.past {w w' base n c p A l} (h:aJ w base A n c l) (hg:w.grownBy w' (some p)) (hp:p<base):aJ w' base A n c l:=
 ag h hg (by
  rcases hA:ab A with _|g
  ·exact .inl rfl
  ·refine .inr fun e=>?_
   have:=(ae h g hA).1;have:=Oj e;omega)
theorem aO.past {w w' base n c p A l} (h:aO w base A n c l) (hg:w.grownBy w' (some p)) (hp:p<base):aO w' base A n c l:=
 ag h hg (by
  rcases hA:ab A with _|g
  ·exact .inl rfl
  ·refine .inr fun e=>?_
   have:=(ae h g hA).1;have:=Oj e;omega)
theorem aO.nil (w base):aO w base none 0 0 []:=⟨rfl,.inl ⟨rfl,rfl⟩⟩
def vR (w:World) (base:Nat) (A:Option Addr) (n c:Nat) (l:List Nat):Prop:=aO w base A n c (l.map Int.ofNat)
theorem vR.app {w} {base n c x:Nat} {A l} (h:aO w base A n c (l.map Int.ofNat++[(x:Int)])):vR w base A n c (l++[x]):=by
 unfold vR;rw[dN];exact h
theorem dH.one (w:World) (x):dH (w.alloc (.cells #[.string x.n,.string x.v] 59)) (w.heap.size+1) (some ⟨w.heap.size,0,none⟩) 1 1 [x]:=dH.lit w [x] (0,0) Ah
theorem iD {w w1 w':World} {row} (h:w.grownBy w1 row) (b:Below w.heap.size w1 w'):w.grownBy w' row:=
 ⟨b.os.trans h.os,b.tape.trans h.tape,b.output.trans h.output,Lt h.size b.size,fun k hk hne=>(b.block k hk).trans (h.block k hk hne)⟩
theorem Fs (q p a tn tc TA T l e w) (hR:RR w q p TA tn tc T l) (h:aK w p l a e) (hll:l.length≤20000000):
  Calls prog 172 #[.pointer (some ⟨q,0,none⟩),.func (.func 173) #[.pointer (some ⟨q,0,none⟩)] #[]] w fun r w'=>∃A n c,r= .returned (.slice A n c)∧aJ w' w.heap.size A n c (Rc.gu T l a e).1∧aK w' p l (Rc.gu T l a e).2.1 (Rc.gu T l a e).2.2∧w.grownBy w' (some p):=by
 have hpl:=h.lt;have hqp:=hR.2.1;have HR:=Al hR;have CN:=Al (pz q p a tn tc TA T l e w hR h);have hcl:=Rc.tq l a e h.len.2;obtain⟨M,hM⟩:∃M,M=Rc.gu T l a e:=⟨_,rfl⟩
 rw[←hM];have HM:Kept (M=Rc.dI (Rc.lab T l) (Rc.cnt l a e).1 [] (Rc.cnt l a e).2.1 (Rc.cnt l a e).2.2):=⟨hM⟩
 generalize Rc.cnt l a e=X at*;obtain⟨n,a1,e1⟩:=X;simp only[]at CN hcl HM;clear h hR hM;have rF:n≤20000000:=om;go_enter func172,ntmps172;go_upto_region 3 with(go_at_call 171;refine CN.1.mono ?_;rintro r w1 ⟨rfl,hr,hg⟩;have D1:=Al hr;have G1:=Al hg;clear hr hg CN)
 go_loopw [5,9] (fun o i wr=>∃k:Nat,k≤n∧i= .int .i64 k∧∃A m c acc a2 e2,o= .slice A m c∧aJ wr w.heap.size A m c acc∧aK wr p l a2 e2∧Kept (m=k∧M=Rc.dI (Rc.lab T l) (n-k) acc a2 e2)∧w.grownBy wr (some p)) (fun _ i _=>n-(intOf i).toNat)
 case atStart=>exact⟨0,om,rfl,none,0,0,[],a1,e1,rfl,aJ.nil _ _,D1.1,⟨rfl,HM.1⟩,G1.1⟩
 case round=>
  clear D1 G1;obtain⟨k,hk,rfl,A,m,c,acc,a2,e2,rfl,ho,hd,hm,hg⟩:=hrel;have hz:=hg.size;by_cases hlt:k<n
  ·have hm6:m≤20000000:=by have:=hm.1.1;omega
   have O:=Al ho;have G:=Al hg;have RW:=Al (HR.1.grown hg);have EL:=Al (Ny q p a2 tn tc TA T l e2 wr RW.1 hd);have hbad:=Al (fun h=>hm.1.2.trans (Rc.iT (Rc.lab T l) (n-k) acc a2 e2 om h));have hok:=Al (fun h=>hm.1.2.trans (Rc.iZ (Rc.lab T l) (n-k) acc a2 e2 om h));generalize Rc.lab T l a2 e2=Y at*;obtain⟨x,a3,e3⟩:=Y;simp only[]at EL hbad hok;clear ho hd hg;by_cases he:e3=0
   ·subst he;have hok2:=Al (hok.1 rfl);clear hok hbad;go_wp2_with (first
     |(go_at_call 173;refine EL.1.mono ?_;rintro r w2 ⟨rfl,hr,hg⟩;have O2:=Al (aJ.past O.1 hg hpl);have OB:=Al (Oa O2.1 (.cells #[.string x.n,.string x.v] 59));have DB:=Al (hr.box (.cells #[.string x.n,.string x.v] 59));have GB:Kept (w.grownBy (w2.alloc (.cells #[.string x.n,.string x.v] 59)) (some p)):=⟨(G.1.trans hg).trans (aD ((Ae _ w2).alloc Aj _))⟩;obtain⟨q0,q1,q2⟩:=(HR.1.grown GB.1).cells;have b0:=Aq w2 #[.string x.n,.string x.v] 59 (0,0) 0;have b1:=Aq w2 #[.string x.n,.string x.v] 59 (0,0) 1;generalize hWB:w2.alloc (.cells #[.string x.n,.string x.v] 59)=WB at*;clear hr hg O2 EL)
     |(go_at_call 120;refine(ay p a3 l 0 _ (by exact DB.1)).mono ?_;rintro r w9 ⟨rfl,rfl⟩)
     |(at_builtin;refine iR rfl (.tmp 19) (.tmp 21) rfl w.heap.size A m c acc rfl (Oa OB.1 _) (WB.heap.size+1) _ _ _ [x] rfl (dH.one WB x) om (by have:=GB.1.size;simp;omega) ?_;intro A4 c4 w4 au af bT;have O4:=Al au;have B4:Kept (Below w.heap.size WB w4):=⟨((Ae w.heap.size WB).alloc GB.1.size _).grown af (by have:=GB.1.size;simp;omega) (fun g e=>(ae OB.1 g e).1)⟩;have D4:=Al (DB.1.below B4.1 hpl);have G4:=Al (iD GB.1 B4.1);clear au af bT))
    go_roundw
    case rel=>exact⟨k+1,om,by go_num,A4,_,c4,_,a3,0,rfl,O4.1,D4.1,⟨by rw[hm.1.1],by rw[hok2.1,Nat.sub_sub]⟩,G4.1⟩
    case measure=>simp[intOf];omega
   ·have Fu:=Al (hbad.1 he);have yg:(e3==0)=false:=by simpa using he
    clear hbad hok;go_wp2_with (first
     |(go_at_call 173;refine EL.1.mono ?_;rintro r w2 ⟨rfl,hr,hg⟩;have O2:=Al (aJ.past O.1 hg hpl);have OB:=Al (Oa O2.1 (.cells #[.string x.n,.string x.v] 59));have DB:=Al (hr.box (.cells #[.string x.n,.string x.v] 59));have GB:Kept (w.grownBy (w2.alloc (.cells #[.string x.n,.string x.v] 59)) (some p)):=⟨(G.1.trans hg).trans (aD ((Ae _ w2).alloc Aj _))⟩;obtain⟨q0,q1,q2⟩:=(HR.1.grown GB.1).cells;have b0:=Aq w2 #[.string x.n,.string x.v] 59 (0,0) 0;have b1:=Aq w2 #[.string x.n,.string x.v] 59 (0,0) 1;generalize hWB:w2.alloc (.cells #[.string x.n,.string x.v] 59)=WB at*;clear hr hg O2 EL)
     |(go_at_call 120;refine(ay p a3 l e3 _ (by exact DB.1)).mono ?_;rintro r w9 ⟨rfl,rfl⟩))
    go_ret;refine⟨none,0,0,rfl,?_⟩;rw[Fu.1];exact⟨aJ.nil _ _,DB.1,GB.1⟩
  ·have hM2:Kept (M=(acc,a2,e2)):=⟨by rw[hm.1.2,show n-k=0 from om,Rc.dz]⟩
   have O:=Al ho;have D:=Al hd;have G:=Al hg;clear ho hd hg;go_wp2;go_ret;refine⟨A,m,c,rfl,?_⟩;rw[hM2.1];exact⟨O.1,D.1,G.1⟩
theorem Fv (q p a tn tc TA T l e w) (hR:RR w q p TA tn tc T l) (h:aK w p l a e) (hll:l.length≤20000000):
  Calls prog 174 #[.pointer (some ⟨q,0,none⟩),.func (.func 175) #[.pointer (some ⟨q,0,none⟩)] #[]] w fun r w'=>∃A n c,r= .returned (.slice A n c)∧vR w' w.heap.size A n c (Rc.lens l a e).1∧aK w' p l (Rc.lens l a e).2.1 (Rc.lens l a e).2.2∧w.grownBy w' (some p):=by
 have hpl:=h.lt;have hqp:=hR.2.1;have HR:=Al hR;have CN:=Al (pz q p a tn tc TA T l e w hR h);have hcl:=Rc.tq l a e h.len.2;obtain⟨M,hM⟩:∃M,M=Rc.lens l a e:=⟨_,rfl⟩
 rw[←hM];have HM:Kept (M=Rc.dI (Rc.len l) (Rc.cnt l a e).1 [] (Rc.cnt l a e).2.1 (Rc.cnt l a e).2.2):=⟨hM⟩
 generalize Rc.cnt l a e=X at*;obtain⟨n,a1,e1⟩:=X;simp only[]at CN hcl HM;clear h hR hM;have rF:n≤20000000:=om;go_enter func174,ntmps174;go_upto_region 3 with(go_at_call 171;refine CN.1.mono ?_;rintro r w1 ⟨rfl,hr,hg⟩;have D1:=Al hr;have G1:=Al hg;clear hr hg CN)
 go_loopw [5,9] (fun o i wr=>∃k:Nat,k≤n∧i= .int .i64 k∧∃A m c acc a2 e2,o= .slice A m c∧vR wr w.heap.size A m c acc∧aK wr p l a2 e2∧Kept (m=k∧M=Rc.dI (Rc.len l) (n-k) acc a2 e2)∧w.grownBy wr (some p)) (fun _ i _=>n-(intOf i).toNat)
 case atStart=>exact⟨0,om,rfl,none,0,0,[],a1,e1,rfl,aO.nil _ _,D1.1,⟨rfl,HM.1⟩,G1.1⟩
 case round=>
  clear D1 G1;obtain⟨k,hk,rfl,A,m,c,acc,a2,e2,rfl,ho,hd,hm,hg⟩:=hrel;have hz:=hg.size;by_cases hlt:k<n
  ·have hm6:m≤20000000:=by have:=hm.1.1;omega
   have O:=Al ho;have G:=Al hg;have RW:=Al (HR.1.grown hg);have EL:=Al (Jh q p a2 tn tc TA T l e2 wr RW.1 hd);have hbad:=Al (fun h=>hm.1.2.trans (Rc.iT (Rc.len l) (n-k) acc a2 e2 om h));have hok:=Al (fun h=>hm.1.2.trans (Rc.iZ (Rc.len l) (n-k) acc a2 e2 om h));generalize Rc.len l a2 e2=Y at*;obtain⟨x,a3,e3⟩:=Y;simp only[]at EL hbad hok;clear ho hd hg;by_cases he:e3=0
   ·subst he;have hok2:=Al (hok.1 rfl);clear hok hbad;go_wp2_with (first
     |(go_at_call 175;refine EL.1.mono ?_;rintro r WB ⟨v,rfl,hv,hr,hg⟩;have OB:=Al (aO.past O.1 hg hpl);have DB:=Al hr;have HV:=Al hv;have GB:=Al (G.1.trans hg);obtain⟨q0,q1,q2⟩:=(HR.1.grown GB.1).cells;obtain rfl:v=(x:Int):=hv rfl;clear hr hg hv HV EL)
     |(go_at_call 120;refine(ay p a3 l 0 _ (by exact DB.1)).mono ?_;rintro r w9 ⟨rfl,rfl⟩)
     |(at_builtin;refine eD rfl (.tmp 19) (.tmp 21) rfl w.heap.size A m c (acc.map Int.ofNat) rfl (Oa OB.1 _) (WB.heap.size+1) _ _ _ [(x:Int)] rfl (jF.one WB x) om (by have:=GB.1.size;simp;omega) ?_;intro A4 c4 w4 au af bT;have O4:=Al au;have B4:Kept (Below w.heap.size WB w4):=⟨((Ae w.heap.size WB).alloc GB.1.size _).grown af (by have:=GB.1.size;simp;omega) (fun g e=>(ae OB.1 g e).1)⟩;have D4:=Al (DB.1.below B4.1 hpl);have G4:=Al (iD GB.1 B4.1);clear au af bT))
    go_roundw
    case rel=>exact⟨k+1,om,by go_num,A4,_,c4,_,a3,0,rfl,vR.app O4.1,D4.1,⟨by rw[hm.1.1],by rw[hok2.1,Nat.sub_sub]⟩,G4.1⟩
    case measure=>simp[intOf];omega
   ·have Fu:=Al (hbad.1 he);have yg:(e3==0)=false:=by simpa using he
    clear hbad hok;go_wp2_with (first
     |(go_at_call 175;refine EL.1.mono ?_;rintro r WB ⟨v,rfl,hv,hr,hg⟩;have OB:=Al (aO.past O.1 hg hpl);have DB:=Al hr;have HV:=Al hv;have GB:=Al (G.1.trans hg);obtain⟨q0,q1,q2⟩:=(HR.1.grown GB.1).cells;clear hr hg hv HV EL)
     |(go_at_call 120;refine(ay p a3 l e3 _ (by exact DB.1)).mono ?_;rintro r w9 ⟨rfl,rfl⟩))
    go_ret;refine⟨none,0,0,rfl,?_⟩;rw[Fu.1];exact⟨aO.nil _ _,DB.1,GB.1⟩
  ·have hM2:Kept (M=(acc,a2,e2)):=⟨by rw[hm.1.2,show n-k=0 from om,Rc.dz]⟩
   have O:=Al ho;have D:=Al hd;have G:=Al hg;clear ho hd hg;go_wp2;go_ret;refine⟨A,m,c,rfl,?_⟩;rw[hM2.1];exact⟨O.1,D.1,G.1⟩
end
end
section
section
open Go.RowKit Go.Shelf
namespace Rc
def rec (T:List ByteArray) (l:List UInt8) (a:Nat) (e:Int):(List aU×List Nat)×Nat×Int:=
 let x:=gu T l a e
 let y:=lens l x.2.1 x.2.2
 ((x.1,y.1),y.2.1,if y.1=[]∧y.2.2=0 then 23 else y.2.2)
end Rc
theorem aS {w:World} {base n c sz g k A xs t v} (h:w.ownsRow base t sz (.slice A n c) n xs) (hne:∀g',ab A=some g'→g'≠g):(w.setCell ⟨g,k,none⟩ v).ownsRow base t sz (.slice A n c) n xs:=
 ag h (ak w ⟨g,k,none⟩ v) (by
  rcases hA:ab A with _|g'
  ·exact .inl rfl
  ·exact .inr fun e=>hne g' hA (Oj e))
theorem bK {w:World} {b1 b2 sz n c A xs e} (h:w.ownsRow b1 e sz (.slice A n c) n xs) (hb:b2≤b1):w.ownsRow b2 e sz (.slice A n c) n xs:=
 ⟨h.1,h.2.imp id fun⟨g,cap,cur,h1,h2,h3⟩=>⟨g,cap,cur,h1,om,h3⟩⟩
theorem aK.yH {w p a g k l e v} (h:aK w p l a e) (hg:p<g):aK (w.setCell ⟨g,k,none⟩ v) p l a e:=
 h.below ((Ae g w).setCell (p:=⟨g,k,none⟩) Aj _) hg
theorem Ji (q p a tn tc TA T l e w) (hR:RR w q p TA tn tc T l) (h:aK w p l a e) (hll:l.length≤20000000):
  Calls prog 122 #[.pointer (some ⟨q,0,none⟩)] w fun r w'=>∃A1 n1 c1 A2 n2 c2,r= .returned (.agg #[.slice A1 n1 c1,.slice A2 n2 c2])∧aJ w' w.heap.size A1 n1 c1 (Rc.rec T l a e).1.1∧vR w' w.heap.size A2 n2 c2 (Rc.rec T l a e).1.2∧aK w' p l (Rc.rec T l a e).2.1 (Rc.rec T l a e).2.2∧w.grownBy w' (some p):=by
 have hpl:=h.lt;obtain⟨W1,hW1⟩:∃W1,W1=w.alloc (.cells #[.slice none 0 0,.slice none 0 0] 146):=⟨_,rfl⟩
 have R1:Kept (RR W1 q p TA tn tc T l):=⟨by rw[hW1];exact hR.box _⟩
 have D1:Kept (aK W1 p l a e):=⟨by rw[hW1];exact h.box _⟩
 have H1:Kept (W1.heap[w.heap.size]? =some (.cells #[.slice none 0 0,.slice none 0 0] 146 (0,0))):=⟨by rw[hW1];exact Aw w _⟩
 have Z1:Kept (w.heap.size<W1.heap.size):=⟨by rw[hW1];simp⟩
 have G1:Kept (∀W,W1.grownBy W (some p)→w.grownBy W (some p)):=⟨fun W hg=>by rw[hW1]at hg;exact xg hg⟩
 have HW:=Al hW1.symm;have S1:=Al (Fs q p a tn tc TA T l e W1 R1.1 D1.1 hll);have hC:Rc.rec T l a e=(((Rc.gu T l a e).1,(Rc.lens l (Rc.gu T l a e).2.1 (Rc.gu T l a e).2.2).1),(Rc.lens l (Rc.gu T l a e).2.1 (Rc.gu T l a e).2.2).2.1,if(Rc.lens l (Rc.gu T l a e).2.1 (Rc.gu T l a e).2.2).1=[]∧(Rc.lens l (Rc.gu T l a e).2.1 (Rc.gu T l a e).2.2).2.2=0 then 23 else(Rc.lens l (Rc.gu T l a e).2.1 (Rc.gu T l a e).2.2).2.2):=rfl;rw[hC];generalize Rc.gu T l a e=X at*;obtain⟨L,a1,e1⟩:=X;have S2:=Al (fun w2 (r:RR w2 q p TA tn tc T l) (d:aK w2 p l a1 e1)=>Fv q p a1 tn tc TA T l e1 w2 r d hll);simp only[]at S1 S2⊢;generalize Rc.lens l a1 e1=Y at*;obtain⟨C,a2,e2⟩:=Y;simp only[]at S2⊢;obtain⟨E,hE⟩:∃E:Int,E=(if C=[]∧e2=0 then 23 else e2):=⟨_,rfl⟩
 rw[←hE];have HE:=Al hE;clear h hR hC hW1 hE;go_enter func122,ntmps122;go_upto_region 1 with fail;rw[HW.1];go_upto_region 2 with(go_at_call 172;refine S1.1.mono ?_;rintro r w2 ⟨A1,n1,c1,rfl,ho,hr,hg⟩;have O2:=Al ho;have D2:=Al hr;have G2:=Al hg;have R2:=Al (R1.1.grown hg);have X2:=Al ((hg.block w.heap.size Z1.1 (fun e=>by have:=Oj e;omega)).trans H1.1);clear hr hg ho S1)
 have R2b:=Al (R2.1.box (.cells #[.slice A1 n1 c1,.slice none 0 0] 146));have D2b:=Al (D2.1.box (.cells #[.slice A1 n1 c1,.slice none 0 0] 146));have O2b:=Al (Oa O2.1 (.cells #[.slice A1 n1 c1,.slice none 0 0] 146));have z2:=G2.1.size;have z1:=Z1.1;have hlt1:∀g,ab A1=some g→W1.heap.size≤g∧g<w2.heap.size:=fun g hg=>ae O2.1 g hg
 have X2b:Kept ((w2.alloc (.cells #[.slice A1 n1 c1,.slice none 0 0] 146)).heap[w.heap.size]? =some (.cells #[.slice none 0 0,.slice none 0 0] 146 (0,0))):=⟨(Ay _ _ _ om).trans X2.1⟩
 have H2:Kept ((w2.alloc (.cells #[.slice A1 n1 c1,.slice none 0 0] 146)).heap[w2.heap.size]? =some (.cells #[.slice A1 n1 c1,.slice none 0 0] 146 (0,0))):=⟨Aw w2 _⟩
 have G2b:Kept (W1.grownBy (w2.alloc (.cells #[.slice A1 n1 c1,.slice none 0 0] 146)) (some p)):=⟨G2.1.trans (aD ((Ae _ w2).alloc Aj _))⟩
 have zW:w2.heap.size< (w2.alloc (.cells #[.slice A1 n1 c1,.slice none 0 0] 146)).heap.size:=Ah;clear R2 D2 O2 X2 G2;generalize w2.alloc (.cells #[.slice A1 n1 c1,.slice none 0 0] 146)=W2 at*;generalize w2.heap.size=g3 at*;go_upto_region 3 with(go_at_call 174;refine(S2.1 W2 R2b.1 D2b.1).mono ?_;rintro r w3 ⟨A2,n2,c2,rfl,ho,hr,hg⟩;have O3:=Al (aJ.past O2b.1 hg om);have N3:=Al ho;have D3:=Al hr;have G3:=Al (G2b.1.trans hg);have x3:=(hg.block w.heap.size om (fun e=>by have:=Oj e;omega)).trans X2b.1;have h3:=(hg.block g3 zW (fun e=>by have:=Oj e;omega)).trans H2.1;have X3:=Al x3;have H3:=Al h3;have k0:=Co _ _ 0 _ _ _ h3;have k1:=Co _ _ 1 _ _ _ h3;have kf:=fun k=>Fr _ _ k _ _ h3;have hlt2:∀g,ab A2=some g→W2.heap.size≤g:=(fun g hgg=>(ae ho g hgg).1);have z3:=hg.size;clear hr hg ho S2 x3 h3)
 have hn2:n2=C.length:=by have:=aO.len N3.1;simpa using this
 have O4:Kept (aJ (w3.setCell ⟨g3,1,none⟩ (.slice A2 n2 c2)) W1.heap.size A1 n1 c1 L):=⟨aS O3.1 fun g hg=>by have:=hlt1 g hg;omega⟩
 have N4:Kept (vR (w3.setCell ⟨g3,1,none⟩ (.slice A2 n2 c2)) W2.heap.size A2 n2 c2 C):=⟨aS N3.1 fun g hg=>by have:=hlt2 g hg;omega⟩
 have D4:Kept (aK (w3.setCell ⟨g3,1,none⟩ (.slice A2 n2 c2)) p l a2 e2):=⟨D3.1.yH om⟩
 have G4:Kept (W1.grownBy (w3.setCell ⟨g3,1,none⟩ (.slice A2 n2 c2)) (some p)):=⟨dO G3.1 om⟩
 have H4:Kept ((w3.setCell ⟨g3,1,none⟩ (.slice A2 n2 c2)).heap[g3]? =some (.cells #[.slice A1 n1 c1,.slice A2 n2 c2] 146 (0,0))):=⟨Ag w3 g3 1 _ _ _ H3.1⟩
 have X4:Kept ((w3.setCell ⟨g3,1,none⟩ (.slice A2 n2 c2)).heap[w.heap.size]? =some (.cells #[.slice none 0 0,.slice none 0 0] 146 (0,0))):=⟨((ak w3 ⟨g3,1,none⟩ (.slice A2 n2 c2)).block w.heap.size om (fun e=>by have:=Oj e;simp at this;omega)).trans X3.1⟩
 have z4:w3.heap.size=(w3.setCell ⟨g3,1,none⟩ (.slice A2 n2 c2)).heap.size:=Ah;have Z4:=Al z4;clear z4 O3 N3 D3 G3 H3 X3 k0 k1 kf;generalize w3.setCell ⟨g3,1,none⟩ (.slice A2 n2 c2)=W4 at*;obtain⟨q0,q1,q2⟩:=(R1.1.grown G4.1).cells;have k0:=Co _ _ 0 _ _ _ H4.1;have k1:=Co _ _ 1 _ _ _ H4.1;have y0:=Co _ _ 0 _ _ _ X4.1;have y1:=Co _ _ 1 _ _ _ X4.1;have yf:=fun k=>Fr _ _ k _ _ X4.1
 have fin:∀W5 (e5:Int),W5.heap[w.heap.size]? =some (.cells #[.slice none 0 0,.slice none 0 0] 146 (0,0))→aJ W5 W1.heap.size A1 n1 c1 L→vR W5 W2.heap.size A2 n2 c2 C→aK W5 p l a2 e5→W1.grownBy W5 (some p)→
   (((W5.setCell ⟨w.heap.size,0,none⟩ (.slice A1 n1 c1)).setCell ⟨w.heap.size,1,none⟩ (.slice A2 n2 c2)).heap[w.heap.size]? =some (.cells #[.slice A1 n1 c1,.slice A2 n2 c2] 146 (0,0)))∧
   aJ ((W5.setCell ⟨w.heap.size,0,none⟩ (.slice A1 n1 c1)).setCell ⟨w.heap.size,1,none⟩ (.slice A2 n2 c2)) w.heap.size A1 n1 c1 L∧vR ((W5.setCell ⟨w.heap.size,0,none⟩ (.slice A1 n1 c1)).setCell ⟨w.heap.size,1,none⟩ (.slice A2 n2 c2)) w.heap.size A2 n2 c2 C∧
   aK ((W5.setCell ⟨w.heap.size,0,none⟩ (.slice A1 n1 c1)).setCell ⟨w.heap.size,1,none⟩ (.slice A2 n2 c2)) p l a2 e5∧w.grownBy ((W5.setCell ⟨w.heap.size,0,none⟩ (.slice A1 n1 c1)).setCell ⟨w.heap.size,1,none⟩ (.slice A2 n2 c2)) (some p):=fun W5 e5 h1 h2 h3 h4 h5=>
  ⟨xh W5 w.heap.size _ _ h1 rfl,
   bK (aS (aS h2 fun g hg=>by have:=hlt1 g hg;omega) fun g hg=>by have:=hlt1 g hg;omega) om,
   bK (aS (aS h3 fun g hg=>by have:=hlt2 g hg;omega) fun g hg=>by have:=hlt2 g hg;omega) om,
   (h4.yH hpl).yH hpl,dO (dO (G1.1 W5 h5) Aj) Aj⟩
 have FIN:=Al fin;have Zb:Kept (p<W1.heap.size∧p<W2.heap.size):=⟨om,om⟩
 have Zs:Kept (w.heap.size<W4.heap.size∧g3<W4.heap.size∧p<w.heap.size∧p<g3):=⟨by have:=Z4.1;omega,by have:=Z4.1;omega,hpl,om⟩
 clear fin hlt1 hlt2 z1 z2 z3 zW Z4;by_cases hc0:C=[]
 ·have hn0:n2=0:=by rw[hn2,hc0];rfl
  have hE:(if e2=0 then(23:Int)else e2)=E:=by rw[HE.1];simp[hc0]
  have FL:=Al (dm p a2 l e2 23 W4 D4.1);rw[hE]at FL;clear hn2 hE hc0;subst hn0;go_wp2_with (go_at_call 114;refine FL.1.mono ?_;rintro r w5 ⟨rfl,hr,hg⟩;have hx5:=(hg.block w.heap.size Zs.1.1 (fun e=>by have:=Oj e;have:=Zs.1.2.2.1;omega)).trans X4.1;have hh5:=(hg.block g3 Zs.1.2.1 (fun e=>by have:=Oj e;have:=Zs.1.2.2.2;omega)).trans H4.1;have m0:=Co _ _ 0 _ _ _ hh5;have m1:=Co _ _ 1 _ _ _ hh5;have x0:=Co _ _ 0 _ _ _ hx5;have x1:=Co _ _ 1 _ _ _ hx5;have xf:=fun k=>Fr _ _ k _ _ hx5;have F5:=Al (FIN.1 w5 E hx5 (aJ.past O4.1 hg Zb.1.1) (aO.past N4.1 hg Zb.1.2) hr (G4.1.trans hg));clear hr hg hx5 hh5 FL);obtain⟨f1,f2,f3,f4,f5⟩:=F5.1;refine Bg (v:= .agg #[.slice A1 n1 c1,.slice A2 0 c2]) ?hr rfl ⟨A1,n1,c1,A2,0,c2,rfl,f2,f3,f4,f5⟩
  case hr=>exact results_cell_row (fn:=Tryz.f122) (p:=2) (ty:=146) rfl _ _ w.heap.size _ _ _ _ rfl f1 underlying146 rfl kr
 ·have hE:E=e2:=by rw[HE.1];simp[hc0]
  have yI:¬n2=0:=by
   rw[hn2];exact fun h=>hc0 (qU h)
  have F5:=Al (FIN.1 W4 e2 X4.1 O4.1 N4.1 D4.1 G4.1);rw[←hE]at F5;clear hn2 hE hc0;go_wp2;obtain⟨f1,f2,f3,f4,f5⟩:=F5.1;refine Bg (v:= .agg #[.slice A1 n1 c1,.slice A2 n2 c2]) ?hr rfl ⟨A1,n1,c1,A2,n2,c2,rfl,f2,f3,f4,f5⟩
  case hr=>exact results_cell_row (fn:=Tryz.f122) (p:=2) (ty:=146) rfl _ _ w.heap.size _ _ _ _ rfl f1 underlying146 rfl kr
end
end
section
section
open Go.RowKit Go.Shelf
abbrev jL:=List aU×List Int
def ax (hs:List (Value×Value)):List Value:=hs.flatMap fun h=>[h.1,h.2]
theorem aP (hs):(ax hs).length=hs.length*2:=by
 unfold ax
 induction hs with
 |nil=>rfl
 |cons x hs ih=>rw[Av,La,ih,Lc];simp;omega
theorem pE (a b):ax (a++b)=ax a++ax b:=by simp[ax]
theorem bR (hs i) (h:i<hs.length):(ax hs)[i*2]? =some hs[i].1∧(ax hs)[i*2+1]? =some hs[i].2:=by
 unfold ax
 induction hs generalizing i with
 |nil=>simp at h
 |cons x hs ih=>
  rw[Av];cases i with
  |zero=>exact⟨rfl,rfl⟩
  |succ i=>
   rw[Bp (by simp;omega),Bp (by simp;omega)];have:=ih i (by simpa using h);simp only[Lc,Ba,Cj];rw[show(i+1)*2-(0+1+1)=i*2 from om,show(i+1)*2+1-(0+1+1)=i*2+1 from om];exact this
def jM (w:World) (base:Nat) (A:Option Addr) (n c:Nat) (rs:List jL):Prop:=
 ∃hs:List (Value×Value),w.ownsRow base 146 2 (.slice A n c) n (ax hs)∧hs.length=rs.length∧
  ∀(i:Nat) (h:i<hs.length) (h':i<rs.length),∃A1 n1 c1 A2 n2 c2,hs[i]=(.slice A1 n1 c1,.slice A2 n2 c2)∧aJ w base A1 n1 c1 rs[i].1∧aO w base A2 n2 c2 rs[i].2
def vC (w:World) (B:Nat) (A:Option Addr) (n c:Nat) (rs:List jL):Prop:=
 ∃hs:List (Value×Value),Rd w B 2 A n c (ax hs)∧hs.length=rs.length∧
  ∀(i:Nat) (h:i<hs.length) (h':i<rs.length),∃A1 n1 c1 A2 n2 c2,hs[i]=(.slice A1 n1 c1,.slice A2 n2 c2)∧dH w B A1 n1 c1 rs[i].1∧jF w B A2 n2 c2 rs[i].2
theorem jM.nil (w base):jM w base none 0 0 []:=⟨[],⟨rfl,.inl ⟨rfl,rfl⟩⟩,rfl,fun i h=>by simp at h⟩
theorem jM.rd {w base n c A rs} (h:jM w base A n c rs):vC w w.heap.size A n c rs:=by
 obtain⟨hs,h1,h2,h3⟩:=h;exact⟨hs,Rd.bz h1,h2,fun i a b=>by obtain⟨A1,n1,c1,A2,n2,c2,e,p,q⟩:=h3 i a b;exact⟨A1,n1,c1,A2,n2,c2,e,p.rd,q.rd⟩⟩
theorem vC.len {w B n c A rs} (h:vC w B A n c rs):n=rs.length:=by
 obtain⟨hs,h1,h2,-⟩:=h;have:=h1.2.2.1;rw[aP]at this;omega
theorem vC.below {w w' B n c A rs} (h:vC w B A n c rs) (hb:Below B w w'):vC w' B A n c rs:=by
 obtain⟨hs,h1,h2,h3⟩:=h;exact⟨hs,Rd.below h1 hb,h2,fun i a b=>by obtain⟨A1,n1,c1,A2,n2,c2,e,p,q⟩:=h3 i a b;exact⟨A1,n1,c1,A2,n2,c2,e,p.below hb,q.below hb⟩⟩
theorem vC.more {w B B' n c A rs} (h:vC w B A n c rs) (hB:B≤B'):vC w B' A n c rs:=by
 obtain⟨hs,h1,h2,h3⟩:=h;exact⟨hs,Rd.more h1 hB,h2,fun i a b=>by obtain⟨A1,n1,c1,A2,n2,c2,e,p,q⟩:=h3 i a b;exact⟨A1,n1,c1,A2,n2,c2,e,p.more hB,q.more hB⟩⟩
theorem bS {w w':World} {base n c sz p A xs e} (h:w.ownsRow base e sz (.slice A n c) n xs) (hg:w.grownBy w' (some p)) (hp:p<base):w'.ownsRow base e sz (.slice A n c) n xs:=
 ag h hg (by
  rcases hA:ab A with _|g
  ·exact .inl rfl
  ·refine .inr fun e=>?_
   have:=(ae h g hA).1;have:=Oj e;omega)
theorem jM.past {w w' base n c p A rs} (h:jM w base A n c rs) (hg:w.grownBy w' (some p)) (hp:p<base):jM w' base A n c rs:=by
 obtain⟨hs,h1,h2,h3⟩:=h;exact⟨hs,bS h1 hg hp,h2,fun i a b=>by obtain⟨A1,n1,c1,A2,n2,c2,e,p,q⟩:=h3 i a b;exact⟨A1,n1,c1,A2,n2,c2,e,bS p hg hp,bS q hg hp⟩⟩
theorem jM.alloc {w base n c A rs} (h:jM w base A n c rs) (o):jM (w.alloc o) base A n c rs:=by
 obtain⟨hs,h1,h2,h3⟩:=h;exact⟨hs,Oa h1 o,h2,fun i a b=>by obtain⟨A1,n1,c1,A2,n2,c2,e,p,q⟩:=h3 i a b;exact⟨A1,n1,c1,A2,n2,c2,e,Oa p o,Oa q o⟩⟩
theorem eF {w:World} {b1 b2 sz1 sz2 n1 n2 c1 c2 A1 A2 xs1 xs2 e1 e2} (h1:w.ownsRow b1 e1 sz1 (.slice A1 n1 c1) n1 xs1) (h2:w.ownsRow b2 e2 sz2 (.slice A2 n2 c2) n2 xs2) (hne:e1≠e2):
  ab A1=none∨ab A1≠ab A2:=by
 rcases h1.2 with⟨hv,_⟩|⟨g,cap,cur,hv,_,hg,_⟩
 ·injection hv with hv;rw[hv];exact .inl rfl
 ·injection hv with hv
  rcases h2.2 with⟨hv2,_⟩|⟨g2,cap2,akH,hv2,_,hg2,_⟩
  ·injection hv2 with hv2
   exact .inr (by rw[hv,hv2];simp[ab])
  ·injection hv2 with hv2
   refine .inr fun e=>?_
   rw[hv,hv2]at e;obtain rfl:g=g2:=by simpa[ab]using e
   rw[hg]at hg2;simp only[gU,DY]at hg2;exact hne hg2.2.1
theorem jM.push {w w4 base n c n1 c1 n2 c2 c4 A A1 A2 A4 rs hs L C tmp}
  (h1:w.ownsRow base 146 2 (.slice A n c) n (ax hs)) (h2:hs.length=rs.length)
  (h3:∀(i) (h:i<hs.length) (h':i<rs.length),∃A1 n1 c1 A2 n2 c2,hs[i]=(.slice A1 n1 c1,.slice A2 n2 c2)∧aJ w base A1 n1 c1 rs[i].1∧aO w base A2 n2 c2 rs[i].2)
  (hL:aJ w base A1 n1 c1 L) (hC:aO w base A2 n2 c2 C)
  (au:w4.ownsRow base 146 2 (.slice A4 (n+1) c4) (n+1) (ax hs++[.slice A1 n1 c1,.slice A2 n2 c2])) (hg:(w.alloc tmp).grownBy w4 (ab A)):jM w4 base A4 (n+1) c4 (rs++[(L,C)]):=by
 have kL:∀{A':Option Addr} {n' c':Nat} {l':List aU},aJ w base A' n' c' l'→aJ w4 base A' n' c' l':=fun h=>ag (Oa h tmp) hg (eF h h1 Ai)
 have kI:∀{A':Option Addr} {n' c':Nat} {l':List Int},aO w base A' n' c' l'→aO w4 base A' n' c' l':=fun h=>ag (Oa h tmp) hg (eF h h1 Ai)
 refine⟨hs++[(.slice A1 n1 c1,.slice A2 n2 c2)],by rw[pE];exact au,by simp[h2],fun i h h'=>?_⟩;by_cases hi:i<hs.length
 ·obtain⟨B1,m1,d1,B2,m2,d2,e,p,q⟩:=h3 i hi om;rw[pF hi,pF (show i<rs.length from om)];exact⟨B1,m1,d1,B2,m2,d2,e,kL p,kI q⟩
 ·have hie:i=hs.length:=by simp at h;omega
  subst hie;refine⟨A1,n1,c1,A2,n2,c2,Ah,?_,?_⟩
  ·have:(rs++[(L,C)])[hs.length]'h'=(L,C):=by simp[h2]
   rw[this];exact kL hL
  ·have:(rs++[(L,C)])[hs.length]'h'=(L,C):=by simp[h2]
   rw[this];exact kI hC
theorem Ye:(prog.info? 146).map (fun i=>(i.zero,i.size,i.bytes))=some (some (.agg #[.slice none 0 0,.slice none 0 0]),2,48):=kr
theorem Rd.rec (w:World) (h1 h2):Rd (w.alloc (.cells #[h1,h2] 146)) (w.heap.size+1) 2 (some ⟨w.heap.size,0,none⟩) 1 1 [h1,h2]:=
 ⟨Nr _,by unfold maxLen;omega,rfl,fun _=>⟨_,0,rfl,om,fun i u hu=>by
  rw[bO];exact(Aq w _ _ _ i).trans (by simpa using hu)⟩⟩
namespace Rc
def bY (r:List aU×List Nat):jL:=(r.1,r.2.map Int.ofNat)
def recs (T:List ByteArray) (l:List UInt8) (a:Nat) (e:Int):List (List aU×List Nat)×Nat×Int:=dI (rec T l) (cnt l a e).1 [] (cnt l a e).2.1 (cnt l a e).2.2
end Rc
theorem Fw (q p a tn tc TA T l e w) (hR:RR w q p TA tn tc T l) (h:aK w p l a e) (hll:l.length≤20000000):
  Calls prog 121 #[.pointer (some ⟨q,0,none⟩),.func (.func 122) #[.pointer (some ⟨q,0,none⟩)] #[]] w fun r w'=>∃A n c,r= .returned (.slice A n c)∧jM w' w.heap.size A n c ((Rc.recs T l a e).1.map Rc.bY)∧aK w' p l (Rc.recs T l a e).2.1 (Rc.recs T l a e).2.2∧w.grownBy w' (some p):=by
 have hpl:=h.lt;have hqp:=hR.2.1;have HR:=Al hR;have CN:=Al (pz q p a tn tc TA T l e w hR h);have hcl:=Rc.tq l a e h.len.2;obtain⟨i0,hi0,hz0,hz1,hz2⟩:=AY Ye;obtain⟨M,hM⟩:∃M,M=Rc.recs T l a e:=⟨_,rfl⟩
 rw[←hM];have HM:Kept (M=Rc.dI (Rc.rec T l) (Rc.cnt l a e).1 [] (Rc.cnt l a e).2.1 (Rc.cnt l a e).2.2):=⟨hM⟩
 generalize Rc.cnt l a e=X at*;obtain⟨n,a1,e1⟩:=X;simp only[]at CN hcl HM;clear h hR hM;have rF:n≤20000000:=om;go_enter func121,ntmps121;go_upto_region 3 with(go_at_call 171;refine CN.1.mono ?_;rintro r w1 ⟨rfl,hr,hg⟩;have D1:=Al hr;have G1:=Al hg;clear hr hg CN)
 go_loopw [5,9] (fun o i wr=>∃k:Nat,k≤n∧i= .int .i64 k∧∃A m c acc a2 e2,o= .slice A m c∧jM wr w.heap.size A m c (acc.map Rc.bY)∧aK wr p l a2 e2∧Kept (m=k∧M=Rc.dI (Rc.rec T l) (n-k) acc a2 e2)∧w.grownBy wr (some p)) (fun _ i _=>n-(intOf i).toNat)
 case atStart=>exact⟨0,om,rfl,none,0,0,[],a1,e1,rfl,jM.nil _ _,D1.1,⟨rfl,HM.1⟩,G1.1⟩
 case round=>
  clear D1 G1;obtain⟨k,hk,rfl,A,m,c,acc,a2,e2,rfl,ho,hd,hm,hg⟩:=hrel;have hz:=hg.size;by_cases hlt:k<n
  ·have hm6:m≤20000000:=by have:=hm.1.1;omega
   have G:=Al hg;have RW:=Al (HR.1.grown hg);have EL:=Al (Ji q p a2 tn tc TA T l e2 wr RW.1 hd hll);have hbad:=Al (fun h=>hm.1.2.trans (Rc.iT (Rc.rec T l) (n-k) acc a2 e2 om h));have hok:=Al (fun h=>hm.1.2.trans (Rc.iZ (Rc.rec T l) (n-k) acc a2 e2 om h));have O:=Al ho;generalize Rc.rec T l a2 e2=Y at*;obtain⟨⟨L,C⟩,a3,e3⟩:=Y;simp only[]at EL hbad hok;clear ho hd hg;by_cases he:e3=0
   ·subst he;have hok2:=Al (hok.1 rfl);clear hok hbad;go_upto_region 7 with(first
     |(go_at_call 122;refine EL.1.mono ?_;rintro r w2 ⟨A1,n1,c1,A2,n2,c2,rfl,hL,hN,hr,hg⟩;have O2:=Al (jM.past O.1 hg hpl);have L2:=Al (bK hL hz);have N2:=Al (bK hN hz);have D2:=Al hr;have G2:=Al (G.1.trans hg);have GB:Kept (w.grownBy (w2.alloc (.cells #[.slice A1 n1 c1,.slice A2 n2 c2] 146)) (some p)):=⟨(G.1.trans hg).trans (aD ((Ae _ w2).alloc Aj _))⟩;obtain⟨q0,q1,q2⟩:=(HR.1.grown GB.1).cells;clear hr hg hL hN EL)
     |(go_at_call 120;refine(ay p a3 l 0 _ (by exact aK.box D2.1 _)).mono ?_;rintro r w9 ⟨rfl,rfl⟩))
    have OB:=Al (O2.1.alloc (.cells #[.slice A1 n1 c1,.slice A2 n2 c2] 146));have LB:=Al (Oa L2.1 (.cells #[.slice A1 n1 c1,.slice A2 n2 c2] 146));have NB:=Al (Oa N2.1 (.cells #[.slice A1 n1 c1,.slice A2 n2 c2] 146));have DB:=Al (aK.box D2.1 (.cells #[.slice A1 n1 c1,.slice A2 n2 c2] 146));have b0:=Aq w2 #[.slice A1 n1 c1,.slice A2 n2 c2] 146 (0,0) 0;have b1:=Aq w2 #[.slice A1 n1 c1,.slice A2 n2 c2] 146 (0,0) 1;generalize hWB:w2.alloc (.cells #[.slice A1 n1 c1,.slice A2 n2 c2] 146)=WB at*;obtain⟨hs,o1,o2,o3⟩:=OB.1;have OO:=Al o1;have OL:=Al o2;have OE:=Al o3;have zB:=GB.1.size;clear O2 L2 N2 D2 G2 hWB OB o1 o2 o3;go_wp2_with (at_builtin;refine bA _ rfl (.tmp 19) (.tmp 21) _ rfl w.heap.size 146 i0 (.agg #[.slice none 0 0,.slice none 0 0]) 2 48 underlying138 hi0 hz0 hz1 hz2 rfl Ai A m c (ax hs) rfl (Oa OO.1 _) (WB.heap.size+1) _ _ _ [.slice A1 n1 c1,.slice A2 n2 c2] rfl (Rd.rec WB _ _) (by intro u hu;simp at hu;rcases hu with rfl|rfl<;>rfl) (by unfold maxLen;omega) om (by simp;omega) ?_;intro A4 c4 w4 au af bT;have P4:=Al (jM.push OO.1 OL.1 OE.1 LB.1 NB.1 au af);have B4:Kept (Below w.heap.size WB w4):=⟨((Ae w.heap.size WB).alloc zB _).grown af (by simp;omega) (fun g e=>(ae OO.1 g e).1)⟩;have D4:=Al (DB.1.below B4.1 hpl);have G4:=Al (iD GB.1 B4.1);clear au af bT);go_roundw
    case rel=>exact⟨k+1,om,by go_num,A4,_,c4,acc++[(L,C)],a3,0,rfl,by rw[dN];exact P4.1,D4.1,⟨by rw[hm.1.1],by rw[hok2.1,Nat.sub_sub]⟩,G4.1⟩
    case measure=>simp[intOf];omega
   ·have Fu:=Al (hbad.1 he);have yg:(e3==0)=false:=by simpa using he
    clear hbad hok;go_wp2_with (first
     |(go_at_call 122;refine EL.1.mono ?_;rintro r w2 ⟨A1,n1,c1,A2,n2,c2,rfl,hL,hN,hr,hg⟩;have O2:=Al (jM.past O.1 hg hpl);have L2:=Al (bK hL hz);have N2:=Al (bK hN hz);have D2:=Al hr;have G2:=Al (G.1.trans hg);have GB:Kept (w.grownBy (w2.alloc (.cells #[.slice A1 n1 c1,.slice A2 n2 c2] 146)) (some p)):=⟨(G.1.trans hg).trans (aD ((Ae _ w2).alloc Aj _))⟩;obtain⟨q0,q1,q2⟩:=(HR.1.grown GB.1).cells;clear hr hg hL hN EL)
     |(go_at_call 120;refine(ay p a3 l e3 _ (by exact aK.box D2.1 _)).mono ?_;rintro r w9 ⟨rfl,rfl⟩))
    go_ret;refine⟨none,0,0,rfl,?_⟩;rw[Fu.1];exact⟨jM.nil _ _,aK.box D2.1 _,GB.1⟩
  ·have hM2:Kept (M=(acc,a2,e2)):=⟨by rw[hm.1.2,show n-k=0 from om,Rc.dz]⟩
   have O:=Al ho;have D:=Al hd;have G:=Al hg;clear ho hd hg;go_wp2;go_ret;refine⟨A,m,c,rfl,?_⟩;rw[hM2.1];exact⟨O.1,D.1,G.1⟩
end
end
section
section
open Go.RowKit Go.Shelf
def Rc.dec (T:List ByteArray) (l:List UInt8):List jL×Int:=
 let r:=Rc.recs T l 0 0
 if Wr.fin l r.2.1 r.2.2≠0 then([],Wr.fin l r.2.1 r.2.2)else(r.1.map Rc.bY,0)
theorem vC.nil (w B):vC w B none 0 0 []:=⟨[],Rd.nil w B 2 0 none (by unfold maxLen;omega),rfl,fun i h=>by simp at h⟩
theorem fu {B p w w1 w'} (h:Below B w w1) (hg:w1.grownBy w' (some p)) (hp:B≤p) (hp2:p<w1.heap.size):Below B w w':=
 h.grown hg om (fun g e=>by have:=Oj e;omega)
theorem Jj (TA A tn tc n c T l w) (hT:bM w w.heap.size TA tn tc T) (hv:aY w w.heap.size A n c l) (hl:n≤20000000):
  Calls prog 70 #[.slice TA tn tc,.slice A n c] w fun r w'=>∃A2 n2 c2,r= .returned (.tuple #[.slice A2 n2 c2,.int .i64 (Rc.dec T l).2])∧vC w' w'.heap.size A2 n2 c2 (Rc.dec T l).1∧Below w.heap.size w w':=by
 have hlc:=hv.1;have hcm:=hv.2.1;unfold maxLen at hcm;have HN:=Al hv.len;have V:=Al hv;have VT:=Al hT;have hC:Rc.dec T l=(if Wr.fin l (Rc.recs T l 0 0).2.1 (Rc.recs T l 0 0).2.2≠0 then([],Wr.fin l (Rc.recs T l 0 0).2.1 (Rc.recs T l 0 0).2.2)else((Rc.recs T l 0 0).1.map Rc.bY,0)):=rfl;have LR:=Al (fun q p W (r:RR W q p TA tn tc T l) (d:aK W p l 0 0)=>Fw q p 0 tn tc TA T l 0 W r d (by have:=HN.1;omega));obtain⟨M,hM⟩:∃M,M=Rc.dec T l:=⟨_,rfl⟩
 rw[←hM];have HM:=Al (hM.trans hC);clear hM hC;generalize Rc.recs T l 0 0=X at*;obtain⟨rs,a1,e1⟩:=X;simp only[]at LR HM;generalize hF:Wr.fin l a1 e1=F at*;have HF:=Al hF;clear hF hv hT;have key:∀W1 p,w.heap.size≤p→p<W1.heap.size→aK W1 p l 0 0→Below w.heap.size w W1→RR (W1.alloc (.cells #[.pointer (some ⟨p,0,none⟩),.slice TA tn tc,.int .i64 (n:Int)] 218)) W1.heap.size p TA tn tc T l:=fun W1 p h1 h2 _ h4=>
  ⟨by rw[←HN.1];exact Aw W1 _,h2,((VT.1.below h4).more h1).alloc om _⟩
 have KEY:=Al key;clear key;rcases(show F=0∨(F==0)=false by by_cases h:F=0<;>simp[h])with rfl|Fx
 all_goals
  go_enter func70,ntmps70;go_wp2_with (first
   |(go_at_call 110;refine(dK A n c w.heap.size l w V.1 Aj om).mono ?_;rintro r w1 ⟨p,rfl,hp1,hp2,hr1,hb1⟩;have D1:=Al (aK.box hr1 (.cells #[.pointer (some ⟨p,0,none⟩),.slice TA tn tc,.int .i64 (n:Int)] 218));have RR1:=Al (KEY.1 w1 p hp1 hp2 hr1 hb1);have B1:=Al (hb1.alloc hb1.size (.cells #[.pointer (some ⟨p,0,none⟩),.slice TA tn tc,.int .i64 (n:Int)] 218));clear hr1 hb1)
   |(go_at_call 121;refine(LR.1 _ p _ RR1.1 D1.1).mono ?_;rintro r w2 ⟨A2,n2,c2,rfl,ho,hr,hg⟩;have O2:=Al ho.rd;have D2:=Al hr;have G2:=Al (fu B1.1 hg hp1 D1.1.lt);obtain⟨q0,q1,q2⟩:=(RR1.1.grown hg).cells;clear hr hg ho)
   |(go_at_call 117;refine(gV p a1 l e1 _ D2.1).mono ?_;rintro r w3 ⟨hr3,rfl⟩;rw[HF.1]at hr3;subst hr3))
  go_ret2
 ·refine⟨A2,n2,c2,?_,?_,G2.1⟩
  ·rw[HM.1];rfl
  ·rw[HM.1];exact O2.1
 ·have df:Kept (M=([],F)):=⟨by rw[HM.1,Ps0 (by simpa using Fx)]⟩
  refine⟨none,0,0,?_,?_,G2.1⟩
  ·rw[df.1];rfl
  ·rw[df.1];exact vC.nil _ _
end
end
section
section
open Go.RowKit Go.Shelf
theorem tu (x w) (h1:x.n.size≤maxLen) (h2:x.v.size≤maxLen):Calls prog 109 #[.agg #[.string x.n,.string x.v]] w fun e w'=>e= .returned (.int .i64 (Lb.one x))∧Gr w w':=by
 unfold maxLen at h1 h2;have e1:x.n.toList.isEmpty=decide (x.n.size=0):=by
  rw[St.tl];obtain⟨⟨l⟩⟩:=x.n;cases l<;>simp[ByteArray.size]
 by_cases h0:x.n.size=0
 ·rw[BI h0]at e1;have hr:Lb.one x=17:=by simp[Lb.one,h0]
  rw[hr];go_enter func109,ntmps109;go_wp2;go_ret;exact⟨rfl,(Gr.refl w).alloc _⟩
 ·rw[AA h0]at e1;by_cases hb:65535<x.n.size
  ·have hr:Lb.one x=7:=by simp[Lb.one,h0,hb]
   have hb':(65535:Int)< (x.n.size:Int):=om;rw[hr];go_enter func109,ntmps109;go_wp2;go_ret;exact⟨rfl,(Gr.refl w).alloc _⟩
  ·have hb':¬(65535:Int)< (x.n.size:Int):=by omega
   by_cases hb2:65535<x.v.size
   ·have hr:Lb.one x=7:=by simp[Lb.one,h0,hb2]
    have hb2':(65535:Int)< (x.v.size:Int):=om;rw[hr];go_enter func109,ntmps109;go_wp2;go_ret;exact⟨rfl,(Gr.refl w).alloc _⟩
   ·have hr:Lb.one x=0:=by simp[Lb.one,h0,hb,hb2]
    have hb2':¬(65535:Int)< (x.v.size:Int):=om;rw[hr];go_enter func109,ntmps109;go_wp2;go_ret;exact⟨rfl,(Gr.refl w).alloc _⟩
namespace Lb
theorem Fit.at {l} (h:Fit l) {k} (hk:k<l.length):l[k].n.size≤maxLen∧l[k].v.size≤maxLen:=h _ (dR hk)
theorem nP {l k} (hk:k<l.length) (h:one l[k]≠0):bW l k=one l[k]:=by
 unfold bW;rw[getD_at hk];simp only[];rw[Ps0 h]
theorem xk {l} (hk:0<l.length) (h:one l[0]=0):bW l 0=0:=by
 unfold bW;rw[getD_at hk];simp[h]
theorem nQ {l:List aU} {k:Nat} (hk:k<l.length) (h0:k≠0) (h:one l[k]=0) (he:l[k-1].n=l[k].n):bW l k=18:=by
 unfold bW;rw[getD_at hk];simp only[];rw[Ng (by simp[h]),Ng h0,getD_at (show k-1<l.length from om),Ps0 he]
theorem nR {l:List aU} {k:Nat} (hk:k<l.length) (h0:k≠0) (h:one l[k]=0) (he:St.lt l[k].n l[k-1].n=true):bW l k=16:=by
 unfold bW;rw[getD_at hk];simp only[];rw[Ng (by simp[h]),Ng h0,getD_at (show k-1<l.length from om),Ng (fun e=>by rw[e,St.irrefl]at he;cases he),Ps0 he]
theorem step_ok {l:List aU} {k:Nat} (hk:k<l.length) (h0:k≠0) (h:one l[k]=0) (he:¬l[k-1].n=l[k].n) (hl:St.lt l[k].n l[k-1].n=false):bW l k=0:=by
 unfold bW;rw[getD_at hk];simp only[];rw[Ng (by simp[h]),Ng h0,getD_at (show k-1<l.length from om),Ng he,Ng (by simp[hl])]
theorem nS {l k} (h:∀j,j<k→bW l j=0) (hk:bW l k=0):∀j,j<k+1→bW l j=0:=fun j hj=>by
 by_cases e:j=k
 ·subst e;exact hk
 ·exact h j om
end Lb
theorem yJ (A n c B l w) (hv:dH w B A n c l) (hB:B≤w.heap.size) (hf:Lb.Fit l):
  Calls prog 96 #[.slice A n c] w fun e w'=>e= .returned (.int .i64 (Lb.bN l))∧Gr w w':=by
 have hlc:=hv.1;have hcm:=hv.2.1;unfold maxLen at hcm;have hn:=Al hv.len;have V:=Al hv;have F:=Al hf;clear hv hf;obtain⟨r,hr⟩:∃r,r=Lb.bN l:=⟨_,rfl⟩
 rw[←hr];have HR:=Al hr;clear hr;go_enter func96,ntmps96;go_wp2;go_loopw [3] (fun i wr=>∃k:Nat,k≤n∧i= .int .i64 k∧Kept (∀j,j<k→Lb.bW l j=0)∧Gr w wr) (fun i _=>n-(intOf i).toNat)
 case atStart=>exact⟨0,om,rfl,⟨fun j hj=>om⟩,Gr.refl w⟩
 case round=>
  obtain⟨k,hk,rfl,hd,gr⟩:=hrel;by_cases hlt:k<n
  ·have hkl:k<l.length:=by rw[←hn.1];exact hlt
   obtain⟨b,off,rfl,hc⟩:=V.1.cells hB hkl;obtain⟨c0,c1⟩:=hc wr gr.below;have C:=Al (fun W (g:Gr w W)=>hc W g.below);have G:=Al gr;obtain⟨hf1,hf2⟩:=F.1.at hkl;have ONE:=Al (fun W=>tu l[k] W hf1 hf2);clear hc gr hf1 hf2;by_cases h1:Lb.one l[k]=0
   ·rw[h1]at ONE;by_cases h0:k=0
    ·have hd2:=Al (Lb.nS hd.1 (by subst h0;exact Lb.xk hkl h1));clear h1;subst h0;simp only[Nat.zero_mul,DD]at c0 c1;generalize l[0].n=xn at*;generalize l[0].v=xv at*;go_wp2_with (go_at_call 109;refine(ONE.1 _).mono ?_;rintro e w2 ⟨rfl,g2⟩;have G2:=Al (G.1.trans g2);clear g2);go_quiet (fail);go_wp2;go_quiet (fail);go_wp2;go_roundw
     case rel=>exact⟨1,om,rfl,hd2,G2.1.drewN _⟩
     case measure=>simp[intOf];omega
    ·have nT:k-1<l.length:=by omega
     obtain⟨b',off',e',hp⟩:=V.1.cells hB nT;simp only[gU,Ce,BO]at e';obtain⟨rfl,rfl⟩:=e';have CP:=Al (fun W (g:Gr w W)=>hp W g.below);have ek:(k:Int)-1=((k-1:Nat):Int):=om;have Nz:((k-1:Nat):Int)< (n:Int):=om;have ek3:0<k:=om;have hq:=St.eq_iff l[k].n l[k-1].n;have hlt':Op.bytesLess l[k].n.toList l[k-1].n.toList=St.lt l[k].n l[k-1].n:=rfl;clear hp;by_cases hdup:l[k-1].n=l[k].n
     ·have hd2:Kept (r=18):=⟨HR.1.trans ((Lb.bq _ _ k hkl hd.1 (by rw[Lb.nQ hkl h0 h1 hdup];decide)).trans (Lb.nQ hkl h0 h1 hdup))⟩
      rw[BI hdup.symm]at hq;clear h1 hdup hlt';generalize l[k].n=xn at*;generalize l[k].v=xv at*;generalize l[k-1].n=pn at*;generalize l[k-1].v=pv at*;go_wp2_with (go_at_call 109;refine(ONE.1 _).mono ?_;rintro e w2 ⟨rfl,g2⟩;have G2:=Al (G.1.trans g2);clear g2;have f0:=(C.1 _ G2.1).1;have p0:=(CP.1 _ G2.1).1);go_quiet (fail);go_wp2;go_ret;exact⟨by rw[hd2.1];rfl,G2.1.drewN _⟩
     ·rw[AA (fun e=>hdup e.symm)]at hq;by_cases gz:St.lt l[k].n l[k-1].n=true
      ·have hd2:Kept (r=16):=⟨HR.1.trans ((Lb.bq _ _ k hkl hd.1 (by rw[Lb.nR hkl h0 h1 gz];decide)).trans (Lb.nR hkl h0 h1 gz))⟩
       rw[gz]at hlt';clear h1 hdup gz;generalize l[k].n=xn at*;generalize l[k].v=xv at*;generalize l[k-1].n=pn at*;generalize l[k-1].v=pv at*;go_wp2_with (go_at_call 109;refine(ONE.1 _).mono ?_;rintro e w2 ⟨rfl,g2⟩;have G2:=Al (G.1.trans g2);clear g2;have f0:=(C.1 _ G2.1).1;have p0:=(CP.1 _ G2.1).1);go_quiet (fail);go_wp2;go_quiet (fail);go_wp2;go_ret;exact⟨by rw[hd2.1];rfl,(G2.1.drewN _).drewN _⟩
      ·have xm:St.lt l[k].n l[k-1].n=false:=by simpa using gz
       have hd2:=Al (Lb.nS hd.1 (Lb.step_ok hkl h0 h1 hdup xm));rw[xm]at hlt';clear h1 hdup gz xm;generalize l[k].n=xn at*;generalize l[k].v=xv at*;generalize l[k-1].n=pn at*;generalize l[k-1].v=pv at*;go_wp2_with (go_at_call 109;refine(ONE.1 _).mono ?_;rintro e w2 ⟨rfl,g2⟩;have G2:=Al (G.1.trans g2);clear g2;have f0:=(C.1 _ G2.1).1;have p0:=(CP.1 _ G2.1).1);go_quiet (fail);go_wp2;go_quiet (fail);go_wp2;go_roundw
       case rel=>exact⟨k+1,om,by go_num,hd2,G2.1.drewN _⟩
       case measure=>simp[intOf];omega
   ·have hd2:Kept (r=Lb.one l[k]):=⟨HR.1.trans ((Lb.bq _ _ k hkl hd.1 (by rw[Lb.nP hkl h1];exact h1)).trans (Lb.nP hkl h1))⟩
    generalize Lb.one l[k]=s at*;generalize l[k].n=xn at*;generalize l[k].v=xv at*;go_wp2_with (go_at_call 109;refine(ONE.1 _).mono ?_;rintro e w2 ⟨rfl,g2⟩;have G2:=Al (G.1.trans g2);clear g2);go_ret;exact⟨by rw[hd2.1];rfl,G2.1⟩
  ·have hd2:Kept (r=0):=⟨HR.1.trans (Lb.bU _ _ fun j hj=>hd.1 j (by have:=hn.1;omega))⟩
   have G:=Al gr;clear gr;go_wp2;go_ret;exact⟨by rw[hd2.1];rfl,G.1⟩
end
end
section
section
open Go.RowKit Go.Shelf
theorem Fy (a W):Sem.run prog (Instr.field 254 (.agg #[a]) 0) W= .ok a W:=kr
theorem Vp {a b} (h:St.lt b a=true):St.cmp a b=1:=by simp[St.cmp,h,St.asymm h]
theorem QC {a b} (h:St.lt b a=false) (hn:¬a=b):St.cmp a b= -1:=by
 unfold St.cmp;cases hab:St.lt a b with
 |true=>rfl
 |false=>exact absurd (St.total hab h) hn
theorem tC (A n c B l w) (hv:dH w B A n c l) (hB:B≤w.heap.size) (hf:Lb.Fit l):
  Calls prog 92 #[.slice A n c] w fun e w'=>e= .returned (.int .i64 (Lb.bN l))∧Gr w w':=by
 have mixed:prog.follows .mixedOrders=true:=kr;have hlc:=hv.1;have hcm:=hv.2.1;unfold maxLen at hcm;have hn:=Al hv.len;have V:=Al hv;have F:=Al hf;clear hv hf;obtain⟨r,hr⟩:∃r,r=Lb.bN l:=⟨_,rfl⟩
 rw[←hr];have HR:=Al hr;clear hr;have ii:=fun W=>nN (.func (.func 203) #[] #[]) (.func (.func 204) #[] #[]) W
 have jj:=fun W=>Fy (.func (.func 203) #[] #[]) W
 have BY:=fun W=>yE (.func (.func 203) #[] #[]) rfl W
 go_enter func92,ntmps92;go_upto_region 2 with(first
  |(go_at_call 150;refine(lH _).mono ?_;rintro e w1 ⟨rfl,g1⟩)
  |(go_at_call 149;refine(BY _).mono ?_;rintro e w2 ⟨rfl,rfl⟩))
 have G1:=Al (g1.alloc (.cells #[.func (.func 203) #[] #[]] 252));have hcb:Kept ((w1.alloc (.cells #[.func (.func 203) #[] #[]] 252)).cell? ⟨w1.heap.size,0,none⟩=some (.func (.func 203) #[] #[])):=⟨Aq w1 _ _ _ 0⟩
 have hzb:Kept (w1.heap.size< (w1.alloc (.cells #[.func (.func 203) #[] #[]] 252)).heap.size):=⟨Ah⟩
 clear g1 ii jj BY;generalize w1.alloc (.cells #[.func (.func 203) #[] #[]] 252)=W1 at*;generalize w1.heap.size=Bf at*;go_wp2;go_loopw [13] (fun i wr=>∃k:Nat,k≤n∧i= .int .i64 k∧Kept (∀j,j<k→Lb.bW l j=0)∧Gr W1 wr) (fun i _=>n-(intOf i).toNat)
 case atStart=>exact⟨0,om,rfl,⟨fun j hj=>om⟩,Gr.refl W1⟩
 case round=>
  obtain⟨k,hk,rfl,hd,gr⟩:=hrel;by_cases hlt:k<n
  ·have hkl:k<l.length:=by rw[←hn.1];exact hlt
   obtain⟨b,off,rfl,hc⟩:=V.1.cells hB hkl;obtain⟨c0,c1⟩:=hc wr (G1.1.trans gr).below;have G:=Al gr;obtain⟨hf1,hf2⟩:=F.1.at hkl;have ONE:=Al (fun W=>sV l[k] W hf1 hf2);clear hc gr hf1 hf2;by_cases h1:Lb.one l[k]=0
   ·rw[h1]at ONE;by_cases h0:k=0
    ·have hd2:=Al (Lb.nS hd.1 (by subst h0;exact Lb.xk hkl h1));clear h1;subst h0;simp only[Nat.zero_mul,DD]at c0 c1;generalize l[0].n=xn at*;generalize l[0].v=xv at*;go_wp2_with (go_at_call 151;refine(ONE.1 _).mono ?_;rintro e w2 ⟨rfl,g2⟩;have G2:=Al ((G.1.alloc _).trans g2);clear g2);go_roundw
     case rel=>exact⟨1,om,rfl,hd2,G2.1⟩
     case measure=>simp[intOf];omega
    ·have nT:k-1<l.length:=by omega
     obtain⟨b',off',e',hp⟩:=V.1.cells hB nT;simp only[gU,Ce,BO]at e';obtain⟨rfl,rfl⟩:=e';have CP:=Al (fun W (g:Gr W1 W)=>hp W (G1.1.trans g).below);have ek:(k:Int)-1=((k-1:Nat):Int):=om;have Nz:((k-1:Nat):Int)< (n:Int):=om;have ew:IntKind.i64.wrap ((k-1:Nat):Int)=((k-1:Nat):Int):=by rw[AZ];omega
     have ek3:0<k:=om;have ek4:¬k=0:=h0;have hcase:Kept ((St.cmp l[k-1].n l[k].n=0∧r=18)∨(St.cmp l[k-1].n l[k].n=1∧r=16)∨(St.cmp l[k-1].n l[k].n= -1∧∀j,j<k+1→Lb.bW l j=0)):=⟨by
      by_cases hdup:l[k-1].n=l[k].n
      ·exact .inl ⟨St.dM.2 hdup,HR.1.trans ((Lb.bq _ _ k hkl hd.1 (by rw[Lb.nQ hkl h0 h1 hdup];decide)).trans (Lb.nQ hkl h0 h1 hdup))⟩
      ·by_cases gz:St.lt l[k].n l[k-1].n=true
       ·exact .inr (.inl ⟨Vp gz,HR.1.trans ((Lb.bq _ _ k hkl hd.1 (by rw[Lb.nR hkl h0 h1 gz];decide)).trans (Lb.nR hkl h0 h1 gz))⟩)
       ·have xm:St.lt l[k].n l[k-1].n=false:=by simpa using gz
        exact .inr (.inr ⟨QC xm hdup,Lb.nS hd.1 (Lb.step_ok hkl h0 h1 hdup xm)⟩)⟩
     have B1:=Al (fun W hB hc=>rJ 203 aU.n (BR func203 kr rfl) lG Bf l[k-1] l[k] W hB hc);clear hp h1 h0;generalize St.cmp l[k-1].n l[k].n=s at*;generalize l[k].n=xn at*;generalize l[k].v=xv at*;generalize l[k-1].n=pn at*;generalize l[k-1].v=pv at*;go_upto_region 9 with(go_at_call 151;refine(ONE.1 _).mono ?_;rintro e w2 ⟨rfl,g2⟩;have G2:=Al ((G.1.alloc _).trans g2))
     have hz2:wr.heap.size<w2.heap.size:=jE Ah g2.size;have hz3:Bf<w2.heap.size:=jE hzb.1 G2.1.size;have f0:=fun n os=>Eh (a:=⟨wr.heap.size,0,none⟩) hz2 ((g2.cell _ 0 Ah).trans (Aq wr #[.string xn,.string xv] 59 (0,0) 0)) n os
     have f1:=fun n os=>Eh (a:=⟨wr.heap.size,1,none⟩) hz2 ((g2.cell _ 1 Ah).trans (Aq wr #[.string xn,.string xv] 59 (0,0) 1)) n os
     have p0:=fun n os=>(CP.1 (Sort.grow (w2.drewN n) os) (G2.1.trans ⟨n,os,rfl⟩)).1
     have p1:=fun n os=>(CP.1 (Sort.grow (w2.drewN n) os) (G2.1.trans ⟨n,os,rfl⟩)).2
     have BB:=fun n os=>B1.1 (Sort.grow (w2.drewN n) os) (jE hz3 (show w2.heap.size≤(Sort.grow (w2.drewN n) os).heap.size by rw[Sort.size_grow];show w2.heap.size≤w2.heap.size+_;omega)) (((G2.1.trans ⟨n,os,rfl⟩).cell Bf 0 hzb.1).trans hcb.1)
     clear B1 g2 hz2 hz3 c0 c1;go_quiet_grown (first|(go_at_call 202;refine BU (BB _ _)));clear f0 f1 p0 p1 BB;rcases hcase.1 with⟨rfl,hres⟩|⟨rfl,hres⟩|⟨rfl,hd2⟩
     ·have hres:=Al hres;go_wp2;go_ret;exact⟨by first|rfl|(rw[hres.1];rfl),G1.1.trans (G2.1.trans ⟨_,_,rfl⟩)⟩
     ·have hres:=Al hres;go_wp2;go_ret;exact⟨by first|rfl|(rw[hres.1];rfl),G1.1.trans (G2.1.trans ⟨_,_,rfl⟩)⟩
     ·have hd2:=Al hd2;go_wp2;go_roundw
      case rel=>exact⟨k+1,om,by go_num,hd2,G2.1.trans ⟨_,_,rfl⟩⟩
      case measure=>simp[intOf];omega
   ·have hd2:Kept (r=Lb.one l[k]):=⟨HR.1.trans ((Lb.bq _ _ k hkl hd.1 (by rw[Lb.nP hkl h1];exact h1)).trans (Lb.nP hkl h1))⟩
    generalize Lb.one l[k]=s at*;generalize l[k].n=xn at*;generalize l[k].v=xv at*;go_wp2_with (go_at_call 151;refine(ONE.1 _).mono ?_;rintro e w2 ⟨rfl,g2⟩;have G2:=Al ((G.1.alloc _).trans g2);clear g2);go_ret;exact⟨by rw[hd2.1];rfl,G1.1.trans G2.1⟩
  ·have hd2:Kept (r=0):=⟨HR.1.trans (Lb.bU _ _ fun j hj=>hd.1 j (by have:=hn.1;omega))⟩
   have G:=Al gr;clear gr;go_wp2;go_ret;exact⟨by rw[hd2.1];rfl,G1.1.trans G.1⟩
end
end
namespace Bt
def bit (L:List UInt8) (k:Nat):Bool:=(L.getD (k/8) 0).toNat.testBit (7-k%8)
def bits (L:List UInt8):List Bool:=(List.range (8*L.length)).map (bit L)
def bw:Nat→Nat→List Bool
 |0,_=>[]
 |n+1,x=>x.testBit n::bw n x
def oN (l:List Bool):Nat:=l.foldl (fun a b=>2*a+b.toNat) 0
theorem iE (L):(bits L).length=8*L.length:=by simp[bits]
theorem jr (L k) (h:k< (bits L).length):(bits L)[k]=bit L k:=by simp[bits]
theorem aj:∀(n x),(bw n x).length=n
 |0,_=>rfl
 |n+1,x=>by rw[bw,Lc,aj n x]
theorem Jk:∀(n x i) (h:i< (bw n x).length),(bw n x)[i]=x.testBit (n-1-i)
 |0,_,_,h=>by simp[bw]at h
 |n+1,x,0,_=>by simp[bw]
 |n+1,x,i+1,h=>by
  have h2:i<n:=by rw[aj]at h;omega
  simp only[bw,Cj];rw[Jk n x i,show n+1-1-(i+1)=n-1-i from om]
theorem NA (l a):l.foldl (fun a b=>2*a+b.toNat) a=a*2^l.length+oN l:=by
 induction l generalizing a with
 |nil=>simp[oN]
 |cons b l ih=>
  unfold oN;rw[List.foldl_cons,List.foldl_cons,ih,ih (2*0+b.toNat),Lc,CY,Nat.mul_zero,bO,DX,Ej 2 a,EE,Ej 2 (2^l.length)];omega
theorem QD (l b):oN (l++[b])=2*oN l+b.toNat:=by simp[oN]
theorem tF (b l):oN (b::l)=b.toNat*2^l.length+oN l:=by
 have:=NA l b.toNat;rw[←this];simp[oN]
theorem yK (l):oN l<2^l.length:=by
 induction l with
 |nil=>simp[oN]
 |cons b l ih=>
  rw[tF,Lc,CY];cases b<;>simp<;>omega
theorem tH:∀(n x),oN (bw n x)=x%2^n
 |0,x=>by simp[bw,oN,Nat.mod_one]
 |n+1,x=>by
  rw[bw,tF,aj,tH n x];rw[CY,Nat.mod_mul,DJ,Nat.add_comm,Ej];rcases CZ (x/2^n)with h|h<;>simp[h]
theorem yL:∀(l),bw l.length (oN l)=l
 |[]=>rfl
 |b::l=>by
  have ih:=yL l;have hlt:=yK l;rw[Lc,bw,tF];have h1:(b.toNat*2^l.length+oN l).testBit l.length=b:=by
   rw[DJ,Ej,Nat.mul_add_div (Nat.pow_pos Ai),Nat.div_eq_of_lt hlt];cases b<;>simp
  have h2:∀(n m:Nat),(∀i,i<n→m.testBit i=(oN l).testBit i)→bw n m=bw n (oN l):=by
   intro n
   induction n with
   |zero=>intros;rfl
   |succ n ih=>intro m h;rw[bw,bw,h n om,ih m (fun i hi=>h i om)]
  rw[h1,h2 l.length _ (fun i hi=>?_),ih];rw[Ej,Nat.testBit_two_pow_mul_add _ hlt,Ps0 hi]
theorem QE (L k y at_ b) (hk:at_/8<L.length) (h0:bit L at_=false) (hy:y.toNat=(L.getD (at_/8) 0).toNat|||(b.toNat<<< (7-at_%8))):
  bit (L.set (at_/8) y) k=if k=at_ then b else bit L k:=by
 unfold bit at h0⊢;by_cases h8:k/8=at_/8
 ·have e1:(L.set (at_/8) y).getD (k/8) 0=y:=by
   rw[h8,jN,DF hk];rfl
  rw[e1,hy,Nat.testBit_or,Nat.testBit_shiftLeft,h8];by_cases hk2:k=at_
  ·subst hk2;rw[h0,Ps0 rfl];cases b<;>simp
  ·rw[Ng hk2];have hne:k%8≠at_%8:=fun h=>hk2 om
   by_cases hge:7-k%8≥7-at_%8
   ·have:7-k%8-(7-at_%8)≠0:=by omega
    obtain⟨j,hj⟩:=Nat.exists_eq_succ_of_ne_zero this;rw[hj];cases b<;>simp[Nat.testBit_succ]
   ·simp[hge]
 ·have e1:(L.set (at_/8) y).getD (k/8) 0=L.getD (k/8) 0:=by
   rw[jN,Dt (fun h=>h8 h.symm),jN]
  rw[e1,Ng (fun h=>h8 (by rw[h]))]
theorem QF (L k):bit (L++[0]) k=bit L k:=by
 unfold bit;rw[jN,jN];rcases Dj (k/8) L.length with h|h|h
 ·rw[Cz h]
 ·rw[h];simp
 ·rw[Ca (by simp;omega),Ca om]
structure Wr (L:List UInt8) (bs:List Bool):Prop where
 len:L.length=(bs.length+7)/8
 get:∀(k:Nat) (h:k<bs.length),bit L k=bs[k]
 pad:∀k,bs.length≤k→bit L k=false
theorem Wr.nil:Wr [] []:=⟨rfl,fun k h=>by simp at h,fun k _=>by simp[bit]⟩
theorem Wr.push {L bs} (h:Wr L bs) (b) {y L2} (hL:L2=if bs.length%8=0 then L++[0]else L)
  (hy:y.toNat=(L2.getD (bs.length/8) 0).toNat|||(b.toNat<<< (7-bs.length%8))):bs.length/8<L2.length∧Wr (L2.set (bs.length/8) y) (bs++[b]):=by
 have hl:=h.len;have h2:L2.length=(bs.length+8)/8:=by
  rw[hL];split
  ·rw[La,hl];simp;omega
  ·omega
 have hb:∀k,bit L2 k=bit L k:=fun k=>by
  rw[hL];split
  ·exact QF L k
  ·rfl
 have hk:bs.length/8<L2.length:=om;have P:=fun k=>QE L2 k y bs.length b hk (by rw[hb];exact h.pad _ Aj) hy
 refine⟨hk,?_,fun k hk2=>?_,fun k hk2=>?_⟩
 ·simp;omega
 ·rw[P,hb];simp only[La,DT]at hk2;by_cases hkb:k=bs.length
  ·subst hkb;simp
  ·rw[Ng hkb,h.get k om,pF]
 ·simp at hk2;rw[P,hb,Ng om,h.pad k om]
theorem Vq {L M} (hl:L.length=M.length) (h:∀k,k<8*L.length→bit L k=bit M k):L=M:=by
 apply CW hl;intro i h1 h2;apply UInt8.toNat_inj.1;apply Nat.eq_of_testBit_eq;intro j;by_cases hj:j<8
 ·have:=h (8*i+(7-j)) om;unfold bit at this;rw[show(8*i+(7-j))/8=i from om,show 7-(8*i+(7-j))%8=j from om]at this;simpa[jN,h1,h2]using this
 ·have p1:=L[i].toNat_lt;have p2:=M[i].toNat_lt;have hp:2^8≤2^j:=kF Ai om;rw[Nat.testBit_lt_two_pow om,Nat.testBit_lt_two_pow om]
theorem Wr.inj {L M bs} (h1:Wr L bs) (h2:Wr M bs):L=M:=by
 refine Vq (by rw[h1.len,h2.len]) (fun k _=>?_);by_cases hk:k<bs.length
 ·rw[h1.get k hk,h2.get k hk]
 ·rw[h1.pad k om,h2.pad k om]
end Bt
namespace Tm
open Bt
def sw (x:Int):Int:=(x+9223372036854775808)%18446744073709551616-9223372036854775808
def In (x:Int):Prop:= -9223372036854775808≤x∧x<9223372036854775808
theorem qC (x):In (sw x):=by unfold In sw;omega
def wd (x:Int):Nat:=(x%18446744073709551616).toNat
theorem KZ (x):wd x<18446744073709551616:=by unfold wd;omega
theorem aci {x} (h:In x):sw (wd x:Int)=x:=by unfold In at h;unfold sw wd;omega
def fm (x:Int):Nat:=if x=0 then 0 else if-64≤x∧x<64 then 1 else if-2048≤x∧x<2048 then 2 else if-2147483648≤x∧x<2147483648 then 3 else 4
def fb:Nat→Nat|0=>0|1=>2|2=>6|3=>14|_=>15
def fl:Nat→Nat|0=>1|1=>2|2=>3|3=>4|_=>4
def fw:Nat→Nat|0=>0|1=>7|2=>12|3=>32|_=>64
theorem Fz (x):fm x≤4:=by unfold fm;split<;>(try split)<;>(try split)<;>(try split)<;>omega
def ex (n w:Nat):Int:=if w=0 then 0 else if 2*(n%2^w)<2^w then((n%2^w:Nat):Int)else((n%2^w:Nat):Int)-((2^w:Nat):Int)
def ch (x:Int):List Bool:=bw (fl (fm x)) (fb (fm x))++bw (fw (fm x)) (wd x)
def yM:Int→Int→List Int→List Int
 |_,_,[]=>[]
 |t,d,u::l=>sw (sw (u-t)-d)::yM u (sw (u-t)) l
def enc:List Int→List Bool
 |[]=>[]
 |t::l=>bw 64 (wd t)++(yM t 0 l).flatMap ch
def rd (n:Nat) (r:List Bool):Nat×List Bool×Int:=if r.length<n then(0,r,3)else(oN (r.take n),r.drop n,0)
theorem iF (n x r):rd n (bw n x++r)=(x%2^n,r,0):=by
 unfold rd;rw[Ng (by simp[aj]),List.take_left' (aj n x),List.drop_left' (aj n x),tH]
theorem jv {n x r r'} (h:rd n r=(x,r',0)):r=bw n x++r'∧x<2^n:=by
 unfold rd at h;split at h
 ·simp at h
 ·rename_i hn
  simp only[aA]at h;obtain⟨rfl,rfl,-⟩:=h;have hl:(r.take n).length=n:=by simp;omega
  have:=yL (r.take n);rw[hl]at this;refine⟨by rw[this,je],?_⟩;have:=yK (r.take n);rwa[hl]at this
def gf:Nat→Nat→List Bool→Nat×List Bool×Int
 |0,i,r=>(i,r,0)
 |k+1,i,r=>if(rd 1 r).2.2≠0∨(rd 1 r).1=0 then(i,(rd 1 r).2)else gf k (i+1) (rd 1 r).2.1
def gc (r:List Bool):Int×List Bool×Int:=
 if(gf 4 0 r).2.2≠0 then(0,(gf 4 0 r).2)
 else(ex (rd (fw (gf 4 0 r).1) (gf 4 0 r).2.1).1 (fw (gf 4 0 r).1),(rd (fw (gf 4 0 r).1) (gf 4 0 r).2.1).2.1,
  if(rd (fw (gf 4 0 r).1) (gf 4 0 r).2.1).2.2≠0 then(rd (fw (gf 4 0 r).1) (gf 4 0 r).2.1).2.2 else if fm (ex (rd (fw (gf 4 0 r).1) (gf 4 0 r).2.1).1 (fw (gf 4 0 r).1))≠(gf 4 0 r).1 then 8 else 0)
theorem acj {i n} (hi:i≤4) (hn:n<2^fw i) (h:fm (ex n (fw i))=i):n=wd (ex n (fw i))%2^fw i:=by
 rcases(by omega:i=0∨i=1∨i=2∨i=3∨i=4)with rfl|rfl|rfl|rfl|rfl
 ·simp only[fw]at*;omega
 all_goals
  simp only[fw]at*;unfold ex wd;rw[Ng Ai];split<;>omega
theorem ack {x} (hx:In x):ex (wd x%2^fw (fm x)) (fw (fm x))=x:=by
 unfold In at hx;unfold fm;split
 ·rename_i h;subst h;rfl
 ·split
  ·simp only[fw];unfold ex wd;rw[Ng Ai];split<;>omega
  ·split
   ·simp only[fw];unfold ex wd;rw[Ng Ai];split<;>omega
   ·split
    ·simp only[fw];unfold ex wd;rw[Ng Ai];split<;>omega
    ·simp only[fw];unfold ex wd;rw[Ng Ai];split<;>omega
theorem xq (b r):rd 1 (b::r)=(b.toNat,r,0):=by unfold rd;cases b<;>simp[oN]
theorem rM:rd 1 []=(0,[],3):=rfl
theorem acm {i} (hi:i≤4) (r):gf 4 0 (bw (fl i) (fb i)++r)=(i,r,0):=by
 rcases(by omega:i=0∨i=1∨i=2∨i=3∨i=4)with rfl|rfl|rfl|rfl|rfl
 ·rw[show bw (fl 0) (fb 0)=[false]from rfl];simp[gf,xq]
 ·rw[show bw (fl 1) (fb 1)=[true,false]from rfl];simp[gf,xq]
 ·rw[show bw (fl 2) (fb 2)=[true,true,false]from rfl];simp[gf,xq]
 ·rw[show bw (fl 3) (fb 3)=[true,true,true,false]from rfl];simp[gf,xq]
 ·rw[show bw (fl 4) (fb 4)=[true,true,true,true]from rfl];simp[gf,xq]
theorem acn {i r r'} (h:gf 4 0 r=(i,r',0)):i≤4∧r=bw (fl i) (fb i)++r':=by
 match r,h with
 |[],h=>simp[gf,rM]at h
 |[true],h=>simp[gf,xq,rM]at h
 |[true,true],h=>simp[gf,xq,rM]at h
 |[true,true,true],h=>simp[gf,xq,rM]at h
 |false::r,h=>
  simp[gf,xq]at h;obtain⟨rfl,rfl⟩:=h;exact⟨om,rfl⟩
 |true::false::r,h=>
  simp[gf,xq]at h;obtain⟨rfl,rfl⟩:=h;exact⟨om,rfl⟩
 |true::true::false::r,h=>
  simp[gf,xq]at h;obtain⟨rfl,rfl⟩:=h;exact⟨om,rfl⟩
 |true::true::true::false::r,h=>
  simp[gf,xq]at h;obtain⟨rfl,rfl⟩:=h;exact⟨om,rfl⟩
 |true::true::true::true::r,h=>
  simp[gf,xq]at h;obtain⟨rfl,rfl⟩:=h;exact⟨om,rfl⟩
theorem aco {x} (hx:In x) (r):gc (ch x++r)=(x,r,0):=by
 unfold gc ch;rw[Af,acm (Fz x),iF];simp[ack hx]
theorem Yf {n w} (hw:w≤64):In (ex n w):=by
 unfold ex;split
 ·unfold In;omega
 ·rename_i h0
  have h1:n%2^w<2^w:=Nat.mod_lt _ (Nat.pow_pos Ai);have h2:2^w≤2^64:=kF Ai hw;generalize n%2^w=m at*;generalize 2^w=p at*;unfold In;split<;>omega
theorem acp {x r r'} (h:gc r=(x,r',0)):In x∧r=ch x++r':=by
 unfold gc at h;obtain⟨i,r1,e1,hg⟩:∃i r1 e1,gf 4 0 r=(i,r1,e1):=⟨_,_,_,rfl⟩
 rw[hg]at h;simp only[]at h;by_cases he:e1=0
 ·subst he;rw[Ng Ah]at h;obtain⟨n,r2,e2,hr⟩:∃n r2 e2,rd (fw i) r1=(n,r2,e2):=⟨_,_,_,rfl⟩
  rw[hr]at h;simp only[aA]at h;obtain⟨h1,rfl,h3⟩:=h;by_cases he2:e2=0
  ·subst he2;rw[Ng Ah]at h3;by_cases hf:fm (ex n (fw i))=i
   ·obtain⟨hi,hg2⟩:=acn hg;obtain⟨hr2,hn⟩:=jv hr;have hnx:=acj hi hn hf;rw[h1]at hf hnx;refine⟨?_,?_⟩
    ·rw[←h1];exact Yf (by rcases(by omega:i=0∨i=1∨i=2∨i=3∨i=4)with rfl|rfl|rfl|rfl|rfl<;>simp[fw])
    ·unfold ch;rw[hf,Af,hg2,hr2]
     congr 2
     have:∀(n a b:Nat),a%2^n=b%2^n→bw n a=bw n b:=by
      intro n a b hab;have e1:=yL (bw n a);have e2:=yL (bw n b);rw[aj,tH]at e1 e2;rw[←e1,←e2,hab]
     exact this _ _ _ (by rw[kG hn];exact hnx)
   ·rw[Ps0 hf]at h3;simp at h3
  ·rw[Ps0 he2]at h3;exact absurd h3 he2
 ·rw[Ps0 he]at h;simp only[aA]at h;exact absurd h.2.2 he
def gt:Nat→Int→Int→List Int→List Bool→List Int×List Bool×Int
 |0,_,_,acc,r=>(acc,r,0)
 |n+1,t,d,acc,r=>if(gc r).2.2≠0 then([],(gc r).2)else gt n (sw (t+sw (d+(gc r).1))) (sw (d+(gc r).1)) (acc++[sw (t+sw (d+(gc r).1))]) (gc r).2.1
def dec (n:Nat) (r:List Bool):List Int×List Bool×Int:=
 if n=0 then([],r,0)else if(rd 64 r).2.2≠0 then([],(rd 64 r).2)else gt (n-1) (sw (rd 64 r).1) 0 [sw (rd 64 r).1] (rd 64 r).2.1
theorem QG:∀(l) (t d) (acc) (r),In t→In d→(∀u∈l,In u)→gt l.length t d acc ((yM t d l).flatMap ch++r)=(acc++l,r,0)
 |[],t,d,acc,r,_,_,_=>by simp[gt,yM]
 |u::l,t,d,acc,r,ht,hd,hl=>by
  have hu:=hl u jO;rw[Lc,gt,yM,Av,Af,aco (qC _)];have e1:sw (d+sw (sw (u-t)-d))=sw (u-t):=by unfold In at*;unfold sw;omega
  have e2:sw (t+sw (u-t))=u:=by unfold In at*;unfold sw;omega
  simp only[e1,e2];rw[Ng Ah,QG l u (sw (u-t)) (acc++[u]) r hu (qC _) (fun v hv=>hl v (nU _ hv))];simp
theorem bV {l} (hl:∀u∈l,In u) (r):dec l.length (enc l++r)=(l,r,0):=by
 cases l with
 |nil=>simp[dec,enc]
 |cons t l=>
  have ht:=hl t jO;unfold dec enc;rw[Ng Ah,Af,iF,Ng Ah];have e1:sw ((wd t%2^64:Nat):Int)=t:=by
   rw[kG (by have:=KZ t;omega),aci ht]
  simp only[e1,Lc,Bj];rw[QG l t 0 [t] r ht (by unfold In;omega) (fun v hv=>hl v (nU _ hv))]
  rfl
theorem Yg:∀(n) (t d) (acc) (r) (l) (r'),In t→In d→gt n t d acc r=(l,r',0)→∃m,l=acc++m∧m.length=n∧(∀u∈m,In u)∧r=(yM t d m).flatMap ch++r'
 |0,t,d,acc,r,l,r',_,_,h=>by
  simp only[gt,aA]at h;exact⟨[],by simp[h.1],rfl,Ah,by simp[yM,h.2.1]⟩
 |n+1,t,d,acc,r,l,r',ht,hd,h=>by
  rw[gt]at h;obtain⟨x,r1,e1,hg⟩:∃x r1 e1,gc r=(x,r1,e1):=⟨_,_,_,rfl⟩
  rw[hg]at h;simp only[]at h;by_cases he:e1=0
  ·subst he;rw[Ng Ah]at h;obtain⟨hx,hr⟩:=acp hg;obtain⟨m,h1,h2,h3,h4⟩:=Yg n _ _ _ _ _ _ (qC _) (qC _) h;refine⟨sw (t+sw (d+x))::m,by simp[h1],by simp[h2],?_,?_⟩
   ·intro u hu;rcases iW.1 hu with rfl|hu
    ·exact qC _
    ·exact h3 u hu
   ·have e1:sw (sw (t+sw (d+x))-t)=sw (d+x):=by unfold In at*;unfold sw;omega
    have e2:sw (sw (d+x)-d)=x:=by unfold In at*;unfold sw;omega
    rw[yM,e1,e2,Av,hr,h4,Af]
  ·rw[Ps0 he]at h;simp only[aA]at h;exact absurd h.2.2 he
theorem iG {n r r' l} (h:dec n r=(l,r',0)):l.length=n∧(∀u∈l,In u)∧r=enc l++r':=by
 unfold dec at h;by_cases hn:n=0
 ·subst hn;rw[Ps0 rfl]at h;simp only[aA]at h;obtain⟨rfl,rfl,-⟩:=h;exact⟨rfl,Ah,rfl⟩
 ·rw[Ng hn]at h;obtain⟨x,r1,e1,hg⟩:∃x r1 e1,rd 64 r=(x,r1,e1):=⟨_,_,_,rfl⟩
  rw[hg]at h;simp only[]at h;by_cases he:e1=0
  ·subst he;rw[Ng Ah]at h;obtain⟨hr,hx⟩:=jv hg;obtain⟨m,h1,h2,h3,h4⟩:=Yg _ _ _ _ _ _ _ (qC _) (by unfold In;omega) h;subst h1;refine⟨by simp[h2];omega,?_,?_⟩
   ·intro u hu;have hu2:u∈sw (x:Int)::m:=hu;rcases iW.1 hu2 with h|hu
    ·rw[h];exact qC _
    ·exact h3 u hu
   ·have e1:wd (sw (x:Int))=x:=by unfold wd sw;omega
    rw[List.singleton_append,enc,e1,Af,←h4,hr]
  ·rw[Ps0 he]at h;simp only[aA]at h;exact absurd h.2.2 he
end Tm
namespace Di
open Bt Tm
def Up (l:List Nat):Prop:=l.Pairwise (· < ·)
def ins (x:Nat):List Nat→List Nat
 |[]=>[x]
 |y::l=>if x<y then x::y::l else if x=y then y::l else y::ins x l
def eQ (l:List Nat):List Nat:=l.foldr ins []
theorem yN (x z):∀(l),z∈ins x l↔z=x∨z∈l
 |[]=>by simp[ins]
 |y::l=>by
  rw[ins];split
  ·simp
  ·split
   ·rename_i h;subst h;simp
   ·rw[iW,yN x z l,iW];constructor
    ·rintro(h|h|h)<;>simp[h]
    ·rintro(h|h|h)<;>simp[h]
theorem QH (x):∀{l},Up l→Up (ins x l)
 |[],_=>by simp[ins,Up]
 |y::l,h=>by
  obtain⟨h1,h2⟩:=BH.1 h;rw[ins];split
  ·rename_i hx
   refine BH.2 ⟨fun z hz=>?_,h⟩;rcases iW.1 hz with rfl|hz
   ·exact hx
   ·have:=h1 z hz;omega
  ·split
   ·exact h
   ·refine BH.2 ⟨fun z hz=>?_,QH x h2⟩;rcases(yN x z l).1 hz with rfl|hz
    ·omega
    ·exact h1 z hz
theorem pG (l):Up (eQ l):=by
 induction l with
 |nil=>exact List.Pairwise.nil
 |cons x l ih=>exact QH x ih
theorem fA (l z):z∈eQ l↔z∈l:=by
 induction l with
 |nil=>simp[eQ]
 |cons x l ih=>
  have:eQ (x::l)=ins x (eQ l):=rfl;rw[this,yN,ih,iW]
theorem QI:∀{l m},Up l→Up m→(∀z,z∈l↔z∈m)→l=m
 |[],[],_,_,_=>rfl
 |[],y::m,_,_,h=>by have:=(h y).2 jO;simp at this
 |x::l,[],_,_,h=>by have:=(h x).1 jO;simp at this
 |x::l,y::m,h1,h2,h=>by
  obtain⟨a1,a2⟩:=BH.1 h1;obtain⟨b1,b2⟩:=BH.1 h2;have hxy:x=y:=by
   rcases iW.1 ((h x).1 jO)with e|e
   ·exact e
   ·rcases iW.1 ((h y).2 jO)with e2|e2
    ·exact e2.symm
    ·have:=b1 x e;have:=a1 y e2;omega
  subst hxy;rw[QI a2 b2 (fun z=>?_)];constructor
  ·intro hz;rcases iW.1 ((h z).1 (nU _ hz))with e|e
   ·subst e;exact absurd (a1 z hz) (Et _)
   ·exact e
  ·intro hz;rcases iW.1 ((h z).2 (nU _ hz))with e|e
   ·subst e;exact absurd (b1 z hz) (Et _)
   ·exact e
theorem up_sub:∀{l m},Up l→Up m→(∀z∈l,z∈m)→m.length≤l.length→l=m
 |[],m,_,_,_,hl=>by simp at hl;exact hl.symm
 |x::l,[],_,_,h,_=>by have:=h x jO;simp at this
 |x::l,y::m,h1,h2,h,hl=>by
  obtain⟨a1,a2⟩:=BH.1 h1;obtain⟨b1,b2⟩:=BH.1 h2;simp only[Lc]at hl;have hs:∀z∈l,z∈m:=fun z hz=>by
   rcases iW.1 (h z (nU _ hz))with e|e
   ·subst e;have:=a1 z hz;rcases iW.1 (h x jO)with e|e
    ·omega
    ·have:=b1 x e;omega
   ·exact e
  have hlm:=up_sub a2 b2 hs om;subst hlm;rcases iW.1 (h x jO)with e|e
  ·rw[e]
  ·exact absurd (a1 x e) (Et _)
def bl (n:Nat):Nat:=if n=0 then 0 else n.log2+1
def mU (k:Nat):Nat:=bl (k-1)
theorem Yh (n):n<2^bl n:=by
 unfold bl;split
 ·rename_i h;subst h;decide
 ·exact Nat.lt_log2_self
theorem Zt {i k} (h:i<k):i<2^mU k:=by have:=Yh (k-1);unfold mU;omega
def enc (l:List Nat):List Bool:=if l=[]then[]else bw 7 ((eQ l).length-1)++((eQ l).flatMap (bw 64)++l.flatMap fun x=>bw (mU (eQ l).length) ((eQ l).idxOf x))
def gd:Nat→List Nat→List Bool→List Nat×List Bool×Int
 |0,acc,r=>(acc,r,0)
 |k+1,acc,r=>if(rd 64 r).2.2≠0 then([],(rd 64 r).2)else if∃y∈acc.getLast?,(rd 64 r).1≤y then([],(rd 64 r).2.1,8)else gd k (acc++[(rd 64 r).1]) (rd 64 r).2.1
def gv (d:List Nat):Nat→List Nat→List Bool→List Nat×List Bool×Int
 |0,acc,r=>(acc,r,0)
 |n+1,acc,r=>if(rd (mU d.length) r).2.2≠0 then([],(rd (mU d.length) r).2)else if d.length≤(rd (mU d.length) r).1 then([],(rd (mU d.length) r).2.1,8)else gv d n (acc++[d.getD (rd (mU d.length) r).1 0]) (rd (mU d.length) r).2.1
def vS (n:Nat) (d:List Nat) (r:List Bool):List Nat×List Bool×Int:=
 if(gv d n [] r).2.2≠0 then([],(gv d n [] r).2)else if(eQ (gv d n [] r).1).length<d.length then([],(gv d n [] r).2.1,8)else gv d n [] r
def dec (n:Nat) (r:List Bool):List Nat×List Bool×Int:=
 if n=0 then([],r,0)else if(rd 7 r).2.2≠0 then([],(rd 7 r).2)
 else if(gd ((rd 7 r).1+1) [] (rd 7 r).2.1).2.2≠0 then([],(gd ((rd 7 r).1+1) [] (rd 7 r).2.1).2)
 else vS n (gd ((rd 7 r).1+1) [] (rd 7 r).2.1).1 (gd ((rd 7 r).1+1) [] (rd 7 r).2.1).2.1
theorem QJ:∀(d acc) (r),Up (acc++d)→(∀x∈d,x<2^64)→gd d.length acc (d.flatMap (bw 64)++r)=(acc++d,r,0)
 |[],acc,r,_,_=>by simp[gd]
 |x::d,acc,r,hu,hx=>by
  have e1:x%2^64=x:=kG (hx x jO);rw[Lc,gd,Av,Af,iF,e1];have hn:¬∃y∈acc.getLast?,x≤y:=by
   rintro⟨y,hy,hxy⟩;have hm:=List.mem_of_mem_getLast? hy;have:=(BZ.1 hu).2.2 y hm x jO;omega
  simp only[];rw[Ng Ah,Ng hn,QJ d (acc++[x]) r (by simpa using hu) (fun y hy=>hx y (nU _ hy))];simp
theorem QK {d}:∀(l acc) (r),(∀x∈l,x∈d)→gv d l.length acc (l.flatMap (fun x=>bw (mU d.length) (d.idxOf x))++r)=(acc++l,r,0)
 |[],acc,r,_=>by simp[gv]
 |x::l,acc,r,hx=>by
  have hm:=hx x jO;have hi:d.idxOf x<d.length:=List.idxOf_lt_length_of_mem hm;have e1:d.idxOf x%2^mU d.length=d.idxOf x:=kG (Zt hi);rw[Lc,gv,Av,Af,iF,e1];simp only[];have e2:d.getD (d.idxOf x) 0=x:=by
   rw[jN,kC hi];simp
  rw[Ng Ah,Ng om,e2,QK l (acc++[x]) r (fun y hy=>hx y (nU _ hy))];simp
theorem bV {l} (hx:∀x∈l,x<2^64) (hk:(eQ l).length≤128) (r):dec l.length (enc l++r)=(l,r,0):=by
 by_cases hl:l=[]
 ·subst hl;simp[dec,enc]
 ·have hpos:0<l.length:=mH.2 hl;have hd0:eQ l≠[]:=fun e=>by
   obtain⟨x,hx⟩:=List.exists_mem_of_ne_nil l hl;have:=(fA l x).2 hx;rw[e]at this;simp at this
  have hd1:0< (eQ l).length:=mH.2 hd0;unfold dec enc;rw[Ng om,Ng hl,Af,Af,iF];have e1:((eQ l).length-1)%2^7=(eQ l).length-1:=kG om;have e2:(eQ l).length-1+1=(eQ l).length:=om;rw[e1];simp only[];rw[e2,QJ (eQ l) [] _ (by simpa using pG l) (fun x h=>hx x ((fA l x).1 h))];simp only[AB];rw[Ng Ah,Ng Ah];unfold vS;rw[QK l [] r (fun x h=>(fA l x).2 h)];simp
theorem Vr {l x} (h:Up l) (hx:∀y∈l.getLast?,y<x):Up (l++[x]):=by
 refine BZ.2 ⟨h,Ah,fun y hy z hz=>?_⟩;obtain rfl:=iP.1 hz;have hne:l≠[]:=List.ne_nil_of_mem hy;have hl:l.getLast hne<z:=hx _ (List.getLast?_eq_some_getLast hne);obtain⟨i,hi,rfl⟩:=iC.1 hy;rw[List.getLast_eq_getElem]at hl;by_cases hq:i=l.length-1
 ·subst hq;exact hl
 ·have:=(AF.1 h) i (l.length-1) hi om om;omega
theorem Zu {d} (h:Up d) {i} (hi:i<d.length):d.idxOf d[i]=i:=by
 have hm:=List.idxOf_lt_length_of_mem (dR hi);have e:d[d.idxOf d[i]]=d[i]:=Ah;have P:=AF.1 h;rcases Dj (d.idxOf d[i]) i with q|q|q
 ·have:=P _ _ hm hi q;omega
 ·exact q
 ·have:=P _ _ hi hm q;omega
theorem QL:∀(k) (acc) (r) (d) (r'),Up acc→gd k acc r=(d,r',0)→∃m,d=acc++m∧m.length=k∧Up d∧(∀x∈m,x<2^64)∧r=m.flatMap (bw 64)++r'
 |0,acc,r,d,r',hu,h=>by
  simp only[gd,aA]at h;obtain⟨rfl,rfl,-⟩:=h;exact⟨[],Ah,rfl,hu,Ah,Ah⟩
 |k+1,acc,r,d,r',hu,h=>by
  rw[gd]at h;obtain⟨x,r1,e1,hg⟩:∃x r1 e1,rd 64 r=(x,r1,e1):=⟨_,_,_,rfl⟩
  rw[hg]at h;simp only[]at h;by_cases he:e1=0
  ·subst he;rw[Ng Ah]at h;by_cases hq:∃y∈acc.getLast?,x≤y
   ·rw[Ps0 hq]at h;simp at h
   ·rw[Ng hq]at h;obtain⟨d1,d2⟩:=jv hg;have hu2:Up (acc++[x]):=Vr hu (fun y hy=>by
     rcases Cy y x with q|q
     ·exact q
     ·exact absurd ⟨y,hy,q⟩ hq)
    obtain⟨m,h1,h2,h3,h4,h5⟩:=QL k _ _ _ _ hu2 h;refine⟨x::m,by simp[h1],by simp[h2],h3,?_,?_⟩
    ·intro y hy;rcases iW.1 hy with q|q
     ·rw[q];exact d2
     ·exact h4 y q
    ·rw[Av,d1,h5,Af]
  ·rw[Ps0 he]at h;simp only[aA]at h;exact absurd h.2.2 he
theorem Yi {d} (hu:Up d):∀(n) (acc) (r) (l) (r'),gv d n acc r=(l,r',0)→∃m,l=acc++m∧m.length=n∧(∀x∈m,x∈d)∧r=m.flatMap (fun x=>bw (mU d.length) (d.idxOf x))++r'
 |0,acc,r,l,r',h=>by
  simp only[gv,aA]at h;obtain⟨rfl,rfl,-⟩:=h;exact⟨[],Ah,rfl,Ah,Ah⟩
 |n+1,acc,r,l,r',h=>by
  rw[gv]at h;obtain⟨i,r1,e1,hg⟩:∃i r1 e1,rd (mU d.length) r=(i,r1,e1):=⟨_,_,_,rfl⟩
  rw[hg]at h;simp only[]at h;by_cases he:e1=0
  ·subst he;rw[Ng Ah]at h;by_cases hq:d.length≤i
   ·rw[Ps0 hq]at h;simp at h
   ·rw[Ng hq]at h;have hi:i<d.length:=om;have hv:d.getD i 0=d[i]:=by rw[jN,kC hi];rfl
    rw[hv]at h;obtain⟨d1,d2⟩:=jv hg;obtain⟨m,h1,h2,h3,h4⟩:=Yi hu n _ _ _ _ h;refine⟨d[i]::m,by simp[h1],by simp[h2],?_,?_⟩
    ·intro y hy;rcases iW.1 hy with q|q
     ·rw[q];exact dR hi
     ·exact h3 y q
    ·rw[Av,Zu hu hi,d1,h4,Af]
  ·rw[Ps0 he]at h;simp only[aA]at h;exact absurd h.2.2 he
theorem iG {n r r' l} (h:dec n r=(l,r',0)):l.length=n∧(∀x∈l,x<2^64)∧(eQ l).length≤128∧r=enc l++r':=by
 unfold dec at h;by_cases hn:n=0
 ·subst hn;rw[Ps0 rfl]at h;simp only[aA]at h;obtain⟨rfl,rfl,-⟩:=h;exact⟨rfl,Ah,by simp[eQ],rfl⟩
 ·rw[Ng hn]at h;obtain⟨k,r1,e1,hg⟩:∃k r1 e1,rd 7 r=(k,r1,e1):=⟨_,_,_,rfl⟩
  rw[hg]at h;simp only[]at h;by_cases he:e1=0
  ·subst he;rw[Ng Ah]at h;obtain⟨d,r2,e2,hg2⟩:∃d r2 e2,gd (k+1) [] r1=(d,r2,e2):=⟨_,_,_,rfl⟩
   rw[hg2]at h;simp only[]at h;by_cases he2:e2=0
   ·subst he2;rw[Ng Ah]at h;unfold vS at h;obtain⟨l3,r3,e3,hg3⟩:∃l3 r3 e3,gv d n [] r2=(l3,r3,e3):=⟨_,_,_,rfl⟩
    rw[hg3]at h;simp only[]at h;by_cases kg:e3=0
    ·subst kg;rw[Ng Ah]at h;by_cases hq:(eQ l3).length<d.length
     ·rw[Ps0 hq]at h;simp at h
     ·rw[Ng hq]at h;simp only[aA]at h;obtain⟨rfl,rfl,-⟩:=h;obtain⟨a1,a2⟩:=jv hg;obtain⟨m,b1,b2,b3,b4,b5⟩:=QL _ _ _ _ _ List.Pairwise.nil hg2;rw[AB]at b1;subst b1;obtain⟨m2,c1,c2,c3,c4⟩:=Yi b3 _ _ _ _ _ hg3;rw[AB]at c1;subst c1;have hd:eQ l3=d:=up_sub (pG l3) b3 (fun z hz=>c3 z ((fA l3 z).1 hz)) om;have hl:l3≠[]:=fun e=>by rw[e]at c2;simp at c2;omega
      refine⟨c2,fun x hx=>b4 x (c3 x hx),by rw[hd,b2];omega,?_⟩;unfold enc;rw[Ng hl,hd,b2,a1,b5,c4,b2];simp
    ·rw[Ps0 kg]at h;simp only[aA]at h;exact absurd h.2.2 kg
   ·rw[Ps0 he2]at h;simp only[aA]at h;exact absurd h.2.2 he2
  ·rw[Ps0 he]at h;simp only[aA]at h;exact absurd h.2.2 he
end Di
end Go.Proofs.YtongopommlghgaaGreatDoor
