/- Part 5. -/
import Derived.Test.YtongopommlghgaaGreatDoorZVAC
import Derived.Test.YtongopommlghgaaGreatDoorZVAD
import Derived.Shelf.SlicesE.Kit
namespace Go.Proofs.YtongopommlghgaaGreatDoor
set_option maxRecDepth 100000
set_option maxHeartbeats 0
open _root_.Go.Proofs.Tryz
section
section
open Go.RowKit Go.Shelf
theorem Wr.lS (l a m e):(Wr.uint l a e m).1≤m:=by
 unfold Wr.uint;split
 ·exact bH _
 ·simp only[];split
  ·exact bH _
  ·split
   ·exact bH _
   ·omega
theorem Wr.lV (l a m e) (h:(Wr.uint l a e m).2.2≠0):(Wr.uint l a e m).1=0:=by
 unfold Wr.uint at h⊢;split
 ·rfl
 ·rw[Ng (by assumption)]at h;simp only[]at h⊢;split
  ·rfl
  ·rw[Ng (by assumption)]at h;split
   ·rfl
   ·rw[Ng (by assumption)]at h;exact absurd rfl h
theorem Wr.yL (l a m e) (h:a≤l.length):(Wr.uint l a e m).2.1≤l.length:=by
 unfold Wr.uint;split
 ·exact h
 ·simp only[];split
  ·exact h
  ·next h2=>
   split
   ·exact h
   ·have h3:(Vi.get l (a:Int)).2.2=0:=by simpa using h2
    generalize hg:Vi.get l (a:Int)=G at*;obtain⟨x,t,f⟩:=G;have h5:f=0:=h3;subst h5;have h4:=(Vi.jc hg).2;show t.toNat≤l.length;omega
namespace Rc
def mx:Nat:=18446744073709551615
def cnt (l:List UInt8) (a:Nat) (e:Int):Nat×Nat×Int:=
 let r:=Wr.uint l a e mx
 if r.2.2≠0 then(0,r.2.1,r.2.2)else if l.length-r.2.1<r.1 then(0,r.2.1,3)else r
def sym (T:List ByteArray) (l:List UInt8) (a:Nat) (e:Int):ByteArray×Nat×Int:=
 let r:=Wr.uint l a e mx
 if r.2.2≠0 then(ByteArray.empty,r.2.1,r.2.2)else if T.length≤r.1 then(ByteArray.empty,r.2.1,14)else(T.getD r.1 ByteArray.empty,r.2.1,0)
def lab (T:List ByteArray) (l:List UInt8) (a:Nat) (e:Int):aQ×Nat×Int:=
 let r:=sym T l a e
 let s:=sym T l r.2.1 r.2.2
 (⟨r.1,s.1⟩,s.2)
def len (l:List UInt8) (a:Nat) (e:Int):Nat×Nat×Int:=
 let r:=Wr.uint l a e mx
 if r.1<1∨2147483647<r.1 then(r.1,r.2.1,if r.2.2=0 then 23 else r.2.2)else r
end Rc
theorem Fy {w w':World} {n row} (h:(w.drewN n).grownBy w' row):w.grownBy w' row:=⟨h.os,h.tape,h.output,h.size,h.block⟩
theorem nT {row} (w:World) (n):w.grownBy (w.drewN n) row:=⟨rfl,rfl,rfl,Nr _,fun _ _ _=>rfl⟩
def RR (w:World) (q p:Nat) (TA:Option Addr) (tn tc:Nat) (T:List ByteArray) (l:List UInt8):Prop:=
 w.heap[q]? =some (.cells #[.pointer (some ⟨p,0,none⟩),.slice TA tn tc,.int .i64 (l.length:Int)] 218 (0,0))∧p<q∧bK w p TA tn tc T
theorem RR.grown {w w' q p tn tc TA T l} (h:RR w q p TA tn tc T l) (hg:w.grownBy w' (some p)):RR w' q p TA tn tc T l:=by
 obtain⟨h1,h2,h3⟩:=h;have hq:q<w.heap.size:=(Ge.1 h1).1;exact⟨(hg.block q hq (fun e=>by have:=Oj e;omega)).trans h1,h2,h3.grown hg om (fun g e=>by have:=Oj e;omega)⟩
theorem RR.cells {w q p tn tc TA T l} (h:RR w q p TA tn tc T l):
  w.cell? ⟨q,0,none⟩=some (.pointer (some ⟨p,0,none⟩))∧w.cell? ⟨q,1,none⟩=some (.slice TA tn tc)∧w.cell? ⟨q,2,none⟩=some (.int .i64 (l.length:Int)):=
 ⟨Co _ _ _ _ _ _ h.1,Co _ _ _ _ _ _ h.1,Co _ _ _ _ _ _ h.1⟩
theorem pM (q p a tn tc TA T l e w) (hR:RR w q p TA tn tc T l) (h:aK w p l a e):
  Calls prog 171 #[.pointer (some ⟨q,0,none⟩)] w fun r w'=>r= .returned (.int .i64 ((Rc.cnt l a e).1:Int))∧aK w' p l (Rc.cnt l a e).2.1 (Rc.cnt l a e).2.2∧w.grownBy w' (some p):=by
 obtain⟨q0,q1,q2⟩:=hR.cells;have U:=Aj (jm p a 18446744073709551615 l e w h);have HR:=Aj hR;have hle:=Wr.lS l a Rc.mx e;have hat:=Wr.yL l a Rc.mx e h.len.2;have hC:Rc.cnt l a e=(let r:=Wr.uint l a e Rc.mx;if r.2.2≠0 then(0,r.2.1,r.2.2)else if l.length-r.2.1<r.1 then(0,r.2.1,3)else r):=rfl;have hln:=h.len;unfold Rc.mx at hC hle hat;generalize Wr.uint l a e 18446744073709551615=X at*;obtain⟨x,a1,e1⟩:=X;simp only[]at hC hle hat U;clear h hR;have ZN:IntKind.u64.wrap ((l.length:Int)-(a1:Int))=(l.length:Int)-(a1:Int):=by simp[IntKind.wrap,IntKind.bits,IntKind.signed];omega
 by_cases he1:e1=0
 ·subst he1;rw[Ng sm]at hC;by_cases hx:l.length-a1<x
  ·rw[Ps0 hx]at hC;rw[hC];have hgt:(l.length:Int)-(a1:Int)< (x:Int):=om;clear hC hx;go_enter func171,ntmps171;go_upto_region 2 with(go_at_call 182;refine U.1.mono ?_;rintro r w2 ⟨rfl,hr,hg⟩;have R2:=Aj hr;have G2:=Aj hg;clear hr hg)
   obtain⟨s0,s1,s2⟩:=(HR.1.grown G2.1).cells;go_quiet (first
    |(go_at_call 112;exact(jb p a1 l 0 _ (by exact R2.1)).mono fun _ _ q=>⟨q.1,_,q.2.symm⟩)
    |(go_at_call 120;exact(ay p a1 l 0 _ (by exact R2.1)).mono fun _ _ q=>⟨q.1,_,q.2.symm⟩))
   go_wp2_with (first
    |(go_at_call 114;refine(dB p a1 l 0 3 _ (by exact R2.1)).mono ?_;rintro r w3 ⟨rfl,hr,hg⟩;rw[Ps0 rfl]at hr;have R3:=Aj hr;have G3:Kept (w2.grownBy w3 (some p)):=⟨Fy hg⟩;obtain⟨t0,t1,t2⟩:=((HR.1.grown G2.1).grown G3.1).cells;clear hr hg)
    |(go_at_call 120;refine(ay p a1 l 3 _ R3.1).mono ?_;rintro r w4 ⟨rfl,rfl⟩))
   go_ret;exact⟨rfl,R3.1,G2.1.trans G3.1⟩
  ·rw[Ng hx]at hC;rw[hC];have hgt:¬(l.length:Int)-(a1:Int)< (x:Int):=om;have hx1:(x:Int)≤140737488354000:=om;clear hC hx;go_enter func171,ntmps171;go_upto_region 2 with(go_at_call 182;refine U.1.mono ?_;rintro r w2 ⟨rfl,hr,hg⟩;have R2:=Aj hr;have G2:=Aj hg;clear hr hg)
   obtain⟨s0,s1,s2⟩:=(HR.1.grown G2.1).cells;go_quiet (first
    |(go_at_call 112;exact(jb p a1 l 0 _ (by exact R2.1)).mono fun _ _ q=>⟨q.1,_,q.2.symm⟩)
    |(go_at_call 120;exact(ay p a1 l 0 _ (by exact R2.1)).mono fun _ _ q=>⟨q.1,_,q.2.symm⟩))
   go_wp2_with (go_at_call 120;refine(ay p a1 l 0 _ (by exact R2.1)).mono ?_;rintro r w4 ⟨rfl,rfl⟩);go_ret;exact⟨by go_num,R2.1,G2.1.trans (nT _ _)⟩
 ·rw[Ps0 he1]at hC;rw[hC];have yo:(e1==0)=false:=by simpa using he1
  clear hC;go_enter func171,ntmps171;go_upto_region 2 with(go_at_call 182;refine U.1.mono ?_;rintro r w2 ⟨rfl,hr,hg⟩;have R2:=Aj hr;have G2:=Aj hg;clear hr hg)
  obtain⟨s0,s1,s2⟩:=(HR.1.grown G2.1).cells;go_quiet (first
   |(go_at_call 112;exact(jb p a1 l e1 _ (by exact R2.1)).mono fun _ _ q=>⟨q.1,_,q.2.symm⟩)
   |(go_at_call 120;exact(ay p a1 l e1 _ (by exact R2.1)).mono fun _ _ q=>⟨q.1,_,q.2.symm⟩))
  go_wp2_with (go_at_call 120;refine(ay p a1 l e1 _ (by exact R2.1)).mono ?_;rintro r w4 ⟨rfl,rfl⟩);go_ret;exact⟨rfl,R2.1,G2.1.trans (nT _ _)⟩
end
end
section
section
open Go.RowKit Go.Shelf
theorem tH (q p a tn tc TA T l e w) (hR:RR w q p TA tn tc T l) (h:aK w p l a e):
  Calls prog 211 #[.pointer (some ⟨q,0,none⟩)] w fun r w'=>r= .returned (.string (Rc.sym T l a e).1)∧aK w' p l (Rc.sym T l a e).2.1 (Rc.sym T l a e).2.2∧w.grownBy w' (some p):=by
 obtain⟨q0,q1,q2⟩:=hR.cells;have U:=Aj (jm p a 18446744073709551615 l e w h);have HR:=Aj hR;have hle:=Wr.lS l a Rc.mx e;have hC:Rc.sym T l a e=(let r:=Wr.uint l a e Rc.mx;if r.2.2≠0 then(ByteArray.empty,r.2.1,r.2.2)else if T.length≤r.1 then(ByteArray.empty,r.2.1,14)else(T.getD r.1 ByteArray.empty,r.2.1,0)):=rfl;have htl:=hR.2.2.len;have htm:=hR.2.2.2.1;have htc:=hR.2.2.1;unfold maxLen at htm;unfold Rc.mx at hC hle;generalize Wr.uint l a e 18446744073709551615=X at*;obtain⟨x,a1,e1⟩:=X;simp only[]at hC hle U;have ZN:IntKind.u64.wrap (tn:Int)=(tn:Int):=by simp[IntKind.wrap,IntKind.bits,IntKind.signed];omega
 have HT:=Aj htl;clear h hR htl;by_cases he1:e1=0
 ·subst he1;rw[Ng sm]at hC;by_cases hx:T.length≤x
  ·rw[Ps0 hx]at hC;rw[hC];have hgt:(tn:Int)≤(x:Int):=by have:=HT.1;omega
   have hgt2:tn≤x:=om;clear hC hx;go_enter func211,ntmps211;go_wp2_with (first
    |(go_at_call 182;refine U.1.mono ?_;rintro r w2 ⟨rfl,hr,hg⟩;have R2:=Aj hr;have G2:=Aj hg;obtain⟨s0,s1,s2⟩:=(HR.1.grown hg).cells;clear hr hg)
    |(go_at_call 114;refine(dB p a1 l 0 14 _ R2.1).mono ?_;rintro r w3 ⟨rfl,hr,hg⟩;rw[Ps0 rfl]at hr;have R3:=Aj hr;have G3:=Aj hg;obtain⟨t0,t1,t2⟩:=((HR.1.grown G2.1).grown hg).cells;clear hr hg R2)
    |(go_at_call 120;refine(ay p a1 l 14 _ R3.1).mono ?_;rintro r w9 ⟨rfl,rfl⟩)
    |(go_at_call 120;refine(ay p a1 l 0 _ R2.1).mono ?_;rintro r w9 ⟨rfl,rfl⟩))
   go_ret;exact⟨rfl,R3.1,G2.1.trans G3.1⟩
  ·rw[Ng hx]at hC;have hxl:x<T.length:=om;rw[show T.getD x ByteArray.empty=T[x]by simp[List.getD,hxl]]at hC;rw[hC];have hgt:(x:Int)< (tn:Int):=by have:=HT.1;omega
   have hgt2:¬tn≤x:=om;have acC:x<tn:=om;obtain⟨b,off,rfl,hbp,hcell⟩:=HR.1.2.2.at_ hxl;have CC:Kept (∀W,w.grownBy W (some p)→W.cell? ⟨b,off+x,none⟩=some (.string T[x])):=⟨fun W hg=>by
    obtain⟨b',off',e',-,hc'⟩:=((HR.1.grown hg).2.2).at_ hxl;simp only[gT,Cf,BJ]at e';obtain⟨rfl,rfl⟩:=e';exact hc'⟩
   generalize T[x]=s at*;clear hC hx hcell;go_enter func211,ntmps211;go_wp2_with (first
    |(go_at_call 182;refine U.1.mono ?_;rintro r w2 ⟨rfl,hr,hg⟩;have R2:=Aj hr;have G2:=Aj hg;obtain⟨s0,s1,s2⟩:=(HR.1.grown hg).cells;clear hr hg;have cc:=CC.1 w2 G2.1)
    |(go_at_call 120;refine(ay p a1 l 0 _ R2.1).mono ?_;rintro r w9 ⟨rfl,rfl⟩))
   go_ret;exact⟨rfl,R2.1,G2.1⟩
 ·rw[Ps0 he1]at hC;rw[hC];have yo:(e1==0)=false:=by simpa using he1
  clear hC;go_enter func211,ntmps211;go_wp2_with (first
   |(go_at_call 182;refine U.1.mono ?_;rintro r w2 ⟨rfl,hr,hg⟩;have R2:=Aj hr;have G2:=Aj hg;obtain⟨s0,s1,s2⟩:=(HR.1.grown hg).cells;clear hr hg)
   |(go_at_call 120;refine(ay p a1 l e1 _ R2.1).mono ?_;rintro r w9 ⟨rfl,rfl⟩))
  go_ret;exact⟨rfl,R2.1,G2.1⟩
theorem Jr (q p a tn tc TA T l e w) (hR:RR w q p TA tn tc T l) (h:aK w p l a e):
  Calls prog 175 #[.pointer (some ⟨q,0,none⟩)] w fun r w'=>∃v:Int,r= .returned (.int .i64 v)∧((Rc.len l a e).2.2=0→v=((Rc.len l a e).1:Int))∧aK w' p l (Rc.len l a e).2.1 (Rc.len l a e).2.2∧w.grownBy w' (some p):=by
 obtain⟨q0,q1,q2⟩:=hR.cells;have U:=Aj (jm p a 18446744073709551615 l e w h);have HR:=Aj hR;have hle:=Wr.lS l a Rc.mx e;have hz:=Wr.lV l a Rc.mx e;have hC:Rc.len l a e=(let r:=Wr.uint l a e Rc.mx;if r.1<1∨2147483647<r.1 then(r.1,r.2.1,if r.2.2=0 then 23 else r.2.2)else r):=rfl;unfold Rc.mx at hC hle hz;generalize Wr.uint l a e 18446744073709551615=X at*;obtain⟨x,a1,e1⟩:=X;simp only[]at hC hle hz U;clear h hR;by_cases hx:x<1∨2147483647<x
 ·rw[Ps0 hx]at hC;rw[hC];have hne:Kept (¬(if e1=0 then(23:Int)else e1)=0):=⟨by split<;>omega⟩
  have F:=Aj (fun w2 (hr:aK w2 p l a1 e1)=>dB p a1 l e1 23 w2 hr);generalize (if e1=0 then(23:Int)else e1)=e2 at*;rcases Eo x 1 with h1|h1
  ·have h1':(x:Int)<1:=by omega
   clear hC hx hz;go_enter func175,ntmps175;go_wp2_with (first
    |(go_at_call 182;refine U.1.mono ?_;rintro r w2 ⟨rfl,hr,hg⟩;have R2:=Aj hr;have G2:=Aj hg;obtain⟨s0,s1,s2⟩:=(HR.1.grown hg).cells;clear hr hg)
    |(go_at_call 114;refine(F.1 _ R2.1).mono ?_;rintro r w3 ⟨rfl,hr,hg⟩;have R3:=Aj hr;have G3:=Aj hg;clear hr hg))
   go_ret;exact⟨_,rfl,fun h=>absurd h hne.1,R3.1,G2.1.trans G3.1⟩
  ·have h1':¬(x:Int)<1:=by omega
   have h2':(2147483647:Int)< (x:Int):=om;clear hC hx hz;go_enter func175,ntmps175;go_wp2_with (first
    |(go_at_call 182;refine U.1.mono ?_;rintro r w2 ⟨rfl,hr,hg⟩;have R2:=Aj hr;have G2:=Aj hg;obtain⟨s0,s1,s2⟩:=(HR.1.grown hg).cells;clear hr hg)
    |(go_at_call 114;refine(F.1 _ R2.1).mono ?_;rintro r w3 ⟨rfl,hr,hg⟩;have R3:=Aj hr;have G3:=Aj hg;clear hr hg))
   go_ret;exact⟨_,rfl,fun h=>absurd h hne.1,R3.1,G2.1.trans G3.1⟩
 ·rw[Ng hx]at hC;rw[hC];have h1':¬(x:Int)<1:=om;have h2':¬(2147483647:Int)< (x:Int):=om;have h3':(x:Int)≤2147483647:=om;clear hC hx hz;go_enter func175,ntmps175;go_wp2_with (go_at_call 182;refine U.1.mono ?_;rintro r w2 ⟨rfl,hr,hg⟩;have R2:=Aj hr;have G2:=Aj hg;obtain⟨s0,s1,s2⟩:=(HR.1.grown hg).cells;clear hr hg);go_ret;exact⟨_,rfl,fun _=>by go_num,R2.1,G2.1⟩
end
end
section
section
open Go.RowKit Go.Shelf
theorem xD {w w3:World} {o row} (h:(w.alloc o).grownBy w3 row):w.grownBy w3 row:=
 ⟨h.os,h.tape,h.output,by have:=h.size;simp at this;omega,fun k hk hne=>(h.block k (by simp;omega) hne).trans (Aw _ _ k hk)⟩
theorem dS {w w3:World} {row g k v} (h:w.grownBy w3 row) (hg:w.heap.size≤g):w.grownBy (w3.setCell ⟨g,k,none⟩ v) row:=by
 have s:=ak w3 ⟨g,k,none⟩ v;exact⟨s.os.trans h.os,s.tape.trans h.tape,s.output.trans h.output,Lt h.size s.size,fun j hj hne=>(s.block j (by have:=h.size;omega) (fun e=>by have:=Oj e;simp at this;omega)).trans (h.block j hj hne)⟩
theorem aB {w w' row} (h:Below w.heap.size w w'):w.grownBy w' row:=⟨h.os,h.tape,h.output,h.size,fun k hk _=>h.block k hk⟩
theorem RR.box {w q p tn tc TA T l} (h:RR w q p TA tn tc T l) (o):RR (w.alloc o) q p TA tn tc T l:=
 h.grown (aB ((Ae _ w).alloc Ai o))
theorem xE (w:World) (g a b) {cs t} (h:w.heap[g]? =some (.cells cs t (0,0))) (hs:cs.size=2):((w.setCell ⟨g,0,none⟩ a).setCell ⟨g,1,none⟩ b).heap[g]? =some (.cells #[a,b] t (0,0)):=by
 rw[Ag _ g 1 _ t _ (Ag w g 0 _ t _ h)];obtain⟨L,rfl⟩:∃L:List Value,cs=L.toArray:=⟨cs.toList,sm⟩
 match L,hs with
 |[_,_],_=>rfl
theorem NY (q p a tn tc TA T l e w) (hR:RR w q p TA tn tc T l) (h:aK w p l a e):
  Calls prog 173 #[.pointer (some ⟨q,0,none⟩)] w fun r w'=>r= .returned (.agg #[.string (Rc.lab T l a e).1.n,.string (Rc.lab T l a e).1.v])∧aK w' p l (Rc.lab T l a e).2.1 (Rc.lab T l a e).2.2∧w.grownBy w' (some p):=by
 have hpl:=h.lt;obtain⟨W1,hW1⟩:∃W1,W1=w.alloc (.cells #[.string ⟨#[]⟩,.string ⟨#[]⟩] 59):=⟨_,rfl⟩
 have R1:Kept (RR W1 q p TA tn tc T l):=⟨by rw[hW1];exact hR.box _⟩
 have D1:Kept (aK W1 p l a e):=⟨by rw[hW1];exact h.box _⟩
 have H1:Kept (W1.heap[w.heap.size]? =some (.cells #[.string ⟨#[]⟩,.string ⟨#[]⟩] 59 (0,0))):=⟨by rw[hW1];exact Av w _⟩
 have G1:Kept (∀W,W1.grownBy W (some p)→w.grownBy W (some p)):=⟨fun W hg=>by rw[hW1]at hg;exact xD hg⟩
 have HW:=Aj hW1.symm;have S1:=Aj (tH q p a tn tc TA T l e W1 R1.1 D1.1);have hC:Rc.lab T l a e=(⟨(Rc.sym T l a e).1,(Rc.sym T l (Rc.sym T l a e).2.1 (Rc.sym T l a e).2.2).1⟩,(Rc.sym T l (Rc.sym T l a e).2.1 (Rc.sym T l a e).2.2).2):=rfl;rw[hC];generalize Rc.sym T l a e=X at*;obtain⟨x,a1,e1⟩:=X;have S2:=Aj (fun w2 (r:RR w2 q p TA tn tc T l) (d:aK w2 p l a1 e1)=>tH q p a1 tn tc TA T l e1 w2 r d);simp only[]at S1 S2⊢;generalize Rc.sym T l a1 e1=Y at*;obtain⟨y,a2,e2⟩:=Y;simp only[]at S2⊢;clear h hR hC hW1;go_enter func173,ntmps173;go_upto_region 1 with fail;rw[HW.1];go_upto_region 3 with(first
  |(go_at_call 211;refine(S2.1 w2 R2.1 D2.1).mono ?_;rintro r w3 ⟨rfl,hr,hg⟩;have D3:=Aj hr;have G3:=Aj (G2.1.trans hg);have x3:=(hg.block w.heap.size (by have:=G2.1.size;have:=(Ge.1 H1.1).1;omega) (fun e=>by have:=Oj e;omega)).trans X2.1;have c0:=Co _ _ 0 _ _ _ x3;have c1:=Co _ _ 1 _ _ _ x3;have f0:=fun k=>Fr _ _ k _ _ x3;have X3:=Aj x3;clear hr hg x3)
  |(go_at_call 211;refine S1.1.mono ?_;rintro r w2 ⟨rfl,hr,hg⟩;have D2:=Aj hr;have G2:=Aj hg;have R2:=Aj (R1.1.grown hg);have X2:=Aj ((hg.block w.heap.size ((Ge.1 H1.1).1) (fun e=>by have:=Oj e;omega)).trans H1.1);clear hr hg S1))
 refine Bi (v:= .agg #[.string x,.string y]) ?hr rfl ⟨rfl,?_,?_⟩
 case hr=>exact results_cell_row (fn:=Tryz.f173) (p:=2) (ty:=59) rfl _ _ w.heap.size _ _ _ _ rfl (xE w3 w.heap.size _ _ X3.1 rfl) underlying59 rfl kr
 ·exact D3.1.below (((Ae w.heap.size w3).setCell (p:=⟨w.heap.size,0,none⟩) Ai _).setCell (p:=⟨w.heap.size,1,none⟩) Ai _) hpl
 ·exact dS (dS (G1.1 w3 G3.1) Ai) Ai
namespace Rc
def ko {X:Type} (rd:Nat→Int→X×Nat×Int):Nat→List X→Nat→Int→List X×Nat×Int
 |0,acc,a,e=>(acc,a,e)
 |n+1,acc,a,e=>let r:=rd a e;if r.2.2≠0 then([],r.2.1,r.2.2)else ko rd n (acc++[r.1]) r.2.1 r.2.2
theorem dE {X} (rd:Nat→Int→X×Nat×Int) (acc a e):ko rd 0 acc a e=(acc,a,e):=rfl
theorem iV {X} (rd:Nat→Int→X×Nat×Int) (n acc a e) (hn:0<n) (h:(rd a e).2.2≠0):ko rd n acc a e=([],(rd a e).2.1,(rd a e).2.2):=by
 obtain⟨m,rfl⟩:∃m,n=m+1:=⟨n-1,om⟩
 unfold ko;exact Ps0 h
theorem jd {X} (rd:Nat→Int→X×Nat×Int) (n acc a e) (hn:0<n) (h:(rd a e).2.2=0):ko rd n acc a e=ko rd (n-1) (acc++[(rd a e).1]) (rd a e).2.1 0:=by
 obtain⟨m,rfl⟩:∃m,n=m+1:=⟨n-1,om⟩
 rw[Bz]
 conv=>lhs;unfold ko
 refine(Ng (by simp[h])).trans ?_;rw[h]
def fV (T:List ByteArray) (l:List UInt8) (a:Nat) (e:Int):List aQ×Nat×Int:=ko (lab T l) (cnt l a e).1 [] (cnt l a e).2.1 (cnt l a e).2.2
def lens (l:List UInt8) (a:Nat) (e:Int):List Nat×Nat×Int:=ko (len l) (cnt l a e).1 [] (cnt l a e).2.1 (cnt l a e).2.2
theorem tJ (l a e) (h:a≤l.length):(cnt l a e).1≤l.length:=by
 unfold cnt;simp only[];split
 ·exact bH _
 ·split
  ·exact bH _
  ·have:=Wr.yL l a mx e h;omega
end Rc
end
end
section
section
open Go.RowKit Go.Shelf
theorem bP.past {w w' base n c p A l} (h:bP w base A n c l) (hg:w.grownBy w' (some p)) (hp:p<base):bP w' base A n c l:=
 ag h hg (by
  rcases hA:ab A with _|g
  ·exact .inl rfl
  ·refine .inr fun e=>?_
   have:=(ae h g hA).1;have:=Oj e;omega)
theorem ax.past {w w' base n c p A l} (h:ax w base A n c l) (hg:w.grownBy w' (some p)) (hp:p<base):ax w' base A n c l:=
 ag h hg (by
  rcases hA:ab A with _|g
  ·exact .inl rfl
  ·refine .inr fun e=>?_
   have:=(ae h g hA).1;have:=Oj e;omega)
theorem ax.nil (w base):ax w base none 0 0 []:=⟨rfl,.inl ⟨rfl,rfl⟩⟩
def wh (w:World) (base:Nat) (A:Option Addr) (n c:Nat) (l:List Nat):Prop:=ax w base A n c (l.map Int.ofNat)
theorem wh.app {w} {base n c x:Nat} {A l} (h:ax w base A n c (l.map Int.ofNat++[(x:Int)])):wh w base A n c (l++[x]):=by
 unfold wh;rw[dR];exact h
theorem fO.one (w:World) (x):fO (w.alloc (.cells #[.string x.n,.string x.v] 59)) (w.heap.size+1) (some ⟨w.heap.size,0,none⟩) 1 1 [x]:=fO.lit w [x] (0,0) sm
theorem iA {w w1 w':World} {row} (h:w.grownBy w1 row) (b:Below w.heap.size w1 w'):w.grownBy w' row:=
 ⟨b.os.trans h.os,b.tape.trans h.tape,b.output.trans h.output,Lt h.size b.size,fun k hk hne=>(b.block k hk).trans (h.block k hk hne)⟩
theorem Fz (q p a tn tc TA T l e w) (hR:RR w q p TA tn tc T l) (h:aK w p l a e) (hll:l.length≤20000000):
  Calls prog 172 #[.pointer (some ⟨q,0,none⟩),.func (.func 173) #[.pointer (some ⟨q,0,none⟩)] #[]] w fun r w'=>∃A n c,r= .returned (.slice A n c)∧bP w' w.heap.size A n c (Rc.fV T l a e).1∧aK w' p l (Rc.fV T l a e).2.1 (Rc.fV T l a e).2.2∧w.grownBy w' (some p):=by
 have hpl:=h.lt;have hqp:=hR.2.1;have HR:=Aj hR;have CN:=Aj (pM q p a tn tc TA T l e w hR h);have hcl:=Rc.tJ l a e h.len.2;obtain⟨M,hM⟩:∃M,M=Rc.fV T l a e:=⟨_,rfl⟩
 rw[←hM];have HM:Kept (M=Rc.ko (Rc.lab T l) (Rc.cnt l a e).1 [] (Rc.cnt l a e).2.1 (Rc.cnt l a e).2.2):=⟨hM⟩
 generalize Rc.cnt l a e=X at*;obtain⟨n,a1,e1⟩:=X;simp only[]at CN hcl HM;clear h hR hM;have rT:n≤20000000:=om;go_enter func172,ntmps172;go_upto_region 3 with(go_at_call 171;refine CN.1.mono ?_;rintro r w1 ⟨rfl,hr,hg⟩;have D1:=Aj hr;have G1:=Aj hg;clear hr hg CN)
 go_loopw [5,9] (fun o i wr=>∃k:Nat,k≤n∧i= .int .i64 k∧∃A m c acc a2 e2,o= .slice A m c∧bP wr w.heap.size A m c acc∧aK wr p l a2 e2∧Kept (m=k∧M=Rc.ko (Rc.lab T l) (n-k) acc a2 e2)∧w.grownBy wr (some p)) (fun _ i _=>n-(intOf i).toNat)
 case atStart=>exact⟨0,om,rfl,none,0,0,[],a1,e1,rfl,bP.nil _ _,D1.1,⟨rfl,HM.1⟩,G1.1⟩
 case round=>
  clear D1 G1;obtain⟨k,hk,rfl,A,m,c,acc,a2,e2,rfl,ho,hd,hm,hg⟩:=hrel;have hz:=hg.size;by_cases hlt:k<n
  ·have hm6:m≤20000000:=by have:=hm.1.1;omega
   have O:=Aj ho;have G:=Aj hg;have RW:=Aj (HR.1.grown hg);have EL:=Aj (NY q p a2 tn tc TA T l e2 wr RW.1 hd);have hbad:=Aj (fun h=>hm.1.2.trans (Rc.iV (Rc.lab T l) (n-k) acc a2 e2 om h));have hok:=Aj (fun h=>hm.1.2.trans (Rc.jd (Rc.lab T l) (n-k) acc a2 e2 om h));generalize Rc.lab T l a2 e2=Y at*;obtain⟨x,a3,e3⟩:=Y;simp only[]at EL hbad hok;clear ho hd hg;by_cases he:e3=0
   ·subst he;have hok2:=Aj (hok.1 rfl);clear hok hbad;go_wp2_with (first
     |(go_at_call 173;refine EL.1.mono ?_;rintro r w2 ⟨rfl,hr,hg⟩;have O2:=Aj (bP.past O.1 hg hpl);have OB:=Aj (Oa O2.1 (.cells #[.string x.n,.string x.v] 59));have DB:=Aj (hr.box (.cells #[.string x.n,.string x.v] 59));have GB:Kept (w.grownBy (w2.alloc (.cells #[.string x.n,.string x.v] 59)) (some p)):=⟨(G.1.trans hg).trans (aB ((Ae _ w2).alloc Ai _))⟩;obtain⟨q0,q1,q2⟩:=(HR.1.grown GB.1).cells;have b0:=Ao w2 #[.string x.n,.string x.v] 59 (0,0) 0;have b1:=Ao w2 #[.string x.n,.string x.v] 59 (0,0) 1;generalize hWB:w2.alloc (.cells #[.string x.n,.string x.v] 59)=WB at*;clear hr hg O2 EL)
     |(go_at_call 120;refine(ay p a3 l 0 _ (by exact DB.1)).mono ?_;rintro r w9 ⟨rfl,rfl⟩)
     |(at_builtin;refine qG rfl (.tmp 19) (.tmp 21) rfl w.heap.size A m c acc rfl (Oa OB.1 _) (WB.heap.size+1) _ _ _ [x] rfl (fO.one WB x) om (by have:=GB.1.size;simp;omega) ?_;intro A4 c4 w4 av af cO;have O4:=Aj av;have B4:Kept (Below w.heap.size WB w4):=⟨((Ae w.heap.size WB).alloc GB.1.size _).grown af (by have:=GB.1.size;simp;omega) (fun g e=>(ae OB.1 g e).1)⟩;have D4:=Aj (DB.1.below B4.1 hpl);have G4:=Aj (iA GB.1 B4.1);clear av af cO))
    go_roundw
    case rel=>exact⟨k+1,om,by go_num,A4,_,c4,_,a3,0,rfl,O4.1,D4.1,⟨by rw[hm.1.1],by rw[hok2.1,Nat.sub_sub]⟩,G4.1⟩
    case measure=>simp[intOf];omega
   ·have FB:=Aj (hbad.1 he);have yo:(e3==0)=false:=by simpa using he
    clear hbad hok;go_wp2_with (first
     |(go_at_call 173;refine EL.1.mono ?_;rintro r w2 ⟨rfl,hr,hg⟩;have O2:=Aj (bP.past O.1 hg hpl);have OB:=Aj (Oa O2.1 (.cells #[.string x.n,.string x.v] 59));have DB:=Aj (hr.box (.cells #[.string x.n,.string x.v] 59));have GB:Kept (w.grownBy (w2.alloc (.cells #[.string x.n,.string x.v] 59)) (some p)):=⟨(G.1.trans hg).trans (aB ((Ae _ w2).alloc Ai _))⟩;obtain⟨q0,q1,q2⟩:=(HR.1.grown GB.1).cells;have b0:=Ao w2 #[.string x.n,.string x.v] 59 (0,0) 0;have b1:=Ao w2 #[.string x.n,.string x.v] 59 (0,0) 1;generalize hWB:w2.alloc (.cells #[.string x.n,.string x.v] 59)=WB at*;clear hr hg O2 EL)
     |(go_at_call 120;refine(ay p a3 l e3 _ (by exact DB.1)).mono ?_;rintro r w9 ⟨rfl,rfl⟩))
    go_ret;refine⟨none,0,0,rfl,?_⟩;rw[FB.1];exact⟨bP.nil _ _,DB.1,GB.1⟩
  ·have hM2:Kept (M=(acc,a2,e2)):=⟨by rw[hm.1.2,show n-k=0 from om,Rc.dE]⟩
   have O:=Aj ho;have D:=Aj hd;have G:=Aj hg;clear ho hd hg;go_wp2;go_ret;refine⟨A,m,c,rfl,?_⟩;rw[hM2.1];exact⟨O.1,D.1,G.1⟩
theorem FC (q p a tn tc TA T l e w) (hR:RR w q p TA tn tc T l) (h:aK w p l a e) (hll:l.length≤20000000):
  Calls prog 174 #[.pointer (some ⟨q,0,none⟩),.func (.func 175) #[.pointer (some ⟨q,0,none⟩)] #[]] w fun r w'=>∃A n c,r= .returned (.slice A n c)∧wh w' w.heap.size A n c (Rc.lens l a e).1∧aK w' p l (Rc.lens l a e).2.1 (Rc.lens l a e).2.2∧w.grownBy w' (some p):=by
 have hpl:=h.lt;have hqp:=hR.2.1;have HR:=Aj hR;have CN:=Aj (pM q p a tn tc TA T l e w hR h);have hcl:=Rc.tJ l a e h.len.2;obtain⟨M,hM⟩:∃M,M=Rc.lens l a e:=⟨_,rfl⟩
 rw[←hM];have HM:Kept (M=Rc.ko (Rc.len l) (Rc.cnt l a e).1 [] (Rc.cnt l a e).2.1 (Rc.cnt l a e).2.2):=⟨hM⟩
 generalize Rc.cnt l a e=X at*;obtain⟨n,a1,e1⟩:=X;simp only[]at CN hcl HM;clear h hR hM;have rT:n≤20000000:=om;go_enter func174,ntmps174;go_upto_region 3 with(go_at_call 171;refine CN.1.mono ?_;rintro r w1 ⟨rfl,hr,hg⟩;have D1:=Aj hr;have G1:=Aj hg;clear hr hg CN)
 go_loopw [5,9] (fun o i wr=>∃k:Nat,k≤n∧i= .int .i64 k∧∃A m c acc a2 e2,o= .slice A m c∧wh wr w.heap.size A m c acc∧aK wr p l a2 e2∧Kept (m=k∧M=Rc.ko (Rc.len l) (n-k) acc a2 e2)∧w.grownBy wr (some p)) (fun _ i _=>n-(intOf i).toNat)
 case atStart=>exact⟨0,om,rfl,none,0,0,[],a1,e1,rfl,ax.nil _ _,D1.1,⟨rfl,HM.1⟩,G1.1⟩
 case round=>
  clear D1 G1;obtain⟨k,hk,rfl,A,m,c,acc,a2,e2,rfl,ho,hd,hm,hg⟩:=hrel;have hz:=hg.size;by_cases hlt:k<n
  ·have hm6:m≤20000000:=by have:=hm.1.1;omega
   have O:=Aj ho;have G:=Aj hg;have RW:=Aj (HR.1.grown hg);have EL:=Aj (Jr q p a2 tn tc TA T l e2 wr RW.1 hd);have hbad:=Aj (fun h=>hm.1.2.trans (Rc.iV (Rc.len l) (n-k) acc a2 e2 om h));have hok:=Aj (fun h=>hm.1.2.trans (Rc.jd (Rc.len l) (n-k) acc a2 e2 om h));generalize Rc.len l a2 e2=Y at*;obtain⟨x,a3,e3⟩:=Y;simp only[]at EL hbad hok;clear ho hd hg;by_cases he:e3=0
   ·subst he;have hok2:=Aj (hok.1 rfl);clear hok hbad;go_wp2_with (first
     |(go_at_call 175;refine EL.1.mono ?_;rintro r WB ⟨v,rfl,hv,hr,hg⟩;have OB:=Aj (ax.past O.1 hg hpl);have DB:=Aj hr;have HV:=Aj hv;have GB:=Aj (G.1.trans hg);obtain⟨q0,q1,q2⟩:=(HR.1.grown GB.1).cells;obtain rfl:v=(x:Int):=hv rfl;clear hr hg hv HV EL)
     |(go_at_call 120;refine(ay p a3 l 0 _ (by exact DB.1)).mono ?_;rintro r w9 ⟨rfl,rfl⟩)
     |(at_builtin;refine bT rfl (.tmp 19) (.tmp 21) rfl w.heap.size A m c (acc.map Int.ofNat) rfl (Oa OB.1 _) (WB.heap.size+1) _ _ _ [(x:Int)] rfl (bQ.one WB x) om (by have:=GB.1.size;simp;omega) ?_;intro A4 c4 w4 av af cO;have O4:=Aj av;have B4:Kept (Below w.heap.size WB w4):=⟨((Ae w.heap.size WB).alloc GB.1.size _).grown af (by have:=GB.1.size;simp;omega) (fun g e=>(ae OB.1 g e).1)⟩;have D4:=Aj (DB.1.below B4.1 hpl);have G4:=Aj (iA GB.1 B4.1);clear av af cO))
    go_roundw
    case rel=>exact⟨k+1,om,by go_num,A4,_,c4,_,a3,0,rfl,wh.app O4.1,D4.1,⟨by rw[hm.1.1],by rw[hok2.1,Nat.sub_sub]⟩,G4.1⟩
    case measure=>simp[intOf];omega
   ·have FB:=Aj (hbad.1 he);have yo:(e3==0)=false:=by simpa using he
    clear hbad hok;go_wp2_with (first
     |(go_at_call 175;refine EL.1.mono ?_;rintro r WB ⟨v,rfl,hv,hr,hg⟩;have OB:=Aj (ax.past O.1 hg hpl);have DB:=Aj hr;have HV:=Aj hv;have GB:=Aj (G.1.trans hg);obtain⟨q0,q1,q2⟩:=(HR.1.grown GB.1).cells;clear hr hg hv HV EL)
     |(go_at_call 120;refine(ay p a3 l e3 _ (by exact DB.1)).mono ?_;rintro r w9 ⟨rfl,rfl⟩))
    go_ret;refine⟨none,0,0,rfl,?_⟩;rw[FB.1];exact⟨ax.nil _ _,DB.1,GB.1⟩
  ·have hM2:Kept (M=(acc,a2,e2)):=⟨by rw[hm.1.2,show n-k=0 from om,Rc.dE]⟩
   have O:=Aj ho;have D:=Aj hd;have G:=Aj hg;clear ho hd hg;go_wp2;go_ret;refine⟨A,m,c,rfl,?_⟩;rw[hM2.1];exact⟨O.1,D.1,G.1⟩
end
end
section
section
open Go.RowKit Go.Shelf
namespace Rc
def rec (T:List ByteArray) (l:List UInt8) (a:Nat) (e:Int):(List aQ×List Nat)×Nat×Int:=
 let x:=fV T l a e
 let y:=lens l x.2.1 x.2.2
 ((x.1,y.1),y.2.1,if y.1=[]∧y.2.2=0 then 23 else y.2.2)
end Rc
theorem aU {w:World} {base n c sz g k A xs t v} (h:w.ownsRow base t sz (.slice A n c) n xs) (hne:∀g',ab A=some g'→g'≠g):(w.setCell ⟨g,k,none⟩ v).ownsRow base t sz (.slice A n c) n xs:=
 ag h (ak w ⟨g,k,none⟩ v) (by
  rcases hA:ab A with _|g'
  ·exact .inl rfl
  ·exact .inr fun e=>hne g' hA (Oj e))
theorem aC {w:World} {b1 b2 sz n c A xs e} (h:w.ownsRow b1 e sz (.slice A n c) n xs) (hb:b2≤b1):w.ownsRow b2 e sz (.slice A n c) n xs:=
 ⟨h.1,h.2.imp id fun⟨g,cap,cur,h1,h2,h3⟩=>⟨g,cap,cur,h1,om,h3⟩⟩
theorem aK.yM {w p a g k l e v} (h:aK w p l a e) (hg:p<g):aK (w.setCell ⟨g,k,none⟩ v) p l a e:=
 h.below ((Ae g w).setCell (p:=⟨g,k,none⟩) Ai _) hg
theorem Js (q p a tn tc TA T l e w) (hR:RR w q p TA tn tc T l) (h:aK w p l a e) (hll:l.length≤20000000):
  Calls prog 122 #[.pointer (some ⟨q,0,none⟩)] w fun r w'=>∃A1 n1 c1 A2 n2 c2,r= .returned (.agg #[.slice A1 n1 c1,.slice A2 n2 c2])∧bP w' w.heap.size A1 n1 c1 (Rc.rec T l a e).1.1∧wh w' w.heap.size A2 n2 c2 (Rc.rec T l a e).1.2∧aK w' p l (Rc.rec T l a e).2.1 (Rc.rec T l a e).2.2∧w.grownBy w' (some p):=by
 have hpl:=h.lt;obtain⟨W1,hW1⟩:∃W1,W1=w.alloc (.cells #[.slice none 0 0,.slice none 0 0] 146):=⟨_,rfl⟩
 have R1:Kept (RR W1 q p TA tn tc T l):=⟨by rw[hW1];exact hR.box _⟩
 have D1:Kept (aK W1 p l a e):=⟨by rw[hW1];exact h.box _⟩
 have H1:Kept (W1.heap[w.heap.size]? =some (.cells #[.slice none 0 0,.slice none 0 0] 146 (0,0))):=⟨by rw[hW1];exact Av w _⟩
 have Z1:Kept (w.heap.size<W1.heap.size):=⟨by rw[hW1];simp⟩
 have G1:Kept (∀W,W1.grownBy W (some p)→w.grownBy W (some p)):=⟨fun W hg=>by rw[hW1]at hg;exact xD hg⟩
 have HW:=Aj hW1.symm;have S1:=Aj (Fz q p a tn tc TA T l e W1 R1.1 D1.1 hll);have hC:Rc.rec T l a e=(((Rc.fV T l a e).1,(Rc.lens l (Rc.fV T l a e).2.1 (Rc.fV T l a e).2.2).1),(Rc.lens l (Rc.fV T l a e).2.1 (Rc.fV T l a e).2.2).2.1,if(Rc.lens l (Rc.fV T l a e).2.1 (Rc.fV T l a e).2.2).1=[]∧(Rc.lens l (Rc.fV T l a e).2.1 (Rc.fV T l a e).2.2).2.2=0 then 23 else(Rc.lens l (Rc.fV T l a e).2.1 (Rc.fV T l a e).2.2).2.2):=rfl;rw[hC];generalize Rc.fV T l a e=X at*;obtain⟨L,a1,e1⟩:=X;have S2:=Aj (fun w2 (r:RR w2 q p TA tn tc T l) (d:aK w2 p l a1 e1)=>FC q p a1 tn tc TA T l e1 w2 r d hll);simp only[]at S1 S2⊢;generalize Rc.lens l a1 e1=Y at*;obtain⟨C,a2,e2⟩:=Y;simp only[]at S2⊢;obtain⟨E,hE⟩:∃E:Int,E=(if C=[]∧e2=0 then 23 else e2):=⟨_,rfl⟩
 rw[←hE];have HE:=Aj hE;clear h hR hC hW1 hE;go_enter func122,ntmps122;go_upto_region 1 with fail;rw[HW.1];go_upto_region 2 with(go_at_call 172;refine S1.1.mono ?_;rintro r w2 ⟨A1,n1,c1,rfl,ho,hr,hg⟩;have O2:=Aj ho;have D2:=Aj hr;have G2:=Aj hg;have R2:=Aj (R1.1.grown hg);have X2:=Aj ((hg.block w.heap.size Z1.1 (fun e=>by have:=Oj e;omega)).trans H1.1);clear hr hg ho S1)
 have R2b:=Aj (R2.1.box (.cells #[.slice A1 n1 c1,.slice none 0 0] 146));have D2b:=Aj (D2.1.box (.cells #[.slice A1 n1 c1,.slice none 0 0] 146));have O2b:=Aj (Oa O2.1 (.cells #[.slice A1 n1 c1,.slice none 0 0] 146));have z2:=G2.1.size;have z1:=Z1.1;have hlt1:∀g,ab A1=some g→W1.heap.size≤g∧g<w2.heap.size:=fun g hg=>ae O2.1 g hg
 have X2b:Kept ((w2.alloc (.cells #[.slice A1 n1 c1,.slice none 0 0] 146)).heap[w.heap.size]? =some (.cells #[.slice none 0 0,.slice none 0 0] 146 (0,0))):=⟨(Aw _ _ _ om).trans X2.1⟩
 have H2:Kept ((w2.alloc (.cells #[.slice A1 n1 c1,.slice none 0 0] 146)).heap[w2.heap.size]? =some (.cells #[.slice A1 n1 c1,.slice none 0 0] 146 (0,0))):=⟨Av w2 _⟩
 have G2b:Kept (W1.grownBy (w2.alloc (.cells #[.slice A1 n1 c1,.slice none 0 0] 146)) (some p)):=⟨G2.1.trans (aB ((Ae _ w2).alloc Ai _))⟩
 have zW:w2.heap.size< (w2.alloc (.cells #[.slice A1 n1 c1,.slice none 0 0] 146)).heap.size:=sm;clear R2 D2 O2 X2 G2;generalize w2.alloc (.cells #[.slice A1 n1 c1,.slice none 0 0] 146)=W2 at*;generalize w2.heap.size=g3 at*;go_upto_region 3 with(go_at_call 174;refine(S2.1 W2 R2b.1 D2b.1).mono ?_;rintro r w3 ⟨A2,n2,c2,rfl,ho,hr,hg⟩;have O3:=Aj (bP.past O2b.1 hg om);have N3:=Aj ho;have D3:=Aj hr;have G3:=Aj (G2b.1.trans hg);have x3:=(hg.block w.heap.size om (fun e=>by have:=Oj e;omega)).trans X2b.1;have h3:=(hg.block g3 zW (fun e=>by have:=Oj e;omega)).trans H2.1;have X3:=Aj x3;have H3:=Aj h3;have k0:=Co _ _ 0 _ _ _ h3;have k1:=Co _ _ 1 _ _ _ h3;have kf:=fun k=>Fr _ _ k _ _ h3;have hlt2:∀g,ab A2=some g→W2.heap.size≤g:=(fun g hgg=>(ae ho g hgg).1);have z3:=hg.size;clear hr hg ho S2 x3 h3)
 have hn2:n2=C.length:=by have:=ax.len N3.1;simpa using this
 have O4:Kept (bP (w3.setCell ⟨g3,1,none⟩ (.slice A2 n2 c2)) W1.heap.size A1 n1 c1 L):=⟨aU O3.1 fun g hg=>by have:=hlt1 g hg;omega⟩
 have N4:Kept (wh (w3.setCell ⟨g3,1,none⟩ (.slice A2 n2 c2)) W2.heap.size A2 n2 c2 C):=⟨aU N3.1 fun g hg=>by have:=hlt2 g hg;omega⟩
 have D4:Kept (aK (w3.setCell ⟨g3,1,none⟩ (.slice A2 n2 c2)) p l a2 e2):=⟨D3.1.yM om⟩
 have G4:Kept (W1.grownBy (w3.setCell ⟨g3,1,none⟩ (.slice A2 n2 c2)) (some p)):=⟨dS G3.1 om⟩
 have H4:Kept ((w3.setCell ⟨g3,1,none⟩ (.slice A2 n2 c2)).heap[g3]? =some (.cells #[.slice A1 n1 c1,.slice A2 n2 c2] 146 (0,0))):=⟨Ag w3 g3 1 _ _ _ H3.1⟩
 have X4:Kept ((w3.setCell ⟨g3,1,none⟩ (.slice A2 n2 c2)).heap[w.heap.size]? =some (.cells #[.slice none 0 0,.slice none 0 0] 146 (0,0))):=⟨((ak w3 ⟨g3,1,none⟩ (.slice A2 n2 c2)).block w.heap.size om (fun e=>by have:=Oj e;simp at this;omega)).trans X3.1⟩
 have z4:w3.heap.size=(w3.setCell ⟨g3,1,none⟩ (.slice A2 n2 c2)).heap.size:=sm;have Z4:=Aj z4;clear z4 O3 N3 D3 G3 H3 X3 k0 k1 kf;generalize w3.setCell ⟨g3,1,none⟩ (.slice A2 n2 c2)=W4 at*;obtain⟨q0,q1,q2⟩:=(R1.1.grown G4.1).cells;have k0:=Co _ _ 0 _ _ _ H4.1;have k1:=Co _ _ 1 _ _ _ H4.1;have y0:=Co _ _ 0 _ _ _ X4.1;have y1:=Co _ _ 1 _ _ _ X4.1;have yf:=fun k=>Fr _ _ k _ _ X4.1
 have fin:∀W5 (e5:Int),W5.heap[w.heap.size]? =some (.cells #[.slice none 0 0,.slice none 0 0] 146 (0,0))→bP W5 W1.heap.size A1 n1 c1 L→wh W5 W2.heap.size A2 n2 c2 C→aK W5 p l a2 e5→W1.grownBy W5 (some p)→
   (((W5.setCell ⟨w.heap.size,0,none⟩ (.slice A1 n1 c1)).setCell ⟨w.heap.size,1,none⟩ (.slice A2 n2 c2)).heap[w.heap.size]? =some (.cells #[.slice A1 n1 c1,.slice A2 n2 c2] 146 (0,0)))∧
   bP ((W5.setCell ⟨w.heap.size,0,none⟩ (.slice A1 n1 c1)).setCell ⟨w.heap.size,1,none⟩ (.slice A2 n2 c2)) w.heap.size A1 n1 c1 L∧wh ((W5.setCell ⟨w.heap.size,0,none⟩ (.slice A1 n1 c1)).setCell ⟨w.heap.size,1,none⟩ (.slice A2 n2 c2)) w.heap.size A2 n2 c2 C∧
   aK ((W5.setCell ⟨w.heap.size,0,none⟩ (.slice A1 n1 c1)).setCell ⟨w.heap.size,1,none⟩ (.slice A2 n2 c2)) p l a2 e5∧w.grownBy ((W5.setCell ⟨w.heap.size,0,none⟩ (.slice A1 n1 c1)).setCell ⟨w.heap.size,1,none⟩ (.slice A2 n2 c2)) (some p):=fun W5 e5 h1 h2 h3 h4 h5=>
  ⟨xE W5 w.heap.size _ _ h1 rfl,
   aC (aU (aU h2 fun g hg=>by have:=hlt1 g hg;omega) fun g hg=>by have:=hlt1 g hg;omega) om,
   aC (aU (aU h3 fun g hg=>by have:=hlt2 g hg;omega) fun g hg=>by have:=hlt2 g hg;omega) om,
   (h4.yM hpl).yM hpl,dS (dS (G1.1 W5 h5) Ai) Ai⟩
 have FIN:=Aj fin;have Zb:Kept (p<W1.heap.size∧p<W2.heap.size):=⟨om,om⟩
 have Zs:Kept (w.heap.size<W4.heap.size∧g3<W4.heap.size∧p<w.heap.size∧p<g3):=⟨by have:=Z4.1;omega,by have:=Z4.1;omega,hpl,om⟩
 clear fin hlt1 hlt2 z1 z2 z3 zW Z4;by_cases hc0:C=[]
 ·have hn0:n2=0:=by rw[hn2,hc0];rfl
  have hE:(if e2=0 then(23:Int)else e2)=E:=by rw[HE.1];simp[hc0]
  have FL:=Aj (dB p a2 l e2 23 W4 D4.1);rw[hE]at FL;clear hn2 hE hc0;subst hn0;go_wp2_with (go_at_call 114;refine FL.1.mono ?_;rintro r w5 ⟨rfl,hr,hg⟩;have hx5:=(hg.block w.heap.size Zs.1.1 (fun e=>by have:=Oj e;have:=Zs.1.2.2.1;omega)).trans X4.1;have hh5:=(hg.block g3 Zs.1.2.1 (fun e=>by have:=Oj e;have:=Zs.1.2.2.2;omega)).trans H4.1;have m0:=Co _ _ 0 _ _ _ hh5;have m1:=Co _ _ 1 _ _ _ hh5;have x0:=Co _ _ 0 _ _ _ hx5;have x1:=Co _ _ 1 _ _ _ hx5;have xf:=fun k=>Fr _ _ k _ _ hx5;have F5:=Aj (FIN.1 w5 E hx5 (bP.past O4.1 hg Zb.1.1) (ax.past N4.1 hg Zb.1.2) hr (G4.1.trans hg));clear hr hg hx5 hh5 FL);obtain⟨f1,f2,f3,f4,f5⟩:=F5.1;refine Bi (v:= .agg #[.slice A1 n1 c1,.slice A2 0 c2]) ?hr rfl ⟨A1,n1,c1,A2,0,c2,rfl,f2,f3,f4,f5⟩
  case hr=>exact results_cell_row (fn:=Tryz.f122) (p:=2) (ty:=146) rfl _ _ w.heap.size _ _ _ _ rfl f1 underlying146 rfl kr
 ·have hE:E=e2:=by rw[HE.1];simp[hc0]
  have YA:¬n2=0:=by
   rw[hn2];exact fun h=>hc0 (nL h)
  have F5:=Aj (FIN.1 W4 e2 X4.1 O4.1 N4.1 D4.1 G4.1);rw[←hE]at F5;clear hn2 hE hc0;go_wp2;obtain⟨f1,f2,f3,f4,f5⟩:=F5.1;refine Bi (v:= .agg #[.slice A1 n1 c1,.slice A2 n2 c2]) ?hr rfl ⟨A1,n1,c1,A2,n2,c2,rfl,f2,f3,f4,f5⟩
  case hr=>exact results_cell_row (fn:=Tryz.f122) (p:=2) (ty:=146) rfl _ _ w.heap.size _ _ _ _ rfl f1 underlying146 rfl kr
end
end
section
section
open Go.RowKit Go.Shelf
abbrev jO:=List aQ×List Int
def aG (hs:List (Value×Value)):List Value:=hs.flatMap fun h=>[h.1,h.2]
theorem bz (hs):(aG hs).length=hs.length*2:=by
 unfold aG
 induction hs with
 |nil=>rfl
 |cons x hs ih=>rw[Au,La,ih,Lc];simp;omega
theorem lW (a b):aG (a++b)=aG a++aG b:=by simp[aG]
theorem dK (hs i) (h:i<hs.length):(aG hs)[i*2]? =some hs[i].1∧(aG hs)[i*2+1]? =some hs[i].2:=by
 unfold aG
 induction hs generalizing i with
 |nil=>simp at h
 |cons x hs ih=>
  rw[Au];cases i with
  |zero=>exact⟨rfl,rfl⟩
  |succ i=>
   rw[Bn (by simp;omega),Bn (by simp;omega)];have:=ih i (by simpa using h);simp only[Lc,Ba,BZ];rw[show(i+1)*2-(0+1+1)=i*2 from om,show(i+1)*2+1-(0+1+1)=i*2+1 from om];exact this
def jP (w:World) (base:Nat) (A:Option Addr) (n c:Nat) (rs:List jO):Prop:=
 ∃hs:List (Value×Value),w.ownsRow base 146 2 (.slice A n c) n (aG hs)∧hs.length=rs.length∧
  ∀(i:Nat) (h:i<hs.length) (h':i<rs.length),∃A1 n1 c1 A2 n2 c2,hs[i]=(.slice A1 n1 c1,.slice A2 n2 c2)∧bP w base A1 n1 c1 rs[i].1∧ax w base A2 n2 c2 rs[i].2
def vL (w:World) (B:Nat) (A:Option Addr) (n c:Nat) (rs:List jO):Prop:=
 ∃hs:List (Value×Value),Rd w B 2 A n c (aG hs)∧hs.length=rs.length∧
  ∀(i:Nat) (h:i<hs.length) (h':i<rs.length),∃A1 n1 c1 A2 n2 c2,hs[i]=(.slice A1 n1 c1,.slice A2 n2 c2)∧fO w B A1 n1 c1 rs[i].1∧bQ w B A2 n2 c2 rs[i].2
theorem jP.nil (w base):jP w base none 0 0 []:=⟨[],⟨rfl,.inl ⟨rfl,rfl⟩⟩,rfl,fun i h=>by simp at h⟩
theorem jP.rd {w base n c A rs} (h:jP w base A n c rs):vL w w.heap.size A n c rs:=by
 obtain⟨hs,h1,h2,h3⟩:=h;exact⟨hs,Rd.bC h1,h2,fun i a b=>by obtain⟨A1,n1,c1,A2,n2,c2,e,p,q⟩:=h3 i a b;exact⟨A1,n1,c1,A2,n2,c2,e,p.rd,q.rd⟩⟩
theorem vL.len {w B n c A rs} (h:vL w B A n c rs):n=rs.length:=by
 obtain⟨hs,h1,h2,-⟩:=h;have:=h1.2.2.1;rw[bz]at this;omega
theorem vL.below {w w' B n c A rs} (h:vL w B A n c rs) (hb:Below B w w'):vL w' B A n c rs:=by
 obtain⟨hs,h1,h2,h3⟩:=h;exact⟨hs,Rd.below h1 hb,h2,fun i a b=>by obtain⟨A1,n1,c1,A2,n2,c2,e,p,q⟩:=h3 i a b;exact⟨A1,n1,c1,A2,n2,c2,e,p.below hb,q.below hb⟩⟩
theorem vL.more {w B B' n c A rs} (h:vL w B A n c rs) (hB:B≤B'):vL w B' A n c rs:=by
 obtain⟨hs,h1,h2,h3⟩:=h;exact⟨hs,Rd.more h1 hB,h2,fun i a b=>by obtain⟨A1,n1,c1,A2,n2,c2,e,p,q⟩:=h3 i a b;exact⟨A1,n1,c1,A2,n2,c2,e,p.more hB,q.more hB⟩⟩
theorem bV {w w':World} {base n c sz p A xs e} (h:w.ownsRow base e sz (.slice A n c) n xs) (hg:w.grownBy w' (some p)) (hp:p<base):w'.ownsRow base e sz (.slice A n c) n xs:=
 ag h hg (by
  rcases hA:ab A with _|g
  ·exact .inl rfl
  ·refine .inr fun e=>?_
   have:=(ae h g hA).1;have:=Oj e;omega)
theorem jP.past {w w' base n c p A rs} (h:jP w base A n c rs) (hg:w.grownBy w' (some p)) (hp:p<base):jP w' base A n c rs:=by
 obtain⟨hs,h1,h2,h3⟩:=h;exact⟨hs,bV h1 hg hp,h2,fun i a b=>by obtain⟨A1,n1,c1,A2,n2,c2,e,p,q⟩:=h3 i a b;exact⟨A1,n1,c1,A2,n2,c2,e,bV p hg hp,bV q hg hp⟩⟩
theorem jP.alloc {w base n c A rs} (h:jP w base A n c rs) (o):jP (w.alloc o) base A n c rs:=by
 obtain⟨hs,h1,h2,h3⟩:=h;exact⟨hs,Oa h1 o,h2,fun i a b=>by obtain⟨A1,n1,c1,A2,n2,c2,e,p,q⟩:=h3 i a b;exact⟨A1,n1,c1,A2,n2,c2,e,Oa p o,Oa q o⟩⟩
theorem eO {w:World} {b1 b2 sz1 sz2 n1 n2 c1 c2 A1 A2 xs1 xs2 e1 e2} (h1:w.ownsRow b1 e1 sz1 (.slice A1 n1 c1) n1 xs1) (h2:w.ownsRow b2 e2 sz2 (.slice A2 n2 c2) n2 xs2) (hne:e1≠e2):
  ab A1=none∨ab A1≠ab A2:=by
 rcases h1.2 with⟨hv,_⟩|⟨g,cap,cur,hv,_,hg,_⟩
 ·injection hv with hv;rw[hv];exact .inl rfl
 ·injection hv with hv
  rcases h2.2 with⟨hv2,_⟩|⟨g2,cap2,alb,hv2,_,hg2,_⟩
  ·injection hv2 with hv2
   exact .inr (by rw[hv,hv2];simp[ab])
  ·injection hv2 with hv2
   refine .inr fun e=>?_
   rw[hv,hv2]at e;obtain rfl:g=g2:=by simpa[ab]using e
   rw[hg]at hg2;simp only[gT,DU]at hg2;exact hne hg2.2.1
theorem jP.push {w w4 base n c n1 c1 n2 c2 c4 A A1 A2 A4 rs hs L C tmp}
  (h1:w.ownsRow base 146 2 (.slice A n c) n (aG hs)) (h2:hs.length=rs.length)
  (h3:∀(i) (h:i<hs.length) (h':i<rs.length),∃A1 n1 c1 A2 n2 c2,hs[i]=(.slice A1 n1 c1,.slice A2 n2 c2)∧bP w base A1 n1 c1 rs[i].1∧ax w base A2 n2 c2 rs[i].2)
  (hL:bP w base A1 n1 c1 L) (hC:ax w base A2 n2 c2 C)
  (av:w4.ownsRow base 146 2 (.slice A4 (n+1) c4) (n+1) (aG hs++[.slice A1 n1 c1,.slice A2 n2 c2])) (hg:(w.alloc tmp).grownBy w4 (ab A)):jP w4 base A4 (n+1) c4 (rs++[(L,C)]):=by
 have kL:∀{A':Option Addr} {n' c':Nat} {l':List aQ},bP w base A' n' c' l'→bP w4 base A' n' c' l':=fun h=>ag (Oa h tmp) hg (eO h h1 Ah)
 have kI:∀{A':Option Addr} {n' c':Nat} {l':List Int},ax w base A' n' c' l'→ax w4 base A' n' c' l':=fun h=>ag (Oa h tmp) hg (eO h h1 Ah)
 refine⟨hs++[(.slice A1 n1 c1,.slice A2 n2 c2)],by rw[lW];exact av,by simp[h2],fun i h h'=>?_⟩;by_cases hi:i<hs.length
 ·obtain⟨B1,m1,d1,B2,m2,d2,e,p,q⟩:=h3 i hi om;rw[tK hi,tK (show i<rs.length from om)];exact⟨B1,m1,d1,B2,m2,d2,e,kL p,kI q⟩
 ·have hie:i=hs.length:=by simp at h;omega
  subst hie;refine⟨A1,n1,c1,A2,n2,c2,sm,?_,?_⟩
  ·have:(rs++[(L,C)])[hs.length]'h'=(L,C):=by simp[h2]
   rw[this];exact kL hL
  ·have:(rs++[(L,C)])[hs.length]'h'=(L,C):=by simp[h2]
   rw[this];exact kI hC
theorem YB:(prog.info? 146).map (fun i=>(i.zero,i.size,i.bytes))=some (some (.agg #[.slice none 0 0,.slice none 0 0]),2,48):=kr
theorem Rd.rec (w:World) (h1 h2):Rd (w.alloc (.cells #[h1,h2] 146)) (w.heap.size+1) 2 (some ⟨w.heap.size,0,none⟩) 1 1 [h1,h2]:=
 ⟨Nr _,by unfold maxLen;omega,rfl,fun _=>⟨_,0,rfl,om,fun i u hu=>by
  rw[cK];exact(Ao w _ _ _ i).trans (by simpa using hu)⟩⟩
namespace Rc
def bW (r:List aQ×List Nat):jO:=(r.1,r.2.map Int.ofNat)
def recs (T:List ByteArray) (l:List UInt8) (a:Nat) (e:Int):List (List aQ×List Nat)×Nat×Int:=ko (rec T l) (cnt l a e).1 [] (cnt l a e).2.1 (cnt l a e).2.2
end Rc
theorem FF (q p a tn tc TA T l e w) (hR:RR w q p TA tn tc T l) (h:aK w p l a e) (hll:l.length≤20000000):
  Calls prog 121 #[.pointer (some ⟨q,0,none⟩),.func (.func 122) #[.pointer (some ⟨q,0,none⟩)] #[]] w fun r w'=>∃A n c,r= .returned (.slice A n c)∧jP w' w.heap.size A n c ((Rc.recs T l a e).1.map Rc.bW)∧aK w' p l (Rc.recs T l a e).2.1 (Rc.recs T l a e).2.2∧w.grownBy w' (some p):=by
 have hpl:=h.lt;have hqp:=hR.2.1;have HR:=Aj hR;have CN:=Aj (pM q p a tn tc TA T l e w hR h);have hcl:=Rc.tJ l a e h.len.2;obtain⟨i0,hi0,hz0,hz1,hz2⟩:=AV YB;obtain⟨M,hM⟩:∃M,M=Rc.recs T l a e:=⟨_,rfl⟩
 rw[←hM];have HM:Kept (M=Rc.ko (Rc.rec T l) (Rc.cnt l a e).1 [] (Rc.cnt l a e).2.1 (Rc.cnt l a e).2.2):=⟨hM⟩
 generalize Rc.cnt l a e=X at*;obtain⟨n,a1,e1⟩:=X;simp only[]at CN hcl HM;clear h hR hM;have rT:n≤20000000:=om;go_enter func121,ntmps121;go_upto_region 3 with(go_at_call 171;refine CN.1.mono ?_;rintro r w1 ⟨rfl,hr,hg⟩;have D1:=Aj hr;have G1:=Aj hg;clear hr hg CN)
 go_loopw [5,9] (fun o i wr=>∃k:Nat,k≤n∧i= .int .i64 k∧∃A m c acc a2 e2,o= .slice A m c∧jP wr w.heap.size A m c (acc.map Rc.bW)∧aK wr p l a2 e2∧Kept (m=k∧M=Rc.ko (Rc.rec T l) (n-k) acc a2 e2)∧w.grownBy wr (some p)) (fun _ i _=>n-(intOf i).toNat)
 case atStart=>exact⟨0,om,rfl,none,0,0,[],a1,e1,rfl,jP.nil _ _,D1.1,⟨rfl,HM.1⟩,G1.1⟩
 case round=>
  clear D1 G1;obtain⟨k,hk,rfl,A,m,c,acc,a2,e2,rfl,ho,hd,hm,hg⟩:=hrel;have hz:=hg.size;by_cases hlt:k<n
  ·have hm6:m≤20000000:=by have:=hm.1.1;omega
   have G:=Aj hg;have RW:=Aj (HR.1.grown hg);have EL:=Aj (Js q p a2 tn tc TA T l e2 wr RW.1 hd hll);have hbad:=Aj (fun h=>hm.1.2.trans (Rc.iV (Rc.rec T l) (n-k) acc a2 e2 om h));have hok:=Aj (fun h=>hm.1.2.trans (Rc.jd (Rc.rec T l) (n-k) acc a2 e2 om h));have O:=Aj ho;generalize Rc.rec T l a2 e2=Y at*;obtain⟨⟨L,C⟩,a3,e3⟩:=Y;simp only[]at EL hbad hok;clear ho hd hg;by_cases he:e3=0
   ·subst he;have hok2:=Aj (hok.1 rfl);clear hok hbad;go_upto_region 7 with(first
     |(go_at_call 122;refine EL.1.mono ?_;rintro r w2 ⟨A1,n1,c1,A2,n2,c2,rfl,hL,hN,hr,hg⟩;have O2:=Aj (jP.past O.1 hg hpl);have L2:=Aj (aC hL hz);have N2:=Aj (aC hN hz);have D2:=Aj hr;have G2:=Aj (G.1.trans hg);have GB:Kept (w.grownBy (w2.alloc (.cells #[.slice A1 n1 c1,.slice A2 n2 c2] 146)) (some p)):=⟨(G.1.trans hg).trans (aB ((Ae _ w2).alloc Ai _))⟩;obtain⟨q0,q1,q2⟩:=(HR.1.grown GB.1).cells;clear hr hg hL hN EL)
     |(go_at_call 120;refine(ay p a3 l 0 _ (by exact aK.box D2.1 _)).mono ?_;rintro r w9 ⟨rfl,rfl⟩))
    have OB:=Aj (O2.1.alloc (.cells #[.slice A1 n1 c1,.slice A2 n2 c2] 146));have LB:=Aj (Oa L2.1 (.cells #[.slice A1 n1 c1,.slice A2 n2 c2] 146));have NB:=Aj (Oa N2.1 (.cells #[.slice A1 n1 c1,.slice A2 n2 c2] 146));have DB:=Aj (aK.box D2.1 (.cells #[.slice A1 n1 c1,.slice A2 n2 c2] 146));have b0:=Ao w2 #[.slice A1 n1 c1,.slice A2 n2 c2] 146 (0,0) 0;have b1:=Ao w2 #[.slice A1 n1 c1,.slice A2 n2 c2] 146 (0,0) 1;generalize hWB:w2.alloc (.cells #[.slice A1 n1 c1,.slice A2 n2 c2] 146)=WB at*;obtain⟨hs,o1,o2,o3⟩:=OB.1;have OO:=Aj o1;have OL:=Aj o2;have OE:=Aj o3;have zB:=GB.1.size;clear O2 L2 N2 D2 G2 hWB OB o1 o2 o3;go_wp2_with (at_builtin;refine aR _ rfl (.tmp 19) (.tmp 21) _ rfl w.heap.size 146 i0 (.agg #[.slice none 0 0,.slice none 0 0]) 2 48 underlying138 hi0 hz0 hz1 hz2 rfl Ah A m c (aG hs) rfl (Oa OO.1 _) (WB.heap.size+1) _ _ _ [.slice A1 n1 c1,.slice A2 n2 c2] rfl (Rd.rec WB _ _) (by intro u hu;simp at hu;rcases hu with rfl|rfl<;>rfl) (by unfold maxLen;omega) om (by simp;omega) ?_;intro A4 c4 w4 av af cO;have P4:=Aj (jP.push OO.1 OL.1 OE.1 LB.1 NB.1 av af);have B4:Kept (Below w.heap.size WB w4):=⟨((Ae w.heap.size WB).alloc zB _).grown af (by simp;omega) (fun g e=>(ae OO.1 g e).1)⟩;have D4:=Aj (DB.1.below B4.1 hpl);have G4:=Aj (iA GB.1 B4.1);clear av af cO);go_roundw
    case rel=>exact⟨k+1,om,by go_num,A4,_,c4,acc++[(L,C)],a3,0,rfl,by rw[dR];exact P4.1,D4.1,⟨by rw[hm.1.1],by rw[hok2.1,Nat.sub_sub]⟩,G4.1⟩
    case measure=>simp[intOf];omega
   ·have FB:=Aj (hbad.1 he);have yo:(e3==0)=false:=by simpa using he
    clear hbad hok;go_wp2_with (first
     |(go_at_call 122;refine EL.1.mono ?_;rintro r w2 ⟨A1,n1,c1,A2,n2,c2,rfl,hL,hN,hr,hg⟩;have O2:=Aj (jP.past O.1 hg hpl);have L2:=Aj (aC hL hz);have N2:=Aj (aC hN hz);have D2:=Aj hr;have G2:=Aj (G.1.trans hg);have GB:Kept (w.grownBy (w2.alloc (.cells #[.slice A1 n1 c1,.slice A2 n2 c2] 146)) (some p)):=⟨(G.1.trans hg).trans (aB ((Ae _ w2).alloc Ai _))⟩;obtain⟨q0,q1,q2⟩:=(HR.1.grown GB.1).cells;clear hr hg hL hN EL)
     |(go_at_call 120;refine(ay p a3 l e3 _ (by exact aK.box D2.1 _)).mono ?_;rintro r w9 ⟨rfl,rfl⟩))
    go_ret;refine⟨none,0,0,rfl,?_⟩;rw[FB.1];exact⟨jP.nil _ _,aK.box D2.1 _,GB.1⟩
  ·have hM2:Kept (M=(acc,a2,e2)):=⟨by rw[hm.1.2,show n-k=0 from om,Rc.dE]⟩
   have O:=Aj ho;have D:=Aj hd;have G:=Aj hg;clear ho hd hg;go_wp2;go_ret;refine⟨A,m,c,rfl,?_⟩;rw[hM2.1];exact⟨O.1,D.1,G.1⟩
end
end
section
section
open Go.RowKit Go.Shelf
def Rc.dec (T:List ByteArray) (l:List UInt8):List jO×Int:=
 let r:=Rc.recs T l 0 0
 if Wr.fin l r.2.1 r.2.2≠0 then([],Wr.fin l r.2.1 r.2.2)else(r.1.map Rc.bW,0)
theorem vL.nil (w B):vL w B none 0 0 []:=⟨[],Rd.nil w B 2 0 none (by unfold maxLen;omega),rfl,fun i h=>by simp at h⟩
theorem fD {B p w w1 w'} (h:Below B w w1) (hg:w1.grownBy w' (some p)) (hp:B≤p) (hp2:p<w1.heap.size):Below B w w':=
 h.grown hg om (fun g e=>by have:=Oj e;omega)
theorem Jt (TA A tn tc n c T l w) (hT:bK w w.heap.size TA tn tc T) (hv:bf w w.heap.size A n c l) (hl:n≤20000000):
  Calls prog 70 #[.slice TA tn tc,.slice A n c] w fun r w'=>∃A2 n2 c2,r= .returned (.tuple #[.slice A2 n2 c2,.int .i64 (Rc.dec T l).2])∧vL w' w'.heap.size A2 n2 c2 (Rc.dec T l).1∧Below w.heap.size w w':=by
 have hlc:=hv.1;have hcm:=hv.2.1;unfold maxLen at hcm;have HN:=Aj hv.len;have V:=Aj hv;have VT:=Aj hT;have hC:Rc.dec T l=(if Wr.fin l (Rc.recs T l 0 0).2.1 (Rc.recs T l 0 0).2.2≠0 then([],Wr.fin l (Rc.recs T l 0 0).2.1 (Rc.recs T l 0 0).2.2)else((Rc.recs T l 0 0).1.map Rc.bW,0)):=rfl;have LR:=Aj (fun q p W (r:RR W q p TA tn tc T l) (d:aK W p l 0 0)=>FF q p 0 tn tc TA T l 0 W r d (by have:=HN.1;omega));obtain⟨M,hM⟩:∃M,M=Rc.dec T l:=⟨_,rfl⟩
 rw[←hM];have HM:=Aj (hM.trans hC);clear hM hC;generalize Rc.recs T l 0 0=X at*;obtain⟨rs,a1,e1⟩:=X;simp only[]at LR HM;generalize hF:Wr.fin l a1 e1=F at*;have HF:=Aj hF;clear hF hv hT;have key:∀W1 p,w.heap.size≤p→p<W1.heap.size→aK W1 p l 0 0→Below w.heap.size w W1→RR (W1.alloc (.cells #[.pointer (some ⟨p,0,none⟩),.slice TA tn tc,.int .i64 (n:Int)] 218)) W1.heap.size p TA tn tc T l:=fun W1 p h1 h2 _ h4=>
  ⟨by rw[←HN.1];exact Av W1 _,h2,((VT.1.below h4).more h1).alloc om _⟩
 have KEY:=Aj key;clear key;rcases(show F=0∨(F==0)=false by by_cases h:F=0<;>simp[h])with rfl|Qe
 all_goals
  go_enter func70,ntmps70;go_wp2_with (first
   |(go_at_call 110;refine(dN A n c w.heap.size l w V.1 Ai om).mono ?_;rintro r w1 ⟨p,rfl,hp1,hp2,hr1,hb1⟩;have D1:=Aj (aK.box hr1 (.cells #[.pointer (some ⟨p,0,none⟩),.slice TA tn tc,.int .i64 (n:Int)] 218));have RR1:=Aj (KEY.1 w1 p hp1 hp2 hr1 hb1);have B1:=Aj (hb1.alloc hb1.size (.cells #[.pointer (some ⟨p,0,none⟩),.slice TA tn tc,.int .i64 (n:Int)] 218));clear hr1 hb1)
   |(go_at_call 121;refine(LR.1 _ p _ RR1.1 D1.1).mono ?_;rintro r w2 ⟨A2,n2,c2,rfl,ho,hr,hg⟩;have O2:=Aj ho.rd;have D2:=Aj hr;have G2:=Aj (fD B1.1 hg hp1 D1.1.lt);obtain⟨q0,q1,q2⟩:=(RR1.1.grown hg).cells;clear hr hg ho)
   |(go_at_call 117;refine(gX p a1 l e1 _ D2.1).mono ?_;rintro r w3 ⟨hr3,rfl⟩;rw[HF.1]at hr3;subst hr3))
  go_ret2
 ·refine⟨A2,n2,c2,?_,?_,G2.1⟩
  ·rw[HM.1];rfl
  ·rw[HM.1];exact O2.1
 ·have dz:Kept (M=([],F)):=⟨by rw[HM.1,Ps0 (by simpa using Qe)]⟩
  refine⟨none,0,0,?_,?_,G2.1⟩
  ·rw[dz.1];rfl
  ·rw[dz.1];exact vL.nil _ _
end
end
section
section
open Go.RowKit Go.Shelf
theorem Ju (x w) (h1:x.n.size≤maxLen) (h2:x.v.size≤maxLen):Calls prog 109 #[.agg #[.string x.n,.string x.v]] w fun e w'=>e= .returned (.int .i64 (Lb.one x))∧Gr w w':=by
 unfold maxLen at h1 h2;have e1:x.n.toList.isEmpty=decide (x.n.size=0):=by
  rw[St.tl];obtain⟨⟨l⟩⟩:=x.n;cases l<;>simp[ByteArray.size]
 by_cases h0:x.n.size=0
 ·rw[Bj h0]at e1;have hr:Lb.one x=17:=by simp[Lb.one,h0]
  rw[hr];go_enter func109,ntmps109;go_wp2;go_ret;exact⟨rfl,(Gr.refl w).alloc _⟩
 ·rw[AF h0]at e1;by_cases hb:65535<x.n.size
  ·have hr:Lb.one x=7:=by simp[Lb.one,h0,hb]
   have hb':(65535:Int)< (x.n.size:Int):=om;rw[hr];go_enter func109,ntmps109;go_wp2;go_ret;exact⟨rfl,(Gr.refl w).alloc _⟩
  ·have hb':¬(65535:Int)< (x.n.size:Int):=by omega
   by_cases hb2:65535<x.v.size
   ·have hr:Lb.one x=7:=by simp[Lb.one,h0,hb2]
    have hb2':(65535:Int)< (x.v.size:Int):=om;rw[hr];go_enter func109,ntmps109;go_wp2;go_ret;exact⟨rfl,(Gr.refl w).alloc _⟩
   ·have hr:Lb.one x=0:=by simp[Lb.one,h0,hb,hb2]
    have hb2':¬(65535:Int)< (x.v.size:Int):=om;rw[hr];go_enter func109,ntmps109;go_wp2;go_ret;exact⟨rfl,(Gr.refl w).alloc _⟩
namespace Lb
theorem Fit.at {l} (h:Fit l) {k} (hk:k<l.length):l[k].n.size≤maxLen∧l[k].v.size≤maxLen:=h _ (gG hk)
theorem nU {l k} (hk:k<l.length) (h:one l[k]≠0):dQ l k=one l[k]:=by
 unfold dQ;rw[getD_at hk];simp only[];rw[Ps0 h]
theorem xF {l} (hk:0<l.length) (h:one l[0]=0):dQ l 0=0:=by
 unfold dQ;rw[getD_at hk];simp[h]
theorem nV {l:List aQ} {k:Nat} (hk:k<l.length) (h0:k≠0) (h:one l[k]=0) (he:l[k-1].n=l[k].n):dQ l k=18:=by
 unfold dQ;rw[getD_at hk];simp only[];rw[Ng (by simp[h]),Ng h0,getD_at (show k-1<l.length from om),Ps0 he]
theorem nW {l:List aQ} {k:Nat} (hk:k<l.length) (h0:k≠0) (h:one l[k]=0) (he:St.lt l[k].n l[k-1].n=true):dQ l k=16:=by
 unfold dQ;rw[getD_at hk];simp only[];rw[Ng (by simp[h]),Ng h0,getD_at (show k-1<l.length from om),Ng (fun e=>by rw[e,St.irrefl]at he;cases he),Ps0 he]
theorem step_ok {l:List aQ} {k:Nat} (hk:k<l.length) (h0:k≠0) (h:one l[k]=0) (he:¬l[k-1].n=l[k].n) (hl:St.lt l[k].n l[k-1].n=false):dQ l k=0:=by
 unfold dQ;rw[getD_at hk];simp only[];rw[Ng (by simp[h]),Ng h0,getD_at (show k-1<l.length from om),Ng he,Ng (by simp[hl])]
theorem nX {l k} (h:∀j,j<k→dQ l j=0) (hk:dQ l k=0):∀j,j<k+1→dQ l j=0:=fun j hj=>by
 by_cases e:j=k
 ·subst e;exact hk
 ·exact h j om
end Lb
theorem yN (A n c B l w) (hv:fO w B A n c l) (hB:B≤w.heap.size) (hf:Lb.Fit l):
  Calls prog 96 #[.slice A n c] w fun e w'=>e= .returned (.int .i64 (Lb.bR l))∧Gr w w':=by
 have hlc:=hv.1;have hcm:=hv.2.1;unfold maxLen at hcm;have hn:=Aj hv.len;have V:=Aj hv;have F:=Aj hf;clear hv hf;obtain⟨r,hr⟩:∃r,r=Lb.bR l:=⟨_,rfl⟩
 rw[←hr];have HR:=Aj hr;clear hr;go_enter func96,ntmps96;go_wp2;go_loopw [3] (fun i wr=>∃k:Nat,k≤n∧i= .int .i64 k∧Kept (∀j,j<k→Lb.dQ l j=0)∧Gr w wr) (fun i _=>n-(intOf i).toNat)
 case atStart=>exact⟨0,om,rfl,⟨fun j hj=>om⟩,Gr.refl w⟩
 case round=>
  obtain⟨k,hk,rfl,hd,gr⟩:=hrel;by_cases hlt:k<n
  ·have hkl:k<l.length:=by rw[←hn.1];exact hlt
   obtain⟨b,off,rfl,hc⟩:=V.1.cells hB hkl;obtain⟨c0,c1⟩:=hc wr gr.below;have C:=Aj (fun W (g:Gr w W)=>hc W g.below);have G:=Aj gr;obtain⟨hf1,hf2⟩:=F.1.at hkl;have ONE:=Aj (fun W=>Ju l[k] W hf1 hf2);clear hc gr hf1 hf2;by_cases h1:Lb.one l[k]=0
   ·rw[h1]at ONE;by_cases h0:k=0
    ·have hd2:=Aj (Lb.nX hd.1 (by subst h0;exact Lb.xF hkl h1));clear h1;subst h0;simp only[Nat.zero_mul,Ct]at c0 c1;generalize l[0].n=xn at*;generalize l[0].v=xv at*;go_wp2_with (go_at_call 109;refine(ONE.1 _).mono ?_;rintro e w2 ⟨rfl,g2⟩;have G2:=Aj (G.1.trans g2);clear g2);go_quiet (fail);go_wp2;go_quiet (fail);go_wp2;go_roundw
     case rel=>exact⟨1,om,rfl,hd2,G2.1.drewN _⟩
     case measure=>simp[intOf];omega
    ·have nY:k-1<l.length:=by omega
     obtain⟨b',off',e',hp⟩:=V.1.cells hB nY;simp only[gT,Cf,BJ]at e';obtain⟨rfl,rfl⟩:=e';have CP:=Aj (fun W (g:Gr w W)=>hp W g.below);have ek:(k:Int)-1=((k-1:Nat):Int):=om;have ZO:((k-1:Nat):Int)< (n:Int):=om;have ek3:0<k:=om;have hq:=St.eq_iff l[k].n l[k-1].n;have hlt':Op.bytesLess l[k].n.toList l[k-1].n.toList=St.lt l[k].n l[k-1].n:=rfl;clear hp;by_cases hdup:l[k-1].n=l[k].n
     ·have hd2:Kept (r=18):=⟨HR.1.trans ((Lb.bu _ _ k hkl hd.1 (by rw[Lb.nV hkl h0 h1 hdup];decide)).trans (Lb.nV hkl h0 h1 hdup))⟩
      rw[Bj hdup.symm]at hq;clear h1 hdup hlt';generalize l[k].n=xn at*;generalize l[k].v=xv at*;generalize l[k-1].n=pn at*;generalize l[k-1].v=pv at*;go_wp2_with (go_at_call 109;refine(ONE.1 _).mono ?_;rintro e w2 ⟨rfl,g2⟩;have G2:=Aj (G.1.trans g2);clear g2;have f0:=(C.1 _ G2.1).1;have p0:=(CP.1 _ G2.1).1);go_quiet (fail);go_wp2;go_ret;exact⟨by rw[hd2.1];rfl,G2.1.drewN _⟩
     ·rw[AF (fun e=>hdup e.symm)]at hq;by_cases kG:St.lt l[k].n l[k-1].n=true
      ·have hd2:Kept (r=16):=⟨HR.1.trans ((Lb.bu _ _ k hkl hd.1 (by rw[Lb.nW hkl h0 h1 kG];decide)).trans (Lb.nW hkl h0 h1 kG))⟩
       rw[kG]at hlt';clear h1 hdup kG;generalize l[k].n=xn at*;generalize l[k].v=xv at*;generalize l[k-1].n=pn at*;generalize l[k-1].v=pv at*;go_wp2_with (go_at_call 109;refine(ONE.1 _).mono ?_;rintro e w2 ⟨rfl,g2⟩;have G2:=Aj (G.1.trans g2);clear g2;have f0:=(C.1 _ G2.1).1;have p0:=(CP.1 _ G2.1).1);go_quiet (fail);go_wp2;go_quiet (fail);go_wp2;go_ret;exact⟨by rw[hd2.1];rfl,(G2.1.drewN _).drewN _⟩
      ·have xG:St.lt l[k].n l[k-1].n=false:=by simpa using kG
       have hd2:=Aj (Lb.nX hd.1 (Lb.step_ok hkl h0 h1 hdup xG));rw[xG]at hlt';clear h1 hdup kG xG;generalize l[k].n=xn at*;generalize l[k].v=xv at*;generalize l[k-1].n=pn at*;generalize l[k-1].v=pv at*;go_wp2_with (go_at_call 109;refine(ONE.1 _).mono ?_;rintro e w2 ⟨rfl,g2⟩;have G2:=Aj (G.1.trans g2);clear g2;have f0:=(C.1 _ G2.1).1;have p0:=(CP.1 _ G2.1).1);go_quiet (fail);go_wp2;go_quiet (fail);go_wp2;go_roundw
       case rel=>exact⟨k+1,om,by go_num,hd2,G2.1.drewN _⟩
       case measure=>simp[intOf];omega
   ·have hd2:Kept (r=Lb.one l[k]):=⟨HR.1.trans ((Lb.bu _ _ k hkl hd.1 (by rw[Lb.nU hkl h1];exact h1)).trans (Lb.nU hkl h1))⟩
    generalize Lb.one l[k]=s at*;generalize l[k].n=xn at*;generalize l[k].v=xv at*;go_wp2_with (go_at_call 109;refine(ONE.1 _).mono ?_;rintro e w2 ⟨rfl,g2⟩;have G2:=Aj (G.1.trans g2);clear g2);go_ret;exact⟨by rw[hd2.1];rfl,G2.1⟩
  ·have hd2:Kept (r=0):=⟨HR.1.trans (Lb.dD _ _ fun j hj=>hd.1 j (by have:=hn.1;omega))⟩
   have G:=Aj gr;clear gr;go_wp2;go_ret;exact⟨by rw[hd2.1];rfl,G.1⟩
end
end
section
section
open Go.RowKit Go.Shelf
theorem QY (a W):Sem.run prog (Instr.field 254 (.agg #[a]) 0) W= .ok a W:=kr
theorem VN {a b} (h:St.lt b a=true):St.cmp a b=1:=by simp[St.cmp,h,St.asymm h]
theorem QZ {a b} (h:St.lt b a=false) (hn:¬a=b):St.cmp a b= -1:=by
 unfold St.cmp;cases hab:St.lt a b with
 |true=>rfl
 |false=>exact absurd (St.total hab h) hn
theorem Jv (A n c B l w) (hv:fO w B A n c l) (hB:B≤w.heap.size) (hf:Lb.Fit l):
  Calls prog 92 #[.slice A n c] w fun e w'=>e= .returned (.int .i64 (Lb.bR l))∧Gr w w':=by
 have mixed:prog.follows .mixedOrders=true:=kr;have hlc:=hv.1;have hcm:=hv.2.1;unfold maxLen at hcm;have hn:=Aj hv.len;have V:=Aj hv;have F:=Aj hf;clear hv hf;obtain⟨r,hr⟩:∃r,r=Lb.bR l:=⟨_,rfl⟩
 rw[←hr];have HR:=Aj hr;clear hr;have ii:=fun W=>tC (.func (.func 203) #[] #[]) (.func (.func 204) #[] #[]) W
 have jj:=fun W=>QY (.func (.func 203) #[] #[]) W
 have BY:=fun W=>Jo (.func (.func 203) #[] #[]) rfl W
 go_enter func92,ntmps92;go_upto_region 2 with(first
  |(go_at_call 150;refine(pK _).mono ?_;rintro e w1 ⟨rfl,g1⟩)
  |(go_at_call 149;refine(BY _).mono ?_;rintro e w2 ⟨rfl,rfl⟩))
 have G1:=Aj (g1.alloc (.cells #[.func (.func 203) #[] #[]] 252));have hcb:Kept ((w1.alloc (.cells #[.func (.func 203) #[] #[]] 252)).cell? ⟨w1.heap.size,0,none⟩=some (.func (.func 203) #[] #[])):=⟨Ao w1 _ _ _ 0⟩
 have hzb:Kept (w1.heap.size< (w1.alloc (.cells #[.func (.func 203) #[] #[]] 252)).heap.size):=⟨sm⟩
 clear g1 ii jj BY;generalize w1.alloc (.cells #[.func (.func 203) #[] #[]] 252)=W1 at*;generalize w1.heap.size=Bf at*;go_wp2;go_loopw [13] (fun i wr=>∃k:Nat,k≤n∧i= .int .i64 k∧Kept (∀j,j<k→Lb.dQ l j=0)∧Gr W1 wr) (fun i _=>n-(intOf i).toNat)
 case atStart=>exact⟨0,om,rfl,⟨fun j hj=>om⟩,Gr.refl W1⟩
 case round=>
  obtain⟨k,hk,rfl,hd,gr⟩:=hrel;by_cases hlt:k<n
  ·have hkl:k<l.length:=by rw[←hn.1];exact hlt
   obtain⟨b,off,rfl,hc⟩:=V.1.cells hB hkl;obtain⟨c0,c1⟩:=hc wr (G1.1.trans gr).below;have G:=Aj gr;obtain⟨hf1,hf2⟩:=F.1.at hkl;have ONE:=Aj (fun W=>Jp l[k] W hf1 hf2);clear hc gr hf1 hf2;by_cases h1:Lb.one l[k]=0
   ·rw[h1]at ONE;by_cases h0:k=0
    ·have hd2:=Aj (Lb.nX hd.1 (by subst h0;exact Lb.xF hkl h1));clear h1;subst h0;simp only[Nat.zero_mul,Ct]at c0 c1;generalize l[0].n=xn at*;generalize l[0].v=xv at*;go_wp2_with (go_at_call 151;refine(ONE.1 _).mono ?_;rintro e w2 ⟨rfl,g2⟩;have G2:=Aj ((G.1.alloc _).trans g2);clear g2);go_roundw
     case rel=>exact⟨1,om,rfl,hd2,G2.1⟩
     case measure=>simp[intOf];omega
    ·have nY:k-1<l.length:=by omega
     obtain⟨b',off',e',hp⟩:=V.1.cells hB nY;simp only[gT,Cf,BJ]at e';obtain⟨rfl,rfl⟩:=e';have CP:=Aj (fun W (g:Gr W1 W)=>hp W (G1.1.trans g).below);have ek:(k:Int)-1=((k-1:Nat):Int):=om;have ZO:((k-1:Nat):Int)< (n:Int):=om;have ew:IntKind.i64.wrap ((k-1:Nat):Int)=((k-1:Nat):Int):=by rw[Bq];omega
     have ek3:0<k:=om;have ek4:¬k=0:=h0;have hcase:Kept ((St.cmp l[k-1].n l[k].n=0∧r=18)∨(St.cmp l[k-1].n l[k].n=1∧r=16)∨(St.cmp l[k-1].n l[k].n= -1∧∀j,j<k+1→Lb.dQ l j=0)):=⟨by
      by_cases hdup:l[k-1].n=l[k].n
      ·exact .inl ⟨St.dP.2 hdup,HR.1.trans ((Lb.bu _ _ k hkl hd.1 (by rw[Lb.nV hkl h0 h1 hdup];decide)).trans (Lb.nV hkl h0 h1 hdup))⟩
      ·by_cases kG:St.lt l[k].n l[k-1].n=true
       ·exact .inr (.inl ⟨VN kG,HR.1.trans ((Lb.bu _ _ k hkl hd.1 (by rw[Lb.nW hkl h0 h1 kG];decide)).trans (Lb.nW hkl h0 h1 kG))⟩)
       ·have xG:St.lt l[k].n l[k-1].n=false:=by simpa using kG
        exact .inr (.inr ⟨QZ xG hdup,Lb.nX hd.1 (Lb.step_ok hkl h0 h1 hdup xG)⟩)⟩
     have B1:=Aj (fun W hB hc=>yJ 203 aQ.n (BH func203 kr rfl) pJ Bf l[k-1] l[k] W hB hc);clear hp h1 h0;generalize St.cmp l[k-1].n l[k].n=s at*;generalize l[k].n=xn at*;generalize l[k].v=xv at*;generalize l[k-1].n=pn at*;generalize l[k-1].v=pv at*;go_upto_region 9 with(go_at_call 151;refine(ONE.1 _).mono ?_;rintro e w2 ⟨rfl,g2⟩;have G2:=Aj ((G.1.alloc _).trans g2))
     have hz2:wr.heap.size<w2.heap.size:=j6 sm g2.size;have hz3:Bf<w2.heap.size:=j6 hzb.1 G2.1.size;have f0:=fun n os=>Ej (a:=⟨wr.heap.size,0,none⟩) hz2 ((g2.cell _ 0 sm).trans (Ao wr #[.string xn,.string xv] 59 (0,0) 0)) n os
     have f1:=fun n os=>Ej (a:=⟨wr.heap.size,1,none⟩) hz2 ((g2.cell _ 1 sm).trans (Ao wr #[.string xn,.string xv] 59 (0,0) 1)) n os
     have p0:=fun n os=>(CP.1 (Sort.grow (w2.drewN n) os) (G2.1.trans ⟨n,os,rfl⟩)).1
     have p1:=fun n os=>(CP.1 (Sort.grow (w2.drewN n) os) (G2.1.trans ⟨n,os,rfl⟩)).2
     have BB:=fun n os=>B1.1 (Sort.grow (w2.drewN n) os) (j6 hz3 (show w2.heap.size≤(Sort.grow (w2.drewN n) os).heap.size by rw[Sort.size_grow];show w2.heap.size≤w2.heap.size+_;omega)) (((G2.1.trans ⟨n,os,rfl⟩).cell Bf 0 hzb.1).trans hcb.1)
     clear B1 g2 hz2 hz3 c0 c1;go_quiet_grown (first|(go_at_call 202;refine Dj (BB _ _)));clear f0 f1 p0 p1 BB;rcases hcase.1 with⟨rfl,hres⟩|⟨rfl,hres⟩|⟨rfl,hd2⟩
     ·have hres:=Aj hres;go_wp2;go_ret;exact⟨by first|rfl|(rw[hres.1];rfl),G1.1.trans (G2.1.trans ⟨_,_,rfl⟩)⟩
     ·have hres:=Aj hres;go_wp2;go_ret;exact⟨by first|rfl|(rw[hres.1];rfl),G1.1.trans (G2.1.trans ⟨_,_,rfl⟩)⟩
     ·have hd2:=Aj hd2;go_wp2;go_roundw
      case rel=>exact⟨k+1,om,by go_num,hd2,G2.1.trans ⟨_,_,rfl⟩⟩
      case measure=>simp[intOf];omega
   ·have hd2:Kept (r=Lb.one l[k]):=⟨HR.1.trans ((Lb.bu _ _ k hkl hd.1 (by rw[Lb.nU hkl h1];exact h1)).trans (Lb.nU hkl h1))⟩
    generalize Lb.one l[k]=s at*;generalize l[k].n=xn at*;generalize l[k].v=xv at*;go_wp2_with (go_at_call 151;refine(ONE.1 _).mono ?_;rintro e w2 ⟨rfl,g2⟩;have G2:=Aj ((G.1.alloc _).trans g2);clear g2);go_ret;exact⟨by rw[hd2.1];rfl,G1.1.trans G2.1⟩
  ·have hd2:Kept (r=0):=⟨HR.1.trans (Lb.dD _ _ fun j hj=>hd.1 j (by have:=hn.1;omega))⟩
   have G:=Aj gr;clear gr;go_wp2;go_ret;exact⟨by rw[hd2.1];rfl,G1.1.trans G.1⟩
end
end
namespace Bt
def bit (L:List UInt8) (k:Nat):Bool:=(L.getD (k/8) 0).toNat.testBit (7-k%8)
def bits (L:List UInt8):List Bool:=(List.range (8*L.length)).map (bit L)
def bw:Nat→Nat→List Bool
 |0,_=>[]
 |n+1,x=>x.testBit n::bw n x
def oP (l:List Bool):Nat:=l.foldl (fun a b=>2*a+b.toNat) 0
theorem iB (L):(bits L).length=8*L.length:=by simp[bits]
theorem jA (L k) (h:k< (bits L).length):(bits L)[k]=bit L k:=by simp[bits]
theorem aj:∀(n x),(bw n x).length=n
 |0,_=>rfl
 |n+1,x=>by rw[bw,Lc,aj n x]
theorem Jw:∀(n x i) (h:i< (bw n x).length),(bw n x)[i]=x.testBit (n-1-i)
 |0,_,_,h=>by simp[bw]at h
 |n+1,x,0,_=>by simp[bw]
 |n+1,x,i+1,h=>by
  have h2:i<n:=by rw[aj]at h;omega
  simp only[bw,BZ];rw[Jw n x i,show n+1-1-(i+1)=n-1-i from om]
theorem NZ (l a):l.foldl (fun a b=>2*a+b.toNat) a=a*2^l.length+oP l:=by
 induction l generalizing a with
 |nil=>simp[oP]
 |cons b l ih=>
  unfold oP;rw[List.foldl_cons,List.foldl_cons,ih,ih (2*0+b.toNat),Lc,Dc,Nat.mul_zero,cK,Nat.add_mul,El 2 a,Nat.mul_assoc,El 2 (2^l.length)];omega
theorem Q4 (l b):oP (l++[b])=2*oP l+b.toNat:=by simp[oP]
theorem tL (b l):oP (b::l)=b.toNat*2^l.length+oP l:=by
 have:=NZ l b.toNat;rw[←this];simp[oP]
theorem yO (l):oP l<2^l.length:=by
 induction l with
 |nil=>simp[oP]
 |cons b l ih=>
  rw[tL,Lc,Dc];cases b<;>simp<;>omega
theorem tN:∀(n x),oP (bw n x)=x%2^n
 |0,x=>by simp[bw,oP,Nat.mod_one]
 |n+1,x=>by
  rw[bw,tL,aj,tN n x];rw[Dc,Nat.mod_mul,DC,Nat.add_comm,El];rcases Df (x/2^n)with h|h<;>simp[h]
theorem yP:∀(l),bw l.length (oP l)=l
 |[]=>rfl
 |b::l=>by
  have ih:=yP l;have hlt:=yO l;rw[Lc,bw,tL];have h1:(b.toNat*2^l.length+oP l).testBit l.length=b:=by
   rw[DC,El,Nat.mul_add_div (Nat.pow_pos Ah),Nat.div_eq_of_lt hlt];cases b<;>simp
  have h2:∀(n m:Nat),(∀i,i<n→m.testBit i=(oP l).testBit i)→bw n m=bw n (oP l):=by
   intro n
   induction n with
   |zero=>intros;rfl
   |succ n ih=>intro m h;rw[bw,bw,h n om,ih m (fun i hi=>h i om)]
  rw[h1,h2 l.length _ (fun i hi=>?_),ih];rw[El,Nat.testBit_two_pow_mul_add _ hlt,Ps0 hi]
theorem Q5 (L k y at_ b) (hk:at_/8<L.length) (h0:bit L at_=false) (hy:y.toNat=(L.getD (at_/8) 0).toNat|||(b.toNat<<< (7-at_%8))):
  bit (L.set (at_/8) y) k=if k=at_ then b else bit L k:=by
 unfold bit at h0⊢;by_cases h8:k/8=at_/8
 ·have e1:(L.set (at_/8) y).getD (k/8) 0=y:=by
   rw[h8,fZ,List.getElem?_set_self hk];rfl
  rw[e1,hy,Nat.testBit_or,Nat.testBit_shiftLeft,h8];by_cases hk2:k=at_
  ·subst hk2;rw[h0,Ps0 rfl];cases b<;>simp
  ·rw[Ng hk2];have hne:k%8≠at_%8:=fun h=>hk2 om
   by_cases hge:7-k%8≥7-at_%8
   ·have:7-k%8-(7-at_%8)≠0:=by omega
    obtain⟨j,hj⟩:=Nat.exists_eq_succ_of_ne_zero this;rw[hj];cases b<;>simp[Nat.testBit_succ]
   ·simp[hge]
 ·have e1:(L.set (at_/8) y).getD (k/8) 0=L.getD (k/8) 0:=by
   rw[fZ,List.getElem?_set_ne (fun h=>h8 h.symm),fZ]
  rw[e1,Ng (fun h=>h8 (by rw[h]))]
theorem Q6 (L k):bit (L++[0]) k=bit L k:=by
 unfold bit;rw[fZ,fZ];rcases Ea (k/8) L.length with h|h|h
 ·rw[Dk h]
 ·rw[h];simp
 ·rw[BN (by simp;omega),BN om]
structure Wr (L:List UInt8) (bs:List Bool):Prop where
 len:L.length=(bs.length+7)/8
 get:∀(k:Nat) (h:k<bs.length),bit L k=bs[k]
 pad:∀k,bs.length≤k→bit L k=false
theorem Wr.nil:Wr [] []:=⟨rfl,fun k h=>by simp at h,fun k _=>by simp[bit]⟩
theorem Wr.push {L bs} (h:Wr L bs) (b) {y L2} (hL:L2=if bs.length%8=0 then L++[0]else L)
  (hy:y.toNat=(L2.getD (bs.length/8) 0).toNat|||(b.toNat<<< (7-bs.length%8))):bs.length/8<L2.length∧Wr (L2.set (bs.length/8) y) (bs++[b]):=by
 have hl:=h.len;have h2:L2.length=(bs.length+8)/8:=by
  rw[hL];split
  ·rw[La,hl];simp;omega
  ·omega
 have hb:∀k,bit L2 k=bit L k:=fun k=>by
  rw[hL];split
  ·exact Q6 L k
  ·rfl
 have hk:bs.length/8<L2.length:=om;have P:=fun k=>Q5 L2 k y bs.length b hk (by rw[hb];exact h.pad _ Ai) hy
 refine⟨hk,?_,fun k hk2=>?_,fun k hk2=>?_⟩
 ·simp;omega
 ·rw[P,hb];simp only[La,DJ]at hk2;by_cases hkb:k=bs.length
  ·subst hkb;simp
  ·rw[Ng hkb,h.get k om,tK]
 ·simp at hk2;rw[P,hb,Ng om,h.pad k om]
theorem VO {L M} (hl:L.length=M.length) (h:∀k,k<8*L.length→bit L k=bit M k):L=M:=by
 apply DD hl;intro i h1 h2;apply UInt8.toNat_inj.1;apply Nat.eq_of_testBit_eq;intro j;by_cases hj:j<8
 ·have:=h (8*i+(7-j)) om;unfold bit at this;rw[show(8*i+(7-j))/8=i from om,show 7-(8*i+(7-j))%8=j from om]at this;simpa[fZ,h1,h2]using this
 ·have p1:=L[i].toNat_lt;have p2:=M[i].toNat_lt;have hp:2^8≤2^j:=kR Ah om;rw[Nat.testBit_lt_two_pow om,Nat.testBit_lt_two_pow om]
theorem Wr.inj {L M bs} (h1:Wr L bs) (h2:Wr M bs):L=M:=by
 refine VO (by rw[h1.len,h2.len]) (fun k _=>?_);by_cases hk:k<bs.length
 ·rw[h1.get k hk,h2.get k hk]
 ·rw[h1.pad k om,h2.pad k om]
end Bt
namespace Tm
open Bt
def sw (x:Int):Int:=(x+9223372036854775808)%18446744073709551616-9223372036854775808
def In (x:Int):Prop:= -9223372036854775808≤x∧x<9223372036854775808
theorem qJ (x):In (sw x):=by unfold In sw;omega
def wd (x:Int):Nat:=(x%18446744073709551616).toNat
theorem LK (x):wd x<18446744073709551616:=by unfold wd;omega
theorem acD {x} (h:In x):sw (wd x:Int)=x:=by unfold In at h;unfold sw wd;omega
def fm (x:Int):Nat:=if x=0 then 0 else if-64≤x∧x<64 then 1 else if-2048≤x∧x<2048 then 2 else if-2147483648≤x∧x<2147483648 then 3 else 4
def fb:Nat→Nat|0=>0|1=>2|2=>6|3=>14|_=>15
def fl:Nat→Nat|0=>1|1=>2|2=>3|3=>4|_=>4
def fw:Nat→Nat|0=>0|1=>7|2=>12|3=>32|_=>64
theorem FH (x):fm x≤4:=by unfold fm;split<;>(try split)<;>(try split)<;>(try split)<;>omega
def ex (n w:Nat):Int:=if w=0 then 0 else if 2*(n%2^w)<2^w then((n%2^w:Nat):Int)else((n%2^w:Nat):Int)-((2^w:Nat):Int)
def ch (x:Int):List Bool:=bw (fl (fm x)) (fb (fm x))++bw (fw (fm x)) (wd x)
def yQ:Int→Int→List Int→List Int
 |_,_,[]=>[]
 |t,d,u::l=>sw (sw (u-t)-d)::yQ u (sw (u-t)) l
def enc:List Int→List Bool
 |[]=>[]
 |t::l=>bw 64 (wd t)++(yQ t 0 l).flatMap ch
def rd (n:Nat) (r:List Bool):Nat×List Bool×Int:=if r.length<n then(0,r,3)else(oP (r.take n),r.drop n,0)
theorem iC (n x r):rd n (bw n x++r)=(x%2^n,r,0):=by
 unfold rd;rw[Ng (by simp[aj]),List.take_left' (aj n x),List.drop_left' (aj n x),tN]
theorem jB {n x r r'} (h:rd n r=(x,r',0)):r=bw n x++r'∧x<2^n:=by
 unfold rd at h;split at h
 ·simp at h
 ·rename_i hn
  simp only[az]at h;obtain⟨rfl,rfl,-⟩:=h;have hl:(r.take n).length=n:=by simp;omega
  have:=yP (r.take n);rw[hl]at this;refine⟨by rw[this,jJ],?_⟩;have:=yO (r.take n);rwa[hl]at this
def gf:Nat→Nat→List Bool→Nat×List Bool×Int
 |0,i,r=>(i,r,0)
 |k+1,i,r=>if(rd 1 r).2.2≠0∨(rd 1 r).1=0 then(i,(rd 1 r).2)else gf k (i+1) (rd 1 r).2.1
def gc (r:List Bool):Int×List Bool×Int:=
 if(gf 4 0 r).2.2≠0 then(0,(gf 4 0 r).2)
 else(ex (rd (fw (gf 4 0 r).1) (gf 4 0 r).2.1).1 (fw (gf 4 0 r).1),(rd (fw (gf 4 0 r).1) (gf 4 0 r).2.1).2.1,
  if(rd (fw (gf 4 0 r).1) (gf 4 0 r).2.1).2.2≠0 then(rd (fw (gf 4 0 r).1) (gf 4 0 r).2.1).2.2 else if fm (ex (rd (fw (gf 4 0 r).1) (gf 4 0 r).2.1).1 (fw (gf 4 0 r).1))≠(gf 4 0 r).1 then 8 else 0)
theorem acE {i n} (hi:i≤4) (hn:n<2^fw i) (h:fm (ex n (fw i))=i):n=wd (ex n (fw i))%2^fw i:=by
 rcases(by omega:i=0∨i=1∨i=2∨i=3∨i=4)with rfl|rfl|rfl|rfl|rfl
 ·simp only[fw]at*;omega
 all_goals
  simp only[fw]at*;unfold ex wd;rw[Ng Ah];split<;>omega
theorem acF {x} (hx:In x):ex (wd x%2^fw (fm x)) (fw (fm x))=x:=by
 unfold In at hx;unfold fm;split
 ·rename_i h;subst h;rfl
 ·split
  ·simp only[fw];unfold ex wd;rw[Ng Ah];split<;>omega
  ·split
   ·simp only[fw];unfold ex wd;rw[Ng Ah];split<;>omega
   ·split
    ·simp only[fw];unfold ex wd;rw[Ng Ah];split<;>omega
    ·simp only[fw];unfold ex wd;rw[Ng Ah];split<;>omega
theorem EP (b r):rd 1 (b::r)=(b.toNat,r,0):=by unfold rd;cases b<;>simp[oP]
theorem rX:rd 1 []=(0,[],3):=rfl
theorem acG {i} (hi:i≤4) (r):gf 4 0 (bw (fl i) (fb i)++r)=(i,r,0):=by
 rcases(by omega:i=0∨i=1∨i=2∨i=3∨i=4)with rfl|rfl|rfl|rfl|rfl
 ·rw[show bw (fl 0) (fb 0)=[false]from rfl];simp[gf,EP]
 ·rw[show bw (fl 1) (fb 1)=[true,false]from rfl];simp[gf,EP]
 ·rw[show bw (fl 2) (fb 2)=[true,true,false]from rfl];simp[gf,EP]
 ·rw[show bw (fl 3) (fb 3)=[true,true,true,false]from rfl];simp[gf,EP]
 ·rw[show bw (fl 4) (fb 4)=[true,true,true,true]from rfl];simp[gf,EP]
theorem acH {i r r'} (h:gf 4 0 r=(i,r',0)):i≤4∧r=bw (fl i) (fb i)++r':=by
 match r,h with
 |[],h=>simp[gf,rX]at h
 |[true],h=>simp[gf,EP,rX]at h
 |[true,true],h=>simp[gf,EP,rX]at h
 |[true,true,true],h=>simp[gf,EP,rX]at h
 |false::r,h=>
  simp[gf,EP]at h;obtain⟨rfl,rfl⟩:=h;exact⟨om,rfl⟩
 |true::false::r,h=>
  simp[gf,EP]at h;obtain⟨rfl,rfl⟩:=h;exact⟨om,rfl⟩
 |true::true::false::r,h=>
  simp[gf,EP]at h;obtain⟨rfl,rfl⟩:=h;exact⟨om,rfl⟩
 |true::true::true::false::r,h=>
  simp[gf,EP]at h;obtain⟨rfl,rfl⟩:=h;exact⟨om,rfl⟩
 |true::true::true::true::r,h=>
  simp[gf,EP]at h;obtain⟨rfl,rfl⟩:=h;exact⟨om,rfl⟩
theorem acI {x} (hx:In x) (r):gc (ch x++r)=(x,r,0):=by
 unfold gc ch;rw[Af,acG (FH x),iC];simp[acF hx]
theorem YC {n w} (hw:w≤64):In (ex n w):=by
 unfold ex;split
 ·unfold In;omega
 ·rename_i h0
  have h1:n%2^w<2^w:=Nat.mod_lt _ (Nat.pow_pos Ah);have h2:2^w≤2^64:=kR Ah hw;generalize n%2^w=m at*;generalize 2^w=p at*;unfold In;split<;>omega
theorem acJ {x r r'} (h:gc r=(x,r',0)):In x∧r=ch x++r':=by
 unfold gc at h;obtain⟨i,r1,e1,hg⟩:∃i r1 e1,gf 4 0 r=(i,r1,e1):=⟨_,_,_,rfl⟩
 rw[hg]at h;simp only[]at h;by_cases he:e1=0
 ·subst he;rw[Ng sm]at h;obtain⟨n,r2,e2,hr⟩:∃n r2 e2,rd (fw i) r1=(n,r2,e2):=⟨_,_,_,rfl⟩
  rw[hr]at h;simp only[az]at h;obtain⟨h1,rfl,h3⟩:=h;by_cases he2:e2=0
  ·subst he2;rw[Ng sm]at h3;by_cases hf:fm (ex n (fw i))=i
   ·obtain⟨hi,hg2⟩:=acH hg;obtain⟨hr2,hn⟩:=jB hr;have hnx:=acE hi hn hf;rw[h1]at hf hnx;refine⟨?_,?_⟩
    ·rw[←h1];exact YC (by rcases(by omega:i=0∨i=1∨i=2∨i=3∨i=4)with rfl|rfl|rfl|rfl|rfl<;>simp[fw])
    ·unfold ch;rw[hf,Af,hg2,hr2]
     congr 2
     have:∀(n a b:Nat),a%2^n=b%2^n→bw n a=bw n b:=by
      intro n a b hab;have e1:=yP (bw n a);have e2:=yP (bw n b);rw[aj,tN]at e1 e2;rw[←e1,←e2,hab]
     exact this _ _ _ (by rw[kS hn];exact hnx)
   ·rw[Ps0 hf]at h3;simp at h3
  ·rw[Ps0 he2]at h3;exact absurd h3 he2
 ·rw[Ps0 he]at h;simp only[az]at h;exact absurd h.2.2 he
def gt:Nat→Int→Int→List Int→List Bool→List Int×List Bool×Int
 |0,_,_,acc,r=>(acc,r,0)
 |n+1,t,d,acc,r=>if(gc r).2.2≠0 then([],(gc r).2)else gt n (sw (t+sw (d+(gc r).1))) (sw (d+(gc r).1)) (acc++[sw (t+sw (d+(gc r).1))]) (gc r).2.1
def dec (n:Nat) (r:List Bool):List Int×List Bool×Int:=
 if n=0 then([],r,0)else if(rd 64 r).2.2≠0 then([],(rd 64 r).2)else gt (n-1) (sw (rd 64 r).1) 0 [sw (rd 64 r).1] (rd 64 r).2.1
theorem Q7:∀(l) (t d) (acc) (r),In t→In d→(∀u∈l,In u)→gt l.length t d acc ((yQ t d l).flatMap ch++r)=(acc++l,r,0)
 |[],t,d,acc,r,_,_,_=>by simp[gt,yQ]
 |u::l,t,d,acc,r,ht,hd,hl=>by
  have hu:=hl u jQ;rw[Lc,gt,yQ,Au,Af,acI (qJ _)];have e1:sw (d+sw (sw (u-t)-d))=sw (u-t):=by unfold In at*;unfold sw;omega
  have e2:sw (t+sw (u-t))=u:=by unfold In at*;unfold sw;omega
  simp only[e1,e2];rw[Ng sm,Q7 l u (sw (u-t)) (acc++[u]) r hu (qJ _) (fun v hv=>hl v (kH _ hv))];simp
theorem bU {l} (hl:∀u∈l,In u) (r):dec l.length (enc l++r)=(l,r,0):=by
 cases l with
 |nil=>simp[dec,enc]
 |cons t l=>
  have ht:=hl t jQ;unfold dec enc;rw[Ng sm,Af,iC,Ng sm];have e1:sw ((wd t%2^64:Nat):Int)=t:=by
   rw[kS (by have:=LK t;omega),acD ht]
  simp only[e1,Lc,Bz];rw[Q7 l t 0 [t] r ht (by unfold In;omega) (fun v hv=>hl v (kH _ hv))]
  rfl
theorem YD:∀(n) (t d) (acc) (r) (l) (r'),In t→In d→gt n t d acc r=(l,r',0)→∃m,l=acc++m∧m.length=n∧(∀u∈m,In u)∧r=(yQ t d m).flatMap ch++r'
 |0,t,d,acc,r,l,r',_,_,h=>by
  simp only[gt,az]at h;exact⟨[],by simp[h.1],rfl,sm,by simp[yQ,h.2.1]⟩
 |n+1,t,d,acc,r,l,r',ht,hd,h=>by
  rw[gt]at h;obtain⟨x,r1,e1,hg⟩:∃x r1 e1,gc r=(x,r1,e1):=⟨_,_,_,rfl⟩
  rw[hg]at h;simp only[]at h;by_cases he:e1=0
  ·subst he;rw[Ng sm]at h;obtain⟨hx,hr⟩:=acJ hg;obtain⟨m,h1,h2,h3,h4⟩:=YD n _ _ _ _ _ _ (qJ _) (qJ _) h;refine⟨sw (t+sw (d+x))::m,by simp[h1],by simp[h2],?_,?_⟩
   ·intro u hu;rcases eH.1 hu with rfl|hu
    ·exact qJ _
    ·exact h3 u hu
   ·have e1:sw (sw (t+sw (d+x))-t)=sw (d+x):=by unfold In at*;unfold sw;omega
    have e2:sw (sw (d+x)-d)=x:=by unfold In at*;unfold sw;omega
    rw[yQ,e1,e2,Au,hr,h4,Af]
  ·rw[Ps0 he]at h;simp only[az]at h;exact absurd h.2.2 he
theorem iD {n r r' l} (h:dec n r=(l,r',0)):l.length=n∧(∀u∈l,In u)∧r=enc l++r':=by
 unfold dec at h;by_cases hn:n=0
 ·subst hn;rw[Ps0 rfl]at h;simp only[az]at h;obtain⟨rfl,rfl,-⟩:=h;exact⟨rfl,sm,rfl⟩
 ·rw[Ng hn]at h;obtain⟨x,r1,e1,hg⟩:∃x r1 e1,rd 64 r=(x,r1,e1):=⟨_,_,_,rfl⟩
  rw[hg]at h;simp only[]at h;by_cases he:e1=0
  ·subst he;rw[Ng sm]at h;obtain⟨hr,hx⟩:=jB hg;obtain⟨m,h1,h2,h3,h4⟩:=YD _ _ _ _ _ _ _ (qJ _) (by unfold In;omega) h;subst h1;refine⟨by simp[h2];omega,?_,?_⟩
   ·intro u hu;have hu2:u∈sw (x:Int)::m:=hu;rcases eH.1 hu2 with h|hu
    ·rw[h];exact qJ _
    ·exact h3 u hu
   ·have e1:wd (sw (x:Int))=x:=by unfold wd sw;omega
    rw[List.singleton_append,enc,e1,Af,←h4,hr]
  ·rw[Ps0 he]at h;simp only[az]at h;exact absurd h.2.2 he
end Tm
namespace Di
open Bt Tm
def Up (l:List Nat):Prop:=l.Pairwise (· < ·)
def ins (x:Nat):List Nat→List Nat
 |[]=>[x]
 |y::l=>if x<y then x::y::l else if x=y then y::l else y::ins x l
def fe (l:List Nat):List Nat:=l.foldr ins []
theorem yR (x z):∀(l),z∈ins x l↔z=x∨z∈l
 |[]=>by simp[ins]
 |y::l=>by
  rw[ins];split
  ·simp
  ·split
   ·rename_i h;subst h;simp
   ·rw[eH,yR x z l,eH];constructor
    ·rintro(h|h|h)<;>simp[h]
    ·rintro(h|h|h)<;>simp[h]
theorem Q8 (x):∀{l},Up l→Up (ins x l)
 |[],_=>by simp[ins,Up]
 |y::l,h=>by
  obtain⟨h1,h2⟩:=AQ.1 h;rw[ins];split
  ·rename_i hx
   refine AQ.2 ⟨fun z hz=>?_,h⟩;rcases eH.1 hz with rfl|hz
   ·exact hx
   ·have:=h1 z hz;omega
  ·split
   ·exact h
   ·refine AQ.2 ⟨fun z hz=>?_,Q8 x h2⟩;rcases(yR x z l).1 hz with rfl|hz
    ·omega
    ·exact h1 z hz
theorem pO (l):Up (fe l):=by
 induction l with
 |nil=>exact List.Pairwise.nil
 |cons x l ih=>exact Q8 x ih
theorem fE (l z):z∈fe l↔z∈l:=by
 induction l with
 |nil=>simp[fe]
 |cons x l ih=>
  have:fe (x::l)=ins x (fe l):=rfl;rw[this,yR,ih,eH]
theorem Q9:∀{l m},Up l→Up m→(∀z,z∈l↔z∈m)→l=m
 |[],[],_,_,_=>rfl
 |[],y::m,_,_,h=>by have:=(h y).2 jQ;simp at this
 |x::l,[],_,_,h=>by have:=(h x).1 jQ;simp at this
 |x::l,y::m,h1,h2,h=>by
  obtain⟨a1,a2⟩:=AQ.1 h1;obtain⟨b1,b2⟩:=AQ.1 h2;have hxy:x=y:=by
   rcases eH.1 ((h x).1 jQ)with e|e
   ·exact e
   ·rcases eH.1 ((h y).2 jQ)with e2|e2
    ·exact e2.symm
    ·have:=b1 x e;have:=a1 y e2;omega
  subst hxy;rw[Q9 a2 b2 (fun z=>?_)];constructor
  ·intro hz;rcases eH.1 ((h z).1 (kH _ hz))with e|e
   ·subst e;exact absurd (a1 z hz) (Ez _)
   ·exact e
  ·intro hz;rcases eH.1 ((h z).2 (kH _ hz))with e|e
   ·subst e;exact absurd (b1 z hz) (Ez _)
   ·exact e
theorem up_sub:∀{l m},Up l→Up m→(∀z∈l,z∈m)→m.length≤l.length→l=m
 |[],m,_,_,_,hl=>by simp at hl;exact hl.symm
 |x::l,[],_,_,h,_=>by have:=h x jQ;simp at this
 |x::l,y::m,h1,h2,h,hl=>by
  obtain⟨a1,a2⟩:=AQ.1 h1;obtain⟨b1,b2⟩:=AQ.1 h2;simp only[Lc]at hl;have hs:∀z∈l,z∈m:=fun z hz=>by
   rcases eH.1 (h z (kH _ hz))with e|e
   ·subst e;have:=a1 z hz;rcases eH.1 (h x jQ)with e|e
    ·omega
    ·have:=b1 x e;omega
   ·exact e
  have hlm:=up_sub a2 b2 hs om;subst hlm;rcases eH.1 (h x jQ)with e|e
  ·rw[e]
  ·exact absurd (a1 x e) (Ez _)
def bl (n:Nat):Nat:=if n=0 then 0 else n.log2+1
def ng (k:Nat):Nat:=bl (k-1)
theorem YE (n):n<2^bl n:=by
 unfold bl;split
 ·rename_i h;subst h;decide
 ·exact Nat.lt_log2_self
theorem ZP {i k} (h:i<k):i<2^ng k:=by have:=YE (k-1);unfold ng;omega
def enc (l:List Nat):List Bool:=if l=[]then[]else bw 7 ((fe l).length-1)++((fe l).flatMap (bw 64)++l.flatMap fun x=>bw (ng (fe l).length) ((fe l).idxOf x))
def gd:Nat→List Nat→List Bool→List Nat×List Bool×Int
 |0,acc,r=>(acc,r,0)
 |k+1,acc,r=>if(rd 64 r).2.2≠0 then([],(rd 64 r).2)else if∃y∈acc.getLast?,(rd 64 r).1≤y then([],(rd 64 r).2.1,8)else gd k (acc++[(rd 64 r).1]) (rd 64 r).2.1
def gv (d:List Nat):Nat→List Nat→List Bool→List Nat×List Bool×Int
 |0,acc,r=>(acc,r,0)
 |n+1,acc,r=>if(rd (ng d.length) r).2.2≠0 then([],(rd (ng d.length) r).2)else if d.length≤(rd (ng d.length) r).1 then([],(rd (ng d.length) r).2.1,8)else gv d n (acc++[d.getD (rd (ng d.length) r).1 0]) (rd (ng d.length) r).2.1
def wu (n:Nat) (d:List Nat) (r:List Bool):List Nat×List Bool×Int:=
 if(gv d n [] r).2.2≠0 then([],(gv d n [] r).2)else if(fe (gv d n [] r).1).length<d.length then([],(gv d n [] r).2.1,8)else gv d n [] r
def dec (n:Nat) (r:List Bool):List Nat×List Bool×Int:=
 if n=0 then([],r,0)else if(rd 7 r).2.2≠0 then([],(rd 7 r).2)
 else if(gd ((rd 7 r).1+1) [] (rd 7 r).2.1).2.2≠0 then([],(gd ((rd 7 r).1+1) [] (rd 7 r).2.1).2)
 else wu n (gd ((rd 7 r).1+1) [] (rd 7 r).2.1).1 (gd ((rd 7 r).1+1) [] (rd 7 r).2.1).2.1
theorem Ra:∀(d acc) (r),Up (acc++d)→(∀x∈d,x<2^64)→gd d.length acc (d.flatMap (bw 64)++r)=(acc++d,r,0)
 |[],acc,r,_,_=>by simp[gd]
 |x::d,acc,r,hu,hx=>by
  have e1:x%2^64=x:=kS (hx x jQ);rw[Lc,gd,Au,Af,iC,e1];have hn:¬∃y∈acc.getLast?,x≤y:=by
   rintro⟨y,hy,hxy⟩;have hm:=List.mem_of_mem_getLast? hy;have:=(Cr.1 hu).2.2 y hm x jQ;omega
  simp only[];rw[Ng sm,Ng hn,Ra d (acc++[x]) r (by simpa using hu) (fun y hy=>hx y (kH _ hy))];simp
theorem Rb {d}:∀(l acc) (r),(∀x∈l,x∈d)→gv d l.length acc (l.flatMap (fun x=>bw (ng d.length) (d.idxOf x))++r)=(acc++l,r,0)
 |[],acc,r,_=>by simp[gv]
 |x::l,acc,r,hx=>by
  have hm:=hx x jQ;have hi:d.idxOf x<d.length:=List.idxOf_lt_length_of_mem hm;have e1:d.idxOf x%2^ng d.length=d.idxOf x:=kS (ZP hi);rw[Lc,gv,Au,Af,iC,e1];simp only[];have e2:d.getD (d.idxOf x) 0=x:=by
   rw[fZ,ja hi];simp
  rw[Ng sm,Ng om,e2,Rb l (acc++[x]) r (fun y hy=>hx y (kH _ hy))];simp
theorem bU {l} (hx:∀x∈l,x<2^64) (hk:(fe l).length≤128) (r):dec l.length (enc l++r)=(l,r,0):=by
 by_cases hl:l=[]
 ·subst hl;simp[dec,enc]
 ·have hpos:0<l.length:=oW.2 hl;have hd0:fe l≠[]:=fun e=>by
   obtain⟨x,hx⟩:=List.exists_mem_of_ne_nil l hl;have:=(fE l x).2 hx;rw[e]at this;simp at this
  have hd1:0< (fe l).length:=oW.2 hd0;unfold dec enc;rw[Ng om,Ng hl,Af,Af,iC];have e1:((fe l).length-1)%2^7=(fe l).length-1:=kS om;have e2:(fe l).length-1+1=(fe l).length:=om;rw[e1];simp only[];rw[e2,Ra (fe l) [] _ (by simpa using pO l) (fun x h=>hx x ((fE l x).1 h))];simp only[AA];rw[Ng sm,Ng sm];unfold wu;rw[Rb l [] r (fun x h=>(fE l x).2 h)];simp
theorem VP {l x} (h:Up l) (hx:∀y∈l.getLast?,y<x):Up (l++[x]):=by
 refine Cr.2 ⟨h,sm,fun y hy z hz=>?_⟩;obtain rfl:=gJ.1 hz;have hne:l≠[]:=List.ne_nil_of_mem hy;have hl:l.getLast hne<z:=hx _ (List.getLast?_eq_some_getLast hne);obtain⟨i,hi,rfl⟩:=jw.1 hy;rw[List.getLast_eq_getElem]at hl;by_cases hq:i=l.length-1
 ·subst hq;exact hl
 ·have:=(BC.1 h) i (l.length-1) hi om om;omega
theorem ZQ {d} (h:Up d) {i} (hi:i<d.length):d.idxOf d[i]=i:=by
 have hm:=List.idxOf_lt_length_of_mem (gG hi);have e:d[d.idxOf d[i]]=d[i]:=sm;have P:=BC.1 h;rcases Ea (d.idxOf d[i]) i with q|q|q
 ·have:=P _ _ hm hi q;omega
 ·exact q
 ·have:=P _ _ hi hm q;omega
theorem Re:∀(k) (acc) (r) (d) (r'),Up acc→gd k acc r=(d,r',0)→∃m,d=acc++m∧m.length=k∧Up d∧(∀x∈m,x<2^64)∧r=m.flatMap (bw 64)++r'
 |0,acc,r,d,r',hu,h=>by
  simp only[gd,az]at h;obtain⟨rfl,rfl,-⟩:=h;exact⟨[],sm,rfl,hu,sm,sm⟩
 |k+1,acc,r,d,r',hu,h=>by
  rw[gd]at h;obtain⟨x,r1,e1,hg⟩:∃x r1 e1,rd 64 r=(x,r1,e1):=⟨_,_,_,rfl⟩
  rw[hg]at h;simp only[]at h;by_cases he:e1=0
  ·subst he;rw[Ng sm]at h;by_cases hq:∃y∈acc.getLast?,x≤y
   ·rw[Ps0 hq]at h;simp at h
   ·rw[Ng hq]at h;obtain⟨d1,d2⟩:=jB hg;have hu2:Up (acc++[x]):=VP hu (fun y hy=>by
     rcases Eo y x with q|q
     ·exact q
     ·exact absurd ⟨y,hy,q⟩ hq)
    obtain⟨m,h1,h2,h3,h4,h5⟩:=Re k _ _ _ _ hu2 h;refine⟨x::m,by simp[h1],by simp[h2],h3,?_,?_⟩
    ·intro y hy;rcases eH.1 hy with q|q
     ·rw[q];exact d2
     ·exact h4 y q
    ·rw[Au,d1,h5,Af]
  ·rw[Ps0 he]at h;simp only[az]at h;exact absurd h.2.2 he
theorem YF {d} (hu:Up d):∀(n) (acc) (r) (l) (r'),gv d n acc r=(l,r',0)→∃m,l=acc++m∧m.length=n∧(∀x∈m,x∈d)∧r=m.flatMap (fun x=>bw (ng d.length) (d.idxOf x))++r'
 |0,acc,r,l,r',h=>by
  simp only[gv,az]at h;obtain⟨rfl,rfl,-⟩:=h;exact⟨[],sm,rfl,sm,sm⟩
 |n+1,acc,r,l,r',h=>by
  rw[gv]at h;obtain⟨i,r1,e1,hg⟩:∃i r1 e1,rd (ng d.length) r=(i,r1,e1):=⟨_,_,_,rfl⟩
  rw[hg]at h;simp only[]at h;by_cases he:e1=0
  ·subst he;rw[Ng sm]at h;by_cases hq:d.length≤i
   ·rw[Ps0 hq]at h;simp at h
   ·rw[Ng hq]at h;have hi:i<d.length:=om;have hv:d.getD i 0=d[i]:=by rw[fZ,ja hi];rfl
    rw[hv]at h;obtain⟨d1,d2⟩:=jB hg;obtain⟨m,h1,h2,h3,h4⟩:=YF hu n _ _ _ _ h;refine⟨d[i]::m,by simp[h1],by simp[h2],?_,?_⟩
    ·intro y hy;rcases eH.1 hy with q|q
     ·rw[q];exact gG hi
     ·exact h3 y q
    ·rw[Au,ZQ hu hi,d1,h4,Af]
  ·rw[Ps0 he]at h;simp only[az]at h;exact absurd h.2.2 he
theorem iD {n r r' l} (h:dec n r=(l,r',0)):l.length=n∧(∀x∈l,x<2^64)∧(fe l).length≤128∧r=enc l++r':=by
 unfold dec at h;by_cases hn:n=0
 ·subst hn;rw[Ps0 rfl]at h;simp only[az]at h;obtain⟨rfl,rfl,-⟩:=h;exact⟨rfl,sm,by simp[fe],rfl⟩
 ·rw[Ng hn]at h;obtain⟨k,r1,e1,hg⟩:∃k r1 e1,rd 7 r=(k,r1,e1):=⟨_,_,_,rfl⟩
  rw[hg]at h;simp only[]at h;by_cases he:e1=0
  ·subst he;rw[Ng sm]at h;obtain⟨d,r2,e2,hg2⟩:∃d r2 e2,gd (k+1) [] r1=(d,r2,e2):=⟨_,_,_,rfl⟩
   rw[hg2]at h;simp only[]at h;by_cases he2:e2=0
   ·subst he2;rw[Ng sm]at h;unfold wu at h;obtain⟨l3,r3,e3,hg3⟩:∃l3 r3 e3,gv d n [] r2=(l3,r3,e3):=⟨_,_,_,rfl⟩
    rw[hg3]at h;simp only[]at h;by_cases kJ:e3=0
    ·subst kJ;rw[Ng sm]at h;by_cases hq:(fe l3).length<d.length
     ·rw[Ps0 hq]at h;simp at h
     ·rw[Ng hq]at h;simp only[az]at h;obtain⟨rfl,rfl,-⟩:=h;obtain⟨a1,a2⟩:=jB hg;obtain⟨m,b1,b2,b3,b4,b5⟩:=Re _ _ _ _ _ List.Pairwise.nil hg2;rw[AA]at b1;subst b1;obtain⟨m2,c1,c2,c3,c4⟩:=YF b3 _ _ _ _ _ hg3;rw[AA]at c1;subst c1;have hd:fe l3=d:=up_sub (pO l3) b3 (fun z hz=>c3 z ((fE l3 z).1 hz)) om;have hl:l3≠[]:=fun e=>by rw[e]at c2;simp at c2;omega
      refine⟨c2,fun x hx=>b4 x (c3 x hx),by rw[hd,b2];omega,?_⟩;unfold enc;rw[Ng hl,hd,b2,a1,b5,c4,b2];simp
    ·rw[Ps0 kJ]at h;simp only[az]at h;exact absurd h.2.2 kJ
   ·rw[Ps0 he2]at h;simp only[az]at h;exact absurd h.2.2 he2
  ·rw[Ps0 he]at h;simp only[az]at h;exact absurd h.2.2 he
end Di
end Go.Proofs.YtongopommlghgaaGreatDoor
