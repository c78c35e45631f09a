/- Part 9. -/
import Derived.Test.YtjcpmfphnodaaaaGreatDoorZTAF
import Derived.Test.YtjcpmfphnodaaaaGreatDoorZTAH
namespace Go.Proofs.YtjcpmfphnodaaaaGreatDoor
set_option maxRecDepth 100000
set_option maxHeartbeats 0
open _root_.Go.Proofs.Tryz
section
section
open Go.RowKit Go.Shelf
theorem Wr.lC (l) (a m) (e):(Wr.uint l a e m).1≤m:=by
 unfold Wr.uint;split
 ·exact bE _
 ·simp only[];split
  ·exact bE _
  ·split
   ·exact bE _
   ·omega
theorem Wr.lD (l) (a m) (e) (h:(Wr.uint l a e m).2.2≠0):(Wr.uint l a e m).1=0:=by
 unfold Wr.uint at h⊢;split
 ·rfl
 ·rw[Ng (by assumption)]at h;simp only[]at h⊢;split
  ·rfl
  ·rw[Ng (by assumption)]at h;split
   ·rfl
   ·rw[Ng (by assumption)]at h;exact absurd rfl h
theorem Wr.yl (l) (a m) (e) (h:a≤l.length):(Wr.uint l a e m).2.1≤l.length:=by
 unfold Wr.uint;split
 ·exact h
 ·simp only[];split
  ·exact h
  ·next h2=>
   split
   ·exact h
   ·have h3:(Vi.get l (a:Int)).2.2=0:=by simpa using h2
    generalize hg:Vi.get l (a:Int)=G at*;obtain⟨x,t,f⟩:=G;have h5:f=0:=h3;subst h5;have h4:=(Vi.gX hg).2;show t.toNat≤l.length;omega
namespace Rc
def mx:Nat:=18446744073709551615
def cnt (l:List UInt8) (a:Nat) (e:Int):Nat×Nat×Int:=
 let r:=Wr.uint l a e mx
 if r.2.2≠0 then(0,r.2.1,r.2.2)else if l.length-r.2.1<r.1 then(0,r.2.1,3)else r
def sym (T:List ByteArray) (l:List UInt8) (a:Nat) (e:Int):ByteArray×Nat×Int:=
 let r:=Wr.uint l a e mx
 if r.2.2≠0 then(ByteArray.empty,r.2.1,r.2.2)else if T.length≤r.1 then(ByteArray.empty,r.2.1,14)else(T.getD r.1 ByteArray.empty,r.2.1,0)
def lab (T:List ByteArray) (l:List UInt8) (a:Nat) (e:Int):bf×Nat×Int:=
 let r:=sym T l a e
 let s:=sym T l r.2.1 r.2.2
 (⟨r.1,s.1⟩,s.2)
def len (l:List UInt8) (a:Nat) (e:Int):Nat×Nat×Int:=
 let r:=Wr.uint l a e mx
 if r.1<1∨2147483647<r.1 then(r.1,r.2.1,if r.2.2=0 then 23 else r.2.2)else r
end Rc
theorem El {w w':World} {n} {row} (h:(w.drewN n).grownBy w' row):w.grownBy w' row:=⟨h.os,h.tape,h.output,h.size,h.block⟩
theorem nM {row} (w:World) (n):w.grownBy (w.drewN n) row:=⟨rfl,rfl,rfl,Nr _,fun _ _ _=>rfl⟩
def RR (w:World) (q p:Nat) (TA:Option Addr) (tn tc:Nat) (T:List ByteArray) (l:List UInt8):Prop:=
 w.heap[q]? =some (.cells #[.pointer (some ⟨p,0,none⟩),.slice TA tn tc,.int .i64 (l.length:Int)] 218 (0,0))∧p<q∧bM w p TA tn tc T
theorem RR.grown {w w'} {q p tn tc} {TA} {T} {l} (h:RR w q p TA tn tc T l) (hg:w.grownBy w' (some p)):RR w' q p TA tn tc T l:=by
 obtain⟨h1,h2,h3⟩:=h;have hq:q<w.heap.size:=(Ge.1 h1).1;exact⟨(hg.block q hq (fun e=>by have:=Oj e;omega)).trans h1,h2,h3.grown hg om (fun g e=>by have:=Oj e;omega)⟩
theorem RR.cells {w} {q p tn tc} {TA} {T} {l} (h:RR w q p TA tn tc T l):
  w.cell? ⟨q,0,none⟩=some (.pointer (some ⟨p,0,none⟩))∧w.cell? ⟨q,1,none⟩=some (.slice TA tn tc)∧w.cell? ⟨q,2,none⟩=some (.int .i64 (l.length:Int)):=
 ⟨Co _ _ _ _ _ _ h.1,Co _ _ _ _ _ _ h.1,Co _ _ _ _ _ _ h.1⟩
theorem pI (q p a tn tc) (TA) (T) (l) (e) (w) (hR:RR w q p TA tn tc T l) (h:aK w p l a e):
  Calls prog 171 #[.pointer (some ⟨q,0,none⟩)] w fun r w'=>r= .returned (.int .i64 ((Rc.cnt l a e).1:Int))∧aK w' p l (Rc.cnt l a e).2.1 (Rc.cnt l a e).2.2∧w.grownBy w' (some p):=by
 obtain⟨q0,q1,q2⟩:=hR.cells;have U:=Aj (ja p a 18446744073709551615 l e w h);have HR:=Aj hR;have hle:=Wr.lC l a Rc.mx e;have hat:=Wr.yl l a Rc.mx e h.len.2;have hC:Rc.cnt l a e=(let r:=Wr.uint l a e Rc.mx;if r.2.2≠0 then(0,r.2.1,r.2.2)else if l.length-r.2.1<r.1 then(0,r.2.1,3)else r):=rfl;have hln:=h.len;unfold Rc.mx at hC hle hat;generalize Wr.uint l a e 18446744073709551615=X at*;obtain⟨x,a1,e1⟩:=X;simp only[]at hC hle hat U;clear h hR;have XQ:IntKind.u64.wrap ((l.length:Int)-(a1:Int))=(l.length:Int)-(a1:Int):=by simp[IntKind.wrap,IntKind.bits,IntKind.signed];omega
 by_cases he1:e1=0
 ·subst he1;rw[Ng sm]at hC;by_cases hx:l.length-a1<x
  ·rw[Ps0 hx]at hC;rw[hC];have hgt:(l.length:Int)-(a1:Int)< (x:Int):=om;clear hC hx;go_enter func171,ntmps171;go_upto_region 2 with(go_at_call 182;refine U.1.mono ?_;rintro r w2 ⟨rfl,hr,hg⟩;have R2:=Aj hr;have G2:=Aj hg;clear hr hg)
   obtain⟨s0,s1,s2⟩:=(HR.1.grown G2.1).cells;go_quiet (first
    |(go_at_call 112;exact(iN p a1 l 0 _ (by exact R2.1)).mono fun _ _ q=>⟨q.1,_,q.2.symm⟩)
    |(go_at_call 120;exact(az p a1 l 0 _ (by exact R2.1)).mono fun _ _ q=>⟨q.1,_,q.2.symm⟩))
   go_wp2_with (first
    |(go_at_call 114;refine(bU p a1 l 0 3 _ (by exact R2.1)).mono ?_;rintro r w3 ⟨rfl,hr,hg⟩;rw[Ps0 rfl]at hr;have R3:=Aj hr;have G3:Kept (w2.grownBy w3 (some p)):=⟨El hg⟩;obtain⟨t0,t1,t2⟩:=((HR.1.grown G2.1).grown G3.1).cells;clear hr hg)
    |(go_at_call 120;refine(az p a1 l 3 _ R3.1).mono ?_;rintro r w4 ⟨rfl,rfl⟩))
   go_ret;exact⟨rfl,R3.1,G2.1.trans G3.1⟩
  ·rw[Ng hx]at hC;rw[hC];have hgt:¬(l.length:Int)-(a1:Int)< (x:Int):=om;have hx1:(x:Int)≤140737488354000:=om;clear hC hx;go_enter func171,ntmps171;go_upto_region 2 with(go_at_call 182;refine U.1.mono ?_;rintro r w2 ⟨rfl,hr,hg⟩;have R2:=Aj hr;have G2:=Aj hg;clear hr hg)
   obtain⟨s0,s1,s2⟩:=(HR.1.grown G2.1).cells;go_quiet (first
    |(go_at_call 112;exact(iN p a1 l 0 _ (by exact R2.1)).mono fun _ _ q=>⟨q.1,_,q.2.symm⟩)
    |(go_at_call 120;exact(az p a1 l 0 _ (by exact R2.1)).mono fun _ _ q=>⟨q.1,_,q.2.symm⟩))
   go_wp2_with (go_at_call 120;refine(az p a1 l 0 _ (by exact R2.1)).mono ?_;rintro r w4 ⟨rfl,rfl⟩);go_ret;exact⟨by go_num,R2.1,G2.1.trans (nM _ _)⟩
 ·rw[Ps0 he1]at hC;rw[hC];have wG:(e1==0)=false:=by simpa using he1
  clear hC;go_enter func171,ntmps171;go_upto_region 2 with(go_at_call 182;refine U.1.mono ?_;rintro r w2 ⟨rfl,hr,hg⟩;have R2:=Aj hr;have G2:=Aj hg;clear hr hg)
  obtain⟨s0,s1,s2⟩:=(HR.1.grown G2.1).cells;go_quiet (first
   |(go_at_call 112;exact(iN p a1 l e1 _ (by exact R2.1)).mono fun _ _ q=>⟨q.1,_,q.2.symm⟩)
   |(go_at_call 120;exact(az p a1 l e1 _ (by exact R2.1)).mono fun _ _ q=>⟨q.1,_,q.2.symm⟩))
  go_wp2_with (go_at_call 120;refine(az p a1 l e1 _ (by exact R2.1)).mono ?_;rintro r w4 ⟨rfl,rfl⟩);go_ret;exact⟨rfl,R2.1,G2.1.trans (nM _ _)⟩
end
end
section
section
open Go.RowKit Go.Shelf
theorem sN (q p a tn tc) (TA) (T) (l) (e) (w) (hR:RR w q p TA tn tc T l) (h:aK w p l a e):
  Calls prog 211 #[.pointer (some ⟨q,0,none⟩)] w fun r w'=>r= .returned (.string (Rc.sym T l a e).1)∧aK w' p l (Rc.sym T l a e).2.1 (Rc.sym T l a e).2.2∧w.grownBy w' (some p):=by
 obtain⟨q0,q1,q2⟩:=hR.cells;have U:=Aj (ja p a 18446744073709551615 l e w h);have HR:=Aj hR;have hle:=Wr.lC l a Rc.mx e;have hC:Rc.sym T l a e=(let r:=Wr.uint l a e Rc.mx;if r.2.2≠0 then(ByteArray.empty,r.2.1,r.2.2)else if T.length≤r.1 then(ByteArray.empty,r.2.1,14)else(T.getD r.1 ByteArray.empty,r.2.1,0)):=rfl;have htl:=hR.2.2.len;have ZP:=hR.2.2.2.1;have htc:=hR.2.2.1;unfold maxLen at ZP;unfold Rc.mx at hC hle;generalize Wr.uint l a e 18446744073709551615=X at*;obtain⟨x,a1,e1⟩:=X;simp only[]at hC hle U;have XQ:IntKind.u64.wrap (tn:Int)=(tn:Int):=by simp[IntKind.wrap,IntKind.bits,IntKind.signed];omega
 have HT:=Aj htl;clear h hR htl;by_cases he1:e1=0
 ·subst he1;rw[Ng sm]at hC;by_cases hx:T.length≤x
  ·rw[Ps0 hx]at hC;rw[hC];have hgt:(tn:Int)≤(x:Int):=by have:=HT.1;omega
   have hgt2:tn≤x:=om;clear hC hx;go_enter func211,ntmps211;go_wp2_with (first
    |(go_at_call 182;refine U.1.mono ?_;rintro r w2 ⟨rfl,hr,hg⟩;have R2:=Aj hr;have G2:=Aj hg;obtain⟨s0,s1,s2⟩:=(HR.1.grown hg).cells;clear hr hg)
    |(go_at_call 114;refine(bU p a1 l 0 14 _ R2.1).mono ?_;rintro r w3 ⟨rfl,hr,hg⟩;rw[Ps0 rfl]at hr;have R3:=Aj hr;have G3:=Aj hg;obtain⟨t0,t1,t2⟩:=((HR.1.grown G2.1).grown hg).cells;clear hr hg R2)
    |(go_at_call 120;refine(az p a1 l 14 _ R3.1).mono ?_;rintro r w9 ⟨rfl,rfl⟩)
    |(go_at_call 120;refine(az p a1 l 0 _ R2.1).mono ?_;rintro r w9 ⟨rfl,rfl⟩))
   go_ret;exact⟨rfl,R3.1,G2.1.trans G3.1⟩
  ·rw[Ng hx]at hC;have hxl:x<T.length:=om;rw[show T.getD x ByteArray.empty=T[x]by simp[List.getD,hxl]]at hC;rw[hC];have hgt:(x:Int)< (tn:Int):=by have:=HT.1;omega
   have hgt2:¬tn≤x:=om;have aaL:x<tn:=om;obtain⟨b,off,rfl,hbp,hcell⟩:=HR.1.2.2.at_ hxl;have CC:Kept (∀W,w.grownBy W (some p)→W.cell? ⟨b,off+x,none⟩=some (.string T[x])):=⟨fun W hg=>by
    obtain⟨b',off',e',-,hc'⟩:=((HR.1.grown hg).2.2).at_ hxl;simp only[gV,BP,Bi]at e';obtain⟨rfl,rfl⟩:=e';exact hc'⟩
   generalize T[x]=s at*;clear hC hx hcell;go_enter func211,ntmps211;go_wp2_with (first
    |(go_at_call 182;refine U.1.mono ?_;rintro r w2 ⟨rfl,hr,hg⟩;have R2:=Aj hr;have G2:=Aj hg;obtain⟨s0,s1,s2⟩:=(HR.1.grown hg).cells;clear hr hg;have cc:=CC.1 w2 G2.1)
    |(go_at_call 120;refine(az p a1 l 0 _ R2.1).mono ?_;rintro r w9 ⟨rfl,rfl⟩))
   go_ret;exact⟨rfl,R2.1,G2.1⟩
 ·rw[Ps0 he1]at hC;rw[hC];have wG:(e1==0)=false:=by simpa using he1
  clear hC;go_enter func211,ntmps211;go_wp2_with (first
   |(go_at_call 182;refine U.1.mono ?_;rintro r w2 ⟨rfl,hr,hg⟩;have R2:=Aj hr;have G2:=Aj hg;obtain⟨s0,s1,s2⟩:=(HR.1.grown hg).cells;clear hr hg)
   |(go_at_call 120;refine(az p a1 l e1 _ R2.1).mono ?_;rintro r w9 ⟨rfl,rfl⟩))
  go_ret;exact⟨rfl,R2.1,G2.1⟩
theorem Ic (q p a tn tc) (TA) (T) (l) (e) (w) (hR:RR w q p TA tn tc T l) (h:aK w p l a e):
  Calls prog 175 #[.pointer (some ⟨q,0,none⟩)] w fun r w'=>∃v:Int,r= .returned (.int .i64 v)∧((Rc.len l a e).2.2=0→v=((Rc.len l a e).1:Int))∧aK w' p l (Rc.len l a e).2.1 (Rc.len l a e).2.2∧w.grownBy w' (some p):=by
 obtain⟨q0,q1,q2⟩:=hR.cells;have U:=Aj (ja p a 18446744073709551615 l e w h);have HR:=Aj hR;have hle:=Wr.lC l a Rc.mx e;have hz:=Wr.lD l a Rc.mx e;have hC:Rc.len l a e=(let r:=Wr.uint l a e Rc.mx;if r.1<1∨2147483647<r.1 then(r.1,r.2.1,if r.2.2=0 then 23 else r.2.2)else r):=rfl;unfold Rc.mx at hC hle hz;generalize Wr.uint l a e 18446744073709551615=X at*;obtain⟨x,a1,e1⟩:=X;simp only[]at hC hle hz U;clear h hR;by_cases hx:x<1∨2147483647<x
 ·rw[Ps0 hx]at hC;rw[hC];have hne:Kept (¬(if e1=0 then(23:Int)else e1)=0):=⟨by split<;>omega⟩
  have F:=Aj (fun w2 (hr:aK w2 p l a1 e1)=>bU p a1 l e1 23 w2 hr);generalize (if e1=0 then(23:Int)else e1)=e2 at*;rcases DD x 1 with h1|h1
  ·have h1':(x:Int)<1:=by omega
   clear hC hx hz;go_enter func175,ntmps175;go_wp2_with (first
    |(go_at_call 182;refine U.1.mono ?_;rintro r w2 ⟨rfl,hr,hg⟩;have R2:=Aj hr;have G2:=Aj hg;obtain⟨s0,s1,s2⟩:=(HR.1.grown hg).cells;clear hr hg)
    |(go_at_call 114;refine(F.1 _ R2.1).mono ?_;rintro r w3 ⟨rfl,hr,hg⟩;have R3:=Aj hr;have G3:=Aj hg;clear hr hg))
   go_ret;exact⟨_,rfl,fun h=>absurd h hne.1,R3.1,G2.1.trans G3.1⟩
  ·have h1':¬(x:Int)<1:=by omega
   have h2':(2147483647:Int)< (x:Int):=om;clear hC hx hz;go_enter func175,ntmps175;go_wp2_with (first
    |(go_at_call 182;refine U.1.mono ?_;rintro r w2 ⟨rfl,hr,hg⟩;have R2:=Aj hr;have G2:=Aj hg;obtain⟨s0,s1,s2⟩:=(HR.1.grown hg).cells;clear hr hg)
    |(go_at_call 114;refine(F.1 _ R2.1).mono ?_;rintro r w3 ⟨rfl,hr,hg⟩;have R3:=Aj hr;have G3:=Aj hg;clear hr hg))
   go_ret;exact⟨_,rfl,fun h=>absurd h hne.1,R3.1,G2.1.trans G3.1⟩
 ·rw[Ng hx]at hC;rw[hC];have h1':¬(x:Int)<1:=om;have h2':¬(2147483647:Int)< (x:Int):=om;have h3':(x:Int)≤2147483647:=om;clear hC hx hz;go_enter func175,ntmps175;go_wp2_with (go_at_call 182;refine U.1.mono ?_;rintro r w2 ⟨rfl,hr,hg⟩;have R2:=Aj hr;have G2:=Aj hg;obtain⟨s0,s1,s2⟩:=(HR.1.grown hg).cells;clear hr hg);go_ret;exact⟨_,rfl,fun _=>by go_num,R2.1,G2.1⟩
end
end
section
section
open Go.RowKit Go.Shelf
theorem wT {w w3:World} {o} {row} (h:(w.alloc o).grownBy w3 row):w.grownBy w3 row:=
 ⟨h.os,h.tape,h.output,by have:=h.size;simp at this;omega,fun k hk hne=>(h.block k (by simp;omega) hne).trans (Aw _ _ k hk)⟩
theorem dJ {w w3:World} {row} {g k} {v} (h:w.grownBy w3 row) (hg:w.heap.size≤g):w.grownBy (w3.setCell ⟨g,k,none⟩ v) row:=by
 have s:=ag w3 ⟨g,k,none⟩ v;exact⟨s.os.trans h.os,s.tape.trans h.tape,s.output.trans h.output,Lt h.size s.size,fun j hj hne=>(s.block j (by have:=h.size;omega) (fun e=>by have:=Oj e;simp at this;omega)).trans (h.block j hj hne)⟩
theorem aD {w w'} {row} (h:Below w.heap.size w w'):w.grownBy w' row:=⟨h.os,h.tape,h.output,h.size,fun k hk _=>h.block k hk⟩
theorem RR.box {w} {q p tn tc} {TA} {T} {l} (h:RR w q p TA tn tc T l) (o):RR (w.alloc o) q p TA tn tc T l:=
 h.grown (aD ((Ae _ w).alloc Ai o))
theorem wU (w:World) (g) (a b) {cs} {t} (h:w.heap[g]? =some (.cells cs t (0,0))) (hs:cs.size=2):((w.setCell ⟨g,0,none⟩ a).setCell ⟨g,1,none⟩ b).heap[g]? =some (.cells #[a,b] t (0,0)):=by
 rw[Ag _ g 1 _ t _ (Ag w g 0 _ t _ h)];obtain⟨L,rfl⟩:∃L:List Value,cs=L.toArray:=⟨cs.toList,sm⟩
 match L,hs with
 |[_,_],_=>rfl
theorem Mh (q p a tn tc) (TA) (T) (l) (e) (w) (hR:RR w q p TA tn tc T l) (h:aK w p l a e):
  Calls prog 173 #[.pointer (some ⟨q,0,none⟩)] w fun r w'=>r= .returned (.agg #[.string (Rc.lab T l a e).1.n,.string (Rc.lab T l a e).1.v])∧aK w' p l (Rc.lab T l a e).2.1 (Rc.lab T l a e).2.2∧w.grownBy w' (some p):=by
 have hpl:=h.lt;obtain⟨W1,hW1⟩:∃W1,W1=w.alloc (.cells #[.string ⟨#[]⟩,.string ⟨#[]⟩] 59):=⟨_,rfl⟩
 have R1:Kept (RR W1 q p TA tn tc T l):=⟨by rw[hW1];exact hR.box _⟩
 have D1:Kept (aK W1 p l a e):=⟨by rw[hW1];exact h.box _⟩
 have H1:Kept (W1.heap[w.heap.size]? =some (.cells #[.string ⟨#[]⟩,.string ⟨#[]⟩] 59 (0,0))):=⟨by rw[hW1];exact Av w _⟩
 have G1:Kept (∀W,W1.grownBy W (some p)→w.grownBy W (some p)):=⟨fun W hg=>by rw[hW1]at hg;exact wT hg⟩
 have HW:=Aj hW1.symm;have S1:=Aj (sN q p a tn tc TA T l e W1 R1.1 D1.1);have hC:Rc.lab T l a e=(⟨(Rc.sym T l a e).1,(Rc.sym T l (Rc.sym T l a e).2.1 (Rc.sym T l a e).2.2).1⟩,(Rc.sym T l (Rc.sym T l a e).2.1 (Rc.sym T l a e).2.2).2):=rfl;rw[hC];generalize Rc.sym T l a e=X at*;obtain⟨x,a1,e1⟩:=X;have S2:=Aj (fun w2 (r:RR w2 q p TA tn tc T l) (d:aK w2 p l a1 e1)=>sN q p a1 tn tc TA T l e1 w2 r d);simp only[]at S1 S2⊢;generalize Rc.sym T l a1 e1=Y at*;obtain⟨y,a2,e2⟩:=Y;simp only[]at S2⊢;clear h hR hC hW1;go_enter func173,ntmps173;go_upto_region 1 with fail;rw[HW.1];go_upto_region 3 with(first
  |(go_at_call 211;refine(S2.1 w2 R2.1 D2.1).mono ?_;rintro r w3 ⟨rfl,hr,hg⟩;have D3:=Aj hr;have G3:=Aj (G2.1.trans hg);have x3:=(hg.block w.heap.size (by have:=G2.1.size;have:=(Ge.1 H1.1).1;omega) (fun e=>by have:=Oj e;omega)).trans X2.1;have c0:=Co _ _ 0 _ _ _ x3;have c1:=Co _ _ 1 _ _ _ x3;have f0:=fun k=>Fr _ _ k _ _ x3;have X3:=Aj x3;clear hr hg x3)
  |(go_at_call 211;refine S1.1.mono ?_;rintro r w2 ⟨rfl,hr,hg⟩;have D2:=Aj hr;have G2:=Aj hg;have R2:=Aj (R1.1.grown hg);have X2:=Aj ((hg.block w.heap.size ((Ge.1 H1.1).1) (fun e=>by have:=Oj e;omega)).trans H1.1);clear hr hg S1))
 refine AQ (v:= .agg #[.string x,.string y]) ?hr rfl ⟨rfl,?_,?_⟩
 case hr=>exact results_cell_row (fn:=Tryz.f173) (p:=2) (ty:=59) rfl _ _ w.heap.size _ _ _ _ rfl (wU w3 w.heap.size _ _ X3.1 rfl) underlying59 rfl kr
 ·exact D3.1.below (((Ae w.heap.size w3).setCell (p:=⟨w.heap.size,0,none⟩) Ai _).setCell (p:=⟨w.heap.size,1,none⟩) Ai _) hpl
 ·exact dJ (dJ (G1.1 w3 G3.1) Ai) Ai
namespace Rc
def jJ {X:Type} (rd:Nat→Int→X×Nat×Int):Nat→List X→Nat→Int→List X×Nat×Int
 |0,acc,a,e=>(acc,a,e)
 |n+1,acc,a,e=>let r:=rd a e;if r.2.2≠0 then([],r.2.1,r.2.2)else jJ rd n (acc++[r.1]) r.2.1 r.2.2
theorem dz {X} (rd:Nat→Int→X×Nat×Int) (acc) (a) (e):jJ rd 0 acc a e=(acc,a,e):=rfl
theorem iI {X} (rd:Nat→Int→X×Nat×Int) (n) (acc) (a) (e) (hn:0<n) (h:(rd a e).2.2≠0):jJ rd n acc a e=([],(rd a e).2.1,(rd a e).2.2):=by
 obtain⟨m,rfl⟩:∃m,n=m+1:=⟨n-1,om⟩
 unfold jJ;exact Ps0 h
theorem iO {X} (rd:Nat→Int→X×Nat×Int) (n) (acc) (a) (e) (hn:0<n) (h:(rd a e).2.2=0):jJ rd n acc a e=jJ rd (n-1) (acc++[(rd a e).1]) (rd a e).2.1 0:=by
 obtain⟨m,rfl⟩:∃m,n=m+1:=⟨n-1,om⟩
 rw[Bn]
 conv=>lhs;unfold jJ
 refine(Ng (by simp[h])).trans ?_;rw[h]
def fE (T:List ByteArray) (l:List UInt8) (a:Nat) (e:Int):List bf×Nat×Int:=jJ (lab T l) (cnt l a e).1 [] (cnt l a e).2.1 (cnt l a e).2.2
def lens (l:List UInt8) (a:Nat) (e:Int):List Nat×Nat×Int:=jJ (len l) (cnt l a e).1 [] (cnt l a e).2.1 (cnt l a e).2.2
theorem sO (l) (a) (e) (h:a≤l.length):(cnt l a e).1≤l.length:=by
 unfold cnt;simp only[];split
 ·exact bE _
 ·split
  ·exact bE _
  ·have:=Wr.yl l a mx e h;omega
end Rc
end
end
section
section
open Go.RowKit Go.Shelf
theorem bV.past {w w'} {base n c p} {A} {l} (h:bV w base A n c l) (hg:w.grownBy w' (some p)) (hp:p<base):bV w' base A n c l:=
 af h hg (by
  rcases hA:ab A with _|g
  ·exact .inl rfl
  ·refine .inr fun e=>?_
   have:=(ae h g hA).1;have:=Oj e;omega)
theorem aO.past {w w'} {base n c p} {A} {l} (h:aO w base A n c l) (hg:w.grownBy w' (some p)) (hp:p<base):aO w' base A n c l:=
 af h hg (by
  rcases hA:ab A with _|g
  ·exact .inl rfl
  ·refine .inr fun e=>?_
   have:=(ae h g hA).1;have:=Oj e;omega)
theorem aO.nil (w) (base):aO w base none 0 0 []:=⟨rfl,.inl ⟨rfl,rfl⟩⟩
def vI (w:World) (base:Nat) (A:Option Addr) (n c:Nat) (l:List Nat):Prop:=aO w base A n c (l.map Int.ofNat)
theorem vI.app {w} {base n c x:Nat} {A} {l} (h:aO w base A n c (l.map Int.ofNat++[(x:Int)])):vI w base A n c (l++[x]):=by
 unfold vI;rw[dY];exact h
theorem fD.one (w:World) (x):fD (w.alloc (.cells #[.string x.n,.string x.v] 59)) (w.heap.size+1) (some ⟨w.heap.size,0,none⟩) 1 1 [x]:=fD.lit w [x] (0,0) sm
theorem ig {w w1 w':World} {row} (h:w.grownBy w1 row) (b:Below w.heap.size w1 w'):w.grownBy w' row:=
 ⟨b.os.trans h.os,b.tape.trans h.tape,b.output.trans h.output,Lt h.size b.size,fun k hk hne=>(b.block k hk).trans (h.block k hk hne)⟩
theorem Em (q p a tn tc) (TA) (T) (l) (e) (w) (hR:RR w q p TA tn tc T l) (h:aK w p l a e) (hll:l.length≤20000000):
  Calls prog 172 #[.pointer (some ⟨q,0,none⟩),.func (.func 173) #[.pointer (some ⟨q,0,none⟩)] #[]] w fun r w'=>∃A n c,r= .returned (.slice A n c)∧bV w' w.heap.size A n c (Rc.fE T l a e).1∧aK w' p l (Rc.fE T l a e).2.1 (Rc.fE T l a e).2.2∧w.grownBy w' (some p):=by
 have hpl:=h.lt;have hqp:=hR.2.1;have HR:=Aj hR;have CN:=Aj (pI q p a tn tc TA T l e w hR h);have hcl:=Rc.sO l a e h.len.2;obtain⟨M,hM⟩:∃M,M=Rc.fE T l a e:=⟨_,rfl⟩
 rw[←hM];have HM:Kept (M=Rc.jJ (Rc.lab T l) (Rc.cnt l a e).1 [] (Rc.cnt l a e).2.1 (Rc.cnt l a e).2.2):=⟨hM⟩
 generalize Rc.cnt l a e=X at*;obtain⟨n,a1,e1⟩:=X;simp only[]at CN hcl HM;clear h hR hM;have rD:n≤20000000:=om;go_enter func172,ntmps172;go_upto_region 3 with(go_at_call 171;refine CN.1.mono ?_;rintro r w1 ⟨rfl,hr,hg⟩;have D1:=Aj hr;have G1:=Aj hg;clear hr hg CN)
 go_loopw [5,9] (fun o i wr=>∃k:Nat,k≤n∧i= .int .i64 k∧∃A m c acc a2 e2,o= .slice A m c∧bV wr w.heap.size A m c acc∧aK wr p l a2 e2∧Kept (m=k∧M=Rc.jJ (Rc.lab T l) (n-k) acc a2 e2)∧w.grownBy wr (some p)) (fun _ i _=>n-(intOf i).toNat)
 case atStart=>exact⟨0,om,rfl,none,0,0,[],a1,e1,rfl,bV.nil _ _,D1.1,⟨rfl,HM.1⟩,G1.1⟩
 case round=>
  clear D1 G1;obtain⟨k,hk,rfl,A,m,c,acc,a2,e2,rfl,ho,hd,hm,hg⟩:=hrel;have hz:=hg.size;by_cases hlt:k<n
  ·have hm6:m≤20000000:=by have:=hm.1.1;omega
   have O:=Aj ho;have G:=Aj hg;have RW:=Aj (HR.1.grown hg);have EL:=Aj (Mh q p a2 tn tc TA T l e2 wr RW.1 hd);have hbad:=Aj (fun h=>hm.1.2.trans (Rc.iI (Rc.lab T l) (n-k) acc a2 e2 om h));have hok:=Aj (fun h=>hm.1.2.trans (Rc.iO (Rc.lab T l) (n-k) acc a2 e2 om h));generalize Rc.lab T l a2 e2=Y at*;obtain⟨x,a3,e3⟩:=Y;simp only[]at EL hbad hok;clear ho hd hg;by_cases he:e3=0
   ·subst he;have hok2:=Aj (hok.1 rfl);clear hok hbad;go_wp2_with (first
     |(go_at_call 173;refine EL.1.mono ?_;rintro r w2 ⟨rfl,hr,hg⟩;have O2:=Aj (bV.past O.1 hg hpl);have OB:=Aj (Oa O2.1 (.cells #[.string x.n,.string x.v] 59));have DB:=Aj (hr.box (.cells #[.string x.n,.string x.v] 59));have GB:Kept (w.grownBy (w2.alloc (.cells #[.string x.n,.string x.v] 59)) (some p)):=⟨(G.1.trans hg).trans (aD ((Ae _ w2).alloc Ai _))⟩;obtain⟨q0,q1,q2⟩:=(HR.1.grown GB.1).cells;have b0:=Au w2 #[.string x.n,.string x.v] 59 (0,0) 0;have b1:=Au w2 #[.string x.n,.string x.v] 59 (0,0) 1;generalize hWB:w2.alloc (.cells #[.string x.n,.string x.v] 59)=WB at*;clear hr hg O2 EL)
     |(go_at_call 120;refine(az p a3 l 0 _ (by exact DB.1)).mono ?_;rintro r w9 ⟨rfl,rfl⟩)
     |(at_builtin;refine qB rfl (.tmp 19) (.tmp 21) rfl w.heap.size A m c acc rfl (Oa OB.1 _) (WB.heap.size+1) _ _ _ [x] rfl (fD.one WB x) om (by have:=GB.1.size;simp;omega) ?_;intro A4 c4 w4 ax aj di;have O4:=Aj ax;have B4:Kept (Below w.heap.size WB w4):=⟨((Ae w.heap.size WB).alloc GB.1.size _).grown aj (by have:=GB.1.size;simp;omega) (fun g e=>(ae OB.1 g e).1)⟩;have D4:=Aj (DB.1.below B4.1 hpl);have G4:=Aj (ig GB.1 B4.1);clear ax aj di))
    go_roundw
    case rel=>exact⟨k+1,om,by go_num,A4,_,c4,_,a3,0,rfl,O4.1,D4.1,⟨by rw[hm.1.1],by rw[hok2.1,Nat.sub_sub]⟩,G4.1⟩
    case measure=>simp[intOf];omega
   ·have Eo:=Aj (hbad.1 he);have wG:(e3==0)=false:=by simpa using he
    clear hbad hok;go_wp2_with (first
     |(go_at_call 173;refine EL.1.mono ?_;rintro r w2 ⟨rfl,hr,hg⟩;have O2:=Aj (bV.past O.1 hg hpl);have OB:=Aj (Oa O2.1 (.cells #[.string x.n,.string x.v] 59));have DB:=Aj (hr.box (.cells #[.string x.n,.string x.v] 59));have GB:Kept (w.grownBy (w2.alloc (.cells #[.string x.n,.string x.v] 59)) (some p)):=⟨(G.1.trans hg).trans (aD ((Ae _ w2).alloc Ai _))⟩;obtain⟨q0,q1,q2⟩:=(HR.1.grown GB.1).cells;have b0:=Au w2 #[.string x.n,.string x.v] 59 (0,0) 0;have b1:=Au w2 #[.string x.n,.string x.v] 59 (0,0) 1;generalize hWB:w2.alloc (.cells #[.string x.n,.string x.v] 59)=WB at*;clear hr hg O2 EL)
     |(go_at_call 120;refine(az p a3 l e3 _ (by exact DB.1)).mono ?_;rintro r w9 ⟨rfl,rfl⟩))
    go_ret;refine⟨none,0,0,rfl,?_⟩;rw[Eo.1];exact⟨bV.nil _ _,DB.1,GB.1⟩
  ·have hM2:Kept (M=(acc,a2,e2)):=⟨by rw[hm.1.2,show n-k=0 from om,Rc.dz]⟩
   have O:=Aj ho;have D:=Aj hd;have G:=Aj hg;clear ho hd hg;go_wp2;go_ret;refine⟨A,m,c,rfl,?_⟩;rw[hM2.1];exact⟨O.1,D.1,G.1⟩
theorem Ep (q p a tn tc) (TA) (T) (l) (e) (w) (hR:RR w q p TA tn tc T l) (h:aK w p l a e) (hll:l.length≤20000000):
  Calls prog 174 #[.pointer (some ⟨q,0,none⟩),.func (.func 175) #[.pointer (some ⟨q,0,none⟩)] #[]] w fun r w'=>∃A n c,r= .returned (.slice A n c)∧vI w' w.heap.size A n c (Rc.lens l a e).1∧aK w' p l (Rc.lens l a e).2.1 (Rc.lens l a e).2.2∧w.grownBy w' (some p):=by
 have hpl:=h.lt;have hqp:=hR.2.1;have HR:=Aj hR;have CN:=Aj (pI q p a tn tc TA T l e w hR h);have hcl:=Rc.sO l a e h.len.2;obtain⟨M,hM⟩:∃M,M=Rc.lens l a e:=⟨_,rfl⟩
 rw[←hM];have HM:Kept (M=Rc.jJ (Rc.len l) (Rc.cnt l a e).1 [] (Rc.cnt l a e).2.1 (Rc.cnt l a e).2.2):=⟨hM⟩
 generalize Rc.cnt l a e=X at*;obtain⟨n,a1,e1⟩:=X;simp only[]at CN hcl HM;clear h hR hM;have rD:n≤20000000:=om;go_enter func174,ntmps174;go_upto_region 3 with(go_at_call 171;refine CN.1.mono ?_;rintro r w1 ⟨rfl,hr,hg⟩;have D1:=Aj hr;have G1:=Aj hg;clear hr hg CN)
 go_loopw [5,9] (fun o i wr=>∃k:Nat,k≤n∧i= .int .i64 k∧∃A m c acc a2 e2,o= .slice A m c∧vI wr w.heap.size A m c acc∧aK wr p l a2 e2∧Kept (m=k∧M=Rc.jJ (Rc.len l) (n-k) acc a2 e2)∧w.grownBy wr (some p)) (fun _ i _=>n-(intOf i).toNat)
 case atStart=>exact⟨0,om,rfl,none,0,0,[],a1,e1,rfl,aO.nil _ _,D1.1,⟨rfl,HM.1⟩,G1.1⟩
 case round=>
  clear D1 G1;obtain⟨k,hk,rfl,A,m,c,acc,a2,e2,rfl,ho,hd,hm,hg⟩:=hrel;have hz:=hg.size;by_cases hlt:k<n
  ·have hm6:m≤20000000:=by have:=hm.1.1;omega
   have O:=Aj ho;have G:=Aj hg;have RW:=Aj (HR.1.grown hg);have EL:=Aj (Ic q p a2 tn tc TA T l e2 wr RW.1 hd);have hbad:=Aj (fun h=>hm.1.2.trans (Rc.iI (Rc.len l) (n-k) acc a2 e2 om h));have hok:=Aj (fun h=>hm.1.2.trans (Rc.iO (Rc.len l) (n-k) acc a2 e2 om h));generalize Rc.len l a2 e2=Y at*;obtain⟨x,a3,e3⟩:=Y;simp only[]at EL hbad hok;clear ho hd hg;by_cases he:e3=0
   ·subst he;have hok2:=Aj (hok.1 rfl);clear hok hbad;go_wp2_with (first
     |(go_at_call 175;refine EL.1.mono ?_;rintro r WB ⟨v,rfl,hv,hr,hg⟩;have OB:=Aj (aO.past O.1 hg hpl);have DB:=Aj hr;have HV:=Aj hv;have GB:=Aj (G.1.trans hg);obtain⟨q0,q1,q2⟩:=(HR.1.grown GB.1).cells;obtain rfl:v=(x:Int):=hv rfl;clear hr hg hv HV EL)
     |(go_at_call 120;refine(az p a3 l 0 _ (by exact DB.1)).mono ?_;rintro r w9 ⟨rfl,rfl⟩)
     |(at_builtin;refine dS rfl (.tmp 19) (.tmp 21) rfl w.heap.size A m c (acc.map Int.ofNat) rfl (Oa OB.1 _) (WB.heap.size+1) _ _ _ [(x:Int)] rfl (jv.one WB x) om (by have:=GB.1.size;simp;omega) ?_;intro A4 c4 w4 ax aj di;have O4:=Aj ax;have B4:Kept (Below w.heap.size WB w4):=⟨((Ae w.heap.size WB).alloc GB.1.size _).grown aj (by have:=GB.1.size;simp;omega) (fun g e=>(ae OB.1 g e).1)⟩;have D4:=Aj (DB.1.below B4.1 hpl);have G4:=Aj (ig GB.1 B4.1);clear ax aj di))
    go_roundw
    case rel=>exact⟨k+1,om,by go_num,A4,_,c4,_,a3,0,rfl,vI.app O4.1,D4.1,⟨by rw[hm.1.1],by rw[hok2.1,Nat.sub_sub]⟩,G4.1⟩
    case measure=>simp[intOf];omega
   ·have Eo:=Aj (hbad.1 he);have wG:(e3==0)=false:=by simpa using he
    clear hbad hok;go_wp2_with (first
     |(go_at_call 175;refine EL.1.mono ?_;rintro r WB ⟨v,rfl,hv,hr,hg⟩;have OB:=Aj (aO.past O.1 hg hpl);have DB:=Aj hr;have HV:=Aj hv;have GB:=Aj (G.1.trans hg);obtain⟨q0,q1,q2⟩:=(HR.1.grown GB.1).cells;clear hr hg hv HV EL)
     |(go_at_call 120;refine(az p a3 l e3 _ (by exact DB.1)).mono ?_;rintro r w9 ⟨rfl,rfl⟩))
    go_ret;refine⟨none,0,0,rfl,?_⟩;rw[Eo.1];exact⟨aO.nil _ _,DB.1,GB.1⟩
  ·have hM2:Kept (M=(acc,a2,e2)):=⟨by rw[hm.1.2,show n-k=0 from om,Rc.dz]⟩
   have O:=Aj ho;have D:=Aj hd;have G:=Aj hg;clear ho hd hg;go_wp2;go_ret;refine⟨A,m,c,rfl,?_⟩;rw[hM2.1];exact⟨O.1,D.1,G.1⟩
end
end
section
section
open Go.RowKit Go.Shelf
namespace Rc
def rec (T:List ByteArray) (l:List UInt8) (a:Nat) (e:Int):(List bf×List Nat)×Nat×Int:=
 let x:=fE T l a e
 let y:=lens l x.2.1 x.2.2
 ((x.1,y.1),y.2.1,if y.1=[]∧y.2.2=0 then 23 else y.2.2)
end Rc
theorem aT {w:World} {base n c sz g k} {A} {xs} {t} {v} (h:w.ownsRow base t sz (.slice A n c) n xs) (hne:∀g',ab A=some g'→g'≠g):(w.setCell ⟨g,k,none⟩ v).ownsRow base t sz (.slice A n c) n xs:=
 af h (ag w ⟨g,k,none⟩ v) (by
  rcases hA:ab A with _|g'
  ·exact .inl rfl
  ·exact .inr fun e=>hne g' hA (Oj e))
theorem bK {w:World} {b1 b2 sz n c} {A} {xs} {e} (h:w.ownsRow b1 e sz (.slice A n c) n xs) (hb:b2≤b1):w.ownsRow b2 e sz (.slice A n c) n xs:=
 ⟨h.1,h.2.imp id fun⟨g,cap,cur,h1,h2,h3⟩=>⟨g,cap,cur,h1,om,h3⟩⟩
theorem aK.ym {w} {p a g k} {l} {e} {v} (h:aK w p l a e) (hg:p<g):aK (w.setCell ⟨g,k,none⟩ v) p l a e:=
 h.below ((Ae g w).setCell (p:=⟨g,k,none⟩) Ai _) hg
theorem Ie (q p a tn tc) (TA) (T) (l) (e) (w) (hR:RR w q p TA tn tc T l) (h:aK w p l a e) (hll:l.length≤20000000):
  Calls prog 122 #[.pointer (some ⟨q,0,none⟩)] w fun r w'=>∃A1 n1 c1 A2 n2 c2,r= .returned (.agg #[.slice A1 n1 c1,.slice A2 n2 c2])∧bV w' w.heap.size A1 n1 c1 (Rc.rec T l a e).1.1∧vI w' w.heap.size A2 n2 c2 (Rc.rec T l a e).1.2∧aK w' p l (Rc.rec T l a e).2.1 (Rc.rec T l a e).2.2∧w.grownBy w' (some p):=by
 have hpl:=h.lt;obtain⟨W1,hW1⟩:∃W1,W1=w.alloc (.cells #[.slice none 0 0,.slice none 0 0] 146):=⟨_,rfl⟩
 have R1:Kept (RR W1 q p TA tn tc T l):=⟨by rw[hW1];exact hR.box _⟩
 have D1:Kept (aK W1 p l a e):=⟨by rw[hW1];exact h.box _⟩
 have H1:Kept (W1.heap[w.heap.size]? =some (.cells #[.slice none 0 0,.slice none 0 0] 146 (0,0))):=⟨by rw[hW1];exact Av w _⟩
 have Z1:Kept (w.heap.size<W1.heap.size):=⟨by rw[hW1];simp⟩
 have G1:Kept (∀W,W1.grownBy W (some p)→w.grownBy W (some p)):=⟨fun W hg=>by rw[hW1]at hg;exact wT hg⟩
 have HW:=Aj hW1.symm;have S1:=Aj (Em q p a tn tc TA T l e W1 R1.1 D1.1 hll);have hC:Rc.rec T l a e=(((Rc.fE T l a e).1,(Rc.lens l (Rc.fE T l a e).2.1 (Rc.fE T l a e).2.2).1),(Rc.lens l (Rc.fE T l a e).2.1 (Rc.fE T l a e).2.2).2.1,if(Rc.lens l (Rc.fE T l a e).2.1 (Rc.fE T l a e).2.2).1=[]∧(Rc.lens l (Rc.fE T l a e).2.1 (Rc.fE T l a e).2.2).2.2=0 then 23 else(Rc.lens l (Rc.fE T l a e).2.1 (Rc.fE T l a e).2.2).2.2):=rfl;rw[hC];generalize Rc.fE T l a e=X at*;obtain⟨L,a1,e1⟩:=X;have S2:=Aj (fun w2 (r:RR w2 q p TA tn tc T l) (d:aK w2 p l a1 e1)=>Ep q p a1 tn tc TA T l e1 w2 r d hll);simp only[]at S1 S2⊢;generalize Rc.lens l a1 e1=Y at*;obtain⟨C,a2,e2⟩:=Y;simp only[]at S2⊢;obtain⟨E,hE⟩:∃E:Int,E=(if C=[]∧e2=0 then 23 else e2):=⟨_,rfl⟩
 rw[←hE];have HE:=Aj hE;clear h hR hC hW1 hE;go_enter func122,ntmps122;go_upto_region 1 with fail;rw[HW.1];go_upto_region 2 with(go_at_call 172;refine S1.1.mono ?_;rintro r w2 ⟨A1,n1,c1,rfl,ho,hr,hg⟩;have O2:=Aj ho;have D2:=Aj hr;have G2:=Aj hg;have R2:=Aj (R1.1.grown hg);have X2:=Aj ((hg.block w.heap.size Z1.1 (fun e=>by have:=Oj e;omega)).trans H1.1);clear hr hg ho S1)
 have R2b:=Aj (R2.1.box (.cells #[.slice A1 n1 c1,.slice none 0 0] 146));have D2b:=Aj (D2.1.box (.cells #[.slice A1 n1 c1,.slice none 0 0] 146));have O2b:=Aj (Oa O2.1 (.cells #[.slice A1 n1 c1,.slice none 0 0] 146));have z2:=G2.1.size;have z1:=Z1.1;have hlt1:∀g,ab A1=some g→W1.heap.size≤g∧g<w2.heap.size:=fun g hg=>ae O2.1 g hg
 have X2b:Kept ((w2.alloc (.cells #[.slice A1 n1 c1,.slice none 0 0] 146)).heap[w.heap.size]? =some (.cells #[.slice none 0 0,.slice none 0 0] 146 (0,0))):=⟨(Aw _ _ _ om).trans X2.1⟩
 have H2:Kept ((w2.alloc (.cells #[.slice A1 n1 c1,.slice none 0 0] 146)).heap[w2.heap.size]? =some (.cells #[.slice A1 n1 c1,.slice none 0 0] 146 (0,0))):=⟨Av w2 _⟩
 have G2b:Kept (W1.grownBy (w2.alloc (.cells #[.slice A1 n1 c1,.slice none 0 0] 146)) (some p)):=⟨G2.1.trans (aD ((Ae _ w2).alloc Ai _))⟩
 have zW:w2.heap.size< (w2.alloc (.cells #[.slice A1 n1 c1,.slice none 0 0] 146)).heap.size:=sm;clear R2 D2 O2 X2 G2;generalize w2.alloc (.cells #[.slice A1 n1 c1,.slice none 0 0] 146)=W2 at*;generalize w2.heap.size=g3 at*;go_upto_region 3 with(go_at_call 174;refine(S2.1 W2 R2b.1 D2b.1).mono ?_;rintro r w3 ⟨A2,n2,c2,rfl,ho,hr,hg⟩;have O3:=Aj (bV.past O2b.1 hg om);have N3:=Aj ho;have D3:=Aj hr;have G3:=Aj (G2b.1.trans hg);have x3:=(hg.block w.heap.size om (fun e=>by have:=Oj e;omega)).trans X2b.1;have h3:=(hg.block g3 zW (fun e=>by have:=Oj e;omega)).trans H2.1;have X3:=Aj x3;have H3:=Aj h3;have k0:=Co _ _ 0 _ _ _ h3;have k1:=Co _ _ 1 _ _ _ h3;have kf:=fun k=>Fr _ _ k _ _ h3;have hlt2:∀g,ab A2=some g→W2.heap.size≤g:=(fun g hgg=>(ae ho g hgg).1);have z3:=hg.size;clear hr hg ho S2 x3 h3)
 have hn2:n2=C.length:=by have:=aO.len N3.1;simpa using this
 have O4:Kept (bV (w3.setCell ⟨g3,1,none⟩ (.slice A2 n2 c2)) W1.heap.size A1 n1 c1 L):=⟨aT O3.1 fun g hg=>by have:=hlt1 g hg;omega⟩
 have N4:Kept (vI (w3.setCell ⟨g3,1,none⟩ (.slice A2 n2 c2)) W2.heap.size A2 n2 c2 C):=⟨aT N3.1 fun g hg=>by have:=hlt2 g hg;omega⟩
 have D4:Kept (aK (w3.setCell ⟨g3,1,none⟩ (.slice A2 n2 c2)) p l a2 e2):=⟨D3.1.ym om⟩
 have G4:Kept (W1.grownBy (w3.setCell ⟨g3,1,none⟩ (.slice A2 n2 c2)) (some p)):=⟨dJ G3.1 om⟩
 have H4:Kept ((w3.setCell ⟨g3,1,none⟩ (.slice A2 n2 c2)).heap[g3]? =some (.cells #[.slice A1 n1 c1,.slice A2 n2 c2] 146 (0,0))):=⟨Ag w3 g3 1 _ _ _ H3.1⟩
 have X4:Kept ((w3.setCell ⟨g3,1,none⟩ (.slice A2 n2 c2)).heap[w.heap.size]? =some (.cells #[.slice none 0 0,.slice none 0 0] 146 (0,0))):=⟨((ag w3 ⟨g3,1,none⟩ (.slice A2 n2 c2)).block w.heap.size om (fun e=>by have:=Oj e;simp at this;omega)).trans X3.1⟩
 have z4:w3.heap.size=(w3.setCell ⟨g3,1,none⟩ (.slice A2 n2 c2)).heap.size:=sm;have Z4:=Aj z4;clear z4 O3 N3 D3 G3 H3 X3 k0 k1 kf;generalize w3.setCell ⟨g3,1,none⟩ (.slice A2 n2 c2)=W4 at*;obtain⟨q0,q1,q2⟩:=(R1.1.grown G4.1).cells;have k0:=Co _ _ 0 _ _ _ H4.1;have k1:=Co _ _ 1 _ _ _ H4.1;have y0:=Co _ _ 0 _ _ _ X4.1;have y1:=Co _ _ 1 _ _ _ X4.1;have yf:=fun k=>Fr _ _ k _ _ X4.1
 have fin:∀W5 (e5:Int),W5.heap[w.heap.size]? =some (.cells #[.slice none 0 0,.slice none 0 0] 146 (0,0))→bV W5 W1.heap.size A1 n1 c1 L→vI W5 W2.heap.size A2 n2 c2 C→aK W5 p l a2 e5→W1.grownBy W5 (some p)→
   (((W5.setCell ⟨w.heap.size,0,none⟩ (.slice A1 n1 c1)).setCell ⟨w.heap.size,1,none⟩ (.slice A2 n2 c2)).heap[w.heap.size]? =some (.cells #[.slice A1 n1 c1,.slice A2 n2 c2] 146 (0,0)))∧
   bV ((W5.setCell ⟨w.heap.size,0,none⟩ (.slice A1 n1 c1)).setCell ⟨w.heap.size,1,none⟩ (.slice A2 n2 c2)) w.heap.size A1 n1 c1 L∧vI ((W5.setCell ⟨w.heap.size,0,none⟩ (.slice A1 n1 c1)).setCell ⟨w.heap.size,1,none⟩ (.slice A2 n2 c2)) w.heap.size A2 n2 c2 C∧
   aK ((W5.setCell ⟨w.heap.size,0,none⟩ (.slice A1 n1 c1)).setCell ⟨w.heap.size,1,none⟩ (.slice A2 n2 c2)) p l a2 e5∧w.grownBy ((W5.setCell ⟨w.heap.size,0,none⟩ (.slice A1 n1 c1)).setCell ⟨w.heap.size,1,none⟩ (.slice A2 n2 c2)) (some p):=fun W5 e5 h1 h2 h3 h4 h5=>
  ⟨wU W5 w.heap.size _ _ h1 rfl,
   bK (aT (aT h2 fun g hg=>by have:=hlt1 g hg;omega) fun g hg=>by have:=hlt1 g hg;omega) om,
   bK (aT (aT h3 fun g hg=>by have:=hlt2 g hg;omega) fun g hg=>by have:=hlt2 g hg;omega) om,
   (h4.ym hpl).ym hpl,dJ (dJ (G1.1 W5 h5) Ai) Ai⟩
 have FIN:=Aj fin;have Zb:Kept (p<W1.heap.size∧p<W2.heap.size):=⟨om,om⟩
 have Zs:Kept (w.heap.size<W4.heap.size∧g3<W4.heap.size∧p<w.heap.size∧p<g3):=⟨by have:=Z4.1;omega,by have:=Z4.1;omega,hpl,om⟩
 clear fin hlt1 hlt2 z1 z2 z3 zW Z4;by_cases hc0:C=[]
 ·have hn0:n2=0:=by rw[hn2,hc0];rfl
  have hE:(if e2=0 then(23:Int)else e2)=E:=by rw[HE.1];simp[hc0]
  have FL:=Aj (bU p a2 l e2 23 W4 D4.1);rw[hE]at FL;clear hn2 hE hc0;subst hn0;go_wp2_with (go_at_call 114;refine FL.1.mono ?_;rintro r w5 ⟨rfl,hr,hg⟩;have hx5:=(hg.block w.heap.size Zs.1.1 (fun e=>by have:=Oj e;have:=Zs.1.2.2.1;omega)).trans X4.1;have hh5:=(hg.block g3 Zs.1.2.1 (fun e=>by have:=Oj e;have:=Zs.1.2.2.2;omega)).trans H4.1;have m0:=Co _ _ 0 _ _ _ hh5;have m1:=Co _ _ 1 _ _ _ hh5;have x0:=Co _ _ 0 _ _ _ hx5;have x1:=Co _ _ 1 _ _ _ hx5;have xf:=fun k=>Fr _ _ k _ _ hx5;have F5:=Aj (FIN.1 w5 E hx5 (bV.past O4.1 hg Zb.1.1) (aO.past N4.1 hg Zb.1.2) hr (G4.1.trans hg));clear hr hg hx5 hh5 FL);obtain⟨f1,f2,f3,f4,f5⟩:=F5.1;refine AQ (v:= .agg #[.slice A1 n1 c1,.slice A2 0 c2]) ?hr rfl ⟨A1,n1,c1,A2,0,c2,rfl,f2,f3,f4,f5⟩
  case hr=>exact results_cell_row (fn:=Tryz.f122) (p:=2) (ty:=146) rfl _ _ w.heap.size _ _ _ _ rfl f1 underlying146 rfl kr
 ·have hE:E=e2:=by rw[HE.1];simp[hc0]
  have Wp:¬n2=0:=by
   rw[hn2];exact fun h=>hc0 (vg h)
  have F5:=Aj (FIN.1 W4 e2 X4.1 O4.1 N4.1 D4.1 G4.1);rw[←hE]at F5;clear hn2 hE hc0;go_wp2;obtain⟨f1,f2,f3,f4,f5⟩:=F5.1;refine AQ (v:= .agg #[.slice A1 n1 c1,.slice A2 n2 c2]) ?hr rfl ⟨A1,n1,c1,A2,n2,c2,rfl,f2,f3,f4,f5⟩
  case hr=>exact results_cell_row (fn:=Tryz.f122) (p:=2) (ty:=146) rfl _ _ w.heap.size _ _ _ _ rfl f1 underlying146 rfl kr
end
end
section
section
open Go.RowKit Go.Shelf
abbrev jK:=List bf×List Int
def bS (hs:List (Value×Value)):List Value:=hs.flatMap fun h=>[h.1,h.2]
theorem gT (hs):(bS hs).length=hs.length*2:=by
 unfold bS
 induction hs with
 |nil=>rfl
 |cons x hs ih=>rw[Aq,La,ih,Lc];simp;omega
theorem wV (a b):bS (a++b)=bS a++bS b:=by simp[bS]
theorem fF (hs) (i) (h:i<hs.length):(bS hs)[i*2]? =some hs[i].1∧(bS hs)[i*2+1]? =some hs[i].2:=by
 unfold bS
 induction hs generalizing i with
 |nil=>simp at h
 |cons x hs ih=>
  rw[Aq];cases i with
  |zero=>exact⟨rfl,rfl⟩
  |succ i=>
   rw[Bq (by simp;omega),Bq (by simp;omega)];have:=ih i (by simpa using h);simp only[Lc,AB,Bz];rw[show(i+1)*2-(0+1+1)=i*2 from om,show(i+1)*2+1-(0+1+1)=i*2+1 from om];exact this
def jL (w:World) (base:Nat) (A:Option Addr) (n c:Nat) (rs:List jK):Prop:=
 ∃hs:List (Value×Value),w.ownsRow base 146 2 (.slice A n c) n (bS hs)∧hs.length=rs.length∧
  ∀(i:Nat) (h:i<hs.length) (h':i<rs.length),∃A1 n1 c1 A2 n2 c2,hs[i]=(.slice A1 n1 c1,.slice A2 n2 c2)∧bV w base A1 n1 c1 rs[i].1∧aO w base A2 n2 c2 rs[i].2
def uX (w:World) (B:Nat) (A:Option Addr) (n c:Nat) (rs:List jK):Prop:=
 ∃hs:List (Value×Value),Rd w B 2 A n c (bS hs)∧hs.length=rs.length∧
  ∀(i:Nat) (h:i<hs.length) (h':i<rs.length),∃A1 n1 c1 A2 n2 c2,hs[i]=(.slice A1 n1 c1,.slice A2 n2 c2)∧fD w B A1 n1 c1 rs[i].1∧jv w B A2 n2 c2 rs[i].2
theorem jL.nil (w) (base):jL w base none 0 0 []:=⟨[],⟨rfl,.inl ⟨rfl,rfl⟩⟩,rfl,fun i h=>by simp at h⟩
theorem jL.rd {w} {base n c} {A} {rs} (h:jL w base A n c rs):uX w w.heap.size A n c rs:=by
 obtain⟨hs,h1,h2,h3⟩:=h;exact⟨hs,Rd.bP h1,h2,fun i a b=>by obtain⟨A1,n1,c1,A2,n2,c2,e,p,q⟩:=h3 i a b;exact⟨A1,n1,c1,A2,n2,c2,e,p.rd,q.rd⟩⟩
theorem uX.len {w} {B n c} {A} {rs} (h:uX w B A n c rs):n=rs.length:=by
 obtain⟨hs,h1,h2,-⟩:=h;have:=h1.2.2.1;rw[gT]at this;omega
theorem uX.below {w w'} {B n c} {A} {rs} (h:uX w B A n c rs) (hb:Below B w w'):uX w' B A n c rs:=by
 obtain⟨hs,h1,h2,h3⟩:=h;exact⟨hs,Rd.below h1 hb,h2,fun i a b=>by obtain⟨A1,n1,c1,A2,n2,c2,e,p,q⟩:=h3 i a b;exact⟨A1,n1,c1,A2,n2,c2,e,p.below hb,q.below hb⟩⟩
theorem uX.more {w} {B B' n c} {A} {rs} (h:uX w B A n c rs) (hB:B≤B'):uX w B' A n c rs:=by
 obtain⟨hs,h1,h2,h3⟩:=h;exact⟨hs,Rd.more h1 hB,h2,fun i a b=>by obtain⟨A1,n1,c1,A2,n2,c2,e,p,q⟩:=h3 i a b;exact⟨A1,n1,c1,A2,n2,c2,e,p.more hB,q.more hB⟩⟩
theorem dK {w w':World} {base n c sz p} {A} {xs} {e} (h:w.ownsRow base e sz (.slice A n c) n xs) (hg:w.grownBy w' (some p)) (hp:p<base):w'.ownsRow base e sz (.slice A n c) n xs:=
 af h hg (by
  rcases hA:ab A with _|g
  ·exact .inl rfl
  ·refine .inr fun e=>?_
   have:=(ae h g hA).1;have:=Oj e;omega)
theorem jL.past {w w'} {base n c p} {A} {rs} (h:jL w base A n c rs) (hg:w.grownBy w' (some p)) (hp:p<base):jL w' base A n c rs:=by
 obtain⟨hs,h1,h2,h3⟩:=h;exact⟨hs,dK h1 hg hp,h2,fun i a b=>by obtain⟨A1,n1,c1,A2,n2,c2,e,p,q⟩:=h3 i a b;exact⟨A1,n1,c1,A2,n2,c2,e,dK p hg hp,dK q hg hp⟩⟩
theorem jL.alloc {w} {base n c} {A} {rs} (h:jL w base A n c rs) (o):jL (w.alloc o) base A n c rs:=by
 obtain⟨hs,h1,h2,h3⟩:=h;exact⟨hs,Oa h1 o,h2,fun i a b=>by obtain⟨A1,n1,c1,A2,n2,c2,e,p,q⟩:=h3 i a b;exact⟨A1,n1,c1,A2,n2,c2,e,Oa p o,Oa q o⟩⟩
theorem dU {w:World} {b1 b2 sz1 sz2 n1 n2 c1 c2} {A1 A2} {xs1 xs2} {e1 e2} (h1:w.ownsRow b1 e1 sz1 (.slice A1 n1 c1) n1 xs1) (h2:w.ownsRow b2 e2 sz2 (.slice A2 n2 c2) n2 xs2) (hne:e1≠e2):
  ab A1=none∨ab A1≠ab A2:=by
 rcases h1.2 with⟨hv,_⟩|⟨g,cap,cur,hv,_,hg,_⟩
 ·injection hv with hv;rw[hv];exact .inl rfl
 ·injection hv with hv
  rcases h2.2 with⟨hv2,_⟩|⟨g2,cap2,ai9,hv2,_,hg2,_⟩
  ·injection hv2 with hv2
   exact .inr (by rw[hv,hv2];simp[ab])
  ·injection hv2 with hv2
   refine .inr fun e=>?_
   rw[hv,hv2]at e;obtain rfl:g=g2:=by simpa[ab]using e
   rw[hg]at hg2;simp only[gV,Dn]at hg2;exact hne hg2.2.1
theorem jL.push {w w4} {base n c n1 c1 n2 c2 c4} {A A1 A2 A4} {rs} {hs} {L} {C} {tmp}
  (h1:w.ownsRow base 146 2 (.slice A n c) n (bS hs)) (h2:hs.length=rs.length)
  (h3:∀(i) (h:i<hs.length) (h':i<rs.length),∃A1 n1 c1 A2 n2 c2,hs[i]=(.slice A1 n1 c1,.slice A2 n2 c2)∧bV w base A1 n1 c1 rs[i].1∧aO w base A2 n2 c2 rs[i].2)
  (hL:bV w base A1 n1 c1 L) (hC:aO w base A2 n2 c2 C)
  (ax:w4.ownsRow base 146 2 (.slice A4 (n+1) c4) (n+1) (bS hs++[.slice A1 n1 c1,.slice A2 n2 c2])) (hg:(w.alloc tmp).grownBy w4 (ab A)):jL w4 base A4 (n+1) c4 (rs++[(L,C)]):=by
 have kL:∀{A':Option Addr} {n' c':Nat} {l':List bf},bV w base A' n' c' l'→bV w4 base A' n' c' l':=fun h=>af (Oa h tmp) hg (dU h h1 Ah)
 have kI:∀{A':Option Addr} {n' c':Nat} {l':List Int},aO w base A' n' c' l'→aO w4 base A' n' c' l':=fun h=>af (Oa h tmp) hg (dU h h1 Ah)
 refine⟨hs++[(.slice A1 n1 c1,.slice A2 n2 c2)],by rw[wV];exact ax,by simp[h2],fun i h h'=>?_⟩;by_cases hi:i<hs.length
 ·obtain⟨B1,m1,d1,B2,m2,d2,e,p,q⟩:=h3 i hi om;rw[sP hi,sP (show i<rs.length from om)];exact⟨B1,m1,d1,B2,m2,d2,e,kL p,kI q⟩
 ·have hie:i=hs.length:=by simp at h;omega
  subst hie;refine⟨A1,n1,c1,A2,n2,c2,sm,?_,?_⟩
  ·have:(rs++[(L,C)])[hs.length]'h'=(L,C):=by simp[h2]
   rw[this];exact kL hL
  ·have:(rs++[(L,C)])[hs.length]'h'=(L,C):=by simp[h2]
   rw[this];exact kI hC
theorem Wq:(prog.info? 146).map (fun i=>(i.zero,i.size,i.bytes))=some (some (.agg #[.slice none 0 0,.slice none 0 0]),2,48):=kr
theorem Rd.rec (w:World) (h1 h2):Rd (w.alloc (.cells #[h1,h2] 146)) (w.heap.size+1) 2 (some ⟨w.heap.size,0,none⟩) 1 1 [h1,h2]:=
 ⟨Nr _,by unfold maxLen;omega,rfl,fun _=>⟨_,0,rfl,om,fun i u hu=>by
  rw[cB];exact(Au w _ _ _ i).trans (by simpa using hu)⟩⟩
namespace Rc
def bH (r:List bf×List Nat):jK:=(r.1,r.2.map Int.ofNat)
def recs (T:List ByteArray) (l:List UInt8) (a:Nat) (e:Int):List (List bf×List Nat)×Nat×Int:=jJ (rec T l) (cnt l a e).1 [] (cnt l a e).2.1 (cnt l a e).2.2
end Rc
theorem Er (q p a tn tc) (TA) (T) (l) (e) (w) (hR:RR w q p TA tn tc T l) (h:aK w p l a e) (hll:l.length≤20000000):
  Calls prog 121 #[.pointer (some ⟨q,0,none⟩),.func (.func 122) #[.pointer (some ⟨q,0,none⟩)] #[]] w fun r w'=>∃A n c,r= .returned (.slice A n c)∧jL w' w.heap.size A n c ((Rc.recs T l a e).1.map Rc.bH)∧aK w' p l (Rc.recs T l a e).2.1 (Rc.recs T l a e).2.2∧w.grownBy w' (some p):=by
 have hpl:=h.lt;have hqp:=hR.2.1;have HR:=Aj hR;have CN:=Aj (pI q p a tn tc TA T l e w hR h);have hcl:=Rc.sO l a e h.len.2;obtain⟨i0,hi0,hz0,hz1,hz2⟩:=AX Wq;obtain⟨M,hM⟩:∃M,M=Rc.recs T l a e:=⟨_,rfl⟩
 rw[←hM];have HM:Kept (M=Rc.jJ (Rc.rec T l) (Rc.cnt l a e).1 [] (Rc.cnt l a e).2.1 (Rc.cnt l a e).2.2):=⟨hM⟩
 generalize Rc.cnt l a e=X at*;obtain⟨n,a1,e1⟩:=X;simp only[]at CN hcl HM;clear h hR hM;have rD:n≤20000000:=om;go_enter func121,ntmps121;go_upto_region 3 with(go_at_call 171;refine CN.1.mono ?_;rintro r w1 ⟨rfl,hr,hg⟩;have D1:=Aj hr;have G1:=Aj hg;clear hr hg CN)
 go_loopw [5,9] (fun o i wr=>∃k:Nat,k≤n∧i= .int .i64 k∧∃A m c acc a2 e2,o= .slice A m c∧jL wr w.heap.size A m c (acc.map Rc.bH)∧aK wr p l a2 e2∧Kept (m=k∧M=Rc.jJ (Rc.rec T l) (n-k) acc a2 e2)∧w.grownBy wr (some p)) (fun _ i _=>n-(intOf i).toNat)
 case atStart=>exact⟨0,om,rfl,none,0,0,[],a1,e1,rfl,jL.nil _ _,D1.1,⟨rfl,HM.1⟩,G1.1⟩
 case round=>
  clear D1 G1;obtain⟨k,hk,rfl,A,m,c,acc,a2,e2,rfl,ho,hd,hm,hg⟩:=hrel;have hz:=hg.size;by_cases hlt:k<n
  ·have hm6:m≤20000000:=by have:=hm.1.1;omega
   have G:=Aj hg;have RW:=Aj (HR.1.grown hg);have EL:=Aj (Ie q p a2 tn tc TA T l e2 wr RW.1 hd hll);have hbad:=Aj (fun h=>hm.1.2.trans (Rc.iI (Rc.rec T l) (n-k) acc a2 e2 om h));have hok:=Aj (fun h=>hm.1.2.trans (Rc.iO (Rc.rec T l) (n-k) acc a2 e2 om h));have O:=Aj ho;generalize Rc.rec T l a2 e2=Y at*;obtain⟨⟨L,C⟩,a3,e3⟩:=Y;simp only[]at EL hbad hok;clear ho hd hg;by_cases he:e3=0
   ·subst he;have hok2:=Aj (hok.1 rfl);clear hok hbad;go_upto_region 7 with(first
     |(go_at_call 122;refine EL.1.mono ?_;rintro r w2 ⟨A1,n1,c1,A2,n2,c2,rfl,hL,hN,hr,hg⟩;have O2:=Aj (jL.past O.1 hg hpl);have L2:=Aj (bK hL hz);have N2:=Aj (bK hN hz);have D2:=Aj hr;have G2:=Aj (G.1.trans hg);have GB:Kept (w.grownBy (w2.alloc (.cells #[.slice A1 n1 c1,.slice A2 n2 c2] 146)) (some p)):=⟨(G.1.trans hg).trans (aD ((Ae _ w2).alloc Ai _))⟩;obtain⟨q0,q1,q2⟩:=(HR.1.grown GB.1).cells;clear hr hg hL hN EL)
     |(go_at_call 120;refine(az p a3 l 0 _ (by exact aK.box D2.1 _)).mono ?_;rintro r w9 ⟨rfl,rfl⟩))
    have OB:=Aj (O2.1.alloc (.cells #[.slice A1 n1 c1,.slice A2 n2 c2] 146));have LB:=Aj (Oa L2.1 (.cells #[.slice A1 n1 c1,.slice A2 n2 c2] 146));have NB:=Aj (Oa N2.1 (.cells #[.slice A1 n1 c1,.slice A2 n2 c2] 146));have DB:=Aj (aK.box D2.1 (.cells #[.slice A1 n1 c1,.slice A2 n2 c2] 146));have b0:=Au w2 #[.slice A1 n1 c1,.slice A2 n2 c2] 146 (0,0) 0;have b1:=Au w2 #[.slice A1 n1 c1,.slice A2 n2 c2] 146 (0,0) 1;generalize hWB:w2.alloc (.cells #[.slice A1 n1 c1,.slice A2 n2 c2] 146)=WB at*;obtain⟨hs,o1,o2,o3⟩:=OB.1;have OO:=Aj o1;have OL:=Aj o2;have OE:=Aj o3;have zB:=GB.1.size;clear O2 L2 N2 D2 G2 hWB OB o1 o2 o3;go_wp2_with (at_builtin;refine bI _ rfl (.tmp 19) (.tmp 21) _ rfl w.heap.size 146 i0 (.agg #[.slice none 0 0,.slice none 0 0]) 2 48 underlying138 hi0 hz0 hz1 hz2 rfl Ah A m c (bS hs) rfl (Oa OO.1 _) (WB.heap.size+1) _ _ _ [.slice A1 n1 c1,.slice A2 n2 c2] rfl (Rd.rec WB _ _) (by intro u hu;simp at hu;rcases hu with rfl|rfl<;>rfl) (by unfold maxLen;omega) om (by simp;omega) ?_;intro A4 c4 w4 ax aj di;have P4:=Aj (jL.push OO.1 OL.1 OE.1 LB.1 NB.1 ax aj);have B4:Kept (Below w.heap.size WB w4):=⟨((Ae w.heap.size WB).alloc zB _).grown aj (by simp;omega) (fun g e=>(ae OO.1 g e).1)⟩;have D4:=Aj (DB.1.below B4.1 hpl);have G4:=Aj (ig GB.1 B4.1);clear ax aj di);go_roundw
    case rel=>exact⟨k+1,om,by go_num,A4,_,c4,acc++[(L,C)],a3,0,rfl,by rw[dY];exact P4.1,D4.1,⟨by rw[hm.1.1],by rw[hok2.1,Nat.sub_sub]⟩,G4.1⟩
    case measure=>simp[intOf];omega
   ·have Eo:=Aj (hbad.1 he);have wG:(e3==0)=false:=by simpa using he
    clear hbad hok;go_wp2_with (first
     |(go_at_call 122;refine EL.1.mono ?_;rintro r w2 ⟨A1,n1,c1,A2,n2,c2,rfl,hL,hN,hr,hg⟩;have O2:=Aj (jL.past O.1 hg hpl);have L2:=Aj (bK hL hz);have N2:=Aj (bK hN hz);have D2:=Aj hr;have G2:=Aj (G.1.trans hg);have GB:Kept (w.grownBy (w2.alloc (.cells #[.slice A1 n1 c1,.slice A2 n2 c2] 146)) (some p)):=⟨(G.1.trans hg).trans (aD ((Ae _ w2).alloc Ai _))⟩;obtain⟨q0,q1,q2⟩:=(HR.1.grown GB.1).cells;clear hr hg hL hN EL)
     |(go_at_call 120;refine(az p a3 l e3 _ (by exact aK.box D2.1 _)).mono ?_;rintro r w9 ⟨rfl,rfl⟩))
    go_ret;refine⟨none,0,0,rfl,?_⟩;rw[Eo.1];exact⟨jL.nil _ _,aK.box D2.1 _,GB.1⟩
  ·have hM2:Kept (M=(acc,a2,e2)):=⟨by rw[hm.1.2,show n-k=0 from om,Rc.dz]⟩
   have O:=Aj ho;have D:=Aj hd;have G:=Aj hg;clear ho hd hg;go_wp2;go_ret;refine⟨A,m,c,rfl,?_⟩;rw[hM2.1];exact⟨O.1,D.1,G.1⟩
end
end
section
section
open Go.RowKit Go.Shelf
def Rc.dec (T:List ByteArray) (l:List UInt8):List jK×Int:=
 let r:=Rc.recs T l 0 0
 if Wr.fin l r.2.1 r.2.2≠0 then([],Wr.fin l r.2.1 r.2.2)else(r.1.map Rc.bH,0)
theorem uX.nil (w) (B):uX w B none 0 0 []:=⟨[],Rd.nil w B 2 0 none (by unfold maxLen;omega),rfl,fun i h=>by simp at h⟩
theorem dD {B p} {w w1 w'} (h:Below B w w1) (hg:w1.grownBy w' (some p)) (hp:B≤p) (hp2:p<w1.heap.size):Below B w w':=
 h.grown hg om (fun g e=>by have:=Oj e;omega)
theorem Ig (TA A) (tn tc n c) (T) (l) (w) (hT:bM w w.heap.size TA tn tc T) (hv:aN w w.heap.size A n c l) (hl:n≤20000000):
  Calls prog 70 #[.slice TA tn tc,.slice A n c] w fun r w'=>∃A2 n2 c2,r= .returned (.tuple #[.slice A2 n2 c2,.int .i64 (Rc.dec T l).2])∧uX w' w'.heap.size A2 n2 c2 (Rc.dec T l).1∧Below w.heap.size w w':=by
 have hlc:=hv.1;have hcm:=hv.2.1;unfold maxLen at hcm;have HN:=Aj hv.len;have V:=Aj hv;have VT:=Aj hT;have hC:Rc.dec T l=(if Wr.fin l (Rc.recs T l 0 0).2.1 (Rc.recs T l 0 0).2.2≠0 then([],Wr.fin l (Rc.recs T l 0 0).2.1 (Rc.recs T l 0 0).2.2)else((Rc.recs T l 0 0).1.map Rc.bH,0)):=rfl;have LR:=Aj (fun q p W (r:RR W q p TA tn tc T l) (d:aK W p l 0 0)=>Er q p 0 tn tc TA T l 0 W r d (by have:=HN.1;omega));obtain⟨M,hM⟩:∃M,M=Rc.dec T l:=⟨_,rfl⟩
 rw[←hM];have HM:=Aj (hM.trans hC);clear hM hC;generalize Rc.recs T l 0 0=X at*;obtain⟨rs,a1,e1⟩:=X;simp only[]at LR HM;generalize hF:Wr.fin l a1 e1=F at*;have HF:=Aj hF;clear hF hv hT;have key:∀W1 p,w.heap.size≤p→p<W1.heap.size→aK W1 p l 0 0→Below w.heap.size w W1→RR (W1.alloc (.cells #[.pointer (some ⟨p,0,none⟩),.slice TA tn tc,.int .i64 (n:Int)] 218)) W1.heap.size p TA tn tc T l:=fun W1 p h1 h2 _ h4=>
  ⟨by rw[←HN.1];exact Av W1 _,h2,((VT.1.below h4).more h1).alloc om _⟩
 have KEY:=Aj key;clear key;by_cases hf:F=0
 ·subst hf;go_enter func70,ntmps70;go_wp2_with (first
   |(go_at_call 110;refine(bW A n c w.heap.size l w V.1 Ai om).mono ?_;rintro r w1 ⟨p,rfl,hp1,hp2,hr1,hb1⟩;have D1:=Aj (aK.box hr1 (.cells #[.pointer (some ⟨p,0,none⟩),.slice TA tn tc,.int .i64 (n:Int)] 218));have RR1:=Aj (KEY.1 w1 p hp1 hp2 hr1 hb1);have B1:=Aj (hb1.alloc hb1.size (.cells #[.pointer (some ⟨p,0,none⟩),.slice TA tn tc,.int .i64 (n:Int)] 218));clear hr1 hb1)
   |(go_at_call 121;refine(LR.1 _ p _ RR1.1 D1.1).mono ?_;rintro r w2 ⟨A2,n2,c2,rfl,ho,hr,hg⟩;have O2:=Aj ho.rd;have D2:=Aj hr;have G2:=Aj (dD B1.1 hg hp1 D1.1.lt);obtain⟨q0,q1,q2⟩:=(RR1.1.grown hg).cells;clear hr hg ho)
   |(go_at_call 117;refine(fQ p a1 l e1 _ D2.1).mono ?_;rintro r w3 ⟨hr3,rfl⟩;rw[HF.1]at hr3;subst hr3))
  go_ret2;refine⟨A2,n2,c2,?_,?_,G2.1⟩
  ·rw[HM.1];rfl
  ·rw[HM.1];exact O2.1
 ·have Pt:(F==0)=false:=by simpa using hf
  have cZ:Kept (M=([],F)):=⟨by rw[HM.1,Ps0 hf]⟩
  go_enter func70,ntmps70;go_wp2_with (first
   |(go_at_call 110;refine(bW A n c w.heap.size l w V.1 Ai om).mono ?_;rintro r w1 ⟨p,rfl,hp1,hp2,hr1,hb1⟩;have D1:=Aj (aK.box hr1 (.cells #[.pointer (some ⟨p,0,none⟩),.slice TA tn tc,.int .i64 (n:Int)] 218));have RR1:=Aj (KEY.1 w1 p hp1 hp2 hr1 hb1);have B1:=Aj (hb1.alloc hb1.size (.cells #[.pointer (some ⟨p,0,none⟩),.slice TA tn tc,.int .i64 (n:Int)] 218));clear hr1 hb1)
   |(go_at_call 121;refine(LR.1 _ p _ RR1.1 D1.1).mono ?_;rintro r w2 ⟨A2,n2,c2,rfl,ho,hr,hg⟩;have O2:=Aj ho.rd;have D2:=Aj hr;have G2:=Aj (dD B1.1 hg hp1 D1.1.lt);obtain⟨q0,q1,q2⟩:=(RR1.1.grown hg).cells;clear hr hg ho)
   |(go_at_call 117;refine(fQ p a1 l e1 _ D2.1).mono ?_;rintro r w3 ⟨hr3,rfl⟩;rw[HF.1]at hr3;subst hr3))
  go_ret2;refine⟨none,0,0,?_,?_,G2.1⟩
  ·rw[cZ.1];rfl
  ·rw[cZ.1];exact uX.nil _ _
end
end
end Go.Proofs.YtjcpmfphnodaaaaGreatDoor
