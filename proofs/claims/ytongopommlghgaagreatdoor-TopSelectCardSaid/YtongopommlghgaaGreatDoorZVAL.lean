/- Part 12. -/
import Derived.Test.YtongopommlghgaaGreatDoorZVAK
import Derived.StillTailTactics
import Derived.Test.YtongopommlghgaaGreatDoorZVAF
namespace Go.Proofs.YtongopommlghgaaGreatDoor
set_option maxRecDepth 100000
set_option maxHeartbeats 0
open _root_.Go.Proofs.Tryz
section
section
open Go.RowKit Go.Shelf
namespace Pe
def okD (bnd last d:Nat) (first:Bool):Bool:=decide (d<bnd-last)&& (first||decide (0<d))
def sl (l:List UInt8) (bnd:Nat):Nat→Nat→List Int→Nat→List Int×Nat×Int
 |0,_,acc,a=>(acc,a,0)
 |k+1,last,acc,a=>
  if(Wr.uint l a 0 Rc.mx).2.2≠0 then([],(Wr.uint l a 0 Rc.mx).2.1,(Wr.uint l a 0 Rc.mx).2.2)
  else if okD bnd last (Wr.uint l a 0 Rc.mx).1 acc.isEmpty=false then([],(Wr.uint l a 0 Rc.mx).2.1,22)
  else sl l bnd k (last+(Wr.uint l a 0 Rc.mx).1) (acc++[((last+(Wr.uint l a 0 Rc.mx).1:Nat):Int)]) (Wr.uint l a 0 Rc.mx).2.1
def fq (l:List UInt8) (bnd a:Nat):List Int×Nat×Int:=
 if(Rc.cnt l a 0).2.2≠0 then([],(Rc.cnt l a 0).2.1,(Rc.cnt l a 0).2.2)
 else if(Rc.cnt l a 0).1=0 then([],(Rc.cnt l a 0).2.1,22)
 else sl l bnd (Rc.cnt l a 0).1 0 [] (Rc.cnt l a 0).2.1
end Pe
def RP (w:World) (q p:Nat) (TA:Option Addr) (tn tc:Nat) (T:List ByteArray) (l:List UInt8):Prop:=
 w.heap[q]? =some (.cells #[.pointer (some ⟨p,0,none⟩),.slice TA tn tc,.int .i64 (l.length:Int)] 230 (0,0))∧p<q∧bK w p TA tn tc T
section
variable {w w':World} {q p tn tc:Nat} {TA:Option Addr} {T:List ByteArray} {l:List UInt8}
theorem RP.grown (h:RP w q p TA tn tc T l) (hg:w.grownBy w' (some p)):RP w' q p TA tn tc T l:=by
 obtain⟨h1,h2,h3⟩:=h;have hq:q<w.heap.size:=(Ge.1 h1).1;exact⟨(hg.block q hq (fun e=>by have:=Oj e;omega)).trans h1,h2,h3.grown hg om (fun g e=>by have:=Oj e;omega)⟩
theorem RP.cells (h:RP w q p TA tn tc T l):
  w.cell? ⟨q,0,none⟩=some (.pointer (some ⟨p,0,none⟩))∧w.cell? ⟨q,1,none⟩=some (.slice TA tn tc)∧w.cell? ⟨q,2,none⟩=some (.int .i64 (l.length:Int)):=
 ⟨Co _ _ _ _ _ _ h.1,Co _ _ _ _ _ _ h.1,Co _ _ _ _ _ _ h.1⟩
theorem RP.lt (h:RP w q p TA tn tc T l):q<w.heap.size:=(Ge.1 h.1).1
end
theorem dH (q p a tn tc TA T l e f w) (hR:RP w q p TA tn tc T l) (h:aK w p l a e):
  Calls prog 131 #[.pointer (some ⟨q,0,none⟩),.bool true,.int .i64 f] w fun r w'=>r= .returned (.bool (e==0))∧w'=w:=by
 obtain⟨q0,q1,q2⟩:=hR.cells;have E:=Aj (ay p a l e w h);clear hR h;go_enter func131,ntmps131;go_wp2_with (go_at_call 120;refine E.1.mono ?_;rintro r w2 ⟨rfl,rfl⟩);go_ret;exact⟨rfl,rfl⟩
theorem fI (q p a tn tc TA T l e f w) (hR:RP w q p TA tn tc T l) (h:aK w p l a e) (hf:f≠0):
  Calls prog 131 #[.pointer (some ⟨q,0,none⟩),.bool false,.int .i64 f] w fun r w'=>r= .returned (.bool false)∧aK w' p l a (if e=0 then f else e)∧w.grownBy w' (some p):=by
 obtain⟨q0,q1,q2⟩:=hR.cells;have HR:=Aj hR;have E:=Aj (dB p a l e f w h);obtain⟨e2,he2⟩:∃e2,e2=if e=0 then f else e:=⟨_,rfl⟩
 rw[←he2]at E⊢;have hb:(e2==0)=false:=by
  rw[he2];by_cases h0:e=0
  ·rw[Ps0 h0];simpa using hf
  ·rw[Ng h0];simpa using h0
 clear hR h he2;go_enter func131,ntmps131;go_wp2_with (first
  |(go_at_call 120;refine(ay p a l e2 _ R2.1).mono ?_;rintro r w3 ⟨rfl,rfl⟩)
  |(go_at_call 114;refine E.1.mono ?_;rintro r w2 ⟨rfl,hr,hg⟩;have R2:=Aj hr;have G2:=Aj hg;obtain⟨s0,s1,s2⟩:=(HR.1.grown hg).cells;clear hr hg E))
 go_ret;exact⟨rfl,R2.1,G2.1⟩
theorem J5 (q p a tn tc TA T l b e f w) (hR:RP w q p TA tn tc T l) (h:aK w p l a e) (hf:f≠0):
  Calls prog 131 #[.pointer (some ⟨q,0,none⟩),.bool b,.int .i64 f] w fun r w'=>∃e',r= .returned (.bool (e'==0))∧(b=true→e'=e)∧(b=false→e'=if e=0 then f else e)∧aK w' p l a e'∧w.grownBy w' (some p):=by
 cases b with
 |true=>exact(dH q p a tn tc TA T l e f w hR h).mono fun r w' ⟨h1,h2⟩=>⟨e,h1,fun _=>rfl,fun h=>(by cases h),(by rw[h2];exact h),(by rw[h2];exact Dn _ _)⟩
 |false=>
  refine(fI q p a tn tc TA T l e f w hR h hf).mono fun r w' ⟨h1,h2,h3⟩=>⟨if e=0 then f else e,?_,fun h=>(by cases h),fun _=>rfl,h2,h3⟩
  have:((if e=0 then f else e)==0)=false:=by
   by_cases h0:e=0
   ·rw[Ps0 h0];simpa using hf
   ·rw[Ng h0];simpa using h0
  rw[this];exact h1
theorem uy (q p a tn tc TA T l e w) (hR:RP w q p TA tn tc T l) (h:aK w p l a e):
  Calls prog 129 #[.pointer (some ⟨q,0,none⟩)] w fun r w'=>r= .returned (.int .i64 ((Rc.cnt l a e).1:Int))∧aK w' p l (Rc.cnt l a e).2.1 (Rc.cnt l a e).2.2∧w.grownBy w' (some p):=by
 obtain⟨q0,q1,q2⟩:=hR.cells;have U:=Aj (jm p a 18446744073709551615 l e w h);have HR:=Aj hR;have hle:=Wr.lS l a Rc.mx e;have J6:=Wr.lV l a Rc.mx e;have hat:=Wr.yL l a Rc.mx e h.len.2;have hC:Rc.cnt l a e=(let r:=Wr.uint l a e Rc.mx;if r.2.2≠0 then(0,r.2.1,r.2.2)else if l.length-r.2.1<r.1 then(0,r.2.1,3)else r):=rfl;have hln:=h.len;unfold Rc.mx at hC hle hat J6;generalize Wr.uint l a e 18446744073709551615=X at*;obtain⟨x,a1,e1⟩:=X;simp only[]at hC hle hat U J6;clear h hR;have hwi:IntKind.i64.wrap ((l.length:Int)-(a1:Int))=(l.length:Int)-(a1:Int):=by simp[IntKind.wrap,IntKind.bits,IntKind.signed];omega
 have ZN:IntKind.u64.wrap ((l.length:Int)-(a1:Int))=(l.length:Int)-(a1:Int):=by simp[IntKind.wrap,IntKind.bits,IntKind.signed];omega
 by_cases he1:e1=0
 ·subst he1;rw[Ng sm]at hC;clear J6;by_cases hx:l.length-a1<x
  ·rw[Ps0 hx]at hC;rw[hC];have hdb:decide ((x:Int)≤(l.length:Int)-(a1:Int))=false:=AF om;clear hC hx;go_enter func129,ntmps129;go_upto_region 2 with(go_at_call 182;refine U.1.mono ?_;rintro r w2 ⟨rfl,hr,hg⟩;have R2:=Aj hr;have G2:=Aj hg;clear hr hg)
   obtain⟨s0,s1,s2⟩:=(HR.1.grown G2.1).cells;have RD:Kept (aK w2.drew p l a1 0):=⟨R2.1⟩
   have YU:Kept (RP w2.drew q p TA tn tc T l):=⟨show RP w2 q p TA tn tc T l from HR.1.grown G2.1⟩
   have hgd:Kept (w2.grownBy w2.drew (some p)):=⟨⟨rfl,rfl,rfl,Nr _,fun _ _ _=>rfl⟩⟩
   refine wp_region_still_tail 14 kr kr ?_;simp only[Cc,Eh,AY,Bp]
   repeat still_step
   still_call ((jb p a1 l 0 w2.drew RD.1).mono fun _ _ q=>⟨q.1,q.2.symm⟩)
   repeat still_step
   refine wpStill_nil ?_
   change wpList _ _ _ _ _ w2.drew
   clear s0 s1 s2;generalize w2.drew=wd at*
   try simp only[hwi,ZN,hdb]
   obtain⟨s0,s1,s2⟩:=YU.1.cells;go_wp2_with (go_at_call 131;refine(fI q p a1 tn tc TA T l 0 3 _ YU.1 RD.1 Ah).mono ?_;rintro r w3 ⟨rfl,hr,hg⟩;rw[Ps0 rfl]at hr;have R3:=Aj hr;have G3:=Aj (hgd.1.trans hg);clear hr hg);go_ret;exact⟨rfl,R3.1,G2.1.trans G3.1⟩
  ·rw[Ng hx]at hC;rw[hC];have hdb:decide ((x:Int)≤(l.length:Int)-(a1:Int))=true:=Bj om;have hx1:(x:Int)≤140737488354000:=om;clear hC hx;go_enter func129,ntmps129;go_upto_region 2 with(go_at_call 182;refine U.1.mono ?_;rintro r w2 ⟨rfl,hr,hg⟩;have R2:=Aj hr;have G2:=Aj hg;clear hr hg)
   obtain⟨s0,s1,s2⟩:=(HR.1.grown G2.1).cells;have RD:Kept (aK w2.drew p l a1 0):=⟨R2.1⟩
   have YU:Kept (RP w2.drew q p TA tn tc T l):=⟨show RP w2 q p TA tn tc T l from HR.1.grown G2.1⟩
   have hgd:Kept (w2.grownBy w2.drew (some p)):=⟨⟨rfl,rfl,rfl,Nr _,fun _ _ _=>rfl⟩⟩
   refine wp_region_still_tail 14 kr kr ?_;simp only[Cc,Eh,AY,Bp]
   repeat still_step
   still_call ((jb p a1 l 0 w2.drew RD.1).mono fun _ _ q=>⟨q.1,q.2.symm⟩)
   repeat still_step
   refine wpStill_nil ?_
   change wpList _ _ _ _ _ w2.drew
   clear s0 s1 s2;generalize w2.drew=wd at*
   try simp only[hwi,ZN,hdb]
   obtain⟨s0,s1,s2⟩:=YU.1.cells;go_wp2_with (go_at_call 131;refine(dH q p a1 tn tc TA T l 0 3 _ YU.1 RD.1).mono ?_;rintro r w3 ⟨rfl,hw⟩;obtain rfl:=hw.symm);go_ret;exact⟨by go_num,RD.1,G2.1.trans hgd.1⟩
 ·rw[Ps0 he1]at hC;rw[hC];have yo:(e1==0)=false:=by simpa using he1
  have hx0:=J6 he1;subst hx0;have hdb:decide (((0:Nat):Int)≤(l.length:Int)-(a1:Int))=true:=Bj om;clear hC J6;go_enter func129,ntmps129;go_upto_region 2 with(go_at_call 182;refine U.1.mono ?_;rintro r w2 ⟨rfl,hr,hg⟩;have R2:=Aj hr;have G2:=Aj hg;clear hr hg)
  obtain⟨s0,s1,s2⟩:=(HR.1.grown G2.1).cells;have RD:Kept (aK w2.drew p l a1 e1):=⟨R2.1⟩
  have YU:Kept (RP w2.drew q p TA tn tc T l):=⟨show RP w2 q p TA tn tc T l from HR.1.grown G2.1⟩
  have hgd:Kept (w2.grownBy w2.drew (some p)):=⟨⟨rfl,rfl,rfl,Nr _,fun _ _ _=>rfl⟩⟩
  refine wp_region_still_tail 14 kr kr ?_;simp only[Cc,Eh,AY,Bp]
  repeat still_step
  still_call ((jb p a1 l e1 w2.drew RD.1).mono fun _ _ q=>⟨q.1,q.2.symm⟩)
  repeat still_step
  refine wpStill_nil ?_
  change wpList _ _ _ _ _ w2.drew
  clear s0 s1 s2;generalize w2.drew=wd at*
  try simp only[hwi,ZN,hdb]
  obtain⟨s0,s1,s2⟩:=YU.1.cells;go_wp2_with (go_at_call 131;refine(dH q p a1 tn tc TA T l e1 3 _ YU.1 RD.1).mono ?_;rintro r w3 ⟨rfl,hw⟩;obtain rfl:=hw.symm);go_ret;exact⟨rfl,RD.1,G2.1.trans hgd.1⟩
end
section
open Go.RowKit Go.Shelf
theorem qV (q p a tn tc TA T l e w) (hR:RP w q p TA tn tc T l) (h:aK w p l a e):
  Calls prog 130 #[.pointer (some ⟨q,0,none⟩)] w fun r w'=>r= .returned (.string (Rc.sym T l a e).1)∧aK w' p l (Rc.sym T l a e).2.1 (Rc.sym T l a e).2.2∧w.grownBy w' (some p):=by
 obtain⟨q0,q1,q2⟩:=hR.cells;have U:=Aj (jm p a 18446744073709551615 l e w h);have HR:=Aj hR;have hle:=Wr.lS l a Rc.mx e;have J6:=Wr.lV l a Rc.mx e;have hC:Rc.sym T l a e=(let r:=Wr.uint l a e Rc.mx;if r.2.2≠0 then(ByteArray.empty,r.2.1,r.2.2)else if T.length≤r.1 then(ByteArray.empty,r.2.1,14)else(T.getD r.1 ByteArray.empty,r.2.1,0)):=rfl;have htl:=hR.2.2.len;have htm:=hR.2.2.2.1;have htc:=hR.2.2.1;unfold maxLen at htm;unfold Rc.mx at hC hle J6;generalize Wr.uint l a e 18446744073709551615=X at*;obtain⟨x,a1,e1⟩:=X;simp only[]at hC hle U J6;have ZN:IntKind.u64.wrap (tn:Int)=(tn:Int):=by simp[IntKind.wrap,IntKind.bits,IntKind.signed];omega
 have HT:=Aj htl;clear h hR htl;by_cases he1:e1=0
 ·subst he1;rw[Ng sm]at hC;clear J6;by_cases hx:T.length≤x
  ·rw[Ps0 hx]at hC;rw[hC];have hdb:decide ((x:Int)< (tn:Int))=false:=AF (by have:=HT.1;omega);have hgt:¬(x:Int)< (tn:Int):=by have:=HT.1;omega
   have hgt2:¬x<tn:=om;clear hC hx;go_enter func130,ntmps130;go_wp2_with (first
    |(go_at_call 182;refine U.1.mono ?_;rintro r w2 ⟨rfl,hr,hg⟩;have R2:=Aj hr;have G2:=Aj hg;have Qg:=Aj (HR.1.grown hg);obtain⟨s0,s1,s2⟩:=(HR.1.grown hg).cells;clear hr hg)
    |(go_at_call 131;refine(fI q p a1 tn tc TA T l 0 14 _ Qg.1 R2.1 Ah).mono ?_;rintro r w3 ⟨rfl,hr,hg⟩;rw[Ps0 rfl]at hr;have R3:=Aj hr;have G3:=Aj hg;clear hr hg))
   go_ret;exact⟨rfl,R3.1,G2.1.trans G3.1⟩
  ·rw[Ng hx]at hC;have hxl:x<T.length:=om;rw[show T.getD x ByteArray.empty=T[x]by simp[List.getD,hxl]]at hC;rw[hC];have hgt:(x:Int)< (tn:Int):=by have:=HT.1;omega
   have acC:x<tn:=om;obtain⟨b,off,rfl,hbp,hcell⟩:=HR.1.2.2.at_ hxl;have CC:Kept (∀W,w.grownBy W (some p)→W.cell? ⟨b,off+x,none⟩=some (.string T[x])):=⟨fun W hg=>by
    obtain⟨b',off',e',-,hc'⟩:=((HR.1.grown hg).2.2).at_ hxl;simp only[gT,Cf,BJ]at e';obtain⟨rfl,rfl⟩:=e';exact hc'⟩
   generalize T[x]=s at*;clear hC hx hcell;go_enter func130,ntmps130;go_wp2_with (first
    |(go_at_call 182;refine U.1.mono ?_;rintro r w2 ⟨rfl,hr,hg⟩;have R2:=Aj hr;have G2:=Aj hg;have Qg:=Aj (HR.1.grown hg);obtain⟨s0,s1,s2⟩:=(HR.1.grown hg).cells;clear hr hg;have cc:=CC.1 w2 G2.1)
    |(go_at_call 131;refine(dH q p a1 tn tc _ T l 0 14 _ Qg.1 R2.1).mono ?_;rintro r w3 ⟨rfl,hw⟩;obtain rfl:=hw.symm))
   go_ret;exact⟨rfl,R2.1,G2.1⟩
 ·rw[Ps0 he1]at hC;rw[hC];have yo:(e1==0)=false:=by simpa using he1
  have hx0:=J6 he1;subst hx0;clear hC J6;by_cases ht0:tn=0
  ·subst ht0;go_enter func130,ntmps130;go_wp2_with (first
    |(go_at_call 182;refine U.1.mono ?_;rintro r w2 ⟨rfl,hr,hg⟩;have R2:=Aj hr;have G2:=Aj hg;have Qg:=Aj (HR.1.grown hg);obtain⟨s0,s1,s2⟩:=(HR.1.grown hg).cells;clear hr hg)
    |(go_at_call 131;refine(fI q p a1 0 tc TA T l e1 14 _ Qg.1 R2.1 Ah).mono ?_;rintro r w3 ⟨rfl,hr,hg⟩;rw[Ng he1]at hr;have R3:=Aj hr;have G3:=Aj hg;clear hr hg))
   go_ret;exact⟨rfl,R3.1,G2.1.trans G3.1⟩
  ·have hgt:(0:Int)< (tn:Int):=by omega
   have acC:0<tn:=om;go_enter func130,ntmps130;go_wp2_with (first
    |(go_at_call 182;refine U.1.mono ?_;rintro r w2 ⟨rfl,hr,hg⟩;have R2:=Aj hr;have G2:=Aj hg;have Qg:=Aj (HR.1.grown hg);obtain⟨s0,s1,s2⟩:=(HR.1.grown hg).cells;clear hr hg)
    |(go_at_call 131;refine(dH q p a1 tn tc TA T l e1 14 _ Qg.1 R2.1).mono ?_;rintro r w3 ⟨rfl,hw⟩;obtain rfl:=hw.symm))
   go_ret;exact⟨rfl,R2.1,G2.1⟩
namespace Pe
theorem Mr (l bnd last acc a):sl l bnd 0 last acc a=(acc,a,0):=rfl
theorem aah {l bnd last a x a1 acc e1} (k) (h:Wr.uint l a 0 Rc.mx=(x,a1,e1)) (he:e1≠0):sl l bnd (k+1) last acc a=([],a1,e1):=by
 rw[sl,h];simp[he]
theorem acZ {l bnd last a x a1 acc} (k) (h:Wr.uint l a 0 Rc.mx=(x,a1,0)) (ho:okD bnd last x acc.isEmpty=false):sl l bnd (k+1) last acc a=([],a1,22):=by
 rw[sl,h];simp[ho]
theorem YW {l bnd last a x a1 acc} (k) (h:Wr.uint l a 0 Rc.mx=(x,a1,0)) (ho:okD bnd last x acc.isEmpty=true):sl l bnd (k+1) last acc a=sl l bnd k (last+x) (acc++[((last+x:Nat):Int)]) a1:=by
 rw[sl,h];simp[ho]
theorem YX (l a e) (h:(Rc.cnt l a e).2.2≠0):(Rc.cnt l a e).1=0:=by
 unfold Rc.cnt at h⊢;simp only[]at h⊢;split at h
 ·rw[Ps0 (by assumption)]
 ·rename_i h1
  rw[Ng h1];split at h
  ·rw[Ps0 (by assumption)]
  ·exact absurd h h1
end Pe
theorem Gq {w w' p a l e B} (h:aK w p l a e) (hb:Below B w w') (hp:p<B):aK w' p l a e:=h.below hb hp
theorem uz {w w1 w':World} {p} (h:w.grownBy w1 (some p)) (b:Below w.heap.size w1 w'):w.grownBy w' (some p):=
 ⟨b.os.trans h.os,b.tape.trans h.tape,b.output.trans h.output,Lt h.size b.size,fun k hk hne=>(b.block k hk).trans (h.block k hk hne)⟩
theorem Gs (q p a tn tc bnd:Nat) (TA T l w) (hR:RP w q p TA tn tc T l) (h:aK w p l a 0) (hbd:bnd<9223372036854775808) (hl9:l.length≤20000000):
  Calls prog 132 #[.pointer (some ⟨q,0,none⟩),.int .u64 (bnd:Int)] w fun r w'=>∃A2 n2 c2,r= .returned (.slice A2 n2 c2)∧ax w' w.heap.size A2 n2 c2 (Pe.fq l bnd a).1∧aK w' p l (Pe.fq l bnd a).2.1 (Pe.fq l bnd a).2.2∧w.grownBy w' (some p):=by
 have HR:=Aj hR;have CN:=Aj (uy q p a tn tc TA T l 0 w hR h);have hln:=h.len;have hpl:=h.lt;obtain⟨M,hM⟩:∃M,M=Pe.fq l bnd a:=⟨_,rfl⟩
 rw[←hM];unfold Pe.fq at hM;have hcl:=Rc.tJ l a 0 h.len.2;have hcz:=Pe.YX l a 0;generalize Rc.cnt l a 0=X at*;obtain⟨n,a1,e1⟩:=X;simp only[]at CN hM hcl;clear h hR;by_cases hn0:n=0
 ·subst hn0;obtain⟨e2,he2⟩:∃e2,(if e1=0 then 22 else e1)=e2:=⟨_,rfl⟩
  have HE2:=Aj he2;have hM2:M=([],a1,e2):=by
   rw[hM,←he2];by_cases h0:e1=0
   ·simp[h0]
   ·simp[h0]
  rw[hM2];clear hM hM2 hcz he2;go_enter func132,ntmps132;go_wp2_with (first
   |(go_at_call 129;refine CN.1.mono ?_;rintro r w2 ⟨rfl,hr,hg⟩;have R2:=Aj hr;have G2:=Aj hg;have Qg:=Aj (HR.1.grown hg);clear hr hg)
   |(go_at_call 131;refine(fI q p a1 tn tc TA T l e1 22 _ Qg.1 R2.1 Ah).mono ?_;rintro r w3 ⟨rfl,hr,hg⟩;rw[HE2.1]at hr;have R3:=Aj hr;have G3:=Aj hg;clear hr hg))
  go_loopw [6,17] (fun o i wr=>o= .slice none 0 0∧i= .int .i64 0∧wr=w3) (fun _ i _=>1)
  case atStart=>exact⟨rfl,rfl,rfl⟩
  case round=>
   obtain⟨rfl,rfl,hw⟩:=hrel;obtain rfl:=hw.symm;go_wp2;go_ret;exact⟨none,0,0,rfl,AX _ _ _ _,R3.1,G2.1.trans G3.1⟩
 ·have he1:e1=0:=Dl fun h=>hn0 (hcz h)
  subst he1;have HM:Kept (M=Pe.sl l bnd n 0 [] a1):=⟨by rw[hM,Ng sm,Ng hn0]⟩
  have aly:(0:Int)< (n:Int):=om;clear hM hcz;have hn9:n≤20000000:=om;have hgt1:0<n:=om;go_enter func132,ntmps132;go_wp2_with (first
   |(go_at_call 129;refine CN.1.mono ?_;rintro r w2 ⟨rfl,hr,hg⟩;have R2:=Aj hr;have G2:=Aj hg;have Qg:=Aj (HR.1.grown hg);clear hr hg)
   |(go_at_call 131;refine(dH q p a1 tn tc TA T l 0 22 _ Qg.1 R2.1).mono ?_;rintro r w3 ⟨rfl,hw⟩;obtain rfl:=hw.symm;clear hw))
  go_loopw [6,7,17] (fun o la i wr=>∃k:Nat,k≤n∧i= .int .i64 k∧∃(last at_:Nat) (acc:List Int) (A2:Option Addr) (c2:Nat),la= .int .u64 (last:Int)∧o= .slice A2 k c2∧ax wr w.heap.size A2 k c2 acc∧aK wr p l at_ 0∧w.grownBy wr (some p)∧Kept (M=Pe.sl l bnd (n-k) last acc at_∧acc.length=k∧last≤bnd)) (fun _ _ i _=>n-(intOf i).toNat)
  case atStart=>exact⟨0,om,rfl,0,a1,[],none,0,rfl,rfl,AX _ _ _ _,R2.1,G2.1,⟨HM.1,rfl,om⟩⟩
  case round=>
   clear HM R2 G2 Qg CN;obtain⟨k,hk,rfl,last,at_,acc,A2,c2,rfl,rfl,ho,hr,hg,hd⟩:=hrel;have O:=Aj ho;have R:=Aj hr;have G:=Aj hg;have kP:=hg.size;obtain⟨q0,q1,q2⟩:=(HR.1.grown hg).cells;have RQ:=Aj (HR.1.grown hg);by_cases hlt:k<n
   ·have U:=Aj (jm p at_ 18446744073709551615 l 0 wr hr);have hle:=Wr.lS l at_ Rc.mx 0;have J6:=Wr.lV l at_ Rc.mx 0;obtain⟨hd1,hd2,hd3⟩:=hd.1;rw[show n-k=(n-(k+1))+1 from om]at hd1;have Ov:=fun x a1 e1 (h1:Wr.uint l at_ 0 Rc.mx=(x,a1,e1)) (h2:e1≠0)=>hd1.trans (Pe.aah (n-(k+1)) h1 h2)
    have hNO:=fun x a1 (h1:Wr.uint l at_ 0 Rc.mx=(x,a1,0)) h2=>hd1.trans (Pe.acZ (n-(k+1)) h1 h2)
    have WL:=fun x a1 (h1:Wr.uint l at_ 0 Rc.mx=(x,a1,0)) h2=>hd1.trans (Pe.YW (n-(k+1)) h1 h2)
    have hemp:acc.isEmpty=decide (k=0):=by
     cases acc with
     |nil=>simp at hd2;simp[←hd2]
     |cons a b=>simp at hd2;simp[←hd2]
    clear ho hr hg hd hd1;unfold Rc.mx at Ov hNO WL hle J6;generalize Wr.uint l at_ 0 18446744073709551615=X at*;obtain⟨x,a2,e2⟩:=X;simp only[]at U hle J6;obtain⟨m,hm⟩:∃m,m=bnd-last:=⟨_,rfl⟩
    have hwm:IntKind.u64.wrap ((bnd:Int)-(last:Int))=(m:Int):=by simp[IntKind.wrap,IntKind.bits,IntKind.signed];omega
    have hmb:m≤bnd:=om;by_cases he2:e2=0
    ·subst he2;by_cases hxm:x<m
     ·have aga:(x:Int)< (m:Int):=by omega
      by_cases hz:k=0∨0<x
      ·have ho:Pe.okD bnd last x acc.isEmpty=true:=by
        unfold Pe.okD;rw[hemp,Bj (show x<bnd-last from om)];rcases hz with h|h
        ·simp[h]
        ·simp[h]
       obtain⟨s,hs⟩:∃s,s=last+x:=⟨_,rfl⟩
       have hM3:=WL x a2 rfl ho;rw[←hs]at hM3;have HM3:Kept (M=Pe.sl l bnd (n-(k+1)) s (acc++[(s:Int)]) a2∧(acc++[(s:Int)]).length=k+1∧s≤bnd):=⟨hM3,by simp[hd2],om⟩
       have hws:IntKind.u64.wrap ((last:Int)+(x:Int))=(s:Int):=by simp[IntKind.wrap,IntKind.bits,IntKind.signed];omega
       have hwi:IntKind.i64.wrap (s:Int)=(s:Int):=by simp[IntKind.wrap,IntKind.bits,IntKind.signed];omega
       have hsx:s<9223372036854775808:=om;clear Ov hNO WL ho hM3 hs hm hemp hd2 hd3 hmb hle;by_cases hk0:k=0
       ·subst hk0;clear hz;go_wp2_with (first
         |(go_at_call 182;refine U.1.mono ?_;rintro r w4 ⟨rfl,hr,hg⟩;have R4:=Aj hr;have G4:=Aj (G.1.trans hg);have Ow:=Aj (RQ.1.grown hg);have O4:=Aj (bV O.1 hg hpl);obtain⟨s0,s1,s2⟩:=(RQ.1.grown hg).cells;clear hr hg)
         |(go_at_call 131;refine(dH q p a2 tn tc TA T l 0 22 _ Ow.1 R4.1).mono ?_;rintro r w5 ⟨rfl,hw⟩;obtain rfl:=hw.symm;clear hw)
         |(at_builtin;refine bT rfl (.tmp 44) (.tmp 47) rfl w.heap.size A2 _ c2 _ rfl (Oa O4.1 _) (w4.heap.size+1) _ _ _ [(s:Int)] rfl (bQ.one w4 s) om (by simp;have:=G4.1.size;omega) ?_;intro A6 c6 w6 hown6 uA aaj;have hb6:Below w.heap.size w4 w6:=((Ae _ _).alloc G4.1.size _).grown uA (by simp;have:=G4.1.size;omega) (fun g hg=>(ae O4.1 g hg).1);have O6:=Aj hown6;have B6:=Aj hb6;clear hown6 uA aaj hb6))
        go_roundw
        case rel=>exact⟨1,om,rfl,s,a2,_,A6,c6,rfl,rfl,O6.1,Gq R4.1 B6.1 hpl,uz G4.1 B6.1,HM3⟩
        case measure=>simp[intOf];omega
       ·have hk1:((k:Int)==0)=false:=by simpa using hk0
        have hx1:0<x:=om;have hx2:(0:Int)< (x:Int):=om;clear hz;go_wp2_with (first
         |(go_at_call 182;refine U.1.mono ?_;rintro r w4 ⟨rfl,hr,hg⟩;have R4:=Aj hr;have G4:=Aj (G.1.trans hg);have Ow:=Aj (RQ.1.grown hg);have O4:=Aj (bV O.1 hg hpl);obtain⟨s0,s1,s2⟩:=(RQ.1.grown hg).cells;clear hr hg)
         |(go_at_call 131;refine(dH q p a2 tn tc TA T l 0 22 _ Ow.1 R4.1).mono ?_;rintro r w5 ⟨rfl,hw⟩;obtain rfl:=hw.symm;clear hw)
         |(at_builtin;refine bT rfl (.tmp 44) (.tmp 47) rfl w.heap.size A2 k c2 _ rfl (Oa O4.1 _) (w4.heap.size+1) _ _ _ [(s:Int)] rfl (bQ.one w4 s) om (by simp;have:=G4.1.size;omega) ?_;intro A6 c6 w6 hown6 uA aaj;have hb6:Below w.heap.size w4 w6:=((Ae _ _).alloc G4.1.size _).grown uA (by simp;have:=G4.1.size;omega) (fun g hg=>(ae O4.1 g hg).1);have O6:=Aj hown6;have B6:=Aj hb6;clear hown6 uA aaj hb6))
        go_roundw
        case rel=>exact⟨k+1,om,by go_num,s,a2,_,A6,c6,rfl,rfl,O6.1,Gq R4.1 B6.1 hpl,uz G4.1 B6.1,HM3⟩
        case measure=>simp[intOf];omega
      ·have hk0:¬k=0:=fun h=>hz (.inl h)
       have hx0:x=0:=om;subst hx0;have ho:Pe.okD bnd last 0 acc.isEmpty=false:=by
        unfold Pe.okD;rw[hemp,AF hk0];simp
       have dz:=Aj (hNO 0 a2 rfl ho);have hk1:((k:Int)==0)=false:=by simpa using hk0
       clear Ov hNO WL ho hm hemp hd2 hd3 hmb hle hz;go_wp2_with (first
        |(go_at_call 182;refine U.1.mono ?_;rintro r w4 ⟨rfl,hr,hg⟩;have R4:=Aj hr;have G4:=Aj (G.1.trans hg);have Ow:=Aj (RQ.1.grown hg);have O4:=Aj (bV O.1 hg hpl);obtain⟨s0,s1,s2⟩:=(RQ.1.grown hg).cells;clear hr hg)
        |(go_at_call 131;refine(fI q p a2 tn tc TA T l 0 22 _ Ow.1 R4.1 Ah).mono ?_;rintro r w5 ⟨rfl,hr,hg⟩;rw[Ps0 rfl]at hr;have R5:=Aj hr;have G5:=Aj (G4.1.trans hg);clear hr hg))
       go_ret;refine⟨none,0,0,rfl,?_,?_,G5.1⟩
       ·rw[dz.1];exact AX _ _ _ _
       ·rw[dz.1];exact R5.1
     ·have aga:¬(x:Int)< (m:Int):=by omega
      have ho:Pe.okD bnd last x acc.isEmpty=false:=by
       unfold Pe.okD;rw[AF (show¬x<bnd-last from om)];simp
      have dz:=Aj (hNO x a2 rfl ho);clear Ov hNO WL ho hm hemp hd2 hd3 hmb;go_wp2_with (first
       |(go_at_call 182;refine U.1.mono ?_;rintro r w4 ⟨rfl,hr,hg⟩;have R4:=Aj hr;have G4:=Aj (G.1.trans hg);have Ow:=Aj (RQ.1.grown hg);have O4:=Aj (bV O.1 hg hpl);obtain⟨s0,s1,s2⟩:=(RQ.1.grown hg).cells;clear hr hg)
       |(go_at_call 131;refine(fI q p a2 tn tc TA T l 0 22 _ Ow.1 R4.1 Ah).mono ?_;rintro r w5 ⟨rfl,hr,hg⟩;rw[Ps0 rfl]at hr;have R5:=Aj hr;have G5:=Aj (G4.1.trans hg);clear hr hg))
      go_ret;refine⟨none,0,0,rfl,?_,?_,G5.1⟩
      ·rw[dz.1];exact AX _ _ _ _
      ·rw[dz.1];exact R5.1
    ·have dz:=Aj (Ov x a2 e2 rfl he2);have hx0:x=0:=J6 he2;subst hx0;have yo:(e2==0)=false:=by simpa using he2
     clear Ov hNO WL hemp hd2 hd3;by_cases hm0:m=0
     ·subst hm0;clear hm hmb;go_wp2_with (first
       |(go_at_call 182;refine U.1.mono ?_;rintro r w4 ⟨rfl,hr,hg⟩;have R4:=Aj hr;have G4:=Aj (G.1.trans hg);have Ow:=Aj (RQ.1.grown hg);have O4:=Aj (bV O.1 hg hpl);obtain⟨s0,s1,s2⟩:=(RQ.1.grown hg).cells;clear hr hg)
       |(go_at_call 131;refine(fI q p a2 tn tc TA T l e2 22 _ Ow.1 R4.1 Ah).mono ?_;rintro r w5 ⟨rfl,hr,hg⟩;rw[Ng he2]at hr;have R5:=Aj hr;have G5:=Aj (G4.1.trans hg);clear hr hg))
      go_ret;refine⟨none,0,0,rfl,?_,?_,G5.1⟩
      ·rw[dz.1];exact AX _ _ _ _
      ·rw[dz.1];exact R5.1
     ·have hm1:0<m:=by omega
      have hm2:(0:Int)< (m:Int):=om;by_cases hk0:k=0
      ·subst hk0;clear hm hmb;go_wp2_with (first
        |(go_at_call 182;refine U.1.mono ?_;rintro r w4 ⟨rfl,hr,hg⟩;have R4:=Aj hr;have G4:=Aj (G.1.trans hg);have Ow:=Aj (RQ.1.grown hg);have O4:=Aj (bV O.1 hg hpl);obtain⟨s0,s1,s2⟩:=(RQ.1.grown hg).cells;clear hr hg)
        |(go_at_call 131;refine(dH q p a2 tn tc TA T l e2 22 _ Ow.1 R4.1).mono ?_;rintro r w5 ⟨rfl,hw⟩;obtain rfl:=hw.symm;clear hw))
       go_ret;refine⟨none,0,0,rfl,?_,?_,G4.1⟩
       ·rw[dz.1];exact AX _ _ _ _
       ·rw[dz.1];exact R4.1
      ·have hk1:((k:Int)==0)=false:=by simpa using hk0
       clear hm hmb;go_wp2_with (first
        |(go_at_call 182;refine U.1.mono ?_;rintro r w4 ⟨rfl,hr,hg⟩;have R4:=Aj hr;have G4:=Aj (G.1.trans hg);have Ow:=Aj (RQ.1.grown hg);have O4:=Aj (bV O.1 hg hpl);obtain⟨s0,s1,s2⟩:=(RQ.1.grown hg).cells;clear hr hg)
        |(go_at_call 131;refine(fI q p a2 tn tc TA T l e2 22 _ Ow.1 R4.1 Ah).mono ?_;rintro r w5 ⟨rfl,hr,hg⟩;rw[Ng he2]at hr;have R5:=Aj hr;have G5:=Aj (G4.1.trans hg);clear hr hg))
       go_ret;refine⟨none,0,0,rfl,?_,?_,G5.1⟩
       ·rw[dz.1];exact AX _ _ _ _
       ·rw[dz.1];exact R5.1
   ·obtain rfl:k=n:=by omega
    obtain⟨hd1,hd2,hd3⟩:=hd.1;rw[Dy,Pe.Mr]at hd1;have dz:=Aj hd1;clear ho hr hg hd hd1 hd2 hd3;go_wp2;go_ret;refine⟨A2,k,c2,rfl,?_,?_,G.1⟩
    ·rw[dz.1];exact O.1
    ·rw[dz.1];exact R.1
end
end
section
section
open Go.RowKit Go.Shelf Go.Sort
namespace Pe
def Gt (acc:List dV) (x:aQ):Bool:=match acc.getLast? with|none=>true|some e=>Lb.Gj e.1 x
def iH (acc:List dV) (r:aQ×Nat×Int):Int:=if r.2.2≠0 then r.2.2 else if Gt acc r.1=true then 0 else 16
def el (T:List ByteArray) (l:List UInt8) (bnd:Nat):Nat→List dV→Nat→List dV×Nat×Int
 |0,acc,a=>(acc,a,0)
 |k+1,acc,a=>
  if iH acc (Rc.lab T l a 0)≠0 then([],(Rc.lab T l a 0).2.1,iH acc (Rc.lab T l a 0))
  else if(fq l bnd (Rc.lab T l a 0).2.1).2.2≠0 then([],(fq l bnd (Rc.lab T l a 0).2.1).2)
  else el T l bnd k (acc++[((Rc.lab T l a 0).1,(fq l bnd (Rc.lab T l a 0).2.1).1)]) (fq l bnd (Rc.lab T l a 0).2.1).2.1
def ko (T:List ByteArray) (l:List UInt8) (bnd:Nat):List dV×Nat×Int:=if(Rc.cnt l 0 0).2.2≠0 then([],(Rc.cnt l 0 0).2)else el T l bnd (Rc.cnt l 0 0).1 [] (Rc.cnt l 0 0).2.1
def dec (T:List ByteArray) (n:Int) (l:List UInt8):List dV×Int:=
 if n<0 then([],2)
 else if Wr.fin l (ko T l n.toNat).2.1 (ko T l n.toNat).2.2≠0 then([],Wr.fin l (ko T l n.toNat).2.1 (ko T l n.toNat).2.2)
 else((ko T l n.toNat).1,0)
theorem Ms (T l bnd acc a):el T l bnd 0 acc a=(acc,a,0):=rfl
theorem aak {T l bnd acc a X} (k) (h:Rc.lab T l a 0=X) (he:iH acc X≠0):el T l bnd (k+1) acc a=([],X.2.1,iH acc X):=by
 rw[el,h,Ps0 he]
theorem aal {T l bnd acc a X Y} (k) (h:Rc.lab T l a 0=X) (he:iH acc X=0) (h2:fq l bnd X.2.1=Y) (he2:Y.2.2≠0):el T l bnd (k+1) acc a=([],Y.2):=by
 rw[el,h,Ng (by simp[he]),h2,Ps0 he2]
theorem YY {T l bnd acc a X Y} (k) (h:Rc.lab T l a 0=X) (he:iH acc X=0) (h2:fq l bnd X.2.1=Y) (he2:Y.2.2=0):el T l bnd (k+1) acc a=el T l bnd k (acc++[(X.1,Y.1)]) Y.2.1:=by
 rw[el,h,Ng (by simp[he]),h2,Ng (by simp[he2])]
theorem Sw (x):Gt [] x=true:=rfl
theorem WM {acc x k} (h:k=acc.length) (hk:k-1<acc.length):Gt acc x=decide (Lb.pc acc[k-1].1 x<0):=by
 subst h;unfold Gt;rw[List.getLast?_eq_getElem?,ja hk]
 rfl
theorem zw (l a) {e} (h:e≠0):Wr.fin l a e=e:=by
 unfold Wr.fin;simp[h]
end Pe
structure Dw (w W:World) (q p:Nat) (TA:Option Addr) (tn tc:Nat) (T:List ByteArray) (l:List UInt8) (A:Option Addr) (n c:Nat) (acc:List dV) (a:Nat) (e:Int):Prop where
 own:aP 163 W (q+1) A n c acc
 rd:aK W p l a e
 rp:RP W q p TA tn tc T l
 below:Below w.heap.size w W
 hp:w.heap.size≤p
structure Db (w W:World) (q p:Nat) (TA:Option Addr) (tn tc:Nat) (T:List ByteArray) (l:List UInt8) (A:Option Addr) (n c:Nat) (acc:List dV) (a:Nat) (e:Int) (G:Nat) (cs:Array Value):Prop where
 dw:Dw w W q p TA tn tc T l A n c acc a e
 box:W.heap[G]? =some (.cells cs 163 (0,0))
 apart:ab A≠some G
 hq:q<G
section
variable {w W W':World} {q p tn tc n c a G:Nat} {TA A:Option Addr} {T:List ByteArray} {l:List UInt8} {acc:List dV} {e:Int} {cs:Array Value}
theorem aP.aam {t base g cs T fr} (h:aP t W base A n c acc) (hg:W.heap[g]? =some (.cells cs T fr)) (ht:T≠t):ab A≠some g:=by
 obtain⟨hs,_,h2,_⟩:=h;intro e;rcases h2.2 with⟨hv,_⟩|⟨g',cap,cur,hv,_,hg',_⟩
 ·injection hv with h1;rw[h1]at e;cases e
 ·injection hv with h1
  rw[h1]at e;have:g'=g:=Oj e;subst this;rw[hg]at hg'
  injection hg' with h2
  injection h2 with _ h3
  exact ht h3
theorem xM {base sz g xs e cs T fr} (h:W.ownsRow base e sz (.slice A n c) n xs) (hg:W.heap[g]? =some (.cells cs T fr)) (ht:T≠e) (hgr:W.grownBy W' (some g)):W'.ownsRow base e sz (.slice A n c) n xs:=by
 refine ag h hgr (.inr fun e=>?_);rcases h.2 with⟨hv,_⟩|⟨g',cap,cur,hv,_,hg',_⟩
 ·injection hv with h1;rw[h1]at e;cases e
 ·injection hv with h1
  rw[h1]at e;have:g'=g:=Oj e;subst this;rw[hg]at hg'
  injection hg' with h2
  injection h2 with _ h3
  exact ht h3
theorem aP.ac1 {t base g cs T fr} (h:aP t W base A n c acc) (hg:W.heap[g]? =some (.cells cs T fr)) (ht:T≠t) (hi:T≠3) (hgr:W.grownBy W' (some g)):aP t W' base A n c acc:=by
 obtain⟨hs,h1,h2,h3⟩:=h;refine⟨hs,h1,xM h2 hg ht hgr,fun i h4 h5=>?_⟩;obtain⟨A1,n1,c1,e,o⟩:=h3 i h4 h5;exact⟨A1,n1,c1,e,xM o hg hi hgr⟩
theorem uB {base sz g k v xs e t cs} (h:W.ownsRow base e sz (.slice A n c) n xs) (hA:ab A≠some g) (_:W.heap[g]? =some (.cells cs t (0,0))):(W.setCell ⟨g,k,none⟩ v).ownsRow base e sz (.slice A n c) n xs:=by
 refine⟨h.1,h.2.imp id fun⟨b,cap,cur,h1,h2,h3,h4⟩=>⟨b,cap,cur,h1,h2,?_,h4⟩⟩;have hbg:b≠g:=fun e1=>by
  injection h1 with h1
  exact hA (by rw[h1,←e1];rfl)
 rw[AO _ _ _ _ (by exact hbg)];exact h3
theorem uC {base sz g xs e cs T fr} (h:W.ownsRow base e sz (.slice A n c) n xs) (hg:W.heap[g]? =some (.cells cs T fr)) (ht:T≠e):ab A≠some g:=by
 intro e;rcases h.2 with⟨hv,_⟩|⟨g',cap,cur,hv,_,hg',_⟩
 ·injection hv with h1;rw[h1]at e;cases e
 ·injection hv with h1
  rw[h1]at e;have:g'=g:=Oj e;subst this;rw[hg]at hg'
  injection hg' with h2
  injection h2 with _ h3
  exact ht h3
theorem aP.set1 {t base g k v cs T} (h:aP t W base A n c acc) (hA:ab A≠some g) (hg:W.heap[g]? =some (.cells cs T (0,0))) (hi:T≠3):aP t (W.setCell ⟨g,k,none⟩ v) base A n c acc:=by
 obtain⟨hs,h1,h2,h3⟩:=h;refine⟨hs,h1,uB h2 hA hg,fun i h4 h5=>?_⟩;obtain⟨A1,n1,c1,e,o⟩:=h3 i h4 h5;exact⟨A1,n1,c1,e,uB o (uC o hg hi) hg⟩
theorem Dw.step (h:Dw w W q p TA tn tc T l A n c acc a e) {a' e'} (hr:aK W' p l a' e') (hg:W.grownBy W' (some p)):Dw w W' q p TA tn tc T l A n c acc a' e':=by
 obtain⟨Ar,nr,cr,hb,_⟩:=h.rd;exact⟨h.own.ac1 hb Ah Ah hg,hr,h.rp.grown hg,h.below.grown hg h.below.size (fun g e=>by have:=Oj e;have:=h.hp;omega),h.hp⟩
theorem Dw.on (h:Dw w W q p TA tn tc T l A n c acc a e) (hb:Below W.heap.size W W'):Dw w W' q p TA tn tc T l A n c acc a e:=
 ⟨h.own.keep hb,h.rd.below hb h.rd.lt,h.rp.grown (aB hb),h.below.trans (hb.mono h.below.size),h.hp⟩
theorem Db.step (h:Db w W q p TA tn tc T l A n c acc a e G cs) {a' e'} (hr:aK W' p l a' e') (hg:W.grownBy W' (some p)):Db w W' q p TA tn tc T l A n c acc a' e' G cs:=
 ⟨h.dw.step hr hg,(hg.block G (Ge.1 h.box).1 (fun e=>by have:=Oj e;have:=h.hq;have:=h.dw.rp.2.1;omega)).trans h.box,h.apart,h.hq⟩
theorem Db.on (h:Db w W q p TA tn tc T l A n c acc a e G cs) (hb:Below W.heap.size W W'):Db w W' q p TA tn tc T l A n c acc a e G cs:=
 ⟨h.dw.on hb,(hb.block G (Ge.1 h.box).1).trans h.box,h.apart,h.hq⟩
theorem Db.set (h:Db w W q p TA tn tc T l A n c acc a e G cs) (k v):Db w (W.setCell ⟨G,k,none⟩ v) q p TA tn tc T l A n c acc a e G (cs.setIfInBounds k v):=by
 have hq:=h.hq;have hpq:=h.dw.rp.2.1;have hp:=h.dw.hp;have hg:W.grownBy (W.setCell ⟨G,k,none⟩ v) (some G):=by
  have hb:Below G W (W.setCell ⟨G,k,none⟩ v):=(Ae _ W).setCell (p:=⟨G,k,none⟩) Ai _;exact⟨hb.os,hb.tape,hb.output,hb.size,fun i _ hi=>AO _ _ _ _ (by exact fun e=>hi (by rw[e]))⟩
 have hb:Below G W (W.setCell ⟨G,k,none⟩ v):=(Ae _ W).setCell (p:=⟨G,k,none⟩) Ai _;refine⟨⟨h.dw.own.set1 h.apart h.box Ah,h.dw.rd.below hb om,?_,h.dw.below.setCell (p:=⟨G,k,none⟩) (by show _≤G;omega) _,hp⟩,Ag W G k _ _ _ h.box,h.apart,hq⟩;obtain⟨r1,r2,r3⟩:=h.dw.rp;exact⟨(hb.block q hq).trans r1,r2,Rd.below r3 (hb.mono om)⟩
theorem Db.cells (h:Db w W q p TA tn tc T l A n c acc a e G cs) (k):W.cell? ⟨G,k,none⟩=cs[k]?∧W.frozen? ⟨G,k,none⟩=false:=⟨Co _ _ _ _ _ _ h.box,Fr _ _ _ _ _ h.box⟩
theorem Dw.box (h:Dw w W q p TA tn tc T l A n c acc a e) (cs):Db w (W.alloc (.cells cs 163)) q p TA tn tc T l A n c acc a e W.heap.size cs:=
 ⟨h.on ((Ae _ _).alloc Ai _),Av W _,fun e=>by
  obtain⟨hs,_,h2,_⟩:=h.own;have:=(ae h2 _ e).2;omega,h.rp.lt⟩
end
theorem Gu (TA A tn tc n c bn T l w) (hT:bK w w.heap.size TA tn tc T) (hv:bf w w.heap.size A n c l) (hl:n≤20000000) (hbn:bn<9223372036854775808):
  Calls prog 77 #[.slice TA tn tc,.int .i64 bn,.slice A n c] w fun r w'=>∃A2 n2 c2,r= .returned (.tuple #[.slice A2 n2 c2,.int .i64 (Pe.dec T bn l).2])∧cZ w' w'.heap.size A2 n2 c2 (Pe.dec T bn l).1∧Below w.heap.size w w':=by
 have hlc:=hv.1;have hcm:=hv.2.1;unfold maxLen at hcm;have HN:=Aj hv.len;have V:=Aj hv;have VT:=Aj hT;clear hv hT;rcases Int.lt_or_le bn 0 with hneg|hpos
 ·have hM:Pe.dec T bn l=([],2):=by unfold Pe.dec;rw[Ps0 hneg]
  rw[hM];clear hM;go_enter func77,ntmps77;go_wp2;go_ret2;exact⟨none,0,0,rfl,cZ.nil _ _,Ae _ _⟩
 ·obtain⟨bnd,rfl⟩:=CB hpos;have hge:¬(bnd:Int)<0:=om;have hbd:bnd<9223372036854775808:=om;obtain⟨X,hX⟩:∃X,X=Pe.ko T l bnd:=⟨_,rfl⟩
  obtain⟨M,hM⟩:∃M,M=Pe.dec T (bnd:Int) l:=⟨_,rfl⟩
  rw[←hM];unfold Pe.dec at hM;rw[Ng om,kz,←hX]at hM;have HX:=Aj hX;have HM:=Aj hM;have hwb:IntKind.u64.wrap (bnd:Int)=(bnd:Int):=wrap_u64 _ om om;have HBD:=Aj hbd;have HL9:=Aj hl;clear hX hM hbd hbn hl;go_enter func77,ntmps77;go_upto_region 4 with(go_at_call 110;refine(dN A n c w.heap.size l w V.1 Ai (by have:=HL9.1;omega)).mono ?_;rintro r w1 ⟨p,rfl,hp1,hp2,hr1,hb1⟩;have R1:=Aj hr1;have B1:=Aj hb1;clear hr1 hb1)
  have D0:Kept (Dw w (w1.alloc (.cells #[.pointer (some ⟨p,0,none⟩),.slice TA tn tc,.int .i64 (n:Int)] 230)) w1.heap.size p TA tn tc T l none 0 0 [] 0 0):=
   ⟨⟨aP.nil _ _,R1.1.box _,⟨by rw[←HN.1];exact Av w1 _,hp2,Rd.alloc (Rd.more (Rd.below VT.1 B1.1) hp1) om _⟩,B1.1.alloc (by have:=B1.1.size;omega) _,hp1⟩⟩
  clear R1 B1;generalize w1.alloc (.cells #[.pointer (some ⟨p,0,none⟩),.slice TA tn tc,.int .i64 (n:Int)] 230)=w2 at*;generalize w1.heap.size=q at*;have mixed:prog.follows .mixedOrders=true:=kr;have CN:=Aj (uy q p 0 tn tc TA T l 0 w2 D0.1.rp D0.1.rd);have hcl:=Rc.tJ l 0 0 (bH _);have hcz:=Pe.YX l 0 0;have hX2:=HX.1;unfold Pe.ko at hX2;generalize Rc.cnt l 0 0=CT at*;obtain⟨m,a0,e0⟩:=CT;simp only[]at CN hcl hcz hX2;by_cases he0:e0=0
  ·subst he0;rw[Ng sm]at hX2;have HX2:=Aj hX2;have HM9:Kept (m≤20000000):=⟨by have:=HN.1;have:=HL9.1;omega⟩
   have hmI:(m:Int)≤20000000:=by have:=HM9.1;omega
   clear hX2 hcz HX hcl;go_upto_region 6 with(go_at_call 129;refine CN.1.mono ?_;rintro r w3 ⟨rfl,hr,hg⟩;have D3:=Aj (D0.1.step hr hg);clear hr hg)
   go_loopw [9,24] (fun o i wr=>∃k:Nat,k≤m∧i= .int .i64 k∧∃(A2:Option Addr) (c2:Nat) (acc:List dV) (at_:Nat),o= .slice A2 k c2∧Dw w wr q p TA tn tc T l A2 k c2 acc at_ 0∧Kept (X=Pe.el T l bnd (m-k) acc at_∧acc.length=k)) (fun _ i _=>m-(intOf i).toNat)
   case atStart=>exact⟨0,om,rfl,none,0,[],a0,rfl,D3.1,⟨HX2.1,rfl⟩⟩
   case round=>
    clear HX2 D3 CN D0;obtain⟨k,hk,rfl,A2,c2,acc,at_,rfl,hD,hd⟩:=hrel;have D:=Aj hD;have kP:=hD.below.size;clear hD;by_cases hlt:k<m
    ·obtain⟨hd1,hd2⟩:=hd.1;rw[show m-k=(m-(k+1))+1 from om]at hd1;have ac2:=fun X1 h1 h2=>hd1.trans (Pe.aak (X:=X1) (m-(k+1)) h1 h2)
     have ac3:=fun X1 Y1 h1 h2 h3 h4=>hd1.trans (Pe.aal (X:=X1) (Y:=Y1) (m-(k+1)) h1 h2 h3 h4)
     have WL:=fun X1 Y1 h1 h2 h3 h4=>hd1.trans (Pe.YY (X:=X1) (Y:=Y1) (m-(k+1)) h1 h2 h3 h4)
     have hLB:Rc.lab T l at_ 0=(⟨(Rc.sym T l at_ 0).1,(Rc.sym T l (Rc.sym T l at_ 0).2.1 (Rc.sym T l at_ 0).2.2).1⟩,(Rc.sym T l (Rc.sym T l at_ 0).2.1 (Rc.sym T l at_ 0).2.2).2):=rfl;have S1:=Aj (fun W (d1:RP W q p TA tn tc T l) (d2:aK W p l at_ 0)=>qV q p at_ tn tc TA T l 0 W d1 d2);generalize Rc.sym T l at_ 0=Y1 at*;obtain⟨s1,a1,e1⟩:=Y1;simp only[]at S1 hLB;have S2:=Aj (fun W (d1:RP W q p TA tn tc T l) (d2:aK W p l a1 e1)=>qV q p a1 tn tc TA T l e1 W d1 d2);generalize Rc.sym T l a1 e1=Y2 at*;obtain⟨s2,a2,e2⟩:=Y2;simp only[]at S2 hLB;have aan:=Aj (ac2 _ hLB);have aao:=Aj (fun Y1=>ac3 _ Y1 hLB);have HOK:=Aj (fun Y1=>WL _ Y1 hLB);have HL:=Aj hd2;simp only[]at aan aao HOK;clear ac2 ac3 WL hLB hd hd1 hd2;go_upto_region 9 with(fail)
     have D1:=Aj (D.1.box #[.string ⟨#[]⟩,.string ⟨#[]⟩,.slice none 0 0]);have hzg:w.heap.size≤wr.heap.size:=kP;clear D;generalize wr.alloc (Obj.cells #[.string ⟨#[]⟩,.string ⟨#[]⟩,.slice none 0 0] 163)=w4 at*;generalize wr.heap.size=G at*;go_upto_region 10 with(go_at_call 130;refine(S1.1 w4 D1.1.dw.rp D1.1.dw.rd).mono ?_;rintro r w5 ⟨rfl,hr,hg⟩;have D2:=Aj (D1.1.step hr hg);obtain⟨y0,f0⟩:=D2.1.cells 0;clear hr hg D1)
     have D3:=Aj (D2.1.set 0 (.string s1));clear D2 y0 f0;generalize w5.setCell ⟨G,0,none⟩ (.string s1)=w6 at*;go_upto_region 11 with(go_at_call 130;refine(S2.1 w6 D3.1.dw.rp D3.1.dw.rd).mono ?_;rintro r w7 ⟨rfl,hr,hg⟩;have D4:=Aj (D3.1.step hr hg);obtain⟨y1,f1⟩:=D4.1.cells 1;clear hr hg D3)
     have D5:=Aj (D4.1.set 1 (.string s2));clear D4 y1 f1;generalize w7.setCell ⟨G,1,none⟩ (.string s2)=w8 at*;have D5:Kept (Db w w8 q p TA tn tc T l A2 k c2 acc a2 e2 G #[.string s1,.string s2,.slice none 0 0]):=D5;obtain⟨e3,kJ⟩:∃e3,e3=Pe.iH acc (⟨s1,s2⟩,a2,e2):=⟨_,rfl⟩
     have HE3:=Aj kJ;rw[←kJ]at aan aao HOK;unfold Pe.iH at kJ;simp only[]at kJ;have PC:=Aj (fun(z:aQ) W=>ou z ⟨s1,s2⟩ W);unfold Yz at PC;simp only[]at PC;go_cut [51] (fun t W=>t= .bool (!(e3==0))∧Db w W q p TA tn tc T l A2 k c2 acc a2 e3 G #[.string s1,.string s2,.slice none 0 0])
     case first=>
      by_cases hk0:k=0
      ·have hacc:acc=[]:=nL (by rw[HL.1,hk0]);subst hacc;subst hk0;have ER:e3=e2:=by
        rw[kJ];by_cases h:e2=0
        ·simp[h,Pe.Sw]
        ·simp[h]
       subst ER;have CK:=Aj (fun W (h:Db w W q p TA tn tc T l A2 0 c2 [] a2 e3 G #[.string s1,.string s2,.slice none 0 0])=>dH q p a2 tn tc TA T l e3 16 W h.dw.rp h.dw.rd);have DN:Kept (∀nq,Db w (w8.drewN nq) q p TA tn tc T l A2 0 c2 [] a2 e3 G #[.string s1,.string s2,.slice none 0 0]):=⟨fun nq=>D5.1.on (below_drewN (Ae _ _) nq)⟩
       clear kJ;go_quiet (first|(go_at_call 131;exact(CK.1 _ (DN.1 _)).mono fun _ _ h=>⟨h.1,_,h.2⟩));go_wp2_with fail;go_meet;exact⟨rfl,DN.1 _⟩
      ·have hk1:k-1<acc.length:=by rw[HL.1];omega
       obtain⟨b,off,A5,n5,c5,hA2,kK,-,hcc⟩:=D5.1.dw.own.rd.cells Ai hk1;subst hA2;rw[Pe.WM (x:=⟨s1,s2⟩) (k:=k) HL.1.symm hk1]at kJ;generalize acc[k-1]=pe at*;obtain⟨y,sy⟩:=pe;simp only[]at kJ hcc;have hGs:=(Ge.1 D5.1.box).1;have ek:(k:Int)-1=((k-1:Nat):Int):=om;have ZO:((k-1:Nat):Int)< (k:Int):=om;have ew:IntKind.i64.wrap ((k-1:Nat):Int)=((k-1:Nat):Int):=by rw[Bq];have:=HM9.1;omega
       have hk2:((k:Int)==0)=false:=by simpa using hk0
       have PC1:=fun W=>PC.1 y W
       rcases Int.lt_or_le (Lb.pc y ⟨s1,s2⟩) 0 with hq|hq
       ·have ER:e3=e2:=by
         rw[kJ,Bj hq];by_cases h:e2=0
         ·simp[h]
         ·simp[h]
        subst ER;have c0:=Ej (w:=w8) (show(⟨b,off+(k-1)*3,none⟩:Addr).block<w8.heap.size by show b<_;omega) (hcc w8 (Ae _ _)).1;have c1:=Ej (w:=w8) (show(⟨b,off+(k-1)*3+1,none⟩:Addr).block<w8.heap.size by show b<_;omega) (hcc w8 (Ae _ _)).2.1;have d0:=Ej (w:=w8) (a:=⟨G,0,none⟩) (v:= .string s1) (by show G<_;exact hGs) (D5.1.cells 0).1;have d1:=Ej (w:=w8) (a:=⟨G,1,none⟩) (v:= .string s2) (by show G<_;exact hGs) (D5.1.cells 1).1;have CK:=Aj (fun W (h:Db w W q p TA tn tc T l (some ⟨b,off,none⟩) k c2 acc a2 e3 G #[.string s1,.string s2,.slice none 0 0])=>dH q p a2 tn tc TA T l e3 16 W h.dw.rp h.dw.rd);have DN:Kept (∀W,Gr w8 W→Db w W q p TA tn tc T l (some ⟨b,off,none⟩) k c2 acc a2 e3 G #[.string s1,.string s2,.slice none 0 0]):=⟨fun W g=>D5.1.on g.below⟩
        clear kJ hcc;generalize Lb.pc y ⟨s1,s2⟩=pq at*;go_quiet_grown (first
         |(go_at_call 80;refine Dj (PC1 _))
         |(go_at_call 131;refine Dj ((CK.1 _ (DN.1 _ ⟨_,_,rfl⟩)).mono fun _ _ h=>⟨h.1,by rw[h.2];exact Gr.refl _⟩)))
        go_wp2_with fail;go_meet;exact⟨rfl,DN.1 _ ⟨_,_,rfl⟩⟩
       ·have ER:(if e2=0 then(16:Int)else e2)=e3:=by
         rw[kJ,AF (show¬Lb.pc y ⟨s1,s2⟩<0 from om)];by_cases h:e2=0
         ·simp[h]
         ·simp[h]
        have hb3:(e3==0)=false:=by
         rw[←ER];by_cases h:e2=0
         ·simp[h]
         ·simp[h]
        have hq1:¬Lb.pc y ⟨s1,s2⟩<0:=om;have HE4:=Aj ER;have HCC:=Aj hcc;have HBP:Kept (b≠p):=⟨fun e=>by
         obtain⟨Ar,nr,cr,hbx,_⟩:=D5.1.dw.rd;exact D5.1.dw.own.aam hbx Ah (by rw[←e];rfl)⟩
        obtain⟨c0,c1,-⟩:=hcc w8 (Ae _ _);have d0:w8.cell? ⟨G,0,none⟩=some (.string s1):=(D5.1.cells 0).1;have d1:w8.cell? ⟨G,1,none⟩=some (.string s2):=(D5.1.cells 1).1;clear kJ ER hcc;generalize Lb.pc y ⟨s1,s2⟩=pq at*;go_region_held3 (fun w'=>w'.cell? ⟨b,off+(k-1)*3,none⟩=some (.string y.n)∧w'.cell? ⟨b,off+(k-1)*3+1,none⟩=some (.string y.v)∧w'.cell? ⟨G,0,none⟩=some (.string s1)∧w'.cell? ⟨G,1,none⟩=some (.string s2)) (first|exact⟨c0,c1,d0,d1⟩|exact k8|exact k9)
         (first
         |(go_at_call 80;refine(PC1 _).mono ?_;rintro r w9 ⟨rfl,hg⟩;have J7:Below w8.heap.size w8 w9:=(by first|exact hg.below|exact dM hg.below);have D9:=Aj (D5.1.on J7);have k8:w9.cell? ⟨b,off+(k-1)*3,none⟩=some (.string y.n)∧w9.cell? ⟨b,off+(k-1)*3+1,none⟩=some (.string y.v)∧w9.cell? ⟨G,0,none⟩=some (.string s1)∧w9.cell? ⟨G,1,none⟩=some (.string s2):=⟨(HCC.1 w9 J7).1,(HCC.1 w9 J7).2.1,(D9.1.cells 0).1,(D9.1.cells 1).1⟩;have hz9:b<w9.heap.size:=j6 kK J7.size;clear hg J7)
         |(go_at_call 131;refine(J5 q p a2 tn tc TA T l _ e2 16 _ D9.1.dw.rp D9.1.dw.rd Ah).mono ?_;rintro r Qd ⟨e9,rfl,hT,hF,hr,hg⟩;have he9:e9=e3:=(hF (by simp[hq1])).trans HE4.1;subst he9;have D10:=Aj (D9.1.step hr hg);have hbk:Qd.heap[b]? =w9.heap[b]?:=hg.block b hz9 (fun e=>HBP.1 (Oj e));have k9:Qd.cell? ⟨b,off+(k-1)*3,none⟩=some (.string y.n)∧Qd.cell? ⟨b,off+(k-1)*3+1,none⟩=some (.string y.v)∧Qd.cell? ⟨G,0,none⟩=some (.string s1)∧Qd.cell? ⟨G,1,none⟩=some (.string s2):=⟨(AR (a:=⟨b,off+(k-1)*3,none⟩) hbk).trans k8.1,(AR (a:=⟨b,off+(k-1)*3+1,none⟩) hbk).trans k8.2.1,(D10.1.cells 0).1,(D10.1.cells 1).1⟩;clear hr hg hT hF hbk))
        go_wp2_with fail;go_meet;exact⟨by rw[hb3];rfl,D10.1⟩
     case rest=>
      obtain⟨rfl,hD6⟩:=hcut;have D6:=Aj hD6;clear D5 hD6 kJ;have hqs:=D6.1.dw.rp.lt;by_cases h3:e3=0
      ·subst h3;obtain⟨Y,hY⟩:∃Y,Pe.fq l bnd a2=Y:=⟨_,rfl⟩
       have SR:=Aj (Gs q p a2 tn tc bnd TA T l wc D6.1.dw.rp D6.1.dw.rd HBD.1 (by rw[←HN.1];exact HL9.1));have YZ:=Aj (aao.1 Y rfl hY);have ac4:=Aj (HOK.1 Y rfl hY);rw[hY]at SR;clear hY;obtain⟨sr,a4,e4⟩:=Y;simp only[]at SR YZ ac4;go_upto_region 13 with(go_at_call 132;refine SR.1.mono ?_;rintro r QJ ⟨A8,n8,c8,rfl,ho,hr,hg⟩;have O8:=Aj (show ax QJ 0 A8 n8 c8 sr from aC ho (bH _));have D7:=Aj (D6.1.step hr hg);obtain⟨y2,f2⟩:=D7.1.cells 2;clear ho hr hg SR)
       have D8:=Aj (D7.1.set 2 (.slice A8 n8 c8));have O9:=Aj (show ax (QJ.setCell ⟨G,2,none⟩ (.slice A8 n8 c8)) 0 A8 n8 c8 sr from uB O8.1 (uC O8.1 D7.1.box Ah) D7.1.box);clear D6 D7 y2 f2 O8;generalize QJ.setCell ⟨G,2,none⟩ (.slice A8 n8 c8)=ZG at*;have D8:Kept (Db w ZG q p TA tn tc T l A2 k c2 acc a4 e4 G #[.string s1,.string s2,.slice A8 n8 c8]):=D8;have alC:=D8.1.dw.rp.lt;have hpq:=D8.1.dw.rp.2.1;have hwp:=D8.1.dw.hp;obtain⟨q0,q1,q2⟩:=D8.1.dw.rp.cells;have z0:ZG.cell? ⟨G,0,none⟩=some (.string s1):=(D8.1.cells 0).1;have z1:ZG.cell? ⟨G,1,none⟩=some (.string s2):=(D8.1.cells 1).1;have z2:ZG.cell? ⟨G,2,none⟩=some (.slice A8 n8 c8):=(D8.1.cells 2).1;by_cases h4:e4=0
       ·subst h4;have HX3:=Aj (ac4.1 rfl);have HOW:=Aj D8.1.dw.own;go_wp2_with (first
         |(at_builtin;refine jW (y:=⟨s1,s2⟩) (s:=sr) rfl (.tmp 63) (.tmp 65) rfl (q+1) A2 k c2 acc rfl HOW.1 _ rfl rfl O9.1 (by have:=HM9.1;omega) om ?_;intro A9 c9 VH ho9 J7;have O10:=Aj ho9;have B10:=Aj J7;clear ho9 J7)
         |(go_at_call 120;refine(ay p a4 l 0 _ D8.1.dw.rd).mono ?_;rintro r wE ⟨rfl,WN⟩;obtain rfl:=WN))
        go_roundw
        case rel=>
         refine⟨k+1,om,by go_num,A9,c9,_,a4,rfl,⟨O10.1,D8.1.dw.rd.below B10.1 om,⟨(B10.1.block q om).trans D8.1.dw.rp.1,hpq,Rd.below D8.1.dw.rp.2.2 (B10.1.mono om)⟩,D8.1.dw.below.trans (B10.1.mono om),hwp⟩,⟨HX3.1,by simp[HL.1]⟩⟩
        case measure=>simp[intOf];omega
       ·have h4b:(e4==0)=false:=by simpa using h4
        have HX3:=Aj (YZ.1 h4);obtain⟨F,hF⟩:∃F,Wr.fin l a4 e4=F:=⟨_,rfl⟩
        have Sz:F=e4:=by rw[←hF];exact Pe.zw l a4 h4
        have hFn:(F==0)=false:=by rw[Sz];exact h4b
        have dz:Kept (M=([],F)):=⟨by
         have:=HM.1;rw[HX3.1]at this;simp only[]at this;rw[hF,Ps0 (by rw[Sz];exact h4)]at this;exact this⟩
        have HF:=Aj hF;have D9:=Aj D8.1.dw;clear hF Sz;go_wp2_with (first
         |(go_at_call 120;refine(ay p a4 l e4 _ D9.1.rd).mono ?_;rintro r wE ⟨rfl,WN⟩;obtain rfl:=WN)
         |(go_at_call 117;refine(gX p a4 l e4 _ D9.1.rd).mono ?_;rintro r wE ⟨Mt,WN⟩;rw[HF.1]at Mt;subst Mt;obtain rfl:=WN))
        go_ret2;refine⟨none,0,0,?_,?_,D9.1.below⟩
        ·rw[dz.1];rfl
        ·rw[dz.1];exact cZ.nil _ _
      ·have h3b:(e3==0)=false:=by simpa using h3
       have HX3:=Aj (aan.1 h3);obtain⟨F,hF⟩:∃F,Wr.fin l a2 e3=F:=⟨_,rfl⟩
       have Sz:F=e3:=by rw[←hF];exact Pe.zw l a2 h3
       have hFn:(F==0)=false:=by rw[Sz];exact h3b
       have dz:Kept (M=([],F)):=⟨by
        have:=HM.1;rw[HX3.1]at this;simp only[]at this;rw[hF,Ps0 (by rw[Sz];exact h3)]at this;exact this⟩
       have HF:=Aj hF;have D9:=Aj D6.1.dw;obtain⟨q0,q1,q2⟩:=D9.1.rp.cells;clear hF Sz;rw[show(!(e3==0))=true by rw[h3b];rfl];go_wp2_with (go_at_call 117;refine(gX p a2 l e3 _ D9.1.rd).mono ?_;rintro r wE ⟨Mt,WN⟩;rw[HF.1]at Mt;subst Mt;obtain rfl:=WN);go_ret2;refine⟨none,0,0,?_,?_,D9.1.below⟩
       ·rw[dz.1];rfl
       ·rw[dz.1];exact cZ.nil _ _
    ·obtain rfl:k=m:=by omega
     obtain⟨hd1,hd2⟩:=hd.1;rw[Dy,Pe.Ms]at hd1;obtain⟨F,hF⟩:∃F,Wr.fin l at_ 0=F:=⟨_,rfl⟩
     have HF:=Aj hF;have U8:=HM.1;rw[hd1]at U8;simp only[]at U8;rw[hF]at U8;clear hd hd1 hd2 hF;by_cases hf:F=0
     ·subst hf;have dz:Kept (M=(acc,0)):=⟨by rw[U8];simp⟩
      clear U8;obtain⟨q0,q1,q2⟩:=D.1.rp.cells;go_wp2_with (go_at_call 117;refine(gX p at_ l 0 _ D.1.rd).mono ?_;rintro r wE ⟨Mt,rfl⟩;rw[HF.1]at Mt;subst Mt);go_ret2;refine⟨A2,k,c2,?_,?_,D.1.below⟩
      ·rw[dz.1];rfl
      ·rw[dz.1];exact D.1.own.rd
     ·have Qe:(F==0)=false:=by simpa using hf
      have dz:Kept (M=([],F)):=⟨by rw[U8,Ps0 hf]⟩
      clear U8;obtain⟨q0,q1,q2⟩:=D.1.rp.cells;go_wp2_with (go_at_call 117;refine(gX p at_ l 0 _ D.1.rd).mono ?_;rintro r wE ⟨Mt,rfl⟩;rw[HF.1]at Mt;subst Mt);go_ret2;refine⟨none,0,0,?_,?_,D.1.below⟩
      ·rw[dz.1];rfl
      ·rw[dz.1];exact cZ.nil _ _
  ·have hm0:=hcz he0;subst hm0;rw[Ps0 he0]at hX2;obtain⟨F,hF⟩:∃F,Wr.fin l a0 e0=F:=⟨_,rfl⟩
   have Sz:F=e0:=by rw[←hF];exact Pe.zw l a0 he0
   have hFn:(F==0)=false:=by rw[Sz];simpa using he0
   have dz:Kept (M=([],F)):=⟨by
    have:=HM.1;rw[hX2]at this;simp only[]at this;rw[hF,Ps0 (by rw[Sz];exact he0)]at this;exact this⟩
   have HF:=Aj hF;clear hF Sz hX2 hcz hcl HX;go_upto_region 6 with(go_at_call 129;refine CN.1.mono ?_;rintro r w3 ⟨rfl,hr,hg⟩;have D9:=Aj (D0.1.step hr hg);clear hr hg)
   go_loopw [9,24] (fun o i wr=>o= .slice none 0 0∧i= .int .i64 0∧wr=w3) (fun _ i _=>1)
   case atStart=>exact⟨rfl,rfl,rfl⟩
   case round=>
    obtain⟨rfl,rfl,hw⟩:=hrel;obtain rfl:=hw.symm;obtain⟨q0,q1,q2⟩:=D9.1.rp.cells;go_wp2_with (go_at_call 117;refine(gX p a0 l e0 _ D9.1.rd).mono ?_;rintro r wE ⟨Mt,WN⟩;rw[HF.1]at Mt;subst Mt;obtain rfl:=WN);go_ret2;refine⟨none,0,0,?_,?_,D9.1.below⟩
    ·rw[dz.1];rfl
    ·rw[dz.1];exact cZ.nil _ _
end
end
namespace Pe
open Rc (Good)
def Asc (bnd:Nat):Int→Bool→List Int→Prop
 |_,_,[]=>True
 |a,f,y::r=>(if f=true then a≤y else a<y)∧y< (bnd:Int)∧Asc bnd y false r
theorem SB {bnd} (hb:bnd≤9223372036854775808):∀{s} {a} {f},Asc bnd a f s→Up a s
 |[],_,_,_=>trivial
 |y::r,a,f,h=>⟨by have:=h.1;cases f<;>simp at this<;>omega,by have:=h.2.1;omega,SB hb h.2.2⟩
theorem dh (x):0< (Vi.enc x).length:=Vi.dh x
theorem rZ:∀(s) (a),s.length≤(gap a s).length
 |[],_=>by simp[gap]
 |y::r,a=>by
  have h1:=rZ r y;have h2:=dh (y-a).toNat;rw[gap,La,Lc];omega
theorem SH (T e):0< (gY T e).length:=by
 have:=dh e.2.length;simp only[gY,La];omega
theorem aY (T):∀(E:List dV),E.length≤(E.flatMap (gY T)).length
 |[]=>sm
 |e::E=>by
  have h1:=aY T E;have h2:=SH T e;rw[Au,La,Lc];omega
theorem Mv {l a n a'} (h:Wr.uint l a 0 Rc.mx=(n,a',0)) (hn:n≤l.length-a'):Rc.cnt l a 0=(n,a',0):=by
 unfold Rc.cnt;rw[h];simp only[ne_eq,BR,Eg];rw[Ng om]
theorem SK {l bnd} (hb:bnd≤9223372036854775808):∀(ys) (last:Nat) (acc) (a) (r),Asc bnd last acc.isEmpty ys→l.drop a=gap last ys++r→a≤l.length→
  sl l bnd ys.length last acc a=(acc++ys,a+(gap last ys).length,0)∧l.drop (a+(gap last ys).length)=r∧a+(gap last ys).length≤l.length
 |[],last,acc,a,r,h,hd,ha=>by
  rw[Ba,Mr];simp[gap]at hd⊢;exact⟨hd,ha⟩
 |y::ys,last,acc,a,r,h,hd,ha=>by
  obtain⟨h1,h2,h3⟩:=h;rw[gap,Af]at hd;have hly:(last:Int)≤y:=by split at h1<;>omega
  obtain⟨m,rfl⟩:=CB (show 0≤y from om);have hx:((m:Int)-(last:Int)).toNat=m-last:=om;rw[hx]at hd;obtain⟨g1,g2,g3⟩:=Rc.aV.at_ (x:=m-last) (by unfold Rc.mx;omega) hd ha;have ho:okD bnd last (m-last) acc.isEmpty=true:=by
   unfold okD;rw[CW,Er,Bool.or_eq_true,Er];refine⟨om,?_⟩;split at h1
   ·next e=>exact .inl e
   ·exact .inr om
  rw[Lc,YW _ g1 ho,show last+(m-last)=m from om];obtain⟨i1,i2,i3⟩:=SK hb ys m (acc++[(m:Int)]) _ r (by
   have:(acc++[(m:Int)]).isEmpty=false:=by cases acc<;>rfl
   rw[this];exact h3) g2 g3
  rw[i1,gap,hx,La];rw[fA]at i2 i3;exact⟨by simp[fA],i2,i3⟩
def okS (bnd:Nat) (s:List Int):Prop:=s≠[]∧Asc bnd 0 true s
theorem WQ {l bnd a s r} (hb:bnd≤9223372036854775808) (hs:okS bnd s) (hsl:s.length≤Rc.mx) (ha:a≤l.length) (hd:l.drop a=Vi.enc s.length++gap 0 s++r):
  fq l bnd a=(s,a+(Vi.enc s.length++gap 0 s).length,0)∧l.drop (a+(Vi.enc s.length++gap 0 s).length)=r∧a+(Vi.enc s.length++gap 0 s).length≤l.length:=by
 rw[Af]at hd;obtain⟨g1,g2,g3⟩:=Rc.aV.at_ (x:=s.length) hsl hd ha;obtain⟨i1,i2,i3⟩:=SK hb s 0 [] _ r hs.2 g2 g3;have hgl:=rZ s 0;have hcn:=Mv g1 (by
  have:=congrArg List.length g2;rw[mg,La]at this;omega)
 have hs0:s.length≠0:=fun e=>hs.1 (nL e)
 unfold fq;rw[hcn];simp only[ne_eq,BR,Eg,Ng hs0];rw[i1,La,←fA];exact⟨sm,i2,i3⟩
theorem Ox {acc x a}:iH acc (x,a,0)=if Gt acc x=true then 0 else 16:=by
 unfold iH;simp
theorem Oy {acc x} {s:List Int} (h:Lb.lh (acc.map (·.1))):Gt acc x=true↔Lb.lh ((acc++[(x,s)]).map (·.1)):=by
 rw[dR];unfold Lb.lh at h⊢;rw[Cr];constructor
 ·intro ho;refine⟨h,List.pairwise_singleton _ _,fun a ha b hb=>?_⟩;have hb':b=x:=by simpa using hb
  subst hb';rcases List.eq_nil_or_concat acc with h0|⟨L,e,rfl⟩
  ·subst h0;simp at ha
  ·have hl:Lb.Gj e.1 b=true:=by
    unfold Gt at ho;rw[DL,List.getLast?_concat]at ho;exact ho
   rw[DL,dR,je]at ha;rw[DL,dR,Cr]at h;rcases ha with ha|ha
   ·exact Lb.lZ (h.2.2 a ha e.1 sm) hl
   ·have:a=e.1:=by simpa using ha
    rw[this];exact hl
 ·rintro⟨_,_,h3⟩;rcases List.eq_nil_or_concat acc with h0|⟨L,e,rfl⟩
  ·subst h0;rfl
  ·unfold Gt;rw[DL,List.getLast?_concat];exact h3 e.1 sm x sm
def ac6 (T:List ByteArray) (bnd:Nat) (e:dV):Prop:=Gn T e=true∧okS bnd e.2
theorem SN {T} (hS:Sy.iO T) (hT:T.length≤Rc.mx) {l bnd} (hb:bnd≤9223372036854775808):∀(ys acc) (a) (r),Lb.lh ((acc++ys).map (·.1))→(∀e∈ys,ac6 T bnd e∧e.2.length≤Rc.mx)→
  l.drop a=ys.flatMap (gY T)++r→a≤l.length→el T l bnd ys.length acc a=(acc++ys,a+(ys.flatMap (gY T)).length,0)∧l.drop (a+(ys.flatMap (gY T)).length)=r∧a+(ys.flatMap (gY T)).length≤l.length
 |[],acc,a,r,hp,h,hd,ha=>by
  rw[Ba,Ms];simp at hd⊢;exact⟨hd,ha⟩
 |e::ys,acc,a,r,hp,h,hd,ha=>by
  obtain⟨⟨h1,h2⟩,h3⟩:=h e sm;obtain⟨x,s⟩:=e;simp only[]at h2 h3;have hsp:acc++(x,s)::ys=(acc++[(x,s)])++ys:=sm;rw[hsp]at hp⊢;have hpa:Lb.lh ((acc++[(x,s)]).map (·.1)):=by
   unfold Lb.lh at hp⊢;rw[dR,Cr]at hp;exact hp.1
  have hp0:Lb.lh (acc.map (·.1)):=by
   unfold Lb.lh at hpa⊢;rw[dR,Cr]at hpa;exact hpa.1
  rw[Au,Af]at hd;unfold gY at hd;simp only[]at hd;rw[Af]at hd;obtain⟨g1,g2,g3⟩:=(Rc.uf hS hT).at_ (x:=x) (by unfold Gn at h1;rw[CW]at h1;exact h1) hd ha;obtain⟨i1,i2,i3⟩:=WQ hb h2 h3 g3 g2;have ho:iH acc (x,a+(Rc.dU T x.n++Rc.dU T x.v).length,0)=0:=by rw[Ox,Ps0 ((Oy hp0).2 hpa)]
  rw[Lc,YY _ g1 ho i1 rfl];obtain⟨j1,j2,j3⟩:=SN hS hT hb ys (acc++[(x,s)]) _ r hp (fun e he=>h e (by simp[he])) (by
   have hfe:(fun x:dV=>Rc.dU T x.1.n++Rc.dU T x.1.v++(Vi.enc x.2.length++gap 0 x.2))=gY T:=rfl;rw[i2,hfe]) i3
  have hlen:(List.flatMap (gY T) ((x,s)::ys)).length=(Rc.dU T x.n++Rc.dU T x.v).length+(Vi.enc s.length++gap 0 s).length+(ys.flatMap (gY T)).length:=by
   rw[Au,La];unfold gY;simp only[La]
  rw[j1,hlen];rw[←fA,←fA];exact⟨rfl,j2,j3⟩
theorem bU {T} (hS:Sy.iO T) (hT:T.length≤Rc.mx) {bnd} (hb:bnd≤9223372036854775808) {E} (hE:E.length≤Rc.mx) (hp:Lb.lh (E.map (·.1))) (h:∀e∈E,ac6 T bnd e∧e.2.length≤Rc.mx):dec T (bnd:Int) (aM T E)=(E,0):=by
 obtain⟨g1,g2,g3⟩:=Rc.aV.at_ (l:=aM T E) (a:=0) (x:=E.length) (r:=E.flatMap (gY T)) hE (by rw[Bp];rfl) (bH _);obtain⟨i1,i2,i3⟩:=SN hS hT hb E [] _ [] hp h (by rw[g2,Bh]) g3;have hlen:(aM T E).length=0+(Vi.enc E.length).length+(E.flatMap (gY T)).length:=by unfold aM;rw[La];omega
 have hcn:=Mv g1 (by have:=aY T E;omega);have hl:ko T (aM T E) bnd=(E,0+(Vi.enc E.length).length+(E.flatMap (gY T)).length,0):=by
  unfold ko;rw[hcn];simp only[ne_eq,BR,Eg];rw[i1];simp
 unfold dec;rw[Ng om,kz,hl];have hf:Wr.fin (aM T E) (0+(Vi.enc E.length).length+(E.flatMap (gY T)).length) 0=0:=by
  unfold Wr.fin;rw[←hlen];simp
 simp only[hf];simp
end Pe
section
open Go.RowKit Go.Shelf
namespace Ps
theorem zx:∀(M) (k) (p),p∈fu M k→(k:Int)≤p.2∧p.2< (k:Int)+M.length
 |[],_,p,h=>by simp[fu]at h
 |m::M,k,p,h=>by
  rw[fu,je]at h;rcases h with h|h
  ·obtain⟨x,_,rfl⟩:=bY.1 h;simp only[Lc];omega
  ·have:=zx M (k+1) p h;simp only[Lc];omega
theorem sj {P E} (h:rD P E):E.length≤P.length∧∀e∈E,e.2.length≤P.length:=by
 refine⟨?_,fun e he=>by rw[h.fq e he];exact Mq _ _⟩;have hnd:(E.map (·.1)).Nodup:=by
  have:=h.srt;unfold Lb.lh at this;refine this.imp fun hxy e=>?_
  rw[e,Lb.iF]at hxy;cases hxy
 have:=cu _ _ hnd (fun x hx=>(h.mem x).1 hx);simpa using this
end Ps
namespace Pe
theorem Y0 {bnd:Nat}:∀{s} {a} {f},Ls.S s→(∀y∈s,(if f=true then a≤y else a<y)∧y< (bnd:Int))→Asc bnd a f s
 |[],_,_,_,_=>trivial
 |y::r,a,f,hs,h=>by
  obtain⟨h1,h2⟩:=AQ.1 (show(y::r).Pairwise _ from hs);exact⟨(h y sm).1,(h y sm).2,Y0 h2 fun z hz=>⟨by rw[Ng sm];exact h1 z hz,(h z (by simp[hz])).2⟩⟩
theorem SQ:∀{s} {a},Up a s→0≤a→(gap a s).length≤s.length*10
 |[],_,_,_=>by simp[gap]
 |y::r,a,h,h0=>by
  have h1:=SQ h.2.2 (show 0≤y by have:=h.1;omega);have h2:=Vi.bD (y-a).toNat (by have:=h.1;have:=h.2.1;omega);rw[gap,La,Lc,Nat.succ_mul];omega
theorem zy {T} (hT:T.length≤1000000) (s):(Rc.dU T s).length≤10:=by
 unfold Rc.dU;cases h:Sy.idx T s with
 |none=>exact Vi.bD _ sm
 |some k=>
  obtain⟨hk,_⟩:=Sy.jv h;exact Vi.bD _ (by simp;omega)
end Pe
theorem Ps.uD {M E} (hs:Ps.Sets M) (h:Ps.rD (Ps.fu M 0) E):E.length≤1000000∧∀e∈E,e.2.length≤1000000:=by
 obtain⟨h1,h2⟩:=Ps.sj h;have h3:=Ps.l6 M 0;have h4:=hs.2;exact⟨om,fun e he=>by have:=h2 e he;omega⟩
theorem Ps.zz:∀(M) (k),(∀m∈M,Lb.iO m)→∀x,Ls.S (Ps.fq x (Ps.fu M k))
 |[],_,_,_=>List.Pairwise.nil
 |m::M,k,h,x=>by
  rw[Ps.fu,Ps.l5];have key:∀(m:List aQ),Lb.iO m→Ps.fq x (m.map fun x=>(x,(k:Int)))=[]∨Ps.fq x (m.map fun x=>(x,(k:Int)))=[(k:Int)]:=by
   intro m
   induction m with
   |nil=>intro _;exact .inl rfl
   |cons z m ih=>
    intro hs;obtain⟨q1,q2⟩:=AQ.1 (show(z::m).Pairwise _ from hs);rw[Az,show((z,(k:Int))::m.map fun x=>(x,(k:Int)))=[(z,(k:Int))]++m.map (fun x=>(x,(k:Int)))from rfl,Ps.l5];by_cases hz:z=x
    ·subst hz;rw[Ps.zu,Ps.Gm]
     ·exact .inr rfl
     ·intro hm;rw[Ca]at hm;obtain⟨y,hy,e⟩:=bY.1 hm;have e:y=z:=e;have:=q1 y hy;rw[e,St.irrefl]at this;cases this
    ·rw[Ps.uu hz,AA];exact ih q2
  refine Cr.2 ⟨?_,Ps.zz M (k+1) (fun m hm=>h m (by simp[hm])) x,fun a ha b hb=>?_⟩
  ·rcases key m (h m sm)with h1|h1<;>rw[h1]<;>simp
  ·have hb2:(x,b)∈Ps.fu M (k+1):=by
    unfold Ps.fq at hb;obtain⟨p,hp,e⟩:=bY.1 hb;obtain⟨h3,h4⟩:=BP.1 hp;have:p=(x,b):=Bw (by simpa using h4) e;rw[←this];exact h3
   have h5:=(Ps.zx M (k+1) _ hb2).1;simp only[]at h5;rcases key m (h m sm)with h1|h1
   ·rw[h1]at ha;cases ha
   ·rw[h1,gJ]at ha;omega
theorem Ps.WR {M x y} (h:y∈Ps.fq x (Ps.fu M 0)):0≤y∧y< (M.length:Int):=by
 unfold Ps.fq at h;obtain⟨p,hp,e⟩:=bY.1 h;have:=Ps.zx M 0 p (BP.1 hp).1;rw[e]at this;omega
theorem Ps.Gv {M E} (hs:Ps.Sets M) (h:Ps.rD (Ps.fu M 0) E):∀e∈E,Pe.Asc M.length 0 true e.2:=fun e he=>by
 rw[h.fq e he];exact Pe.Y0 (Ps.zz M 0 (fun m hm=>(hs.1 m hm).1) e.1) fun y hy=>by
  have:=Ps.WR hy;rw[Ps0 rfl];omega
theorem Ps.Mw {M E} (hs:Ps.Sets M) (h:Ps.rD (Ps.fu M 0) E):∀e∈E,Pe.Up 0 e.2:=fun e he=>Pe.SB (by have:=Ps.uw M;have:=hs.2;omega) (Ps.Gv hs h e he)
namespace Ps
def strs (M:List (List aQ)):List ByteArray:=M.flatMap Lb.strs
theorem oz:∀(M),(strs M).length≤2*wt M
 |[]=>by simp[strs]
 |m::M=>by
  have h1:=oz M;have h2:=Lb.aX m;unfold strs wt at*;rw[Au,La,Az,AZ];omega
theorem Gw {M m} (hm:m∈M) {x} (hx:x∈m):x.n∈strs M∧x.v∈strs M:=by
 unfold strs Lb.strs;exact⟨mh.2 ⟨m,hm,mh.2 ⟨x,hx,sm⟩⟩,mh.2 ⟨m,hm,mh.2 ⟨x,hx,sm⟩⟩⟩
theorem l7:∀(M) (k) (x),x∈(fu M k).map (·.1)→∃m∈M,x∈m
 |[],_,x,h=>by simp[fu]at h
 |m::M,k,x,h=>by
  rw[fu,dR,je]at h;rcases h with h|h
  ·refine⟨m,sm,?_⟩;rw[Ca]at h;obtain⟨y,hy,e⟩:=bY.1 h;have e:y=x:=e;rw[←e];exact hy
  ·obtain⟨m',hm,hx⟩:=l7 M (k+1) x h;exact⟨m',by simp[hm],hx⟩
theorem Mx {M E T} (h:rD (fu M 0) E) (ht:Sy.gD (strs M) T):∀e∈E,Pe.Gn T e=true:=fun e he=>by
 obtain⟨m,hm,hx⟩:=l7 M 0 e.1 ((h.mem e.1).1 (bY.2 ⟨e,he,rfl⟩));obtain⟨h1,h2⟩:=Gw hm hx;have key:∀s,s∈strs M→(Sy.idx T s).isSome=true:=fun s hs=>by
  obtain⟨k,hk,e⟩:=jw.1 ((ht.2 s).2 hs);rw[Sy.rW ht.1 hk e];rfl
 unfold Pe.Gn;rw[key _ h1,key _ h2];rfl
theorem aap {x P} (h:x∈P.map (·.1)):fq x P≠[]:=fun e=>by
 obtain⟨p,hp,h1⟩:=bY.1 h;have:p.2∈fq x P:=by
  unfold fq;exact bY.2 ⟨p,BP.2 ⟨hp,by simpa using h1⟩,rfl⟩
 rw[e]at this;cases this
theorem round {M E T} (hs:Sets M) (h:rD (fu M 0) E) (ht:Sy.gD (strs M) T) (hT:T.length≤1000000):Pe.enc T E=(Pe.aM T E,0)∧Pe.dec T (M.length:Int) (Pe.aM T E)=(E,0):=by
 have hok:=Mx h ht;obtain⟨h1,h2⟩:=uD hs h;have hwl:=uw M;have hw:=hs.2;refine⟨by rw[Pe.enc,Ps0 (DF.2 hok)],Pe.bU ht.1 (by unfold Rc.mx;omega) om (by unfold Rc.mx;omega) h.srt fun e he=>⟨⟨hok e he,?_,Gv hs h e he⟩,by have:=h2 e he;unfold Rc.mx;omega⟩⟩;rw[h.fq e he];exact aap ((h.mem e.1).1 (bY.2 ⟨e,he,rfl⟩))
end Ps
end
theorem Lb.fF {l} (h:Lb.bR l=0):Lb.iO l∧∀x∈l,Lb.one x=0:=by
 have hz:∀j,j<l.length→Lb.dQ l j=0:=by
  rcases Lb.mZ (Lb.dQ l) l.length with⟨_,hz⟩|⟨k,hk,hk0,he,_⟩
  ·exact hz
  ·unfold Lb.bR at h;rw[he]at h;exact absurd h hk0
 have h1:∀j (hj:j<l.length),Lb.one l[j]=0:=fun j hj=>by
  have:=hz j hj;unfold Lb.dQ at this;rw[Lb.getD_at hj]at this;simp only[]at this;by_cases q:Lb.one l[j]=0
  ·exact q
  ·rw[Ps0 q]at this;exact absurd this q
 refine⟨Lb.Jn fun j hj=>?_,fun x hx=>?_⟩
 ·have:=hz (j+1) hj;unfold Lb.dQ at this;rw[Lb.getD_at hj]at this;simp only[]at this;rw[Ng (by simpa using h1 (j+1) hj),Ng om,Bz,Lb.getD_at (show j<l.length from om)]at this;by_cases q:l[j].n=l[j+1].n
  ·rw[Ps0 q]at this;cases this
  ·rw[Ng q]at this;by_cases q2:St.lt l[j+1].n l[j].n=true
   ·rw[Ps0 q2]at this;cases this
   ·cases q3:St.lt l[j].n l[j+1].n with
    |true=>rfl
    |false=>exact absurd (St.total q3 (by simpa using q2)) q
 ·obtain⟨j,hj,rfl⟩:=jw.1 hx;exact h1 j hj
theorem Lb.Gx {x} (h:Lb.one x=0):x.n.size≤65535∧x.v.size≤65535:=by
 unfold Lb.one at h;split at h
 ·cases h
 ·split at h
  ·cases h
  ·omega
namespace Bk
open Cs (gH In lens tQ)
def sets (b:ic):List (List aQ):=b.map (·.1)
def WT (b:ic):List (List aQ×List Nat):=b.map fun s=>(s.1,lens s.2)
def mI (b:ic):List jO:=(WT b).map Rc.bW
def dat (b:ic):List UInt8:=b.flatMap fun s=>tQ s.2
def D4 (T:List ByteArray) (E:List dV) (b:ic) (i:Nat):List UInt8:=
 if i=0 then Sy.aM T else if i=1 then Rc.aM T (mI b)else if i=2 then dat b else Pe.aM T E
def Of (b:ic) (T:List ByteArray) (E:List dV):Prop:=Sy.gD (Ps.strs (sets b)) T∧Ps.rD (Ps.fu (sets b) 0) E
def ln (r:jO):List Nat:=r.2.map Int.toNat
def used (T:List ByteArray) (rs:List jO):Bool:=T.all fun s=>(rs.flatMap fun r=>Lb.strs r.1).any fun t=>decide (t=s)
open Classical in
noncomputable def Gy (b:ic) (E:List dV):Int:=if Ps.rD (Ps.fu (sets b) 0) E then 0 else 22
noncomputable def WU (T:List ByteArray) (b:ic) (d3:List UInt8):ic×Int:=
 if bR b≠0 then([],bR b)else if(Pe.dec T (b.length:Int) d3).2≠0 then([],(Pe.dec T (b.length:Int) d3).2)
 else if Gy b (Pe.dec T (b.length:Int) d3).1≠0 then([],Gy b (Pe.dec T (b.length:Int) d3).1)else(b,0)
def oC (rs:List jO) (d2:List UInt8):List gH×Int:=if(rs.map ln).flatten.sum≠d2.length then([],23)else Cs.IW (rs.map ln) [] d2
noncomputable def wu (T:List ByteArray) (rs:List jO) (d2 d3:List UInt8):ic×Int:=
 if used T rs=false then([],15)else if(oC rs d2).2≠0 then([],(oC rs d2).2)else WU T ((rs.map (·.1)).zip (oC rs d2).1) d3
noncomputable def WV (T:List ByteArray) (d1 d2 d3:List UInt8):ic×Int:=
 if(Rc.dec T d1).2≠0 then([],(Rc.dec T d1).2)else wu T (Rc.dec T d1).1 d2 d3
noncomputable def oD (D:Nat→List UInt8):ic×Int:=
 if(Sy.dec (D 0)).2≠0 then([],(Sy.dec (D 0)).2)else WV (Sy.dec (D 0)).1 (D 1) (D 2) (D 3)
noncomputable def dec (L:List UInt8):ic×Int:=if Ly.pe L≠0 then([],Ly.pe L)else oD (Ly.mU L)
theorem uE {s} (h:one s=0):Lb.bR s.1=0∧s.2≠[]∧yU iP 20 s.2=0:=by
 unfold one at h;by_cases h1:Lb.bR s.1=0
 ·rw[Ng (by simpa using h1)]at h;by_cases h2:s.2=[]
  ·rw[Ps0 h2]at h;cases h
  ·rw[Ng h2]at h;exact⟨h1,h2,h⟩
 ·rw[Ps0 h1]at h;exact absurd h h1
theorem jF {b} (h:bR b=0) (hw:Ps.wt (sets b)≤1000000):Ps.Sets (sets b):=by
 obtain⟨-,-,h3,-⟩:=fF h;refine⟨fun m hm=>?_,hw⟩;obtain⟨s,hs,rfl⟩:=bY.1 hm;obtain⟨g1,g2⟩:=Lb.fF (uE (h3 s hs)).1;refine⟨g1,fun x hx=>?_⟩;have:=Lb.Gx (g2 x hx);unfold maxLen;omega
theorem iI {b} (h:bR b=0):∀s∈Ps.strs (sets b),s.size≤65535:=by
 obtain⟨-,-,h3,-⟩:=fF h;intro s hs;unfold Ps.strs Lb.strs at hs;obtain⟨m,hm,h1⟩:=mh.1 hs;obtain⟨x,hx,h2⟩:=mh.1 h1;obtain⟨q,hq,rfl⟩:=bY.1 hm;obtain⟨g1,g2⟩:=Lb.fF (uE (h3 q hq)).1;have:=Lb.Gx (g2 x hx);simp only[eH,List.not_mem_nil,or_false]at h2;rcases h2 with rfl|rfl
 ·exact this.1
 ·exact this.2
theorem uF {s}:∀n∈lens s,2≤n∧n≤2200:=by
 intro n hn;unfold lens at hn;obtain⟨c,hc,rfl⟩:=bY.1 hn;refine Ck.VX ?_;have key:∀(k:Nat) (s:gH),s.length≤k→∀c∈Ck.jC s,c.length≤120:=by
  intro k
  induction k with
  |zero=>
   intro s hs c hc;rw[nL (show s.length=0 from om),Ck.dX]at hc;cases hc
  |succ k ih=>
   intro s hs c hc;by_cases h0:s=[]
   ·rw[h0,Ck.dX]at hc;cases hc
   ·rw[Ck.jR h0]at hc;rcases eH.1 hc with rfl|hc
    ·rw[oV];omega
    ·refine ih _ ?_ c hc;have:=oW.2 h0;rw[mg];omega
 exact key s.length s Ai c hc
theorem su (s):(lens s).length≤s.length:=by
 unfold lens;rw[fM];have key:∀(k:Nat) (s:gH),s.length≤k→(Ck.jC s).length≤s.length:=by
  intro k
  induction k with
  |zero=>
   intro s hs;rw[nL (show s.length=0 from om),Ck.dX];simp
  |succ k ih=>
   intro s hs;by_cases h0:s=[]
   ·rw[h0,Ck.dX];simp
   ·rw[Ck.jR h0];have:=oW.2 h0;have:=ih (s.drop 120) (by rw[mg];omega);rw[mg]at this;rw[Lc];omega
 exact key s.length s Ai
theorem SX (q):ln (Rc.bW q)=q.2:=by
 unfold ln Rc.bW;rw[Ca]
 conv=>rhs;rw[←List.map_id q.2]
 refine Dx fun n _=>?_
 simp
theorem aaq (b):(mI b).map ln=b.map fun s=>lens s.2:=by
 unfold mI WT;rw[Ca,Ca];refine Dx fun s _=>?_
 exact SX _
theorem Gz (b):(mI b).map (·.1)=sets b:=by
 unfold mI WT sets;rw[Ca,Ca]
 rfl
theorem SY (rs:List jO):(rs.flatMap fun r=>Lb.strs r.1)=Ps.strs (rs.map (·.1)):=by
 unfold Ps.strs;rw[List.flatMap_map]
theorem S9 (b):(sets b).zip (b.map (·.2))=b:=by
 unfold sets
 induction b with
 |nil=>rfl
 |cons s b ih=>rw[Az,Az,List.zip_cons_cons,ih]
theorem Ta (T rs):used T rs=true↔∀s∈T,s∈Ps.strs (rs.map (·.1)):=by
 unfold used;rw[SY,DF];constructor
 ·intro h s hs;have:=h s hs;rw[Da]at this;obtain⟨t,ht,e⟩:=this;have:t=s:=by simpa using e
  rw[←this];exact ht
 ·intro h s hs;rw[Da];exact⟨s,h s hs,sm⟩
theorem Y5 {b T} (hc:bR b=0) (hw:Ps.wt (sets b)≤1000000) (hT:Sy.gD (Ps.strs (sets b)) T):∀r∈WT b,Rc.okN T r:=by
 obtain⟨-,hs,h3,-⟩:=fF hc;intro r hr;obtain⟨s,hs',rfl⟩:=bY.1 hr;obtain⟨g1,g2,-⟩:=uE (h3 s hs');have hm:s.1∈sets b:=bY.2 ⟨s,hs',rfl⟩;have key:∀t,t∈Ps.strs (sets b)→(Sy.idx T t).isSome=true:=fun t ht=>by
  obtain⟨k,hk,e⟩:=jw.1 ((hT.2 t).2 ht);rw[Sy.rW hT.1 hk e];rfl
 have hl1:s.1.length≤Ps.wt (sets b):=by
  obtain⟨u,v,e⟩:=List.append_of_mem hm;rw[e];unfold Ps.wt;simp;omega
 have hl2:s.2.length≤dm b:=by
  obtain⟨u,v,e⟩:=List.append_of_mem hs';rw[e];unfold dm;simp;omega
 have hl3:=su s.2;refine⟨⟨⟨by show s.1.length≤_;unfold Rc.mx;omega,fun x hx=>?_⟩,by show(lens s.2).length≤_;unfold Rc.mx;omega,fun n hn=>?_⟩,fun e=>?_⟩
 ·obtain⟨a1,a2⟩:=Ps.Gw hm hx;exact⟨key _ a1,key _ a2⟩
 ·have:=uF n hn;omega
 ·exact g2 (Cs.qK e)
theorem Y6 {b}:b.length≤Ps.wt (sets b):=by
 have:=Ps.uw (sets b);unfold sets at this⊢;rw[fM]at this;exact this
theorem Tc:∀(ls:List (List Nat)),ls.flatten.sum=(ls.map List.sum).sum
 |[]=>rfl
 |l::ls=>by rw[Ci,Dv,Az,AZ,Tc ls]
theorem Td {b T E} (hc:bR b=0) (hin:∀s∈b,In s.2) (hw:Ps.wt (sets b)≤500000) (h:Of b T E):oD (D4 T E b)=(b,0):=by
 obtain⟨hT,hE⟩:=h;have hS:=jF hc om;have hTl:T.length≤1000000:=by
  have h1:=Sy.gD.len hT;have h2:=Ps.oz (sets b);omega
 have hTm:T.length≤Rc.mx:=by unfold Rc.mx;omega
 have hbl:=Y6 (b:=b);have e0:Sy.dec (D4 T E b 0)=(T,0):=Sy.bU hT.1 hTm (Sy.gD.size hT (iI hc));have e1:Rc.dec T (D4 T E b 1)=(mI b,0):=Rc.bU hT.1 hTm (by unfold WT;rw[fM];unfold Rc.mx;omega) (Y5 hc om hT);have eu:used T (mI b)=true:=(Ta _ _).2 fun s hs=>by rw[Gz];exact(hT.2 s).1 hs
 have ec:oC (mI b) (D4 T E b 2)=(b.map (·.2),0):=by
  unfold oC;rw[aaq,Ng]
  ·have h1:=Cs.LY (b.map (·.2)) [] [] (fun s hs=>by obtain⟨q,hq,rfl⟩:=bY.1 hs;exact hin q hq);rw[Bh,AA,Ca,List.flatMap_map]at h1;exact h1
  ·intro hne;apply hne;show _=(dat b).length;unfold dat;rw[List.length_flatMap,Tc,Ca]
   congr 1
   refine Dx fun s _=>?_
   exact(Cs.LZ s.2).symm
 have hz:((mI b).map (·.1)).zip (b.map (·.2))=b:=by rw[Gz,S9]
 obtain⟨-,er⟩:=Ps.round hS hE hT hTl;have ep:Pe.dec T (b.length:Int) (D4 T E b 3)=(E,0):=by
  have:(sets b).length=b.length:=by unfold sets;rw[fM]
  rw[this]at er;exact er
 have ei:Gy b E=0:=by unfold Gy;rw[Ps0 hE]
 unfold oD WV wu WU;rw[e0];simp only[ne_eq,BR,Eg];rw[e1];simp only[BR,Eg];rw[eu,ec];simp only[BR,Eg,Bool.true_eq_false];rw[hz,hc,ep];simp only[BR,Eg];rw[ei];simp
def File (b:ic) (L:List UInt8):Prop:=∃T E,Of b T E∧L=Ly.asm (D4 T E b)
theorem J8 {D D'} (h:∀i,i<4→D i=D' i):oD D=oD D':=by
 unfold oD;rw[h 0 om,h 1 om,h 2 om,h 3 om]
theorem zA (D i) (hi:i<4):(D i).length≤(Ly.asm D).length:=by
 have h1:(D i).length≤(Ly.pre D 4).length:=by
  unfold Ly.pre;rw[La];have:i∈List.range 4:=List.mem_range.2 hi;obtain⟨u,v,e⟩:=List.append_of_mem this;rw[e];have:(D i).length≤(Wr.frame (UInt8.ofNat (1+i)) (D i)).length:=by
   unfold Wr.frame bM.app Wr.str;simp only[La,Lc];omega
  simp only[pz,Au,La];omega
 rw[Ly.yE];unfold Ly.body;rw[La];omega
theorem zC (D):Ly.tot D 4≤4*(Ly.asm D).length:=by
 have h0:=zA D 0 om;have h1:=zA D 1 om;have h2:=zA D 2 om;have h3:=zA D 3 om;show((((0+(D 0).length)+(D 1).length)+(D 2).length)+(D 3).length)≤_;omega
theorem Te {b L} (hc:bR b=0) (hin:∀s∈b,In s.2) (hw:Ps.wt (sets b)≤500000) (hL:L.length≤100000000000) (h:File b L):dec L=(b,0):=by
 obtain⟨T,E,h1,rfl⟩:=h;have ht:Ly.tot (D4 T E b) 4≤140737488352000:=by
  have:=zC (D4 T E b);omega
 unfold dec;rw[Ly.QP _ ht,Ng sm];have:oD (Ly.mU (Ly.asm (D4 T E b)))=oD (D4 T E b):=J8 fun i hi=>Ly.Fs _ ht i hi
 rw[this];exact Td hc hin hw h1
end Bk
section
open Go.RowKit Go.Shelf
theorem xN {α:Type} [DecidableEq α] (f:α→Nat):∀(T l:List α),T.Nodup→(∀x∈T,x∈l)→(T.map f).sum≤(l.map f).sum
 |[],_,_,_=>bH _
 |x::T,l,hn,hs=>by
  obtain⟨h1,h2⟩:=List.nodup_cons.1 hn;have hp:=((List.perm_cons_erase (hs x sm)).map f).sum_nat;have:=xN f T (l.erase x) h2 fun y hy=>(List.mem_erase_of_ne (fun e=>by subst e;exact h1 hy)).2 (hs y (by simp[hy]))
  rw[hp];simp only[Az,AZ];omega
theorem nC {α:Type} (f g:α→Nat) (l:List α) (h:∀x∈l,f x≤g x):(l.map f).sum≤(l.map g).sum:=by
 induction l with
 |nil=>simp
 |cons x l ih=>
  have:=ih fun y hy=>h y (by simp[hy])
  have:=h x sm;simp only[Az,AZ];omega
theorem aY {α β:Type} (f:α→List β) (l:List α):(l.flatMap f).length=(l.map fun x=>(f x).length).sum:=by
 induction l with
 |nil=>rfl
 |cons x l ih=>rw[Au,La,ih];simp
theorem l8 {α:Type} (k f) (l:List α) (h:∀x∈l,f x≤k):(l.map f).sum≤k*l.length:=by
 induction l with
 |nil=>simp
 |cons x l ih=>
  have h1:=ih fun y hy=>h y (by simp[hy])
  have h2:=h x sm;simp only[Az,AZ,Lc];rw[Nat.mul_succ];omega
theorem rZ:∀(s) (a),Pe.Up a s→0≤a→(Pe.gap a s).length≤10*s.length:=fun s a h h0=>by have:=Pe.SQ h h0;omega
namespace Bk
open Cs (gH In lens tQ)
structure qW (b:ic):Prop where
 fq:b.length≤300
 lab:(sets b).flatten.length≤200
 dm:dm b≤3000
 str:Sy.tot (Lb.strs (sets b).flatten)≤200000
theorem pX (M):Ps.strs M=Lb.strs M.flatten:=by
 unfold Ps.strs Lb.strs
 induction M with
 |nil=>rfl
 |cons m M ih=>rw[Au,ih,Ci,pz]
theorem WW (M):Ps.wt M=M.length+M.flatten.length:=by
 unfold Ps.wt
 induction M with
 |nil=>rfl
 |cons m M ih=>rw[Az,AZ,ih,Lc,Ci,La];omega
theorem qW.wt {b} (h:qW b):Ps.wt (sets b)≤500:=by
 rw[WW];have h1:=h.fq;have h2:=h.lab;have:(sets b).length=b.length:=by unfold sets;simp
 omega
theorem GH:∀(M) (k),(Ps.fu M k).length=M.flatten.length
 |[],_=>rfl
 |m::M,k=>by rw[Ps.fu,La,GH M (k+1),fM,Ci,La]
theorem qW.tab {b T} (h:qW b) (hc:bR b=0) (ht:Sy.gD (Ps.strs (sets b)) T):T.length≤400∧(T.map fun s=>s.size).sum≤200000:=by
 have h1:=cu T _ ht.1.nodup (fun s hs=>(ht.2 s).1 hs);have h2:=xN (fun s:ByteArray=>s.size) T _ ht.1.nodup (fun s hs=>(ht.2 s).1 hs);have h3:=iI hc;have h4:=h.str;have h5:=h.lab;rw[pX]at h1 h2 h3;have h6:=Lb.aX (sets b).flatten;refine⟨om,Lt h2 (Lt (nC _ (fun s:ByteArray=>1+min s.size 200000) _ fun s hs=>?_) h4)⟩;have:=h3 s hs;omega
theorem Tf (s) (h:s.size≤65535):(Sy.mi s).length≤s.size+10:=by
 unfold Sy.mi;have h2:s.data.toList.length=s.size:=sm;have:=Wr.rR s.data.toList om;omega
theorem Tg {T} (h1:T.length≤400) (h2:(T.map fun s=>s.size).sum≤200000) (h3:∀s∈T,s.size≤65535):(Sy.aM T).length≤300000:=by
 unfold Sy.aM;rw[La,aY];have a:=Vi.bD T.length om;have b:=nC (fun s=>(Sy.mi s).length) (fun s=>s.size+10) T fun s hs=>Tf s (h3 s hs)
 have c:(T.map fun s=>s.size+10).sum=(T.map fun s=>s.size).sum+10*T.length:=by
  clear h1 h2 h3 a b
  induction T with
  |nil=>rfl
  |cons s T ih=>simp only[Az,AZ,Lc,ih];omega
 omega
theorem Ti {T r} (hT:T.length≤1000000) (h1:r.1.length≤1000000) (h2:r.2.length≤1000000) (h3:∀n∈r.2,n≤1000000):(Rc.jD T r).length≤20+20*r.1.length+10*r.2.length:=by
 unfold Rc.jD;simp only[La,aY];have a:=Vi.bD r.1.length om;have b:=Vi.bD r.2.length om;have c:=l8 10 (fun s=>(Rc.dU T s).length) (Lb.strs r.1) fun s _=>Pe.zy hT s
 have d:=l8 10 (fun n=>(Rc.YL n).length) r.2 fun n hn=>Vi.bD _ (by have:=h3 n hn;omega)
 have e:=Lb.aX r.1;omega
theorem MB {T b} (hT:T.length≤1000000) (h:qW b):(Rc.aM T (mI b)).length≤100000:=by
 unfold Rc.aM;rw[La,aY];have hl:(mI b).length=b.length:=by unfold mI WT;simp
 have a:=Vi.bD (mI b).length (by have:=h.fq;omega);have key:∀(b:ic),(sets b).flatten.length≤1000000→dm b≤1000000→((mI b).map fun x=>(Rc.jD T x).length).sum≤20*b.length+20*(sets b).flatten.length+10*dm b:=by
  intro b
  induction b with
  |nil=>intro _ _;simp[mI,WT]
  |cons s b ih=>
   intro h1 h2;have e1:(sets (s::b)).flatten.length=s.1.length+(sets b).flatten.length:=by simp[sets]
   have e2:Bk.dm (s::b)=s.2.length+Bk.dm b:=by simp[Bk.dm]
   have e3:mI (s::b)=Rc.bW (s.1,lens s.2)::mI b:=rfl;have i1:=ih om om;have i2:(Rc.jD T (Rc.bW (s.1,lens s.2))).length≤20+20*s.1.length+10*(lens s.2).length:=by
    have:=Ti (T:=T) (r:=Rc.bW (s.1,lens s.2)) hT (by show s.1.length≤_;omega) (by
     show((lens s.2).map Int.ofNat).length≤_;rw[fM];have:=su s.2;omega) (by
     intro n hn;obtain⟨m,hm,rfl⟩:=bY.1 (show n∈(lens s.2).map Int.ofNat from hn);have:=(uF m hm).2;show(m:Int)≤_;omega)
    have e4:(Rc.bW (s.1,lens s.2)).2.length=(lens s.2).length:=by show((lens s.2).map Int.ofNat).length=_;rw[fM]
    rw[e4]at this;exact this
   have i3:=su s.2;rw[e1,e2,e3,Az,AZ,Lc];omega
 have k:=key b (by have:=h.lab;omega) (by have:=h.dm;omega);have:=h.fq;have:=h.lab;have:=h.dm;omega
theorem ME {b} (h:qW b):(dat b).length≤6600000:=by
 unfold dat;rw[aY];have key:∀s:gH,(tQ s).length≤2200*s.length:=fun s=>by
  unfold tQ;rw[aY];have h1:((Ck.jC s).map fun c=>(Ck.enc c).length)=lens s:=rfl;rw[h1];have h2:=l8 2200 id (lens s) fun n hn=>(uF n hn).2
  rw[List.map_id]at h2;have h3:=su s;have h4:=Nat.mul_le_mul_left 2200 h3;omega
 have h1:=nC (fun s:L6=>(tQ s.2).length) (fun s=>2200*s.2.length) b fun s _=>key s.2
 have h2:(b.map fun s=>2200*s.2.length).sum=2200*dm b:=by
  clear h h1;unfold dm
  induction b with
  |nil=>rfl
  |cons s b ih=>simp only[Az,AZ,ih];omega
 have:=h.dm;omega
theorem Tj {T E b} (hT:T.length≤1000000) (h:qW b) (hs:Ps.Sets (sets b)) (hi:Ps.rD (Ps.fu (sets b) 0) E):(Pe.aM T E).length≤500000:=by
 obtain⟨h1,h2⟩:=Ps.sj hi;rw[GH]at h1 h2;have hl:=h.lab;unfold Pe.aM;rw[La,aY];have a:=Vi.bD E.length om;have hu:=Ps.Mw hs hi;have b:=l8 2030 (fun e=>(Pe.gY T e).length) E fun e he=>by
  unfold Pe.gY;simp only[La];have c1:=Pe.zy hT e.1.n;have c2:=Pe.zy hT e.1.v;have c3:=Vi.bD e.2.length (by have:=h2 e he;omega);have c4:=rZ e.2 0 (hu e he) (Int.le_refl _);have:=h2 e he;omega
 omega
theorem qW.sec {b T E} (h:qW b) (hc:bR b=0) (ho:Of b T E):∀i,i<4→(D4 T E b i).length≤if i=2 then 10000000 else 1000000:=by
 obtain⟨t1,t2⟩:=h.tab hc ho.1;have hw:=h.wt;have hsm:=iI hc;intro i hi
 match i,hi with
 |0,_=>
  show(Sy.aM T).length≤1000000;have:=Tg t1 t2 (fun s hs=>hsm s ((ho.1.2 s).1 hs));omega
 |1,_=>
  show(Rc.aM T (mI b)).length≤1000000;have:=MB (T:=T) om h;omega
 |2,_=>
  show(dat b).length≤10000000;have:=ME h;omega
 |3,_=>
  show(Pe.aM T E).length≤1000000;have:=Tj (T:=T) om h (jF hc om) ho.2;omega
end Bk
end
section
open Go.RowKit Go.Shelf
theorem zD (A n c l w) (hv:fO w w.heap.size A n c l) (hf:Lb.Fit l):
  Calls prog 58 #[.slice A n c] w fun e w'=>∃v:Int,e= .returned (.int .i64 v)∧(v=0→n≤200∧Sy.tot (Lb.strs l)≤200000)∧Below w.heap.size w w':=by
 have hlc:=hv.1;have hcm:=hv.2.1;unfold maxLen at hcm;have V:=Aj hv;have F:=Aj hf;clear hv hf;by_cases h:200<n
 ·have h':(200:Int)< (n:Int):=by omega
  go_enter func58,ntmps58;go_wp2;go_ret;exact⟨1,rfl,(fun h=>by cases h),Ae _ _⟩
 ·have h':¬(200:Int)< (n:Int):=by omega
  go_enter func58,ntmps58;go_wp2_with (first
   |(go_at_call 105;refine(tF A n c l w V.1 om).mono ?_;rintro e w1 ⟨A1,n1,c1,rfl,ho,hb⟩;have O:=Aj ho;have B1:=Aj hb;clear ho hb)
   |(go_at_call 104;refine(Fx A1 n1 c1 _ _ w1 O.1.rd Ai (Lb.QX F.1)).mono ?_;rintro e w2 ⟨v,rfl,hv1,hv2,hg⟩;have G:=Aj hg;have HV:=Aj hv2;clear hg hv1 hv2))
  go_ret;exact⟨v,rfl,fun h0=>⟨om,(HV.1 h0).2⟩,B1.1.trans (G.1.below.mono B1.1.size)⟩
namespace Bk
theorem Oz (b:ic) {k} (h:k<b.length):(sets (b.take (k+1))).flatten=(sets (b.take k)).flatten++b[k].1:=by
 unfold sets;rw[Ts h,dR,List.flatten_append];simp
end Bk
theorem GI (A n c B b w) (hv:dY w B A n c b) (hB:B≤w.heap.size) (hf:∀s∈b,Lb.Fit s.1):
  Calls prog 28 #[.slice A n c] w fun e w'=>∃v:Int,e= .returned (.int .i64 v)∧(v=0→Bk.qW b)∧Below w.heap.size w w':=by
 obtain⟨hlc,hcm⟩:=hv.cap;unfold maxLen at hcm;have hn:=Aj hv.len;have V:=Aj hv;have F:=Aj hf;clear hv hf;go_enter func28,ntmps28;go_wp2;go_loopw [3,4,9] (fun s o i wr=>∃k m:Nat,k≤n∧i= .int .i64 k∧s= .int .i64 m∧m≤3000∧k≤3000∧Kept (m=k+Bk.dm (b.take k))∧Kept (0<k→n≤300)∧∃A2 n2 c2,o= .slice A2 n2 c2∧n2≤200*k∧Kept (bP wr w.heap.size A2 n2 c2 (Bk.sets (b.take k)).flatten)∧Below w.heap.size w wr) (fun _ _ i _=>n-(intOf i).toNat)
 case atStart=>exact⟨0,0,om,rfl,rfl,om,om,⟨rfl⟩,⟨fun h=>absurd h om⟩,none,0,0,rfl,om,⟨bP.nil _ _⟩,Ae _ _⟩
 case round=>
  obtain⟨k,m,hk,rfl,rfl,FV,hk3,hm,mG,A2,n2,c2,rfl,hn2,ho,hbw⟩:=hrel;have BW:=Aj hbw;have kP:=Aj hbw.size;by_cases hlt:k<n
  ·have hkl:k<b.length:=by rw[←hn.1];exact hlt
   obtain⟨b0,off,A1,n1,c1,A3,n3,c3,rfl,h1,h2,hc⟩:=V.1.cells hB hkl;obtain⟨r0,r1⟩:=hc wr hbw;have ai1:(n1:Int)≤9223372036854775807:=by have a:=h1.1;have d:=h1.2.1;unfold maxLen at d;omega
   have ai2:(n3:Int)≤9223372036854775807:=by have a:=h2.1;have d:=h2.2.1;unfold maxLen at d;omega
   have h5:=Aj h2.len;have H1:=Aj h1;have hsm:=Aj (Bk.tV b k hkl);have hft:=Aj (Bk.Oz b hkl);clear hbw h1 h2 hc;by_cases hb3:3000<n3
   ·have ac8:(3000:Int)< (n3:Int):=by omega
    go_wp2;go_ret;exact⟨1,rfl,(fun h=>by cases h),BW.1.alloc kP.1 _⟩
   ·have ac8:¬(3000:Int)< (n3:Int):=by omega
    by_cases hb4:3000<m+(1+n3)
    ·go_wp2;go_ret;exact⟨1,rfl,(fun h=>by cases h),BW.1.alloc kP.1 _⟩
    ·by_cases hb5:300<n
     ·have agi:(300:Int)< (n:Int):=by omega
      go_wp2;go_ret;exact⟨1,rfl,(fun h=>by cases h),BW.1.alloc kP.1 _⟩
     ·have agi:¬(300:Int)< (n:Int):=by omega
      by_cases hb6:200<n1
      ·have agj:(200:Int)< (n1:Int):=by omega
       go_wp2;go_ret;exact⟨1,rfl,(fun h=>by cases h),BW.1.alloc kP.1 _⟩
      ·have agj:¬(200:Int)< (n1:Int):=by omega
       have Y7:Kept (n≤300):=⟨om⟩
       have hmm:Kept (m+(1+n3)=(k+1)+Bk.dm (b.take (k+1))):=⟨by have:=hm.1;have:=hsm.1;have:=h5.1;omega⟩
       go_wp2_with (at_builtin;refine qG rfl (.tmp 33) (.tmp 35) rfl w.heap.size A2 n2 c2 _ rfl (Oa ho.1 _) B _ _ _ b[k].1 rfl (Rd.below H1.1 ((BW.1.alloc kP.1 _).mono hB)) om (by have:=kP.1;simp;omega) ?_;intro A5 c5 w5 hown hgrow hat;have O5:=Aj hown;have B5:=Aj ((BW.1.alloc kP.1 _).grown hgrow (by have:=kP.1;simp;omega) (fun r e=>(ae ho.1 r e).1));clear hown hgrow hat);go_roundw
       case rel=>exact⟨k+1,m+(1+n3),om,by go_num,by go_num,om,by have:=Y7.1;omega,hmm,⟨fun _=>Y7.1⟩,A5,n2+n1,c5,rfl,om,⟨by rw[hft.1];exact O5.1⟩,B5.1⟩
       case measure=>simp[intOf];omega
  ·obtain rfl:k=n:=by omega
   have hall:b.take k=b:=iM (by rw[←hn.1];exact Nr _);rw[hall]at ho hm;have LG:=Aj (zD A2 n2 c2 _ wr ho.1.rd (fun x hx=>by
    obtain⟨m,hm1,hm2⟩:=List.mem_flatten.1 hx;unfold Bk.sets at hm1;obtain⟨s,hs,rfl⟩:=bY.1 hm1;exact F.1 s hs x hm2))
   have hl2:=Aj ho.1.len;clear hbw ho hall;go_wp2_with (go_at_call 58;refine LG.1.mono ?_;rintro e w6 ⟨v,rfl,hv,hb6⟩;have HV:=Aj hv;have B6:=Aj hb6;clear hv hb6 LG);go_ret;refine⟨v,rfl,fun h0=>?_,BW.1.trans (B6.1.mono kP.1)⟩;obtain⟨q1,q2⟩:=HV.1 h0;refine⟨?_,by rw[←hl2.1];exact q1,by have:=hm.1;omega,q2⟩;have:=hn.1;rcases mM k with h|h
   ·omega
   ·have:=mG.1 h;omega
end
section
open Go.RowKit Go.Shelf
namespace En
open Cs (gH In lens tQ)
def all:Nat→Bk.ic→List (Nat×List UInt8)
 |_,[]=>[]
 |i,s::b=>(Ck.jC s.2).map (fun c=>(i,Ck.enc c))++all (i+1) b
theorem zF:∀(a b) (i),all i (a++b)=all i a++all (i+a.length) b
 |[],b,i=>by simp[all]
 |s::a,b,i=>by
  rw[Bb,all,all,zF a b (i+1),Af,Lc,show i+1+a.length=i+(a.length+1)from om]
theorem GJ (b:Bk.ic) {k} (h:k<b.length):all 0 (b.take (k+1))=all 0 (b.take k)++(Ck.jC b[k].2).map (fun c=>(k,Ck.enc c)):=by
 rw[Ts h,zF,oV,Nat.min_eq_left (Nat.le_of_lt h),cK];simp[all]
theorem WX (b k):all 0 (b.take k)<+:all 0 b:=by
 have:=zF (b.take k) (b.drop k) 0;rw[jJ]at this;exact⟨_,this.symm⟩
def dat (pre:List (Nat×List UInt8)):List UInt8:=pre.flatMap (·.2)
def cnt (pre:List (Nat×List UInt8)) (i:Nat):List Int:=(pre.filter fun x=>decide (x.1=i)).map fun x=>((x.2.length:Nat):Int)
theorem sD (a b):dat (a++b)=dat a++dat b:=by simp[dat]
theorem oF (a b i):cnt (a++b) i=cnt a i++cnt b i:=by simp[cnt]
theorem WY (i L):dat [(i,L)]=L:=by simp[dat]
theorem WZ (i L):cnt [(i,L)] i=[((L.length:Nat):Int)]:=by simp[cnt]
theorem Tk {i j} (h:i≠j) (L):cnt [(i,L)] j=[]:=by simp[cnt,h]
theorem zG:∀(b) (i),dat (all i b)=Bk.dat b
 |[],_=>rfl
 |s::b,i=>by
  rw[all,sD,zG b (i+1)];show _=tQ s.2++Bk.dat b
  congr 1
  unfold dat tQ;rw[List.flatMap_map]
theorem W9 (l:List gH) (f:gH→List UInt8) (i):cnt (l.map fun c=>(i,f c)) i=l.map fun c=>(((f c).length:Nat):Int):=by
 unfold cnt;rw[List.filter_eq_self.2 (fun x hx=>by obtain⟨c,_,rfl⟩:=bY.1 hx;simp),Ca]
 rfl
theorem uG (l:List gH) (f:gH→List UInt8) {i j} (h:i≠j):cnt (l.map fun c=>(i,f c)) j=[]:=by
 unfold cnt;rw[List.filter_eq_nil_iff.2 (fun x hx=>by obtain⟨c,_,rfl⟩:=bY.1 hx;simpa using h)]
 rfl
theorem MF:∀(b) (i j),j<i→cnt (all i b) j=[]
 |[],_,_,_=>rfl
 |s::b,i,j,h=>by
  rw[all,oF,uG _ _ om,MF b (i+1) j om,AA]
theorem sF:∀(b) (i j) (h:j<b.length),cnt (all i b) (i+j)=(lens b[j].2).map Int.ofNat
 |s::b,i,0,_=>by
  rw[all,oF,Ct,W9,MF b (i+1) i om,Bh];unfold lens;rw[Ca]
  rfl
 |s::b,i,j+1,h=>by
  rw[all,oF,uG _ _ om,AA,show i+(j+1)=i+1+j from om,sF b (i+1) j (by simpa using h)]
  rfl
end En
end
end Go.Proofs.YtongopommlghgaaGreatDoor
