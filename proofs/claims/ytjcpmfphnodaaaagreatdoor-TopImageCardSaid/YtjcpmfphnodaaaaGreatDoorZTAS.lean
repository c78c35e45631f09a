/- Part 19. -/
import Derived.Test.YtjcpmfphnodaaaaGreatDoorZTAR
import Derived.StillTailTactics
namespace Go.Proofs.YtjcpmfphnodaaaaGreatDoor
set_option maxRecDepth 100000
set_option maxHeartbeats 0
open _root_.Go.Proofs.Tryz
section
section
open Go.RowKit Go.Shelf
namespace Pe
def okD (bnd last d:Nat) (first:Bool):Bool:=decide (d<bnd-last)&& (first||decide (0<d))
def sl (l:List UInt8) (bnd:Nat):Nat→Nat→List Int→Nat→List Int×Nat×Int
 |0,_,acc,a=>(acc,a,0)
 |k+1,last,acc,a=>
  if(Wr.uint l a 0 Rc.mx).2.2≠0 then([],(Wr.uint l a 0 Rc.mx).2.1,(Wr.uint l a 0 Rc.mx).2.2)
  else if okD bnd last (Wr.uint l a 0 Rc.mx).1 acc.isEmpty=false then([],(Wr.uint l a 0 Rc.mx).2.1,22)
  else sl l bnd k (last+(Wr.uint l a 0 Rc.mx).1) (acc++[((last+(Wr.uint l a 0 Rc.mx).1:Nat):Int)]) (Wr.uint l a 0 Rc.mx).2.1
def fA (l:List UInt8) (bnd a:Nat):List Int×Nat×Int:=
 if(Rc.cnt l a 0).2.2≠0 then([],(Rc.cnt l a 0).2.1,(Rc.cnt l a 0).2.2)
 else if(Rc.cnt l a 0).1=0 then([],(Rc.cnt l a 0).2.1,22)
 else sl l bnd (Rc.cnt l a 0).1 0 [] (Rc.cnt l a 0).2.1
end Pe
def RP (w:World) (q p:Nat) (TA:Option Addr) (tn tc:Nat) (T:List ByteArray) (l:List UInt8):Prop:=
 w.heap[q]? =some (.cells #[.pointer (some ⟨p,0,none⟩),.slice TA tn tc,.int .i64 (l.length:Int)] 230 (0,0))∧p<q∧bM w p TA tn tc T
section
variable {w w':World} {q p tn tc:Nat} {TA:Option Addr} {T:List ByteArray} {l:List UInt8}
theorem RP.grown (h:RP w q p TA tn tc T l) (hg:w.grownBy w' (some p)):RP w' q p TA tn tc T l:=by
 obtain⟨h1,h2,h3⟩:=h;have hq:q<w.heap.size:=(Ge.1 h1).1;exact⟨(hg.block q hq (fun e=>by have:=Oj e;omega)).trans h1,h2,h3.grown hg om (fun g e=>by have:=Oj e;omega)⟩
theorem RP.cells (h:RP w q p TA tn tc T l):
  w.cell? ⟨q,0,none⟩=some (.pointer (some ⟨p,0,none⟩))∧w.cell? ⟨q,1,none⟩=some (.slice TA tn tc)∧w.cell? ⟨q,2,none⟩=some (.int .i64 (l.length:Int)):=
 ⟨Co _ _ _ _ _ _ h.1,Co _ _ _ _ _ _ h.1,Co _ _ _ _ _ _ h.1⟩
theorem RP.lt (h:RP w q p TA tn tc T l):q<w.heap.size:=(Ge.1 h.1).1
end
theorem dB (q p a tn tc) (TA) (T) (l) (e f) (w) (hR:RP w q p TA tn tc T l) (h:aK w p l a e):
  Calls prog 131 #[.pointer (some ⟨q,0,none⟩),.bool true,.int .i64 f] w fun r w'=>r= .returned (.bool (e==0))∧w'=w:=by
 obtain⟨q0,q1,q2⟩:=hR.cells;have E:=Aj (az p a l e w h);clear hR h;go_enter func131,ntmps131;go_wp2_with (go_at_call 120;refine E.1.mono ?_;rintro r w2 ⟨rfl,rfl⟩);go_ret;exact⟨rfl,rfl⟩
theorem eY (q p a tn tc) (TA) (T) (l) (e f) (w) (hR:RP w q p TA tn tc T l) (h:aK w p l a e) (hf:f≠0):
  Calls prog 131 #[.pointer (some ⟨q,0,none⟩),.bool false,.int .i64 f] w fun r w'=>r= .returned (.bool false)∧aK w' p l a (if e=0 then f else e)∧w.grownBy w' (some p):=by
 obtain⟨q0,q1,q2⟩:=hR.cells;have HR:=Aj hR;have E:=Aj (bU p a l e f w h);obtain⟨e2,he2⟩:∃e2,e2=if e=0 then f else e:=⟨_,rfl⟩
 rw[←he2]at E⊢;have hb:(e2==0)=false:=by
  rw[he2];by_cases h0:e=0
  ·rw[Ps0 h0];simpa using hf
  ·rw[Ng h0];simpa using h0
 clear hR h he2;go_enter func131,ntmps131;go_wp2_with (first
  |(go_at_call 120;refine(az p a l e2 _ R2.1).mono ?_;rintro r w3 ⟨rfl,rfl⟩)
  |(go_at_call 114;refine E.1.mono ?_;rintro r w2 ⟨rfl,hr,hg⟩;have R2:=Aj hr;have G2:=Aj hg;obtain⟨s0,s1,s2⟩:=(HR.1.grown hg).cells;clear hr hg E))
 go_ret;exact⟨rfl,R2.1,G2.1⟩
theorem I6 (q p a tn tc) (TA) (T) (l) (b) (e f) (w) (hR:RP w q p TA tn tc T l) (h:aK w p l a e) (hf:f≠0):
  Calls prog 131 #[.pointer (some ⟨q,0,none⟩),.bool b,.int .i64 f] w fun r w'=>∃e',r= .returned (.bool (e'==0))∧(b=true→e'=e)∧(b=false→e'=if e=0 then f else e)∧aK w' p l a e'∧w.grownBy w' (some p):=by
 cases b with
 |true=>exact(dB q p a tn tc TA T l e f w hR h).mono fun r w' ⟨h1,h2⟩=>⟨e,h1,fun _=>rfl,fun h=>(by cases h),(by rw[h2];exact h),(by rw[h2];exact CQ _ _)⟩
 |false=>
  refine(eY q p a tn tc TA T l e f w hR h hf).mono fun r w' ⟨h1,h2,h3⟩=>⟨if e=0 then f else e,?_,fun h=>(by cases h),fun _=>rfl,h2,h3⟩
  have:((if e=0 then f else e)==0)=false:=by
   by_cases h0:e=0
   ·rw[Ps0 h0];simpa using hf
   ·rw[Ng h0];simpa using h0
  rw[this];exact h1
theorem tT (q p a tn tc) (TA) (T) (l) (e) (w) (hR:RP w q p TA tn tc T l) (h:aK w p l a e):
  Calls prog 129 #[.pointer (some ⟨q,0,none⟩)] w fun r w'=>r= .returned (.int .i64 ((Rc.cnt l a e).1:Int))∧aK w' p l (Rc.cnt l a e).2.1 (Rc.cnt l a e).2.2∧w.grownBy w' (some p):=by
 obtain⟨q0,q1,q2⟩:=hR.cells;have U:=Aj (ja p a 18446744073709551615 l e w h);have HR:=Aj hR;have hle:=Wr.lC l a Rc.mx e;have I7:=Wr.lD l a Rc.mx e;have hat:=Wr.yl l a Rc.mx e h.len.2;have hC:Rc.cnt l a e=(let r:=Wr.uint l a e Rc.mx;if r.2.2≠0 then(0,r.2.1,r.2.2)else if l.length-r.2.1<r.1 then(0,r.2.1,3)else r):=rfl;have hln:=h.len;unfold Rc.mx at hC hle hat I7;generalize Wr.uint l a e 18446744073709551615=X at*;obtain⟨x,a1,e1⟩:=X;simp only[]at hC hle hat U I7;clear h hR;have hwi:IntKind.i64.wrap ((l.length:Int)-(a1:Int))=(l.length:Int)-(a1:Int):=by simp[IntKind.wrap,IntKind.bits,IntKind.signed];omega
 have XQ:IntKind.u64.wrap ((l.length:Int)-(a1:Int))=(l.length:Int)-(a1:Int):=by simp[IntKind.wrap,IntKind.bits,IntKind.signed];omega
 by_cases he1:e1=0
 ·subst he1;rw[Ng sm]at hC;clear I7;by_cases hx:l.length-a1<x
  ·rw[Ps0 hx]at hC;rw[hC];have ZV:decide ((x:Int)≤(l.length:Int)-(a1:Int))=false:=Az om;clear hC hx;go_enter func129,ntmps129;go_upto_region 2 with(go_at_call 182;refine U.1.mono ?_;rintro r w2 ⟨rfl,hr,hg⟩;have R2:=Aj hr;have G2:=Aj hg;clear hr hg)
   obtain⟨s0,s1,s2⟩:=(HR.1.grown G2.1).cells;have RD:Kept (aK w2.drew p l a1 0):=⟨R2.1⟩
   have WR:Kept (RP w2.drew q p TA tn tc T l):=⟨show RP w2 q p TA tn tc T l from HR.1.grown G2.1⟩
   have hgd:Kept (w2.grownBy w2.drew (some p)):=⟨⟨rfl,rfl,rfl,Nr _,fun _ _ _=>rfl⟩⟩
   refine wp_region_still_tail 14 kr kr ?_;simp only[Bu,Dz,Bv,BO]
   repeat still_step
   still_call ((iN p a1 l 0 w2.drew RD.1).mono fun _ _ q=>⟨q.1,q.2.symm⟩)
   repeat still_step
   refine wpStill_nil ?_
   change wpList _ _ _ _ _ w2.drew
   clear s0 s1 s2;generalize w2.drew=wd at*
   try simp only[hwi,XQ,ZV]
   obtain⟨s0,s1,s2⟩:=WR.1.cells;go_wp2_with (go_at_call 131;refine(eY q p a1 tn tc TA T l 0 3 _ WR.1 RD.1 Ah).mono ?_;rintro r w3 ⟨rfl,hr,hg⟩;rw[Ps0 rfl]at hr;have R3:=Aj hr;have G3:=Aj (hgd.1.trans hg);clear hr hg);go_ret;exact⟨rfl,R3.1,G2.1.trans G3.1⟩
  ·rw[Ng hx]at hC;rw[hC];have ZV:decide ((x:Int)≤(l.length:Int)-(a1:Int))=true:=Bc om;have hx1:(x:Int)≤140737488354000:=om;clear hC hx;go_enter func129,ntmps129;go_upto_region 2 with(go_at_call 182;refine U.1.mono ?_;rintro r w2 ⟨rfl,hr,hg⟩;have R2:=Aj hr;have G2:=Aj hg;clear hr hg)
   obtain⟨s0,s1,s2⟩:=(HR.1.grown G2.1).cells;have RD:Kept (aK w2.drew p l a1 0):=⟨R2.1⟩
   have WR:Kept (RP w2.drew q p TA tn tc T l):=⟨show RP w2 q p TA tn tc T l from HR.1.grown G2.1⟩
   have hgd:Kept (w2.grownBy w2.drew (some p)):=⟨⟨rfl,rfl,rfl,Nr _,fun _ _ _=>rfl⟩⟩
   refine wp_region_still_tail 14 kr kr ?_;simp only[Bu,Dz,Bv,BO]
   repeat still_step
   still_call ((iN p a1 l 0 w2.drew RD.1).mono fun _ _ q=>⟨q.1,q.2.symm⟩)
   repeat still_step
   refine wpStill_nil ?_
   change wpList _ _ _ _ _ w2.drew
   clear s0 s1 s2;generalize w2.drew=wd at*
   try simp only[hwi,XQ,ZV]
   obtain⟨s0,s1,s2⟩:=WR.1.cells;go_wp2_with (go_at_call 131;refine(dB q p a1 tn tc TA T l 0 3 _ WR.1 RD.1).mono ?_;rintro r w3 ⟨rfl,hw⟩;obtain rfl:=hw.symm);go_ret;exact⟨by go_num,RD.1,G2.1.trans hgd.1⟩
 ·rw[Ps0 he1]at hC;rw[hC];have wG:(e1==0)=false:=by simpa using he1
  have hx0:=I7 he1;subst hx0;have ZV:decide (((0:Nat):Int)≤(l.length:Int)-(a1:Int))=true:=Bc om;clear hC I7;go_enter func129,ntmps129;go_upto_region 2 with(go_at_call 182;refine U.1.mono ?_;rintro r w2 ⟨rfl,hr,hg⟩;have R2:=Aj hr;have G2:=Aj hg;clear hr hg)
  obtain⟨s0,s1,s2⟩:=(HR.1.grown G2.1).cells;have RD:Kept (aK w2.drew p l a1 e1):=⟨R2.1⟩
  have WR:Kept (RP w2.drew q p TA tn tc T l):=⟨show RP w2 q p TA tn tc T l from HR.1.grown G2.1⟩
  have hgd:Kept (w2.grownBy w2.drew (some p)):=⟨⟨rfl,rfl,rfl,Nr _,fun _ _ _=>rfl⟩⟩
  refine wp_region_still_tail 14 kr kr ?_;simp only[Bu,Dz,Bv,BO]
  repeat still_step
  still_call ((iN p a1 l e1 w2.drew RD.1).mono fun _ _ q=>⟨q.1,q.2.symm⟩)
  repeat still_step
  refine wpStill_nil ?_
  change wpList _ _ _ _ _ w2.drew
  clear s0 s1 s2;generalize w2.drew=wd at*
  try simp only[hwi,XQ,ZV]
  obtain⟨s0,s1,s2⟩:=WR.1.cells;go_wp2_with (go_at_call 131;refine(dB q p a1 tn tc TA T l e1 3 _ WR.1 RD.1).mono ?_;rintro r w3 ⟨rfl,hw⟩;obtain rfl:=hw.symm);go_ret;exact⟨rfl,RD.1,G2.1.trans hgd.1⟩
end
section
open Go.RowKit Go.Shelf
theorem qP (q p a tn tc) (TA) (T) (l) (e) (w) (hR:RP w q p TA tn tc T l) (h:aK w p l a e):
  Calls prog 130 #[.pointer (some ⟨q,0,none⟩)] w fun r w'=>r= .returned (.string (Rc.sym T l a e).1)∧aK w' p l (Rc.sym T l a e).2.1 (Rc.sym T l a e).2.2∧w.grownBy w' (some p):=by
 obtain⟨q0,q1,q2⟩:=hR.cells;have U:=Aj (ja p a 18446744073709551615 l e w h);have HR:=Aj hR;have hle:=Wr.lC l a Rc.mx e;have I7:=Wr.lD l a Rc.mx e;have hC:Rc.sym T l a e=(let r:=Wr.uint l a e Rc.mx;if r.2.2≠0 then(ByteArray.empty,r.2.1,r.2.2)else if T.length≤r.1 then(ByteArray.empty,r.2.1,14)else(T.getD r.1 ByteArray.empty,r.2.1,0)):=rfl;have htl:=hR.2.2.len;have ZP:=hR.2.2.2.1;have htc:=hR.2.2.1;unfold maxLen at ZP;unfold Rc.mx at hC hle I7;generalize Wr.uint l a e 18446744073709551615=X at*;obtain⟨x,a1,e1⟩:=X;simp only[]at hC hle U I7;have XQ:IntKind.u64.wrap (tn:Int)=(tn:Int):=by simp[IntKind.wrap,IntKind.bits,IntKind.signed];omega
 have HT:=Aj htl;clear h hR htl;by_cases he1:e1=0
 ·subst he1;rw[Ng sm]at hC;clear I7;by_cases hx:T.length≤x
  ·rw[Ps0 hx]at hC;rw[hC];have ZV:decide ((x:Int)< (tn:Int))=false:=Az (by have:=HT.1;omega);have hgt:¬(x:Int)< (tn:Int):=by have:=HT.1;omega
   have hgt2:¬x<tn:=om;clear hC hx;go_enter func130,ntmps130;go_wp2_with (first
    |(go_at_call 182;refine U.1.mono ?_;rintro r w2 ⟨rfl,hr,hg⟩;have R2:=Aj hr;have G2:=Aj hg;have NT:=Aj (HR.1.grown hg);obtain⟨s0,s1,s2⟩:=(HR.1.grown hg).cells;clear hr hg)
    |(go_at_call 131;refine(eY q p a1 tn tc TA T l 0 14 _ NT.1 R2.1 Ah).mono ?_;rintro r w3 ⟨rfl,hr,hg⟩;rw[Ps0 rfl]at hr;have R3:=Aj hr;have G3:=Aj hg;clear hr hg))
   go_ret;exact⟨rfl,R3.1,G2.1.trans G3.1⟩
  ·rw[Ng hx]at hC;have hxl:x<T.length:=om;rw[show T.getD x ByteArray.empty=T[x]by simp[List.getD,hxl]]at hC;rw[hC];have hgt:(x:Int)< (tn:Int):=by have:=HT.1;omega
   have aaL:x<tn:=om;obtain⟨b,off,rfl,hbp,hcell⟩:=HR.1.2.2.at_ hxl;have CC:Kept (∀W,w.grownBy W (some p)→W.cell? ⟨b,off+x,none⟩=some (.string T[x])):=⟨fun W hg=>by
    obtain⟨b',off',e',-,hc'⟩:=((HR.1.grown hg).2.2).at_ hxl;simp only[gV,BP,Bi]at e';obtain⟨rfl,rfl⟩:=e';exact hc'⟩
   generalize T[x]=s at*;clear hC hx hcell;go_enter func130,ntmps130;go_wp2_with (first
    |(go_at_call 182;refine U.1.mono ?_;rintro r w2 ⟨rfl,hr,hg⟩;have R2:=Aj hr;have G2:=Aj hg;have NT:=Aj (HR.1.grown hg);obtain⟨s0,s1,s2⟩:=(HR.1.grown hg).cells;clear hr hg;have cc:=CC.1 w2 G2.1)
    |(go_at_call 131;refine(dB q p a1 tn tc _ T l 0 14 _ NT.1 R2.1).mono ?_;rintro r w3 ⟨rfl,hw⟩;obtain rfl:=hw.symm))
   go_ret;exact⟨rfl,R2.1,G2.1⟩
 ·rw[Ps0 he1]at hC;rw[hC];have wG:(e1==0)=false:=by simpa using he1
  have hx0:=I7 he1;subst hx0;clear hC I7;by_cases ht0:tn=0
  ·subst ht0;go_enter func130,ntmps130;go_wp2_with (first
    |(go_at_call 182;refine U.1.mono ?_;rintro r w2 ⟨rfl,hr,hg⟩;have R2:=Aj hr;have G2:=Aj hg;have NT:=Aj (HR.1.grown hg);obtain⟨s0,s1,s2⟩:=(HR.1.grown hg).cells;clear hr hg)
    |(go_at_call 131;refine(eY q p a1 0 tc TA T l e1 14 _ NT.1 R2.1 Ah).mono ?_;rintro r w3 ⟨rfl,hr,hg⟩;rw[Ng he1]at hr;have R3:=Aj hr;have G3:=Aj hg;clear hr hg))
   go_ret;exact⟨rfl,R3.1,G2.1.trans G3.1⟩
  ·have hgt:(0:Int)< (tn:Int):=by omega
   have aaL:0<tn:=om;go_enter func130,ntmps130;go_wp2_with (first
    |(go_at_call 182;refine U.1.mono ?_;rintro r w2 ⟨rfl,hr,hg⟩;have R2:=Aj hr;have G2:=Aj hg;have NT:=Aj (HR.1.grown hg);obtain⟨s0,s1,s2⟩:=(HR.1.grown hg).cells;clear hr hg)
    |(go_at_call 131;refine(dB q p a1 tn tc TA T l e1 14 _ NT.1 R2.1).mono ?_;rintro r w3 ⟨rfl,hw⟩;obtain rfl:=hw.symm))
   go_ret;exact⟨rfl,R2.1,G2.1⟩
namespace Pe
theorem y9 (l) (bnd last) (acc) (a):sl l bnd 0 last acc a=(acc,a,0):=rfl
theorem Qy {l} {bnd last a x a1} {acc} {e1} (k) (h:Wr.uint l a 0 Rc.mx=(x,a1,e1)) (he:e1≠0):sl l bnd (k+1) last acc a=([],a1,e1):=by
 rw[sl,h];simp[he]
theorem WT {l} {bnd last a x a1} {acc} (k) (h:Wr.uint l a 0 Rc.mx=(x,a1,0)) (ho:okD bnd last x acc.isEmpty=false):sl l bnd (k+1) last acc a=([],a1,22):=by
 rw[sl,h];simp[ho]
theorem Qz {l} {bnd last a x a1} {acc} (k) (h:Wr.uint l a 0 Rc.mx=(x,a1,0)) (ho:okD bnd last x acc.isEmpty=true):sl l bnd (k+1) last acc a=sl l bnd k (last+x) (acc++[((last+x:Nat):Int)]) a1:=by
 rw[sl,h];simp[ho]
theorem WU (l) (a) (e) (h:(Rc.cnt l a e).2.2≠0):(Rc.cnt l a e).1=0:=by
 unfold Rc.cnt at h⊢;simp only[]at h⊢;split at h
 ·rw[Ps0 (by assumption)]
 ·rename_i h1
  rw[Ng h1];split at h
  ·rw[Ps0 (by assumption)]
  ·exact absurd h h1
end Pe
theorem EZ {w w'} {p a} {l} {e} {B} (h:aK w p l a e) (hb:Below B w w') (hp:p<B):aK w' p l a e:=h.below hb hp
theorem tV {w w1 w':World} {p} (h:w.grownBy w1 (some p)) (b:Below w.heap.size w1 w'):w.grownBy w' (some p):=
 ⟨b.os.trans h.os,b.tape.trans h.tape,b.output.trans h.output,Lt h.size b.size,fun k hk hne=>(b.block k hk).trans (h.block k hk hne)⟩
theorem E8 (q p a tn tc bnd:Nat) (TA) (T) (l) (w) (hR:RP w q p TA tn tc T l) (h:aK w p l a 0) (hbd:bnd<9223372036854775808) (hl9:l.length≤20000000):
  Calls prog 132 #[.pointer (some ⟨q,0,none⟩),.int .u64 (bnd:Int)] w fun r w'=>∃A2 n2 c2,r= .returned (.slice A2 n2 c2)∧aO w' w.heap.size A2 n2 c2 (Pe.fA l bnd a).1∧aK w' p l (Pe.fA l bnd a).2.1 (Pe.fA l bnd a).2.2∧w.grownBy w' (some p):=by
 have HR:=Aj hR;have CN:=Aj (tT q p a tn tc TA T l 0 w hR h);have hln:=h.len;have hpl:=h.lt;obtain⟨M,hM⟩:∃M,M=Pe.fA l bnd a:=⟨_,rfl⟩
 rw[←hM];unfold Pe.fA at hM;have hcl:=Rc.sO l a 0 h.len.2;have hcz:=Pe.WU l a 0;generalize Rc.cnt l a 0=X at*;obtain⟨n,a1,e1⟩:=X;simp only[]at CN hM hcl;clear h hR;by_cases hn0:n=0
 ·subst hn0;obtain⟨e2,he2⟩:∃e2,(if e1=0 then 22 else e1)=e2:=⟨_,rfl⟩
  have HE2:=Aj he2;have hM2:M=([],a1,e2):=by
   rw[hM,←he2];by_cases h0:e1=0
   ·simp[h0]
   ·simp[h0]
  rw[hM2];clear hM hM2 hcz he2;go_enter func132,ntmps132;go_wp2_with (first
   |(go_at_call 129;refine CN.1.mono ?_;rintro r w2 ⟨rfl,hr,hg⟩;have R2:=Aj hr;have G2:=Aj hg;have NT:=Aj (HR.1.grown hg);clear hr hg)
   |(go_at_call 131;refine(eY q p a1 tn tc TA T l e1 22 _ NT.1 R2.1 Ah).mono ?_;rintro r w3 ⟨rfl,hr,hg⟩;rw[HE2.1]at hr;have R3:=Aj hr;have G3:=Aj hg;clear hr hg))
  go_loopw [6,17] (fun o i wr=>o= .slice none 0 0∧i= .int .i64 0∧wr=w3) (fun _ i _=>1)
  case atStart=>exact⟨rfl,rfl,rfl⟩
  case round=>
   obtain⟨rfl,rfl,hw⟩:=hrel;obtain rfl:=hw.symm;go_wp2;go_ret;exact⟨none,0,0,rfl,AY _ _ _ _,R3.1,G2.1.trans G3.1⟩
 ·have he1:e1=0:=Cj fun h=>hn0 (hcz h)
  subst he1;have HM:Kept (M=Pe.sl l bnd n 0 [] a1):=⟨by rw[hM,Ng sm,Ng hn0]⟩
  have ajt:(0:Int)< (n:Int):=om;clear hM hcz;have hn9:n≤20000000:=om;have hgt1:0<n:=om;go_enter func132,ntmps132;go_wp2_with (first
   |(go_at_call 129;refine CN.1.mono ?_;rintro r w2 ⟨rfl,hr,hg⟩;have R2:=Aj hr;have G2:=Aj hg;have NT:=Aj (HR.1.grown hg);clear hr hg)
   |(go_at_call 131;refine(dB q p a1 tn tc TA T l 0 22 _ NT.1 R2.1).mono ?_;rintro r w3 ⟨rfl,hw⟩;obtain rfl:=hw.symm;clear hw))
  go_loopw [6,7,17] (fun o la i wr=>∃k:Nat,k≤n∧i= .int .i64 k∧∃(last at_:Nat) (acc:List Int) (A2:Option Addr) (c2:Nat),la= .int .u64 (last:Int)∧o= .slice A2 k c2∧aO wr w.heap.size A2 k c2 acc∧aK wr p l at_ 0∧w.grownBy wr (some p)∧Kept (M=Pe.sl l bnd (n-k) last acc at_∧acc.length=k∧last≤bnd)) (fun _ _ i _=>n-(intOf i).toNat)
  case atStart=>exact⟨0,om,rfl,0,a1,[],none,0,rfl,rfl,AY _ _ _ _,R2.1,G2.1,⟨HM.1,rfl,om⟩⟩
  case round=>
   clear HM R2 G2 NT CN;obtain⟨k,hk,rfl,last,at_,acc,A2,c2,rfl,rfl,ho,hr,hg,hd⟩:=hrel;have O:=Aj ho;have R:=Aj hr;have G:=Aj hg;have oH:=hg.size;obtain⟨q0,q1,q2⟩:=(HR.1.grown hg).cells;have RQ:=Aj (HR.1.grown hg);by_cases hlt:k<n
   ·have U:=Aj (ja p at_ 18446744073709551615 l 0 wr hr);have hle:=Wr.lC l at_ Rc.mx 0;have I7:=Wr.lD l at_ Rc.mx 0;obtain⟨hd1,hd2,hd3⟩:=hd.1;rw[show n-k=(n-(k+1))+1 from om]at hd1;have MF:=fun x a1 e1 (h1:Wr.uint l at_ 0 Rc.mx=(x,a1,e1)) (h2:e1≠0)=>hd1.trans (Pe.Qy (n-(k+1)) h1 h2)
    have Yk:=fun x a1 (h1:Wr.uint l at_ 0 Rc.mx=(x,a1,0)) h2=>hd1.trans (Pe.WT (n-(k+1)) h1 h2)
    have UJ:=fun x a1 (h1:Wr.uint l at_ 0 Rc.mx=(x,a1,0)) h2=>hd1.trans (Pe.Qz (n-(k+1)) h1 h2)
    have hemp:acc.isEmpty=decide (k=0):=by
     cases acc with
     |nil=>simp at hd2;simp[←hd2]
     |cons a b=>simp at hd2;simp[←hd2]
    clear ho hr hg hd hd1;unfold Rc.mx at MF Yk UJ hle I7;generalize Wr.uint l at_ 0 18446744073709551615=X at*;obtain⟨x,a2,e2⟩:=X;simp only[]at U hle I7;obtain⟨m,hm⟩:∃m,m=bnd-last:=⟨_,rfl⟩
    have hwm:IntKind.u64.wrap ((bnd:Int)-(last:Int))=(m:Int):=by simp[IntKind.wrap,IntKind.bits,IntKind.signed];omega
    have hmb:m≤bnd:=om;by_cases he2:e2=0
    ·subst he2;by_cases hxm:x<m
     ·have aeo:(x:Int)< (m:Int):=by omega
      by_cases hz:k=0∨0<x
      ·have ho:Pe.okD bnd last x acc.isEmpty=true:=by
        unfold Pe.okD;rw[hemp,Bc (show x<bnd-last from om)];rcases hz with h|h
        ·simp[h]
        ·simp[h]
       obtain⟨s,hs⟩:∃s,s=last+x:=⟨_,rfl⟩
       have hM3:=UJ x a2 rfl ho;rw[←hs]at hM3;have Yd:Kept (M=Pe.sl l bnd (n-(k+1)) s (acc++[(s:Int)]) a2∧(acc++[(s:Int)]).length=k+1∧s≤bnd):=⟨hM3,by simp[hd2],om⟩
       have hws:IntKind.u64.wrap ((last:Int)+(x:Int))=(s:Int):=by simp[IntKind.wrap,IntKind.bits,IntKind.signed];omega
       have hwi:IntKind.i64.wrap (s:Int)=(s:Int):=by simp[IntKind.wrap,IntKind.bits,IntKind.signed];omega
       have hsx:s<9223372036854775808:=om;clear MF Yk UJ ho hM3 hs hm hemp hd2 hd3 hmb hle;by_cases hk0:k=0
       ·subst hk0;clear hz;go_wp2_with (first
         |(go_at_call 182;refine U.1.mono ?_;rintro r w4 ⟨rfl,hr,hg⟩;have R4:=Aj hr;have G4:=Aj (G.1.trans hg);have MG:=Aj (RQ.1.grown hg);have O4:=Aj (dK O.1 hg hpl);obtain⟨s0,s1,s2⟩:=(RQ.1.grown hg).cells;clear hr hg)
         |(go_at_call 131;refine(dB q p a2 tn tc TA T l 0 22 _ MG.1 R4.1).mono ?_;rintro r w5 ⟨rfl,hw⟩;obtain rfl:=hw.symm;clear hw)
         |(at_builtin;refine dS rfl (.tmp 44) (.tmp 47) rfl w.heap.size A2 _ c2 _ rfl (Oa O4.1 _) (w4.heap.size+1) _ _ _ [(s:Int)] rfl (jv.one w4 s) om (by simp;have:=G4.1.size;omega) ?_;intro A6 c6 w6 hown6 tX Yl;have hb6:Below w.heap.size w4 w6:=((Ae _ _).alloc G4.1.size _).grown tX (by simp;have:=G4.1.size;omega) (fun g hg=>(ae O4.1 g hg).1);have O6:=Aj hown6;have B6:=Aj hb6;clear hown6 tX Yl hb6))
        go_roundw
        case rel=>exact⟨1,om,rfl,s,a2,_,A6,c6,rfl,rfl,O6.1,EZ R4.1 B6.1 hpl,tV G4.1 B6.1,Yd⟩
        case measure=>simp[intOf];omega
       ·have hk1:((k:Int)==0)=false:=by simpa using hk0
        have hx1:0<x:=om;have hx2:(0:Int)< (x:Int):=om;clear hz;go_wp2_with (first
         |(go_at_call 182;refine U.1.mono ?_;rintro r w4 ⟨rfl,hr,hg⟩;have R4:=Aj hr;have G4:=Aj (G.1.trans hg);have MG:=Aj (RQ.1.grown hg);have O4:=Aj (dK O.1 hg hpl);obtain⟨s0,s1,s2⟩:=(RQ.1.grown hg).cells;clear hr hg)
         |(go_at_call 131;refine(dB q p a2 tn tc TA T l 0 22 _ MG.1 R4.1).mono ?_;rintro r w5 ⟨rfl,hw⟩;obtain rfl:=hw.symm;clear hw)
         |(at_builtin;refine dS rfl (.tmp 44) (.tmp 47) rfl w.heap.size A2 k c2 _ rfl (Oa O4.1 _) (w4.heap.size+1) _ _ _ [(s:Int)] rfl (jv.one w4 s) om (by simp;have:=G4.1.size;omega) ?_;intro A6 c6 w6 hown6 tX Yl;have hb6:Below w.heap.size w4 w6:=((Ae _ _).alloc G4.1.size _).grown tX (by simp;have:=G4.1.size;omega) (fun g hg=>(ae O4.1 g hg).1);have O6:=Aj hown6;have B6:=Aj hb6;clear hown6 tX Yl hb6))
        go_roundw
        case rel=>exact⟨k+1,om,by go_num,s,a2,_,A6,c6,rfl,rfl,O6.1,EZ R4.1 B6.1 hpl,tV G4.1 B6.1,Yd⟩
        case measure=>simp[intOf];omega
      ·have hk0:¬k=0:=fun h=>hz (.inl h)
       have hx0:x=0:=om;subst hx0;have ho:Pe.okD bnd last 0 acc.isEmpty=false:=by
        unfold Pe.okD;rw[hemp,Az hk0];simp
       have cZ:=Aj (Yk 0 a2 rfl ho);have hk1:((k:Int)==0)=false:=by simpa using hk0
       clear MF Yk UJ ho hm hemp hd2 hd3 hmb hle hz;go_wp2_with (first
        |(go_at_call 182;refine U.1.mono ?_;rintro r w4 ⟨rfl,hr,hg⟩;have R4:=Aj hr;have G4:=Aj (G.1.trans hg);have MG:=Aj (RQ.1.grown hg);have O4:=Aj (dK O.1 hg hpl);obtain⟨s0,s1,s2⟩:=(RQ.1.grown hg).cells;clear hr hg)
        |(go_at_call 131;refine(eY q p a2 tn tc TA T l 0 22 _ MG.1 R4.1 Ah).mono ?_;rintro r w5 ⟨rfl,hr,hg⟩;rw[Ps0 rfl]at hr;have R5:=Aj hr;have G5:=Aj (G4.1.trans hg);clear hr hg))
       go_ret;refine⟨none,0,0,rfl,?_,?_,G5.1⟩
       ·rw[cZ.1];exact AY _ _ _ _
       ·rw[cZ.1];exact R5.1
     ·have aeo:¬(x:Int)< (m:Int):=by omega
      have ho:Pe.okD bnd last x acc.isEmpty=false:=by
       unfold Pe.okD;rw[Az (show¬x<bnd-last from om)];simp
      have cZ:=Aj (Yk x a2 rfl ho);clear MF Yk UJ ho hm hemp hd2 hd3 hmb;go_wp2_with (first
       |(go_at_call 182;refine U.1.mono ?_;rintro r w4 ⟨rfl,hr,hg⟩;have R4:=Aj hr;have G4:=Aj (G.1.trans hg);have MG:=Aj (RQ.1.grown hg);have O4:=Aj (dK O.1 hg hpl);obtain⟨s0,s1,s2⟩:=(RQ.1.grown hg).cells;clear hr hg)
       |(go_at_call 131;refine(eY q p a2 tn tc TA T l 0 22 _ MG.1 R4.1 Ah).mono ?_;rintro r w5 ⟨rfl,hr,hg⟩;rw[Ps0 rfl]at hr;have R5:=Aj hr;have G5:=Aj (G4.1.trans hg);clear hr hg))
      go_ret;refine⟨none,0,0,rfl,?_,?_,G5.1⟩
      ·rw[cZ.1];exact AY _ _ _ _
      ·rw[cZ.1];exact R5.1
    ·have cZ:=Aj (MF x a2 e2 rfl he2);have hx0:x=0:=I7 he2;subst hx0;have wG:(e2==0)=false:=by simpa using he2
     clear MF Yk UJ hemp hd2 hd3;by_cases hm0:m=0
     ·subst hm0;clear hm hmb;go_wp2_with (first
       |(go_at_call 182;refine U.1.mono ?_;rintro r w4 ⟨rfl,hr,hg⟩;have R4:=Aj hr;have G4:=Aj (G.1.trans hg);have MG:=Aj (RQ.1.grown hg);have O4:=Aj (dK O.1 hg hpl);obtain⟨s0,s1,s2⟩:=(RQ.1.grown hg).cells;clear hr hg)
       |(go_at_call 131;refine(eY q p a2 tn tc TA T l e2 22 _ MG.1 R4.1 Ah).mono ?_;rintro r w5 ⟨rfl,hr,hg⟩;rw[Ng he2]at hr;have R5:=Aj hr;have G5:=Aj (G4.1.trans hg);clear hr hg))
      go_ret;refine⟨none,0,0,rfl,?_,?_,G5.1⟩
      ·rw[cZ.1];exact AY _ _ _ _
      ·rw[cZ.1];exact R5.1
     ·have hm1:0<m:=by omega
      have hm2:(0:Int)< (m:Int):=om;by_cases hk0:k=0
      ·subst hk0;clear hm hmb;go_wp2_with (first
        |(go_at_call 182;refine U.1.mono ?_;rintro r w4 ⟨rfl,hr,hg⟩;have R4:=Aj hr;have G4:=Aj (G.1.trans hg);have MG:=Aj (RQ.1.grown hg);have O4:=Aj (dK O.1 hg hpl);obtain⟨s0,s1,s2⟩:=(RQ.1.grown hg).cells;clear hr hg)
        |(go_at_call 131;refine(dB q p a2 tn tc TA T l e2 22 _ MG.1 R4.1).mono ?_;rintro r w5 ⟨rfl,hw⟩;obtain rfl:=hw.symm;clear hw))
       go_ret;refine⟨none,0,0,rfl,?_,?_,G4.1⟩
       ·rw[cZ.1];exact AY _ _ _ _
       ·rw[cZ.1];exact R4.1
      ·have hk1:((k:Int)==0)=false:=by simpa using hk0
       clear hm hmb;go_wp2_with (first
        |(go_at_call 182;refine U.1.mono ?_;rintro r w4 ⟨rfl,hr,hg⟩;have R4:=Aj hr;have G4:=Aj (G.1.trans hg);have MG:=Aj (RQ.1.grown hg);have O4:=Aj (dK O.1 hg hpl);obtain⟨s0,s1,s2⟩:=(RQ.1.grown hg).cells;clear hr hg)
        |(go_at_call 131;refine(eY q p a2 tn tc TA T l e2 22 _ MG.1 R4.1 Ah).mono ?_;rintro r w5 ⟨rfl,hr,hg⟩;rw[Ng he2]at hr;have R5:=Aj hr;have G5:=Aj (G4.1.trans hg);clear hr hg))
       go_ret;refine⟨none,0,0,rfl,?_,?_,G5.1⟩
       ·rw[cZ.1];exact AY _ _ _ _
       ·rw[cZ.1];exact R5.1
   ·obtain rfl:k=n:=by omega
    obtain⟨hd1,hd2,hd3⟩:=hd.1;rw[CZ,Pe.y9]at hd1;have cZ:=Aj hd1;clear ho hr hg hd hd1 hd2 hd3;go_wp2;go_ret;refine⟨A2,k,c2,rfl,?_,?_,G.1⟩
    ·rw[cZ.1];exact O.1
    ·rw[cZ.1];exact R.1
end
end
section
section
open Go.RowKit Go.Shelf Go.Sort
namespace Pe
def za (acc:List eB) (x:bf):Bool:=match acc.getLast? with|none=>true|some e=>Lb.EU e.1 x
def fJ (acc:List eB) (r:bf×Nat×Int):Int:=if r.2.2≠0 then r.2.2 else if za acc r.1=true then 0 else 16
def el (T:List ByteArray) (l:List UInt8) (bnd:Nat):Nat→List eB→Nat→List eB×Nat×Int
 |0,acc,a=>(acc,a,0)
 |k+1,acc,a=>
  if fJ acc (Rc.lab T l a 0)≠0 then([],(Rc.lab T l a 0).2.1,fJ acc (Rc.lab T l a 0))
  else if(fA l bnd (Rc.lab T l a 0).2.1).2.2≠0 then([],(fA l bnd (Rc.lab T l a 0).2.1).2)
  else el T l bnd k (acc++[((Rc.lab T l a 0).1,(fA l bnd (Rc.lab T l a 0).2.1).1)]) (fA l bnd (Rc.lab T l a 0).2.1).2.1
def jJ (T:List ByteArray) (l:List UInt8) (bnd:Nat):List eB×Nat×Int:=if(Rc.cnt l 0 0).2.2≠0 then([],(Rc.cnt l 0 0).2)else el T l bnd (Rc.cnt l 0 0).1 [] (Rc.cnt l 0 0).2.1
def dec (T:List ByteArray) (n:Int) (l:List UInt8):List eB×Int:=
 if n<0 then([],2)
 else if Wr.fin l (jJ T l n.toNat).2.1 (jJ T l n.toNat).2.2≠0 then([],Wr.fin l (jJ T l n.toNat).2.1 (jJ T l n.toNat).2.2)
 else((jJ T l n.toNat).1,0)
theorem zb (T) (l) (bnd) (acc) (a):el T l bnd 0 acc a=(acc,a,0):=rfl
theorem QA {T} {l} {bnd} {acc} {a} {X} (k) (h:Rc.lab T l a 0=X) (he:fJ acc X≠0):el T l bnd (k+1) acc a=([],X.2.1,fJ acc X):=by
 rw[el,h,Ps0 he]
theorem QB {T} {l} {bnd} {acc} {a} {X} {Y} (k) (h:Rc.lab T l a 0=X) (he:fJ acc X=0) (h2:fA l bnd X.2.1=Y) (he2:Y.2.2≠0):el T l bnd (k+1) acc a=([],Y.2):=by
 rw[el,h,Ng (by simp[he]),h2,Ps0 he2]
theorem QC {T} {l} {bnd} {acc} {a} {X} {Y} (k) (h:Rc.lab T l a 0=X) (he:fJ acc X=0) (h2:fA l bnd X.2.1=Y) (he2:Y.2.2=0):el T l bnd (k+1) acc a=el T l bnd k (acc++[(X.1,Y.1)]) Y.2.1:=by
 rw[el,h,Ng (by simp[he]),h2,Ng (by simp[he2])]
theorem QD (x):za [] x=true:=rfl
theorem UK {acc} {x} {k} (h:k=acc.length) (hk:k-1<acc.length):za acc x=decide (Lb.pc acc[k-1].1 x<0):=by
 subst h;unfold za;rw[List.getLast?_eq_getElem?,l8 hk]
 rfl
theorem ze (l) (a) {e} (h:e≠0):Wr.fin l a e=e:=by
 unfold Wr.fin;simp[h]
end Pe
structure Dw (w W:World) (q p:Nat) (TA:Option Addr) (tn tc:Nat) (T:List ByteArray) (l:List UInt8) (A:Option Addr) (n c:Nat) (acc:List eB) (a:Nat) (e:Int):Prop where
 own:bg 163 W (q+1) A n c acc
 rd:aK W p l a e
 rp:RP W q p TA tn tc T l
 below:Below w.heap.size w W
 hp:w.heap.size≤p
structure Db (w W:World) (q p:Nat) (TA:Option Addr) (tn tc:Nat) (T:List ByteArray) (l:List UInt8) (A:Option Addr) (n c:Nat) (acc:List eB) (a:Nat) (e:Int) (G:Nat) (cs:Array Value):Prop where
 dw:Dw w W q p TA tn tc T l A n c acc a e
 box:W.heap[G]? =some (.cells cs 163 (0,0))
 apart:ab A≠some G
 hq:q<G
section
variable {w W W':World} {q p tn tc n c a G:Nat} {TA A:Option Addr} {T:List ByteArray} {l:List UInt8} {acc:List eB} {e:Int} {cs:Array Value}
theorem bg.Ym {t} {base g} {cs} {T} {fr} (h:bg t W base A n c acc) (hg:W.heap[g]? =some (.cells cs T fr)) (ht:T≠t):ab A≠some g:=by
 obtain⟨hs,_,h2,_⟩:=h;intro e;rcases h2.2 with⟨hv,_⟩|⟨g',cap,cur,hv,_,hg',_⟩
 ·injection hv with h1;rw[h1]at e;cases e
 ·injection hv with h1
  rw[h1]at e;have:g'=g:=Oj e;subst this;rw[hg]at hg'
  injection hg' with h2
  injection h2 with _ h3
  exact ht h3
theorem xh {base sz g} {xs} {e} {cs} {T} {fr} (h:W.ownsRow base e sz (.slice A n c) n xs) (hg:W.heap[g]? =some (.cells cs T fr)) (ht:T≠e) (hgr:W.grownBy W' (some g)):W'.ownsRow base e sz (.slice A n c) n xs:=by
 refine af h hgr (.inr fun e=>?_);rcases h.2 with⟨hv,_⟩|⟨g',cap,cur,hv,_,hg',_⟩
 ·injection hv with h1;rw[h1]at e;cases e
 ·injection hv with h1
  rw[h1]at e;have:g'=g:=Oj e;subst this;rw[hg]at hg'
  injection hg' with h2
  injection h2 with _ h3
  exact ht h3
theorem bg.aba {t} {base g} {cs} {T} {fr} (h:bg t W base A n c acc) (hg:W.heap[g]? =some (.cells cs T fr)) (ht:T≠t) (hi:T≠3) (hgr:W.grownBy W' (some g)):bg t W' base A n c acc:=by
 obtain⟨hs,h1,h2,h3⟩:=h;refine⟨hs,h1,xh h2 hg ht hgr,fun i h4 h5=>?_⟩;obtain⟨A1,n1,c1,e,o⟩:=h3 i h4 h5;exact⟨A1,n1,c1,e,xh o hg hi hgr⟩
theorem tY {base sz g k} {v} {xs} {e t} {cs} (h:W.ownsRow base e sz (.slice A n c) n xs) (hA:ab A≠some g) (_:W.heap[g]? =some (.cells cs t (0,0))):(W.setCell ⟨g,k,none⟩ v).ownsRow base e sz (.slice A n c) n xs:=by
 refine⟨h.1,h.2.imp id fun⟨b,cap,cur,h1,h2,h3,h4⟩=>⟨b,cap,cur,h1,h2,?_,h4⟩⟩;have hbg:b≠g:=fun e1=>by
  injection h1 with h1
  exact hA (by rw[h1,←e1];rfl)
 rw[AF _ _ _ _ (by exact hbg)];exact h3
theorem mV {base sz g} {xs} {e} {cs} {T} {fr} (h:W.ownsRow base e sz (.slice A n c) n xs) (hg:W.heap[g]? =some (.cells cs T fr)) (ht:T≠e):ab A≠some g:=by
 intro e;rcases h.2 with⟨hv,_⟩|⟨g',cap,cur,hv,_,hg',_⟩
 ·injection hv with h1;rw[h1]at e;cases e
 ·injection hv with h1
  rw[h1]at e;have:g'=g:=Oj e;subst this;rw[hg]at hg'
  injection hg' with h2
  injection h2 with _ h3
  exact ht h3
theorem bg.set1 {t} {base g k} {v} {cs} {T} (h:bg t W base A n c acc) (hA:ab A≠some g) (hg:W.heap[g]? =some (.cells cs T (0,0))) (hi:T≠3):bg t (W.setCell ⟨g,k,none⟩ v) base A n c acc:=by
 obtain⟨hs,h1,h2,h3⟩:=h;refine⟨hs,h1,tY h2 hA hg,fun i h4 h5=>?_⟩;obtain⟨A1,n1,c1,e,o⟩:=h3 i h4 h5;exact⟨A1,n1,c1,e,tY o (mV o hg hi) hg⟩
theorem Dw.step (h:Dw w W q p TA tn tc T l A n c acc a e) {a'} {e'} (hr:aK W' p l a' e') (hg:W.grownBy W' (some p)):Dw w W' q p TA tn tc T l A n c acc a' e':=by
 obtain⟨Ar,nr,cr,hb,_⟩:=h.rd;exact⟨h.own.aba hb Ah Ah hg,hr,h.rp.grown hg,h.below.grown hg h.below.size (fun g e=>by have:=Oj e;have:=h.hp;omega),h.hp⟩
theorem Dw.on (h:Dw w W q p TA tn tc T l A n c acc a e) (hb:Below W.heap.size W W'):Dw w W' q p TA tn tc T l A n c acc a e:=
 ⟨h.own.keep hb,h.rd.below hb h.rd.lt,h.rp.grown (aD hb),h.below.trans (hb.mono h.below.size),h.hp⟩
theorem Db.step (h:Db w W q p TA tn tc T l A n c acc a e G cs) {a'} {e'} (hr:aK W' p l a' e') (hg:W.grownBy W' (some p)):Db w W' q p TA tn tc T l A n c acc a' e' G cs:=
 ⟨h.dw.step hr hg,(hg.block G (Ge.1 h.box).1 (fun e=>by have:=Oj e;have:=h.hq;have:=h.dw.rp.2.1;omega)).trans h.box,h.apart,h.hq⟩
theorem Db.on (h:Db w W q p TA tn tc T l A n c acc a e G cs) (hb:Below W.heap.size W W'):Db w W' q p TA tn tc T l A n c acc a e G cs:=
 ⟨h.dw.on hb,(hb.block G (Ge.1 h.box).1).trans h.box,h.apart,h.hq⟩
theorem Db.set (h:Db w W q p TA tn tc T l A n c acc a e G cs) (k) (v):Db w (W.setCell ⟨G,k,none⟩ v) q p TA tn tc T l A n c acc a e G (cs.setIfInBounds k v):=by
 have hq:=h.hq;have hpq:=h.dw.rp.2.1;have hp:=h.dw.hp;have hg:W.grownBy (W.setCell ⟨G,k,none⟩ v) (some G):=by
  have hb:Below G W (W.setCell ⟨G,k,none⟩ v):=(Ae _ W).setCell (p:=⟨G,k,none⟩) Ai _;exact⟨hb.os,hb.tape,hb.output,hb.size,fun i _ hi=>AF _ _ _ _ (by exact fun e=>hi (by rw[e]))⟩
 have hb:Below G W (W.setCell ⟨G,k,none⟩ v):=(Ae _ W).setCell (p:=⟨G,k,none⟩) Ai _;refine⟨⟨h.dw.own.set1 h.apart h.box Ah,h.dw.rd.below hb om,?_,h.dw.below.setCell (p:=⟨G,k,none⟩) (by show _≤G;omega) _,hp⟩,Ag W G k _ _ _ h.box,h.apart,hq⟩;obtain⟨r1,r2,r3⟩:=h.dw.rp;exact⟨(hb.block q hq).trans r1,r2,Rd.below r3 (hb.mono om)⟩
theorem Db.cells (h:Db w W q p TA tn tc T l A n c acc a e G cs) (k):W.cell? ⟨G,k,none⟩=cs[k]?∧W.frozen? ⟨G,k,none⟩=false:=⟨Co _ _ _ _ _ _ h.box,Fr _ _ _ _ _ h.box⟩
theorem Dw.box (h:Dw w W q p TA tn tc T l A n c acc a e) (cs):Db w (W.alloc (.cells cs 163)) q p TA tn tc T l A n c acc a e W.heap.size cs:=
 ⟨h.on ((Ae _ _).alloc Ai _),Av W _,fun e=>by
  obtain⟨hs,_,h2,_⟩:=h.own;have:=(ae h2 _ e).2;omega,h.rp.lt⟩
end
theorem E9 (TA A) (tn tc n c) (bn) (T) (l) (w) (hT:bM w w.heap.size TA tn tc T) (hv:aN w w.heap.size A n c l) (hl:n≤20000000) (hbn:bn<9223372036854775808):
  Calls prog 77 #[.slice TA tn tc,.int .i64 bn,.slice A n c] w fun r w'=>∃A2 n2 c2,r= .returned (.tuple #[.slice A2 n2 c2,.int .i64 (Pe.dec T bn l).2])∧fI w' w'.heap.size A2 n2 c2 (Pe.dec T bn l).1∧Below w.heap.size w w':=by
 have hlc:=hv.1;have hcm:=hv.2.1;unfold maxLen at hcm;have HN:=Aj hv.len;have V:=Aj hv;have VT:=Aj hT;clear hv hT;rcases Int.lt_or_le bn 0 with hneg|hpos
 ·have hM:Pe.dec T bn l=([],2):=by unfold Pe.dec;rw[Ps0 hneg]
  rw[hM];clear hM;go_enter func77,ntmps77;go_wp2;go_ret2;exact⟨none,0,0,rfl,fI.nil _ _,Ae _ _⟩
 ·obtain⟨bnd,rfl⟩:=Ce hpos;have hge:¬(bnd:Int)<0:=om;have hbd:bnd<9223372036854775808:=om;obtain⟨X,hX⟩:∃X,X=Pe.jJ T l bnd:=⟨_,rfl⟩
  obtain⟨M,hM⟩:∃M,M=Pe.dec T (bnd:Int) l:=⟨_,rfl⟩
  rw[←hM];unfold Pe.dec at hM;rw[Ng om,lS,←hX]at hM;have HX:=Aj hX;have HM:=Aj hM;have hwb:IntKind.u64.wrap (bnd:Int)=(bnd:Int):=wrap_u64 _ om om;have HBD:=Aj hbd;have HL9:=Aj hl;clear hX hM hbd hbn hl;go_enter func77,ntmps77;go_upto_region 4 with(go_at_call 110;refine(bW A n c w.heap.size l w V.1 Ai (by have:=HL9.1;omega)).mono ?_;rintro r w1 ⟨p,rfl,hp1,hp2,hr1,hb1⟩;have R1:=Aj hr1;have B1:=Aj hb1;clear hr1 hb1)
  have D0:Kept (Dw w (w1.alloc (.cells #[.pointer (some ⟨p,0,none⟩),.slice TA tn tc,.int .i64 (n:Int)] 230)) w1.heap.size p TA tn tc T l none 0 0 [] 0 0):=
   ⟨⟨bg.nil _ _,R1.1.box _,⟨by rw[←HN.1];exact Av w1 _,hp2,Rd.alloc (Rd.more (Rd.below VT.1 B1.1) hp1) om _⟩,B1.1.alloc (by have:=B1.1.size;omega) _,hp1⟩⟩
  clear R1 B1;generalize w1.alloc (.cells #[.pointer (some ⟨p,0,none⟩),.slice TA tn tc,.int .i64 (n:Int)] 230)=w2 at*;generalize w1.heap.size=q at*;have mixed:prog.follows .mixedOrders=true:=kr;have CN:=Aj (tT q p 0 tn tc TA T l 0 w2 D0.1.rp D0.1.rd);have hcl:=Rc.sO l 0 0 (bE _);have hcz:=Pe.WU l 0 0;have hX2:=HX.1;unfold Pe.jJ at hX2;generalize Rc.cnt l 0 0=CT at*;obtain⟨m,a0,e0⟩:=CT;simp only[]at CN hcl hcz hX2;by_cases he0:e0=0
  ·subst he0;rw[Ng sm]at hX2;have HX2:=Aj hX2;have HM9:Kept (m≤20000000):=⟨by have:=HN.1;have:=HL9.1;omega⟩
   have hmI:(m:Int)≤20000000:=by have:=HM9.1;omega
   clear hX2 hcz HX hcl;go_upto_region 6 with(go_at_call 129;refine CN.1.mono ?_;rintro r w3 ⟨rfl,hr,hg⟩;have D3:=Aj (D0.1.step hr hg);clear hr hg)
   go_loopw [9,24] (fun o i wr=>∃k:Nat,k≤m∧i= .int .i64 k∧∃(A2:Option Addr) (c2:Nat) (acc:List eB) (at_:Nat),o= .slice A2 k c2∧Dw w wr q p TA tn tc T l A2 k c2 acc at_ 0∧Kept (X=Pe.el T l bnd (m-k) acc at_∧acc.length=k)) (fun _ i _=>m-(intOf i).toNat)
   case atStart=>exact⟨0,om,rfl,none,0,[],a0,rfl,D3.1,⟨HX2.1,rfl⟩⟩
   case round=>
    clear HX2 D3 CN D0;obtain⟨k,hk,rfl,A2,c2,acc,at_,rfl,hD,hd⟩:=hrel;have D:=Aj hD;have oH:=hD.below.size;clear hD;by_cases hlt:k<m
    ·obtain⟨hd1,hd2⟩:=hd.1;rw[show m-k=(m-(k+1))+1 from om]at hd1;have abb:=fun X1 h1 h2=>hd1.trans (Pe.QA (X:=X1) (m-(k+1)) h1 h2)
     have abd:=fun X1 Y1 h1 h2 h3 h4=>hd1.trans (Pe.QB (X:=X1) (Y:=Y1) (m-(k+1)) h1 h2 h3 h4)
     have UJ:=fun X1 Y1 h1 h2 h3 h4=>hd1.trans (Pe.QC (X:=X1) (Y:=Y1) (m-(k+1)) h1 h2 h3 h4)
     have ZW:Rc.lab T l at_ 0=(⟨(Rc.sym T l at_ 0).1,(Rc.sym T l (Rc.sym T l at_ 0).2.1 (Rc.sym T l at_ 0).2.2).1⟩,(Rc.sym T l (Rc.sym T l at_ 0).2.1 (Rc.sym T l at_ 0).2.2).2):=rfl;have S1:=Aj (fun W (d1:RP W q p TA tn tc T l) (d2:aK W p l at_ 0)=>qP q p at_ tn tc TA T l 0 W d1 d2);generalize Rc.sym T l at_ 0=Y1 at*;obtain⟨s1,a1,e1⟩:=Y1;simp only[]at S1 ZW;have S2:=Aj (fun W (d1:RP W q p TA tn tc T l) (d2:aK W p l a1 e1)=>qP q p a1 tn tc TA T l e1 W d1 d2);generalize Rc.sym T l a1 e1=Y2 at*;obtain⟨s2,a2,e2⟩:=Y2;simp only[]at S2 ZW;have Yn:=Aj (abb _ ZW);have Yo:=Aj (fun Y1=>abd _ Y1 ZW);have HOK:=Aj (fun Y1=>UJ _ Y1 ZW);have HL:=Aj hd2;simp only[]at Yn Yo HOK;clear abb abd UJ ZW hd hd1 hd2;go_upto_region 9 with(fail)
     have D1:=Aj (D.1.box #[.string ⟨#[]⟩,.string ⟨#[]⟩,.slice none 0 0]);have hzg:w.heap.size≤wr.heap.size:=oH;clear D;generalize wr.alloc (Obj.cells #[.string ⟨#[]⟩,.string ⟨#[]⟩,.slice none 0 0] 163)=w4 at*;generalize wr.heap.size=G at*;go_upto_region 10 with(go_at_call 130;refine(S1.1 w4 D1.1.dw.rp D1.1.dw.rd).mono ?_;rintro r w5 ⟨rfl,hr,hg⟩;have D2:=Aj (D1.1.step hr hg);obtain⟨y0,f0⟩:=D2.1.cells 0;clear hr hg D1)
     have D3:=Aj (D2.1.set 0 (.string s1));clear D2 y0 f0;generalize w5.setCell ⟨G,0,none⟩ (.string s1)=w6 at*;go_upto_region 11 with(go_at_call 130;refine(S2.1 w6 D3.1.dw.rp D3.1.dw.rd).mono ?_;rintro r w7 ⟨rfl,hr,hg⟩;have D4:=Aj (D3.1.step hr hg);obtain⟨y1,f1⟩:=D4.1.cells 1;clear hr hg D3)
     have D5:=Aj (D4.1.set 1 (.string s2));clear D4 y1 f1;generalize w7.setCell ⟨G,1,none⟩ (.string s2)=w8 at*;have D5:Kept (Db w w8 q p TA tn tc T l A2 k c2 acc a2 e2 G #[.string s1,.string s2,.slice none 0 0]):=D5;obtain⟨e3,kz⟩:∃e3,e3=Pe.fJ acc (⟨s1,s2⟩,a2,e2):=⟨_,rfl⟩
     have HE3:=Aj kz;rw[←kz]at Yn Yo HOK;unfold Pe.fJ at kz;simp only[]at kz;have PC:=Aj (fun(z:bf) W=>og z ⟨s1,s2⟩ W);unfold lbv at PC;simp only[]at PC;go_cut [51] (fun t W=>t= .bool (!(e3==0))∧Db w W q p TA tn tc T l A2 k c2 acc a2 e3 G #[.string s1,.string s2,.slice none 0 0])
     case first=>
      by_cases hk0:k=0
      ·have hacc:acc=[]:=vg (by rw[HL.1,hk0]);subst hacc;subst hk0;have zL:e3=e2:=by
        rw[kz];by_cases h:e2=0
        ·simp[h,Pe.QD]
        ·simp[h]
       subst zL;have CK:=Aj (fun W (h:Db w W q p TA tn tc T l A2 0 c2 [] a2 e3 G #[.string s1,.string s2,.slice none 0 0])=>dB q p a2 tn tc TA T l e3 16 W h.dw.rp h.dw.rd);have DN:Kept (∀nq,Db w (w8.drewN nq) q p TA tn tc T l A2 0 c2 [] a2 e3 G #[.string s1,.string s2,.slice none 0 0]):=⟨fun nq=>D5.1.on (below_drewN (Ae _ _) nq)⟩
       clear kz;go_quiet (first|(go_at_call 131;exact(CK.1 _ (DN.1 _)).mono fun _ _ h=>⟨h.1,_,h.2⟩));go_wp2_with fail;go_meet;exact⟨rfl,DN.1 _⟩
      ·have hk1:k-1<acc.length:=by rw[HL.1];omega
       obtain⟨b,off,A5,n5,c5,hA2,lX,-,hcc⟩:=D5.1.dw.own.rd.cells Ai hk1;subst hA2;rw[Pe.UK (x:=⟨s1,s2⟩) (k:=k) HL.1.symm hk1]at kz;generalize acc[k-1]=pe at*;obtain⟨y,sy⟩:=pe;simp only[]at kz hcc;have hGs:=(Ge.1 D5.1.box).1;have ek:(k:Int)-1=((k-1:Nat):Int):=om;have XR:((k-1:Nat):Int)< (k:Int):=om;have ew:IntKind.i64.wrap ((k-1:Nat):Int)=((k-1:Nat):Int):=by rw[AV];have:=HM9.1;omega
       have hk2:((k:Int)==0)=false:=by simpa using hk0
       have PC1:=fun W=>PC.1 y W
       rcases Int.lt_or_le (Lb.pc y ⟨s1,s2⟩) 0 with hq|hq
       ·have zL:e3=e2:=by
         rw[kz,Bc hq];by_cases h:e2=0
         ·simp[h]
         ·simp[h]
        subst zL;have c0:=cell_grown (w:=w8) (show(⟨b,off+(k-1)*3,none⟩:Addr).block<w8.heap.size by show b<_;omega) (hcc w8 (Ae _ _)).1;have c1:=cell_grown (w:=w8) (show(⟨b,off+(k-1)*3+1,none⟩:Addr).block<w8.heap.size by show b<_;omega) (hcc w8 (Ae _ _)).2.1;have d0:=cell_grown (w:=w8) (a:=⟨G,0,none⟩) (v:= .string s1) (by show G<_;exact hGs) (D5.1.cells 0).1;have d1:=cell_grown (w:=w8) (a:=⟨G,1,none⟩) (v:= .string s2) (by show G<_;exact hGs) (D5.1.cells 1).1;have CK:=Aj (fun W (h:Db w W q p TA tn tc T l (some ⟨b,off,none⟩) k c2 acc a2 e3 G #[.string s1,.string s2,.slice none 0 0])=>dB q p a2 tn tc TA T l e3 16 W h.dw.rp h.dw.rd);have DN:Kept (∀W,Gr w8 W→Db w W q p TA tn tc T l (some ⟨b,off,none⟩) k c2 acc a2 e3 G #[.string s1,.string s2,.slice none 0 0]):=⟨fun W g=>D5.1.on g.below⟩
        clear kz hcc;generalize Lb.pc y ⟨s1,s2⟩=pq at*;go_quiet_grown (first
         |(go_at_call 80;refine Calls.grown_of (PC1 _))
         |(go_at_call 131;refine Calls.grown_of ((CK.1 _ (DN.1 _ ⟨_,_,rfl⟩)).mono fun _ _ h=>⟨h.1,by rw[h.2];exact Gr.refl _⟩)))
        go_wp2_with fail;go_meet;exact⟨rfl,DN.1 _ ⟨_,_,rfl⟩⟩
       ·have zL:(if e2=0 then(16:Int)else e2)=e3:=by
         rw[kz,Az (show¬Lb.pc y ⟨s1,s2⟩<0 from om)];by_cases h:e2=0
         ·simp[h]
         ·simp[h]
        have hb3:(e3==0)=false:=by
         rw[←zL];by_cases h:e2=0
         ·simp[h]
         ·simp[h]
        have hq1:¬Lb.pc y ⟨s1,s2⟩<0:=om;have HE4:=Aj zL;have HCC:=Aj hcc;have HBP:Kept (b≠p):=⟨fun e=>by
         obtain⟨Ar,nr,cr,hbx,_⟩:=D5.1.dw.rd;exact D5.1.dw.own.Ym hbx Ah (by rw[←e];rfl)⟩
        obtain⟨c0,c1,-⟩:=hcc w8 (Ae _ _);have d0:w8.cell? ⟨G,0,none⟩=some (.string s1):=(D5.1.cells 0).1;have d1:w8.cell? ⟨G,1,none⟩=some (.string s2):=(D5.1.cells 1).1;clear kz zL hcc;generalize Lb.pc y ⟨s1,s2⟩=pq at*;go_region_held3 (fun w'=>w'.cell? ⟨b,off+(k-1)*3,none⟩=some (.string y.n)∧w'.cell? ⟨b,off+(k-1)*3+1,none⟩=some (.string y.v)∧w'.cell? ⟨G,0,none⟩=some (.string s1)∧w'.cell? ⟨G,1,none⟩=some (.string s2)) (first|exact⟨c0,c1,d0,d1⟩|exact k8|exact k9)
         (first
         |(go_at_call 80;refine(PC1 _).mono ?_;rintro r w9 ⟨rfl,hg⟩;have zf:Below w8.heap.size w8 w9:=(by first|exact hg.below|exact dH hg.below);have D9:=Aj (D5.1.on zf);have k8:w9.cell? ⟨b,off+(k-1)*3,none⟩=some (.string y.n)∧w9.cell? ⟨b,off+(k-1)*3+1,none⟩=some (.string y.v)∧w9.cell? ⟨G,0,none⟩=some (.string s1)∧w9.cell? ⟨G,1,none⟩=some (.string s2):=⟨(HCC.1 w9 zf).1,(HCC.1 w9 zf).2.1,(D9.1.cells 0).1,(D9.1.cells 1).1⟩;have hz9:b<w9.heap.size:=jB lX zf.size;clear hg zf)
         |(go_at_call 131;refine(I6 q p a2 tn tc TA T l _ e2 16 _ D9.1.dw.rp D9.1.dw.rd Ah).mono ?_;rintro r JW ⟨e9,rfl,hT,hF,hr,hg⟩;have ZN:e9=e3:=(hF (by simp[hq1])).trans HE4.1;subst ZN;have D10:=Aj (D9.1.step hr hg);have hbk:JW.heap[b]? =w9.heap[b]?:=hg.block b hz9 (fun e=>HBP.1 (Oj e));have k9:JW.cell? ⟨b,off+(k-1)*3,none⟩=some (.string y.n)∧JW.cell? ⟨b,off+(k-1)*3+1,none⟩=some (.string y.v)∧JW.cell? ⟨G,0,none⟩=some (.string s1)∧JW.cell? ⟨G,1,none⟩=some (.string s2):=⟨(AL (a:=⟨b,off+(k-1)*3,none⟩) hbk).trans k8.1,(AL (a:=⟨b,off+(k-1)*3+1,none⟩) hbk).trans k8.2.1,(D10.1.cells 0).1,(D10.1.cells 1).1⟩;clear hr hg hT hF hbk))
        go_wp2_with fail;go_meet;exact⟨by rw[hb3];rfl,D10.1⟩
     case rest=>
      obtain⟨rfl,hD6⟩:=hcut;have D6:=Aj hD6;clear D5 hD6 kz;have hqs:=D6.1.dw.rp.lt;by_cases h3:e3=0
      ·subst h3;obtain⟨Y,hY⟩:∃Y,Pe.fA l bnd a2=Y:=⟨_,rfl⟩
       have SR:=Aj (E8 q p a2 tn tc bnd TA T l wc D6.1.dw.rp D6.1.dw.rd HBD.1 (by rw[←HN.1];exact HL9.1));have WV:=Aj (Yo.1 Y rfl hY);have abf:=Aj (HOK.1 Y rfl hY);rw[hY]at SR;clear hY;obtain⟨sr,a4,e4⟩:=Y;simp only[]at SR WV abf;go_upto_region 13 with(go_at_call 132;refine SR.1.mono ?_;rintro r GN ⟨A8,n8,c8,rfl,ho,hr,hg⟩;have O8:=Aj (show aO GN 0 A8 n8 c8 sr from bK ho (bE _));have D7:=Aj (D6.1.step hr hg);obtain⟨y2,f2⟩:=D7.1.cells 2;clear ho hr hg SR)
       have D8:=Aj (D7.1.set 2 (.slice A8 n8 c8));have O9:=Aj (show aO (GN.setCell ⟨G,2,none⟩ (.slice A8 n8 c8)) 0 A8 n8 c8 sr from tY O8.1 (mV O8.1 D7.1.box Ah) D7.1.box);clear D6 D7 y2 f2 O8;generalize GN.setCell ⟨G,2,none⟩ (.slice A8 n8 c8)=OW at*;have D8:Kept (Db w OW q p TA tn tc T l A2 k c2 acc a4 e4 G #[.string s1,.string s2,.slice A8 n8 c8]):=D8;have ajx:=D8.1.dw.rp.lt;have hpq:=D8.1.dw.rp.2.1;have hwp:=D8.1.dw.hp;obtain⟨q0,q1,q2⟩:=D8.1.dw.rp.cells;have z0:OW.cell? ⟨G,0,none⟩=some (.string s1):=(D8.1.cells 0).1;have z1:OW.cell? ⟨G,1,none⟩=some (.string s2):=(D8.1.cells 1).1;have z2:OW.cell? ⟨G,2,none⟩=some (.slice A8 n8 c8):=(D8.1.cells 2).1;by_cases h4:e4=0
       ·subst h4;have HX3:=Aj (abf.1 rfl);have HOW:=Aj D8.1.dw.own;go_wp2_with (first
         |(at_builtin;refine y8 (y:=⟨s1,s2⟩) (s:=sr) rfl (.tmp 63) (.tmp 65) rfl (q+1) A2 k c2 acc rfl HOW.1 _ rfl rfl O9.1 (by have:=HM9.1;omega) om ?_;intro A9 c9 OX ho9 zf;have O10:=Aj ho9;have B10:=Aj zf;clear ho9 zf)
         |(go_at_call 120;refine(az p a4 l 0 _ D8.1.dw.rd).mono ?_;rintro r wE ⟨rfl,UL⟩;obtain rfl:=UL))
        go_roundw
        case rel=>
         refine⟨k+1,om,by go_num,A9,c9,_,a4,rfl,⟨O10.1,D8.1.dw.rd.below B10.1 om,⟨(B10.1.block q om).trans D8.1.dw.rp.1,hpq,Rd.below D8.1.dw.rp.2.2 (B10.1.mono om)⟩,D8.1.dw.below.trans (B10.1.mono om),hwp⟩,⟨HX3.1,by simp[HL.1]⟩⟩
        case measure=>simp[intOf];omega
       ·have h4b:(e4==0)=false:=by simpa using h4
        have HX3:=Aj (WV.1 h4);obtain⟨F,hF⟩:∃F,Wr.fin l a4 e4=F:=⟨_,rfl⟩
        have QE:F=e4:=by rw[←hF];exact Pe.ze l a4 h4
        have hFn:(F==0)=false:=by rw[QE];exact h4b
        have cZ:Kept (M=([],F)):=⟨by
         have:=HM.1;rw[HX3.1]at this;simp only[]at this;rw[hF,Ps0 (by rw[QE];exact h4)]at this;exact this⟩
        have HF:=Aj hF;have D9:=Aj D8.1.dw;clear hF QE;go_wp2_with (first
         |(go_at_call 120;refine(az p a4 l e4 _ D9.1.rd).mono ?_;rintro r wE ⟨rfl,UL⟩;obtain rfl:=UL)
         |(go_at_call 117;refine(fQ p a4 l e4 _ D9.1.rd).mono ?_;rintro r wE ⟨Kw,UL⟩;rw[HF.1]at Kw;subst Kw;obtain rfl:=UL))
        go_ret2;refine⟨none,0,0,?_,?_,D9.1.below⟩
        ·rw[cZ.1];rfl
        ·rw[cZ.1];exact fI.nil _ _
      ·have h3b:(e3==0)=false:=by simpa using h3
       have HX3:=Aj (Yn.1 h3);obtain⟨F,hF⟩:∃F,Wr.fin l a2 e3=F:=⟨_,rfl⟩
       have QE:F=e3:=by rw[←hF];exact Pe.ze l a2 h3
       have hFn:(F==0)=false:=by rw[QE];exact h3b
       have cZ:Kept (M=([],F)):=⟨by
        have:=HM.1;rw[HX3.1]at this;simp only[]at this;rw[hF,Ps0 (by rw[QE];exact h3)]at this;exact this⟩
       have HF:=Aj hF;have D9:=Aj D6.1.dw;obtain⟨q0,q1,q2⟩:=D9.1.rp.cells;clear hF QE;rw[show(!(e3==0))=true by rw[h3b];rfl];go_wp2_with (go_at_call 117;refine(fQ p a2 l e3 _ D9.1.rd).mono ?_;rintro r wE ⟨Kw,UL⟩;rw[HF.1]at Kw;subst Kw;obtain rfl:=UL);go_ret2;refine⟨none,0,0,?_,?_,D9.1.below⟩
       ·rw[cZ.1];rfl
       ·rw[cZ.1];exact fI.nil _ _
    ·obtain rfl:k=m:=by omega
     obtain⟨hd1,hd2⟩:=hd.1;rw[CZ,Pe.zb]at hd1;obtain⟨F,hF⟩:∃F,Wr.fin l at_ 0=F:=⟨_,rfl⟩
     have HF:=Aj hF;have SL:=HM.1;rw[hd1]at SL;simp only[]at SL;rw[hF]at SL;clear hd hd1 hd2 hF;by_cases hf:F=0
     ·subst hf;have cZ:Kept (M=(acc,0)):=⟨by rw[SL];simp⟩
      clear SL;obtain⟨q0,q1,q2⟩:=D.1.rp.cells;go_wp2_with (go_at_call 117;refine(fQ p at_ l 0 _ D.1.rd).mono ?_;rintro r wE ⟨Kw,rfl⟩;rw[HF.1]at Kw;subst Kw);go_ret2;refine⟨A2,k,c2,?_,?_,D.1.below⟩
      ·rw[cZ.1];rfl
      ·rw[cZ.1];exact D.1.own.rd
     ·have Pt:(F==0)=false:=by simpa using hf
      have cZ:Kept (M=([],F)):=⟨by rw[SL,Ps0 hf]⟩
      clear SL;obtain⟨q0,q1,q2⟩:=D.1.rp.cells;go_wp2_with (go_at_call 117;refine(fQ p at_ l 0 _ D.1.rd).mono ?_;rintro r wE ⟨Kw,rfl⟩;rw[HF.1]at Kw;subst Kw);go_ret2;refine⟨none,0,0,?_,?_,D.1.below⟩
      ·rw[cZ.1];rfl
      ·rw[cZ.1];exact fI.nil _ _
  ·have hm0:=hcz he0;subst hm0;rw[Ps0 he0]at hX2;obtain⟨F,hF⟩:∃F,Wr.fin l a0 e0=F:=⟨_,rfl⟩
   have QE:F=e0:=by rw[←hF];exact Pe.ze l a0 he0
   have hFn:(F==0)=false:=by rw[QE];simpa using he0
   have cZ:Kept (M=([],F)):=⟨by
    have:=HM.1;rw[hX2]at this;simp only[]at this;rw[hF,Ps0 (by rw[QE];exact he0)]at this;exact this⟩
   have HF:=Aj hF;clear hF QE hX2 hcz hcl HX;go_upto_region 6 with(go_at_call 129;refine CN.1.mono ?_;rintro r w3 ⟨rfl,hr,hg⟩;have D9:=Aj (D0.1.step hr hg);clear hr hg)
   go_loopw [9,24] (fun o i wr=>o= .slice none 0 0∧i= .int .i64 0∧wr=w3) (fun _ i _=>1)
   case atStart=>exact⟨rfl,rfl,rfl⟩
   case round=>
    obtain⟨rfl,rfl,hw⟩:=hrel;obtain rfl:=hw.symm;obtain⟨q0,q1,q2⟩:=D9.1.rp.cells;go_wp2_with (go_at_call 117;refine(fQ p a0 l e0 _ D9.1.rd).mono ?_;rintro r wE ⟨Kw,UL⟩;rw[HF.1]at Kw;subst Kw;obtain rfl:=UL);go_ret2;refine⟨none,0,0,?_,?_,D9.1.below⟩
    ·rw[cZ.1];rfl
    ·rw[cZ.1];exact fI.nil _ _
end
end
end Go.Proofs.YtjcpmfphnodaaaaGreatDoor
