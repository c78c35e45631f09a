/- Part 20. -/
import Derived.Test.YtongopommlghgaaGreatDoorZVAS
namespace Go.Proofs.YtongopommlghgaaGreatDoor
set_option maxRecDepth 100000
set_option maxHeartbeats 0
open _root_.Go.Proofs.Tryz
section
open Go.RowKit Go.Shelf
attribute [local go_sem] Oper.semAt_some
theorem Rd.noc {w w' sz n c A xs row} (h:Rd w w.heap.size sz A n c xs) (hg:w.grownBy w' row) (hr:∀r,row=some r→∃o:Obj,w.heap[r]? =some o∧o.isCells=false):Rd w' w'.heap.size sz A n c xs:=by
 obtain⟨h1,h2,h3,h4⟩:=h;refine⟨h1,h2,h3,fun hn=>?_⟩;obtain⟨b,off,e,hb,hc⟩:=h4 hn;refine⟨b,off,e,j6 hb hg.size,fun i u hu=>?_⟩;have hcu:=hc i u hu;refine(AR (a:=⟨b,off+i,none⟩) (hg.block b hb (fun q=>?_))).trans hcu;obtain⟨o,ho,hoc⟩:=hr b q.symm;unfold World.cell? at hcu;cases o<;>simp_all [Obj.isCells]
theorem Boxed.aZ {w w' bx t v} (h:Boxed w bx t v) (hb:Below w.heap.size w w'):Boxed w' bx t v:=(hb.block _ (Ge.1 h).1).trans h
def ahH (w:World) (b:Bk.ic) (e:Ending) (w':World):Prop:=
 ∃V T E,e= .returned (.tuple #[.agg (Ly.jq V),.int .i64 0])∧Bk.Of b T E∧Four w' w'.heap.size V (Bk.D4 T E b)∧Below w.heap.size w w'
theorem UJ (A n c b w) (hv:dY w w.heap.size A n c b) (hb:Bk.Ok b) (hG:Gl w):
  Calls prog 41 #[.slice A n c] w (ahH w b):=by
 have hmf:∀(fn:Fn) (first cap:Array Value) (w:World),(Instr.makeFunc fn first cap).run prog w= .ok (.func fn first cap) w:=fun _ _ _ _=>rfl
 obtain⟨hlc,hcm⟩:=hv.cap;unfold maxLen at hcm;have hn:=hv.len;have hnb:n≤500000:=by rw[hn];exact hb.len
 obtain⟨hs,hrd,EU,IY⟩:=hv;have hHD:Zg w w.heap.size b hs:=⟨EU,IY⟩
 obtain⟨W0,hW0⟩:∃W0,W0=w.alloc (.cells #[.slice none 0 0,.slice none 0 0,.slice none 0 0,.slice none 0 0] 76):=⟨_,rfl⟩
 have hz0:W0.heap.size=w.heap.size+1:=by rw[hW0];simp
 have hb0:Below w.heap.size w W0:=by rw[hW0];exact(Ae _ w).alloc Ai _
 have hg0:W0.heap[w.heap.size]? =some (.cells #[.slice none 0 0,.slice none 0 0,.slice none 0 0,.slice none 0 0] 76 (0,0)):=by rw[hW0];exact Av w _
 have hk0:dY W0 w.heap.size A n c b:=dY.below ⟨hs,hrd,EU,IY⟩ hb0;have CK:=Aj (tY A n c w.heap.size b W0 hk0 om (by have:=hb.dm;omega) hb.fit);rw[hb.bR]at CK;have HW0:=Aj hW0.symm;have HN:=Aj hn;have HB:=Aj hb;have HG:=Aj hG;have HRD:=Aj hrd;have Qi:=Aj hHD;have B0:=Aj hb0;have G0:=Aj hg0;have Z0:=Aj hz0;clear hW0 hn hb hG hrd hHD EU IY hb0 hg0 hz0 hk0;refine(Bl (n:=9)).1 ?_;refine Cv func41 rfl trivial ?_ rfl;simp only[ntmps41,Cg,Lc,Ba,Nat.reduceAdd,Nat.reduceSub,Cj,Cm,CY,Cx,AA,Bb];refine Bu.2 ?_;go_upto_region 1 with fail;rw[HW0.1];go_upto_region 5 with(go_at_call 17;refine CK.1.mono ?_;rintro e w1 ⟨rfl,g1⟩;have B1:=Aj g1.below;clear g1 CK)
 have mR:=fun W=>PS n om W
 have mL:=fun W=>UE n om W
 go_upto_region 8 with fail;obtain⟨W4,IQ⟩:∃W4,W4=(((w1.alloc (.cells #[.slice none 0 0] 22)).alloc (.cells (madeCells #[dx,dx] (n*2)) qx)).alloc (.cells #[.slice (some ⟨w1.heap.size+1,0,none⟩) n n] 138)).alloc (.cells (madeCells #[dx] n) 54):=⟨_,rfl⟩
 have z1:Kept (w.heap.size<w1.heap.size):=⟨by have:=B1.1.size;have:=Z0.1;omega⟩
 have z4:Kept (W4.heap.size=w1.heap.size+4):=⟨by rw[IQ];simp⟩
 have b4:Kept (Below w1.heap.size w1 W4):=⟨by rw[IQ];exact((((Ae _ w1).alloc Ai _).alloc sm _).alloc (by simp;omega) _).alloc (by simp;omega) _⟩
 have hd4:Kept (Boxed W4 w1.heap.size 22 dx):=⟨by rw[IQ];exact(((Bd w1 _ _).alloc _).alloc _).alloc _⟩
 have hl4:Kept (Boxed W4 (w1.heap.size+1+1) 138 (.slice (some ⟨w1.heap.size+1,0,none⟩) n n)):=⟨by
  rw[IQ];have:=Bd ((w1.alloc (.cells #[.slice none 0 0] 22)).alloc (.cells (madeCells #[dx,dx] (n*2)) qx)) 138 (.slice (some ⟨w1.heap.size+1,0,none⟩) n n);simp only[AU]at this;exact Boxed.alloc this _⟩
 have hf4:Kept (zY W4 (w1.heap.size+1) (w1.heap.size+1+1+1) n 0 hs):=⟨by
  rw[IQ];exact zY.made w1 n hs _ _⟩
 have bw4:Kept (Below w.heap.size w W4):=⟨B0.1.trans ((B1.1.mono (by have:=Z0.1;omega)).trans (b4.1.mono (by have:=z1.1;omega)))⟩
 have gr4:Kept (W4.heap[w.heap.size]? =some (.cells #[.slice none 0 0,.slice none 0 0,.slice none 0 0,.slice none 0 0] 76 (0,0))):=⟨((b4.1.block _ z1.1).trans (B1.1.block _ (by have:=Z0.1;omega))).trans G0.1⟩
 rw[←IQ];obtain⟨gd,hgd⟩:∃gd,gd=w1.heap.size:=⟨_,rfl⟩
 obtain⟨p,hp⟩:∃p,p=gd+1:=⟨_,rfl⟩
 obtain⟨gl,hgl⟩:∃gl,gl=gd+1+1:=⟨_,rfl⟩
 obtain⟨q,hq⟩:∃q,q=gd+1+1+1:=⟨_,rfl⟩
 rw[←hgd]at z1 z4 hd4 hl4 hf4⊢;rw[←hgl,←hp]at hl4;rw[←hq,←hp]at hf4;rw[←hq,←hgl,←hp];have E1:=Aj hp;have E2:=Aj hgl;have E3:=Aj hq;clear IQ hgd hp hgl hq b4 B1 mR mL;go_loopw [32] (fun i wr=>∃k:Nat,k≤n∧i= .int .i64 k∧Kept (zY wr p q n k hs)∧Kept (Boxed wr gd 22 dx)∧Kept (Boxed wr gl 138 (.slice (some ⟨p,0,none⟩) n n))∧Kept (Below w.heap.size w wr)∧
  Kept (wr.heap[w.heap.size]? =some (.cells #[.slice none 0 0,.slice none 0 0,.slice none 0 0,.slice none 0 0] 76 (0,0)))) (fun i _=>n-(intOf i).toNat)
 case atStart=>exact⟨0,bH _,rfl,hf4,hd4,hl4,bw4,gr4⟩
 case round=>
  clear hf4 hd4 hl4 bw4 gr4 z4;obtain⟨k,hk,rfl,hf,hd,hl,hbw,hgr⟩:=hrel;by_cases hlt:k<n
  ·have hkh:k<hs.length:=by rw[Qi.1.1,←HN.1];exact hlt
   have hkb:k<b.length:=by rw[←HN.1];exact hlt
   obtain⟨A1,n1,c1,A2,n2,c2,he,-,-⟩:=Qi.1.2 k hkh hkb;obtain⟨b0,off,rfl,kK,hc⟩:=HRD.1.2.2.2 om;obtain⟨g1,g2⟩:=dK hs k hkh;rw[he]at g1 g2;have hls:Kept (vN hs k= .slice A1 n1 c1):=⟨by rw[KH hkh,he]⟩
   have r0:=(hbw.1.cell (p:=⟨b0,off+k*2,none⟩) (by show b0<_;exact kK)).trans (hc _ _ g1);have r1:=(hbw.1.cell (p:=⟨b0,off+(k*2+1),none⟩) (by show b0<_;exact kK)).trans (hc _ _ g2);rw[←fA]at r1;have hb5:=hbw.1.alloc hbw.1.size (.cells #[.slice A1 n1 c1,.slice A2 n2 c2] 57);have al5:=(Ae wr.heap.size wr).alloc Ai (.cells #[.slice A1 n1 c1,.slice A2 n2 c2] 57);have hf5:=hf.1.below al5;have hd5:=hd.1.alloc (.cells #[.slice A1 n1 c1,.slice A2 n2 c2] 57);have hl5:=hl.1.alloc (.cells #[.slice A1 n1 c1,.slice A2 n2 c2] 57);have hgr5:=(al5.block w.heap.size (by have:=hf.1.lt.1;have:=E1.1;have:=z1.1;omega)).trans hgr.1;have hx5:=Av wr (.cells #[.slice A1 n1 c1,.slice A2 n2 c2] 57);obtain⟨x5,hxe⟩:∃x,x=wr.heap.size:=⟨_,rfl⟩
   rw[←hxe]at hx5;have hxp:Kept (p<x5∧q<x5∧gl<x5∧gd<x5):=⟨by have h1:=hf.1.lt;have h3:=E1.1;have h4:=E2.1;have h5:=E3.1;omega⟩
   clear hf hd hl hbw hgr hc g1 g2 he kK al5 hkh hkb;go_wp2_with fail;rw[←hxe];clear hxe;generalize wr.alloc (.cells #[.slice A1 n1 c1,.slice A2 n2 c2] 57)=W5 at*;obtain⟨⟨v1,y1⟩,y2,⟨v2,y3⟩,y4⟩:=hf5.cells hlt;have ad2:=hf5.ne;have s0:=Co _ _ 0 _ _ _ hx5;have s0':W5.cell? ⟨x5,0,none⟩=some (.slice A1 n1 c1):=s0;have l0:=hl5.cell;have S1:(W5.setCell ⟨p,k*2,none⟩ (.slice A1 n1 c1)).cell? ⟨gl,0,none⟩=some (.slice (some ⟨p,0,none⟩) n n):=(AJ _ _ _ _ (by intro h;have:=congrArg Addr.block h;simp only[]at this;have:=E1.1;have:=E2.1;omega)).trans l0;have S2:(W5.setCell ⟨p,k*2,none⟩ (.slice A1 n1 c1)).cell? ⟨x5,0,none⟩=some (.slice A1 n1 c1):=(AJ _ _ _ _ (by intro h;have:=congrArg Addr.block h;simp only[]at this;have:=hxp.1.1;omega)).trans s0';have S3:(W5.setCell ⟨p,k*2,none⟩ (.slice A1 n1 c1)).cell? ⟨q,k,none⟩=some v2:=(AJ _ _ _ _ (by intro h;have:=congrArg Addr.block h;simp only[]at this;omega)).trans y3;have T1:((W5.setCell ⟨p,k*2,none⟩ (.slice A1 n1 c1)).setCell ⟨q,k,none⟩ (.slice A1 n1 c1)).cell? ⟨gl,0,none⟩=some (.slice (some ⟨p,0,none⟩) n n):=(AJ _ _ _ _ (by intro h;have:=congrArg Addr.block h;simp only[]at this;have:=E3.1;have:=E2.1;omega)).trans S1;have T2:((W5.setCell ⟨p,k*2,none⟩ (.slice A1 n1 c1)).setCell ⟨q,k,none⟩ (.slice A1 n1 c1)).cell? ⟨x5,0,none⟩=some (.slice A1 n1 c1):=(AJ _ _ _ _ (by intro h;have:=congrArg Addr.block h;simp only[]at this;have:=hxp.1.2.1;omega)).trans S2;have PUT:=Aj (hf5.put hlt);rw[hls.1]at PUT;have gp1:=au W5 ⟨p,k*2,none⟩ (.slice A1 n1 c1);have gp2:=au (W5.setCell ⟨p,k*2,none⟩ (.slice A1 n1 c1)) ⟨q,k,none⟩ (.slice A1 n1 c1);have HD6:Kept (Boxed ((W5.setCell ⟨p,k*2,none⟩ (.slice A1 n1 c1)).setCell ⟨q,k,none⟩ (.slice A1 n1 c1)) gd 22 dx):=⟨(hd5.kept gp1 (fun e=>by have:=Oj e;simp only[]at this;have:=E1.1;omega)).kept gp2 (fun e=>by have:=Oj e;simp only[]at this;have:=E3.1;omega)⟩
   have HL6:Kept (Boxed ((W5.setCell ⟨p,k*2,none⟩ (.slice A1 n1 c1)).setCell ⟨q,k,none⟩ (.slice A1 n1 c1)) gl 138 (.slice (some ⟨p,0,none⟩) n n)):=⟨(hl5.kept gp1 (fun e=>by have:=Oj e;simp only[]at this;have:=E1.1;have:=E2.1;omega)).kept gp2 (fun e=>by have:=Oj e;simp only[]at this;have:=E3.1;have:=E2.1;omega)⟩
   have HB6:Kept (Below w.heap.size w ((W5.setCell ⟨p,k*2,none⟩ (.slice A1 n1 c1)).setCell ⟨q,k,none⟩ (.slice A1 n1 c1))):=⟨(hb5.grown gp1 hb5.size (fun r e=>by have e2:=Oj e;simp only[]at e2;have:=E1.1;have:=z1.1;omega)).grown gp2 (by have:=hb5.size;have:=gp1.size;omega) (fun r e=>by have e2:=Oj e;simp only[]at e2;have:=E3.1;have:=z1.1;omega)⟩
   have HG6:Kept (((W5.setCell ⟨p,k*2,none⟩ (.slice A1 n1 c1)).setCell ⟨q,k,none⟩ (.slice A1 n1 c1)).heap[w.heap.size]? =some (.cells #[.slice none 0 0,.slice none 0 0,.slice none 0 0,.slice none 0 0] 76 (0,0))):=⟨by
    rw[AO _ _ _ _ (by have:=E3.1;have:=z1.1;show w.heap.size≠q;omega),AO _ _ _ _ (by have:=E1.1;have:=z1.1;show w.heap.size≠p;omega)];exact hgr5⟩
   have hnq:=Aj ad2;clear hf5 hd5 hl5 hb5 hgr5 hx5 s0 gp1 gp2 hls ad2;go_region_held3 (fun w'=>w'.cell? ⟨gl,0,none⟩=some (.slice (some ⟨p,0,none⟩) n n)∧w'.cell? ⟨x5,0,none⟩=some (.slice A1 n1 c1)) (first|exact⟨l0,s0'⟩|exact⟨S1,S2⟩|exact⟨T1,T2⟩) (fail)
   all_goals
    go_wp2;go_roundw
    case rel=>exact⟨k+1,om,by go_num,⟨⟨PUT.1.rp,PUT.1.rq⟩⟩,HD6,HL6,⟨⟨HB6.1.os,HB6.1.tape,HB6.1.output,HB6.1.size,HB6.1.block⟩⟩,HG6⟩
    case measure=>simp[intOf];try omega
  ·obtain rfl:k=n:=by omega
   obtain⟨fv,hfv⟩:∃fv,fv=Value.func (.func 83) #[] #[.pointer (some ⟨gd,0,none⟩),.pointer (some ⟨gl,0,none⟩)]:=⟨_,rfl⟩
   obtain⟨W7,hW7⟩:∃W7,W7=wr.alloc (.cells #[fv] 171):=⟨_,rfl⟩
   obtain⟨W8,hW8⟩:∃W8,W8=W7.alloc (.cells #[.slice A k c] 24):=⟨_,rfl⟩
   have a7:Below wr.heap.size wr W7:=by rw[hW7];exact(Ae _ _).alloc Ai _
   have a8:Below W7.heap.size W7 W8:=by rw[hW8];exact(Ae _ _).alloc Ai _
   have z7:W7.heap.size=wr.heap.size+1:=by rw[hW7];simp
   have z8:W8.heap.size=wr.heap.size+2:=by rw[hW8,AU,z7]
   have a78:=a7.trans (a8.mono a7.size);have PU:=Aj (hbw.1.trans (a78.mono hbw.1.size));have HF8:=Aj (hf.1.below a78);have HE8:=Aj ((hf.1.es (base:=w.heap.size) hd.1 hl.1).below a78);have Qe:Kept (Boxed W8 wr.heap.size 171 fv):=⟨by rw[hW8,hW7];exact Boxed.alloc (Bd wr _ _) _⟩
   have hbx:Kept (Boxed W8 (wr.heap.size+1) 24 (.slice A k c)):=⟨by rw[hW8,←z7];exact Bd W7 _ _⟩
   have ad5:=Aj ((a78.block w.heap.size (by have:=hf.1.lt.1;have:=E1.1;have:=z1.1;omega)).trans hgr.1);have HW7:=Aj hW7.symm;have HW8:=Aj hW8.symm;have kP:Kept (w.heap.size<wr.heap.size):=⟨by have:=hf.1.lt.1;have:=E1.1;have:=z1.1;omega⟩
   have ad6:=Aj (dY.below ⟨hs,HRD.1,Qi.1.1,Qi.1.2⟩ PU.1);obtain⟨fb,anb⟩:∃fb,fb=wr.heap.size:=⟨_,rfl⟩
   clear a7 a8 a78 hf hd hl hbw hgr hW7 hW8 hlt hk;go_wp2_with (go_at_call 84;rw[←hfv,HW7.1];refine(Ih _ _ _ _).mono ?_;rintro e w8 ⟨rfl,hw8⟩;rw[HW8.1]at hw8;subst hw8;clear HW8 HW7);have anc:=HB.1.dm;have hbs:w.heap.size≤w8.heap.size:=PU.1.size;have ahJ:Kept (w.heap.size<w8.heap.size):=⟨by have h:=(Ge.1 hbx.1).1;have:=kP.1;omega⟩
   refine(Bu (n:=9)).1 ?_;refine xc Ah (gf:=138) (lb:= #[.pointer (some ⟨wr.heap.size+1,0,none⟩)]) rfl (BH func138 kr rfl)
    (En:=EnR) (O:=fun _=>False) (Kp:=iZ w.heap.size) (L:=En.all 0 b)
    (by rintro r h;exact h.elim) (fun h k=>h.trans k) (fun W W' row hW hg hr=>iZ.noc om hg (fun r e=>⟨by have:=(hr r e).1;omega,(hr r e).2⟩)) (fun x args W h=>by obtain⟨_,_,_,rfl,_⟩:=h;rfl)
    (fun pre W=>Es w.heap.size gd gl p k (vN hs) (En.dat pre) (En.cnt pre) W∧iZ w.heap.size w8 W) (fun _ _ _=>False)
    (fun pre x a₁ W=>(Es w.heap.size gd gl p k (vN hs) (En.dat pre) (En.cnt pre) W∧iZ w.heap.size w8 W)∧∃A7 n7 c7,a₁={tmps:= #[Value.slice A k c,undef,Value.pointer (some {block:=w.heap.size,off:=0}),Value.int IntKind.i64 0,Value.int IntKind.i64 0,Value.pointer (some {block:=gd,off:=0}),Value.pointer (some {block:=gl,off:=0}),Value.slice (some {block:=q,off:=0}) k k,u8,u9,Value.pointer (some {block:=wr.heap.size,off:=0}),Value.int IntKind.i64 (x.1:Int),Value.slice A7 n7 c7,undef,undef,undef,undef,undef,Value.slice A k c,Value.int IntKind.i64 0,Value.int IntKind.i64 0,Value.bool false,undef,undef,Value.slice A k c,Value.int IntKind.i64 (k:Int),Value.slice (some {block:=p,off:=0}) k k,Value.slice A k c,Value.int IntKind.i64 (k:Int),Value.slice (some {block:=q,off:=0}) k k,Value.slice A k c,Value.int IntKind.i64 (k:Int),Value.int IntKind.i64 (k:Int),Value.bool false,u34,u35,u36,u37,u38,u39,u40,u41,u42,u43,u44,u45,u46,u47,u48,Value.func (Fn.func 83) #[] #[Value.pointer (some {block:=gd,off:=0}),Value.pointer (some {block:=gl,off:=0})],Value.slice A k c,Value.func (Fn.func 138) #[] #[Value.pointer (some {block:=wr.heap.size+1,off:=0})],Value.int IntKind.i64 (x.1:Int),Value.slice A7 n7 c7,undef,undef,undef,undef,undef,undef,undef,undef,undef,undef,undef,undef,undef,undef,undef,undef,undef,undef,undef,undef,undef,undef,undef,undef,undef,undef,undef,undef,undef,undef,undef,undef,undef,undef,undef,undef,undef,undef,undef,undef,undef,undef],defers:=[]}∧bf W W.heap.size A7 n7 c7 x.2)
    (wU 8 (wr.heap.size+1) w.heap.size k c A b w8 w _ hbx.1 ad6.1 hbs HB.1.inn (fun s hs=>by have:=Bk.zZ hs;omega) HG.1 rfl PU.1 (fun pre W ⟨_,h⟩=>h))
    ?hI (fun _ _ _ _ _ h _ _=>h) ?hM ?h0 ?assign ?body ?done ?stop
   case hI=>
    rintro pre W W' row ⟨h1,h2⟩ hg hr;have hr':∀r,row=some r→w8.heap.size≤r∧∃o:Obj,W.heap[r]? =some o∧o.isCells=false:=fun r e=>(hr r e).resolve_left id
    exact⟨h1.kept hg (fun r e=>(hr' r e).2),h2.trans (iZ.noc (by have:=h2.1.size;omega) hg (fun r e=>⟨by have:=(hr' r e).1;omega,(hr' r e).2⟩))⟩
   case hM=>
    rintro pre x a₁ u W W' row ⟨⟨h1,h2⟩,A7,n7,c7,ha,NL⟩ hg hr;have hr':∀r,row=some r→w8.heap.size≤r∧∃o:Obj,W.heap[r]? =some o∧o.isCells=false:=fun r e=>(hr r e).resolve_left id
    exact⟨⟨h1.kept hg (fun r e=>(hr' r e).2),h2.trans (iZ.noc (by have:=h2.1.size;omega) hg (fun r e=>⟨by have:=(hr' r e).1;omega,(hr' r e).2⟩))⟩,A7,n7,c7,ha,Rd.noc NL hg (fun r e=>(hr' r e).2)⟩
   case h0=>exact⟨HE8.1,iZ.refl _ _⟩
   case assign=>
    rintro lp pre x args W hI ⟨A7,n7,c7,rfl,NL⟩ hpre hW
    gi_wp2
    exact⟨⟨Nr _,fun _ _ _ h _=>h⟩,iZ.refl _ _,hI,A7,n7,c7,sm,NL⟩
   case body=>
    rintro lp pre x a₁ W ⟨⟨h1,h2⟩,A7,n7,c7,rfl,NL⟩ hpre hW;have hxl:=En.UG b 0 x (hpre.subset sm);rw[cK]at hxl;have ahK:=(h2.box Qe.1 (by unfold ET;simp)).cell;rw[hfv]at ahK;have hd1:=En.X9 hpre;rw[En.zG,En.sD,La]at hd1;have Nz:En.dat [x]=x.2:=En.WY x.1 x.2;rw[Nz]at hd1;have hc1:=En.Ya (List.IsPrefix.trans ⟨[x],rfl⟩ hpre) x.1;have hc2:=HB.1.cnt x.1 hxl;have hdl:=HB.1.dat;have AD:=Aj (DX lp (Bl (n:=6).2 (X7 w.heap.size gd gl p k x.1 n7 c7 (vN hs) (En.dat pre) x.2 (En.cnt pre) A7 W h1 (by rw[HN.1];exact hxl) om NL om om (by have:=z1.1;omega) (by have:=z1.1;have:=E1.1;omega))));have HC:=Aj (En.UH pre x.1 x.2);have HD:Kept (En.dat (pre++[x])=En.dat pre++x.2):=⟨by rw[En.sD,Nz]⟩
    have H2:=Aj h2;clear h1 h2 NL hd1 Nz hc1 hc2 hdl hxl
    gi_wp2_with (refine⟨trivial,AD.1.mono ?_⟩;rintro e w4 ⟨⟨v,rfl⟩,q1,q2,q3⟩;have Q1:=Aj q1;have Q2:=Aj q2;have Q3:=Aj q3;clear q1 q2 q3)
    have q1:=Q1.1;rw[HC.1,←HD.1]at q1;exact⟨Q3.1.from _,Q2.1,q1,H2.1.trans Q2.1⟩
   case done=>
    rintro D W hD ⟨hE,hK⟩ hKD;have hkw:=PU.1.trans hK.1;have hrq:∃cs:Array Value,W.heap[q]? =some (.cells cs 54 (0,0))∧cs.size=k∧∀i,i<k→cs[i]? =some (if i<k then vN hs i else dx):=by
     obtain⟨cs,q1,q2,q3⟩:=HF8.1.rq;exact⟨cs,hK.2 _ _ _ _ (by unfold ET;simp) q1,q2,q3⟩
    have hzw:w.heap.size≤W.heap.size:=hkw.size;have hkm:k≤maxLen:=by unfold maxLen;omega
    have RL:=Aj (X8 hrq (Qi.1.below hkw) hzw HN.1 hkm);have RK:=Aj (dY.below ⟨hs,HRD.1,Qi.1.1,Qi.1.2⟩ hkw);have RR:=Aj (hE.rdR (rs:=Bk.mI b) (Qi.1.below hkw) hzw HN.1 hkm (Bk.vE b) (fun i a a'=>Bk.UI b i a a'));have ahM:=Aj (hK.2 _ _ _ _ (by unfold ET;simp) ad5.1);have BX:=Aj hE.box;obtain⟨Ad,md,cd,hd1,hd2⟩:=hE.dat;rw[En.zG]at hd2;have BD:=Aj hd1;have OD:=Aj hd2;have HK:=Aj hkw;have HKD:=Aj hKD;have HSY:=Aj (zS A k c w.heap.size b W RK.1 hzw HB.1.wt);have HDz:Kept (D<W.heap.size):=⟨(Ge.1 hKD).1⟩
    have hDw:Kept (w.heap.size≤D):=⟨om⟩
    have abf:Kept (w.heap.size<D):=⟨by have:=PU.1.size;have:=ahJ.1;omega⟩
    clear hE hK hrq ad5 HE8 HF8 ad6 hbx Qe PU hKD hd1 hd2 hkw;go_upto_region 20 with(go_at_call 85;refine HSY.1.mono ?_;rintro e w17 ⟨A2,n2,c2,T,rfl,ht,hT,UK⟩;have HT:=Aj ht;have RT:=Aj hT;have B17:=Aj UK;clear ht hT UK HSY)
    obtain⟨g,hg⟩:∃g,g=w17.heap.size:=⟨_,rfl⟩
    have ad7:Ec W ((w17.alloc (.cells #[.slice none 0 0,.slice none 0 0,.slice none 0 0,.slice none 0 0] 76)).alloc (.cells #[.int .i64 0,.int .i64 0,.int .i64 0] 176)) g #[.slice none 0 0,.slice none 0 0,.slice none 0 0,.slice none 0 0]:=by
     have h1:=B17.1.size;refine⟨(B17.1.alloc h1 _).alloc (by simp;omega) _,om,?_,?_⟩
     ·rw[hg,Aw _ _ _ sm];exact AL w17 _
     ·have:=AL (w17.alloc (.cells #[.slice none 0 0,.slice none 0 0,.slice none 0 0,.slice none 0 0] 76)) (.cells #[.int .i64 0,.int .i64 0,.int .i64 0] 176);simp only[AU]at this;rw[hg];exact this
    have Yb:bK ((w17.alloc (.cells #[.slice none 0 0,.slice none 0 0,.slice none 0 0,.slice none 0 0] 76)).alloc (.cells #[.int .i64 0,.int .i64 0,.int .i64 0] 176)) g A2 n2 c2 T:=by
     rw[hg];exact bK.below RT.1 (((Ae _ w17).alloc Ai _).alloc sm _)
    have HGZ:=Aj hg;rw[←hg];clear hg RT B17;generalize (w17.alloc (.cells #[.slice none 0 0,.slice none 0 0,.slice none 0 0,.slice none 0 0] 76)).alloc (.cells #[.int .i64 0,.int .i64 0,.int .i64 0] 176)=PW at*;have E19:=Aj ad7;have T19:=Aj Yb;have hn2:n2≤1000000:=by rw[Yb.len];exact HB.1.tab HT.1
    have hgl:=E19.1.lt;have Zh:Kept (g+2≤PW.heap.size):=⟨hgl⟩
    have S20:=Aj (F7 A2 n2 c2 T PW (bK.more Yb om) (HB.1.szT HT.1) hn2);rw[HB.1.encS HT.1]at S20;clear ad7 Yb;go_upto_region 21 with(go_at_call 86;refine S20.1.mono ?_;rintro e w20 ⟨A3,n3,c3,rfl,o3,b20⟩;have E20:=Aj (E19.1.below b20);have B20:=Aj b20;have O3:=Aj o3;have T20:=Aj (bK.below T19.1 (b20.mono om));obtain⟨k1,k2⟩:=E20.1.c1 0;obtain⟨k3,k4⟩:=(E20.1.KJ 0 (.slice A3 n3 c3)).c2 0 om;clear o3 b20 S20)
    have E21:=Aj ((E20.1.KJ 0 (.slice A3 n3 c3)).wP 0 om);have O31:=Aj (qy O3.1 Zh.1 0 0 (.slice A3 n3 c3) (.int .i64 0));have T21:Kept (bK ((w20.setCell ⟨g,0,none⟩ (.slice A3 n3 c3)).setCell ⟨g+1,0,none⟩ (.int .i64 0)) g A2 n2 c2 T):=⟨bK.below T20.1 (((Ae _ w20).setCell (p:=⟨g,0,none⟩) Ai _).setCell (p:=⟨g+1,0,none⟩) (by show g≤g+1;omega) _)⟩
    clear k1 k2 k3 k4 T20 O3 E20 T19 E19;have abh:PW.heap.size≤((w20.setCell ⟨g,0,none⟩ (.slice A3 n3 c3)).setCell ⟨g+1,0,none⟩ (.int .i64 0)).heap.size:=by simp[World.setCell];exact B20.1.size
    generalize (w20.setCell ⟨g,0,none⟩ (.slice A3 n3 c3)).setCell ⟨g+1,0,none⟩ (.int .i64 0)=W21 at*;have z21:=E21.1.lt;have b21:=E21.1.aZ.size;have x21:=(Boxed.aZ BX.1 E21.1.aZ).cell;have ad8:Kept (PW.heap.size≤W21.heap.size):=⟨abh⟩
    have S21:=Aj (FQ A2 (some ⟨p,0,none⟩) n2 c2 k k T (Bk.mI b) W21 (bK.more T21.1 om) HT.1.1 ((RR.1.below E21.1.aZ).more b21) hn2 om HB.1.rcL (by have:=HB.1.rcl T HT.1;omega));rw[HB.1.encR HT.1]at S21;go_upto_region 22 with(go_at_call 87;refine S21.1.mono ?_;rintro e w21 ⟨A4,n4,c4,rfl,o4,b22⟩;have E22:=Aj (E21.1.below b22);have B22:=Aj b22;have O4:=Aj o4;have O32:Kept (ah w21 PW.heap.size A3 n3 c3 (Sy.aM T)):=⟨aN O31.1 b22⟩;have T22:=Aj (bK.below T21.1 (b22.mono om));obtain⟨k1,k2⟩:=E22.1.c1 1;obtain⟨k3,k4⟩:=(E22.1.KJ 1 (.slice A4 n4 c4)).c2 1 om;clear o4 b22 S21)
    have E23:=Aj ((E22.1.KJ 1 (.slice A4 n4 c4)).wP 1 om);have O33:=Aj (qy O32.1 Zh.1 1 1 (.slice A4 n4 c4) (.int .i64 0));have O41:=Aj (qy (ah.base O4.1 (ad8.1)) Zh.1 1 1 (.slice A4 n4 c4) (.int .i64 0));have T23:Kept (bK ((w21.setCell ⟨g,1,none⟩ (.slice A4 n4 c4)).setCell ⟨g+1,1,none⟩ (.int .i64 0)) g A2 n2 c2 T):=⟨bK.below T22.1 (((Ae _ w21).setCell (p:=⟨g,1,none⟩) Ai _).setCell (p:=⟨g+1,1,none⟩) (by show g≤g+1;omega) _)⟩
    clear k1 k2 k3 k4 T22 O4 O32 E22 T21 E21 O31;have abj:Kept (PW.heap.size≤((w21.setCell ⟨g,1,none⟩ (.slice A4 n4 c4)).setCell ⟨g+1,1,none⟩ (.int .i64 0)).heap.size):=⟨by simp[World.setCell];exact Lt ad8.1 B22.1.size⟩
    generalize (w21.setCell ⟨g,1,none⟩ (.slice A4 n4 c4)).setCell ⟨g+1,1,none⟩ (.int .i64 0)=W23 at*;have z23:=E23.1.lt;have x23:=(Boxed.aZ BD.1 E23.1.aZ).cell;obtain⟨k1,k2⟩:=E23.1.c1 2;go_upto_region 23 with fail;have E24:=Aj (E23.1.KJ 2 (.slice Ad md cd));have O34:Kept (ah (W23.setCell ⟨g,2,none⟩ (.slice Ad md cd)) PW.heap.size A3 n3 c3 (Sy.aM T)):=⟨aU O33.1 (fun r hr e=>by have:=(ae O33.1 r hr).1;have:=Zh.1;omega)⟩
    have O42:Kept (ah (W23.setCell ⟨g,2,none⟩ (.slice Ad md cd)) PW.heap.size A4 n4 c4 (Rc.aM T (Bk.mI b))):=⟨aU O41.1 (fun r hr e=>by have:=(ae O41.1 r hr).1;have:=Zh.1;omega)⟩
    have T24:Kept (bK (W23.setCell ⟨g,2,none⟩ (.slice Ad md cd)) g A2 n2 c2 T):=⟨bK.below T23.1 ((Ae _ W23).setCell (p:=⟨g,2,none⟩) Ai _)⟩
    clear k1 k2 T23 O33 O41 E23;have abk:PW.heap.size≤(W23.setCell ⟨g,2,none⟩ (.slice Ad md cd)).heap.size:=by simp[World.setCell];exact abj.1
    generalize W23.setCell ⟨g,2,none⟩ (.slice Ad md cd)=W24 at*;have z24:=E24.1.lt;have b24:=E24.1.aZ.size;have ahV:Kept (PW.heap.size≤W24.heap.size):=⟨abk⟩
    have S24:=Aj (qf (some ⟨q,0,none⟩) k k (Bk.sets b) W24 ((RL.1.below E24.1.aZ).more b24) HB.1.sets);have PE:=Aj (fun(Zi:World) (A5:Option Addr) (n5 c5:Nat) (E:List dV) (hi:Ps.rD (Ps.fu (Bk.sets b) 0) E) (ho:aP 163 Zi W24.heap.size A5 n5 c5 E) (KL:Below W24.heap.size W24 Zi)=>by
     have h:=Gp A2 A5 n2 c2 n5 c5 T E Zi (bK.more (bK.below T24.1 (KL.mono om)) (by have:=KL.size;omega)) HT.1.1 ho.rd hn2 (by rw[ho.len];exact(HB.1.adZ hi).1) (HB.1.adZ hi).2 (by have:=HB.1.sec T E ⟨HT.1,hi⟩ 3 om;exact Lt this Ah);rw[Bk.Of.Og ⟨HT.1,hi⟩]at h;exact h)
    go_upto_region 24 with(first
     |(go_at_call 88;refine PE2.1.mono ?_;rintro e w26 ⟨A6,n6,c6,rfl,o6,b26⟩;have E26:=Aj (E25.1.below b26);have O6:=Aj o6;have B26:=Aj b26;obtain⟨k1,k2⟩:=E26.1.c1 3;obtain⟨k3,k4⟩:=(E26.1.KJ 3 (.slice A6 n6 c6)).c2 2 om;clear o6 b26 PE2)
     |(go_at_call 37;refine S24.1.mono ?_;rintro e Zi ⟨A5,n5,c5,E,rfl,hi,ho,KL⟩;have HI:=Aj hi;have PE2:=Aj (PE.1 Zi A5 n5 c5 E hi ho KL);have E25:=Aj (E24.1.below KL);have B25:=Aj KL;clear hi ho KL S24 PE))
    have Nl:=Aj ((E26.1.KJ 3 (.slice A6 n6 c6)).wP 2 om);have O35:=Aj (qy (aN (show ah Zi PW.heap.size A3 n3 c3 (Sy.aM T)from aN O34.1 B25.1) B26.1) Zh.1 3 2 (.slice A6 n6 c6) (.int .i64 0));have O43:=Aj (qy (aN (show ah Zi PW.heap.size A4 n4 c4 (Rc.aM T (Bk.mI b))from aN O42.1 B25.1) B26.1) Zh.1 3 2 (.slice A6 n6 c6) (.int .i64 0));have O61:=Aj (qy (ah.base O6.1 (show PW.heap.size≤Zi.heap.size from Lt ahV.1 B25.1.size)) Zh.1 3 2 (.slice A6 n6 c6) (.int .i64 0));clear k1 k2 k3 k4 E26 E25 O6 B25 B26 O34 O42 T24 E24;generalize (w26.setCell ⟨g,3,none⟩ (.slice A6 n6 c6)).setCell ⟨g+1,2,none⟩ (.int .i64 0)=W27 at*;have i0:=Nl.1.c2 0 om;have i1:=Nl.1.c2 1 om;have i2:=Nl.1.c2 2 om;obtain⟨i0,-⟩:=i0;obtain⟨i1,-⟩:=i1;obtain⟨i2,-⟩:=i2;have jx0:∀W,(Instr.index 176 (.agg #[.int .i64 0,.int .i64 0,.int .i64 0]) (.int .i64 0)).run prog W= .ok (.int .i64 0) W:=fun _=>kr
    have jx1:∀W,(Instr.index 176 (.agg #[.int .i64 0,.int .i64 0,.int .i64 0]) (.int .i64 1)).run prog W= .ok (.int .i64 0) W:=fun _=>kr
    have jx2:∀W,(Instr.index 176 (.agg #[.int .i64 0,.int .i64 0,.int .i64 0]) (.int .i64 2)).run prog W= .ok (.int .i64 0) W:=fun _=>kr
    have hRG:Kept (W27.heap[w.heap.size]? =some (.cells #[.slice none 0 0,.slice none 0 0,.slice none 0 0,.slice none 0 0] 76 (0,0))):=⟨(Nl.1.aZ.block _ (by have:=HDz.1;have:=hDw.1;omega)).trans ahM.1⟩
    have xf:=fun k=>Fr W27 w.heap.size k _ _ hRG.1
    have y0:=Co W27 w.heap.size 0 _ _ _ hRG.1;have y1:=Co W27 w.heap.size 1 _ _ _ hRG.1;have y2:=Co W27 w.heap.size 2 _ _ _ hRG.1;have y3:=Co W27 w.heap.size 3 _ _ _ hRG.1;obtain⟨m0,-⟩:=Nl.1.c1 0;obtain⟨m1,-⟩:=Nl.1.c1 1;obtain⟨m2,-⟩:=Nl.1.c1 2;obtain⟨m3,-⟩:=Nl.1.c1 3;simp at y0 y1 y2 y3 m0 m1 m2 m3;go_upto_region 25 with fail;go_loopw [87] (fun i wr=>∃j:Nat,j≤3∧i= .int .i64 j∧wr=W27) (fun i _=>3-(intOf i).toNat)
    case atStart=>exact⟨0,om,rfl,rfl⟩
    case round=>
     obtain⟨j,hj,rfl,rfl⟩:=hrel;have hj4:j=0∨j=1∨j=2∨j=3:=om;rcases hj4 with rfl|rfl|rfl|rfl
     ·go_wp2;go_roundw
      case rel=>exact⟨1,om,rfl,by trivial⟩
      case measure=>simp[intOf]
     ·go_wp2;go_roundw
      case rel=>exact⟨2,om,rfl,by trivial⟩
      case measure=>simp[intOf]
     ·go_wp2;go_roundw
      case rel=>exact⟨3,om,rfl,by trivial⟩
      case measure=>simp[intOf]
     ·go_wp2;have hput:=nR wr w.heap.size (.slice A3 n3 c3) (.slice A4 n4 c4) (.slice Ad md cd) (.slice A6 n6 c6) hRG.1 rfl;have wM:=dC wr w.heap.size (.slice A3 n3 c3) (.slice A4 n4 c4) (.slice Ad md cd) (.slice A6 n6 c6);have aee:(kE wr w.heap.size (.slice A3 n3 c3) (.slice A4 n4 c4) (.slice Ad md cd) (.slice A6 n6 c6)).heap[D]? =some (.deferred (some [])):=
       (wM.block D (j6 HDz.1 Nl.1.aZ.size) (fun e=>by have:=Oj e;have:=abf.1;omega)).trans ((Nl.1.aZ.block D HDz.1).trans HKD.1)
      have hgD:=Bg (kE wr w.heap.size (.slice A3 n3 c3) (.slice A4 n4 c4) (.slice Ad md cd) (.slice A6 n6 c6)) D (.deferred none);have keep:∀{A':Option Addr} {n' c' base:Nat} {l:List UInt8},ah wr base A' n' c' l→bf ((kE wr w.heap.size (.slice A3 n3 c3) (.slice A4 n4 c4) (.slice Ad md cd) (.slice A6 n6 c6)).putObj D (.deferred none)) ((kE wr w.heap.size (.slice A3 n3 c3) (.slice A4 n4 c4) (.slice Ad md cd) (.slice A6 n6 c6)).putObj D (.deferred none)).heap.size A' n' c' l:=fun h=>by
       have h1:ah (kE wr w.heap.size (.slice A3 n3 c3) (.slice A4 n4 c4) (.slice Ad md cd) (.slice A6 n6 c6)) _ _ _ _ _:=ag h wM (.inr (dW h hRG.1 Ah));exact(ah.apart h1 hgD (fun r e=>by cases e;exact .inr ⟨_,aee,rfl⟩)).rd
      have hod:ah wr w.heap.size Ad md cd (Bk.dat b):=aN OD.1 Nl.1.aZ;have hbel:Below w.heap.size w ((kE wr w.heap.size (.slice A3 n3 c3) (.slice A4 n4 c4) (.slice Ad md cd) (.slice A6 n6 c6)).putObj D (.deferred none)):=
       ((HK.1.trans (Nl.1.aZ.mono HK.1.size)).grown wM (Lt HK.1.size Nl.1.aZ.size) (fun r e=>by cases e;exact Nr _)).grown hgD (by have:=HK.1.size;have:=Nl.1.aZ.size;have:=wM.size;omega) (fun r e=>by cases e;have:=abf.1;omega)
      refine⟨sm,.inl ⟨_,_,rfl,CV aee,?_⟩⟩;refine⟨.tuple #[.agg #[.slice A3 n3 c3,.slice A4 n4 c4,.slice Ad md cd,.slice A6 n6 c6],.int .i64 0],?_,fun i=>[(Value.slice A3 n3 c3),.slice A4 n4 c4,.slice Ad md cd,.slice A6 n6 c6].getD i (.slice none 0 0),T,E,rfl,⟨HT.1,HI.1⟩,fun i hi=>?_,hbel⟩
      ·have hrow:((kE wr w.heap.size (.slice A3 n3 c3) (.slice A4 n4 c4) (.slice Ad md cd) (.slice A6 n6 c6)).putObj D (.deferred none)).heap[w.heap.size]? =some (.cells #[.slice A3 n3 c3,.slice A4 n4 c4,.slice Ad md cd,.slice A6 n6 c6] 76 (0,0)):=
        (BO (by have:=abf.1;omega)).trans hput
       exact di (fn:=Tryz.f41) (a:=2) (u:=3) (T1:=76) rfl _ _ w.heap.size _ _ _ _ rfl hrow underlying76 rfl kr
      ·match i,hi with
       |0,_=>exact⟨A3,n3,c3,rfl,keep O35.1⟩
       |1,_=>exact⟨A4,n4,c4,rfl,keep O43.1⟩
       |2,_=>exact⟨Ad,md,cd,rfl,keep hod⟩
       |3,_=>exact⟨A6,n6,c6,rfl,keep O61.1⟩
   case stop=>
    rintro D c pre W _ _ h _;exact h.elim
end
section
open Go.RowKit Go.Shelf
theorem Four.lit {w B V D} (h:Four w B V D):∃Aa na ca Ab nb cb Ac nc cc Ad nd cd,Ly.jq V= #[.slice Aa na ca,.slice Ab nb cb,.slice Ac nc cc,.slice Ad nd cd]:=by
 obtain⟨Aa,na,ca,ea,_⟩:=h 0 om;obtain⟨Ab,nb,cb,eb,_⟩:=h 1 om;obtain⟨Ac,nc,cc,ec,_⟩:=h 2 om;obtain⟨Ad,nd,cd,ed,_⟩:=h 3 om;exact⟨Aa,na,ca,Ab,nb,cb,Ac,nc,cc,Ad,nd,cd,by unfold Ly.jq;rw[ea,eb,ec,ed]⟩
theorem Bk.Ok.tot {b T E} (h:Bk.Ok b) (ho:Bk.Of b T E):Ly.tot (Bk.D4 T E b) 4≤40000000:=by
 have h0:=h.sec T E ho 0 om;have h1:=h.sec T E ho 1 om;have h2:=h.sec T E ho 2 om;have h3:=h.sec T E ho 3 om;simp only[Ly.tot];omega
def ahY (w:World) (b:Bk.ic) (e:Ending) (w':World):Prop:=
 ∃A n c L,e= .returned (.tuple #[.slice A n c,.int .i64 0])∧Bk.File b L∧ah w' w.heap.size A n c L∧Below w.heap.size w w'
theorem abn (V b T E w w2 o) (hb:Bk.Ok b) (ho:Bk.Of b T E) (hV:Four w2 w2.heap.size V (Bk.D4 T E b)) (h2:Below w.heap.size w w2) (hG:Gl w):
  Calls prog 42 #[.agg (Ly.jq V)] (w2.alloc o) fun e w'=>∃A n c,e= .returned (.slice A n c)∧ah w' w.heap.size A n c (Ly.asm (Bk.D4 T E b))∧Below w.heap.size w w':=by
 have hal:=(Ae w2.heap.size w2).alloc Ai o;have hb2:=h2.alloc h2.size o;refine(yA V (Bk.D4 T E b) (w2.alloc o) (fun i hi=>?_) (by have:=hb.tot ho;omega) (hG.below hb2).tab).mono ?_
 ·obtain⟨A,n,c,e1,e2⟩:=hV i hi;exact⟨A,n,c,e1,(e2.below hal).more hal.size⟩
 ·rintro e w' ⟨A,n,c,rfl,h3,h4⟩;exact⟨A,n,c,rfl,ah.base h3 hb2.size,hb2.trans (h4.mono hb2.size)⟩
theorem EB (A n c b w) (hv:dY w w.heap.size A n c b) (hb:Bk.Ok b) (hG:Gl w):
  Calls prog 16 #[.slice A n c] w (ahY w b):=by
 have SE:=Aj (UJ A n c b w hv hb hG);have AS:=Aj (fun V T E w2 o ho hV h2=>abn V b T E w w2 o hb ho hV h2 hG);clear hv hb hG;go_enter func16,ntmps16;go_wp2_with (first
  |(go_at_call 42;refine SC.1.mono ?_;rintro e w3 ⟨A9,n9,c9,rfl,h4,h5⟩;have H4:=Aj h4;have H5:=Aj h5;clear h4 h5)
  |(go_at_call 41;refine SE.1.mono ?_;rintro r w2 ⟨V,T,E,rfl,ho,hV,hb2⟩;obtain⟨Aa,na,ca,Ab,nb,cb,Ac,nc,cc,Ad,nd,cd,hL⟩:=hV.lit;have SC:=Aj (AS.1 V T E w2 (.cells (Ly.jq V) 76) ho hV hb2);rw[hL]at SC⊢;have HO:=Aj ho;clear ho hV hb2 hL SE AS))
 go_ret2;exact⟨A9,n9,c9,_,rfl,⟨T,E,HO.1,rfl⟩,H4.1,H5.1⟩
end
section
open Go.RowKit Go.Shelf
theorem PX (TA A tn tc n c T rs w) (hT:bK w w.heap.size TA tn tc T) (hv:vL w w.heap.size A n c rs) (ho:XY T rs) (hu:Bk.used T rs=false):
  Calls prog 71 #[.slice TA tn tc,.slice A n c] w fun e w'=>(∃k:Nat,e= .returned (.int .i64 (k:Int)))∧Below w.heap.size w w':=by
 refine(vC TA A tn tc n c w.heap.size T rs w hT hv Ai ho.cnt ho.Kj ho.szT).mono ?_;rintro e w' ⟨hb,h⟩;refine⟨?_,hb⟩;rcases h with⟨h,_⟩|⟨_,h⟩
 ·rw[hu]at h;cases h
 ·exact h
theorem KM (TA A tn tc n c T rs w) (hT:bK w w.heap.size TA tn tc T) (hv:vL w w.heap.size A n c rs) (ho:XY T rs) (hu:Bk.used T rs=true):
  Calls prog 71 #[.slice TA tn tc,.slice A n c] w fun e w'=>e= .returned (.int .i64 (-1))∧Below w.heap.size w w':=by
 refine(vC TA A tn tc n c w.heap.size T rs w hT hv Ai ho.cnt ho.Kj ho.szT).mono ?_;rintro e w' ⟨hb,h⟩;refine⟨?_,hb⟩;rcases h with⟨_,h⟩|⟨h,_⟩
 ·exact h
 ·rw[hu]at h;cases h
def kN (w:World) (R:Bk.ic×Int) (e:Ending) (w':World):Prop:=
 ∃A n c,e= .returned (.tuple #[.slice A n c,.int .i64 R.2])∧dY w' w'.heap.size A n c R.1∧Below w.heap.size w w'
theorem kN.bad {w w'} {R:Bk.ic×Int} {f} (h:R=([],f)) (hb:Below w.heap.size w w'):kN w R (.returned (.tuple #[.slice none 0 0,.int .i64 f])) w':=by
 subst h;exact⟨none,0,0,rfl,(Rt.nil w' 0).rd,hb⟩
theorem UL (A0 A1 A2 A3 n0 n1 n2 n3 c0 c1 c2 c3 D w)
  (h0:bf w w.heap.size A0 n0 c0 (D 0)) (h1:bf w w.heap.size A1 n1 c1 (D 1)) (h2:bf w w.heap.size A2 n2 c2 (D 2)) (h3:bf w w.heap.size A3 n3 c3 (D 3))
  (b0:n0≤1000000) (b1:n1≤1000000) (b2:n2≤10000000) (b3:n3≤1000000) (hG:Gl w):
  Calls prog 35 #[.agg #[.slice A0 n0 c0,.slice A1 n1 c1,.slice A2 n2 c2,.slice A3 n3 c3]] w (kN w (Bk.oD D)):=by
 have hmf:∀(fn:Fn) (first cap:Array Value) (w:World),(Instr.makeFunc fn first cap).run prog w= .ok (.func fn first cap) w:=fun _ _ _ _=>rfl
 obtain⟨W,hW⟩:∃W,W=((w.alloc (.cells #[.slice A0 n0 c0,.slice A1 n1 c1,.slice A2 n2 c2,.slice A3 n3 c3] 76)).alloc (.cells #[.slice none 0 0] 24)).alloc (.cells #[.int .i64 0] 25):=⟨_,rfl⟩
 have Zj:Kept (Sx w W (fun i=>[A0,A1,A2,A3].getD i none) (fun i=>[n0,n1,n2,n3].getD i 0) (fun i=>[c0,c1,c2,c3].getD i 0) (.slice none 0 0)):=by
  have e0:=AL w (.cells #[.slice A0 n0 c0,.slice A1 n1 c1,.slice A2 n2 c2,.slice A3 n3 c3] 76);have e1:=AL (w.alloc (.cells #[.slice A0 n0 c0,.slice A1 n1 c1,.slice A2 n2 c2,.slice A3 n3 c3] 76)) (.cells #[.slice none 0 0] 24);have e2:=AL ((w.alloc (.cells #[.slice A0 n0 c0,.slice A1 n1 c1,.slice A2 n2 c2,.slice A3 n3 c3] 76)).alloc (.cells #[.slice none 0 0] 24)) (.cells #[.int .i64 0] 25);rw[show(w.alloc (.cells #[.slice A0 n0 c0,.slice A1 n1 c1,.slice A2 n2 c2,.slice A3 n3 c3] 76)).heap.size=w.heap.size+1 from sm]at e1;rw[show((w.alloc (.cells #[.slice A0 n0 c0,.slice A1 n1 c1,.slice A2 n2 c2,.slice A3 n3 c3] 76)).alloc (.cells #[.slice none 0 0] 24)).heap.size=w.heap.size+2 from sm]at e2;have f0:W.heap[w.heap.size]? =some (.cells #[.slice A0 n0 c0,.slice A1 n1 c1,.slice A2 n2 c2,.slice A3 n3 c3] 76 (0,0)):=by
   rw[hW,Aw _ _ _ (by simp;try omega),Aw _ _ _ sm];exact e0
  refine⟨by rw[hW];exact(((Ae _ _).alloc Ai _).alloc sm _).alloc (by simp;try omega) _,by rw[hW];simp;try omega,fun i hi=>?_,by rw[hW,Aw _ _ _ sm];exact e1,by rw[hW];exact e2⟩;rw[Co _ _ _ _ _ _ f0]
  match i,hi with
  |0,_=>rfl
  |1,_=>rfl
  |2,_=>rfl
  |3,_=>rfl
 have hbW:=Zj.1.aZ;have HD0:=Aj ((h0.below hbW).more hbW.size);have H0:=Aj h0;have H1:=Aj h1;have H2:=Aj h2;have H3:=Aj h3;have HG:=Aj hG;have e0:Bk.oD D=if(Sy.dec (D 0)).2≠0 then([],(Sy.dec (D 0)).2)else Bk.WV (Sy.dec (D 0)).1 (D 1) (D 2) (D 3):=rfl;generalize hR:Bk.oD D=R at e0⊢;have HC0:=Aj (Gc A0 n0 c0 (D 0) W HD0.1 om);generalize hQ0:Sy.dec (D 0)=Q0 at e0 HC0;have HQ0:=Aj hQ0;have HR:=Aj hR;have HW:=Aj hW.symm;obtain⟨T,eT⟩:=Q0;simp only[]at e0 HC0;clear h0 h1 h2 h3 hG hQ0 hR hW hbW;by_cases hT:eT=0
 ·rw[Ng (by simp[hT])]at e0;subst hT;have e1:Bk.WV T (D 1) (D 2) (D 3)=if(Rc.dec T (D 1)).2≠0 then([],(Rc.dec T (D 1)).2)else Bk.wu T (Rc.dec T (D 1)).1 (D 2) (D 3):=rfl;rw[e1]at e0;clear e1;have HC1:=Aj (fun(TA:Option Addr) (tn tc:Nat) (W1:World) (hT:bK W1 W1.heap.size TA tn tc T) (hb:Below W.heap.size W W1)=>Jt TA A1 tn tc n1 c1 T (D 1) W1 hT ((H1.1.below (Zj.1.aZ.trans (hb.mono Zj.1.aZ.size))).more (Lt Zj.1.aZ.size hb.size)) om);generalize hQ1:Rc.dec T (D 1)=Q1 at e0 HC1;have HQ1:=Aj hQ1;obtain⟨rs,eR⟩:=Q1;simp only[]at e0 HC1;clear hQ1;by_cases hr:eR=0
  ·subst hr;rw[Ng sm]at e0;have HO:=Aj (adW (by rw[←H0.1.len];omega) (by rw[←H1.1.len];omega) HQ0.1 HQ1.1);have e1:Bk.wu T rs (D 2) (D 3)=if Bk.used T rs=false then([],15)else if(Bk.oC rs (D 2)).2≠0 then([],(Bk.oC rs (D 2)).2)else Bk.WU T ((rs.map (·.1)).zip (Bk.oC rs (D 2)).1) (D 3):=rfl;rw[e1]at e0;clear e1;cases hu:Bk.used T rs with
   |false=>
    rw[Ps0 hu]at e0;have HE:=Aj e0;have HU:=Aj hu;clear e0 hu;go_enter_defers func35,ntmps35;go_wp2_with first
    |(go_at_call 72;refine(gz 15 Ah _).mono ?_;rintro r w6 ⟨rfl,rfl⟩)
    |(go_at_call 71;refine(PX TA RA tn tc rn rc T rs _ Yc.1 HRd.1 HO.1 HU.1).mono ?_;rintro r w5 ⟨⟨k,rfl⟩,hb3⟩;have HS3:=Aj (HS2.1.on hb3);clear hb3)
    |(go_at_call 69;refine(Ip _ _).mono ?_;rintro r w4 ⟨rfl,rfl⟩)
    |(go_at_call 70;refine(HC1.1 TA tn tc w2 HTA.1 Hb1.1).mono ?_;rintro r w3 ⟨RA,rn,rc,rfl,hRd,hb2⟩;have HS2:=Aj (OG.1.on hb2);have HRd:=Aj hRd;have Hb2:=Aj hb2;have Yc:=Aj ((HTA.1.below hb2).more hb2.size);clear hRd hb2)
    |(go_at_call 67;refine(vB _ _).mono ?_;rintro r w2 ⟨rfl,rfl⟩)
    |(go_at_call 68;rw[HW.1];refine HC0.1.mono ?_;rintro r w1 ⟨TA,tn,tc,rfl,hT,hb1⟩;have HTA:=Aj hT;have OG:=Aj (Zj.1.on hb1);have Hb1:=Aj hb1;have x1:w1.cell? ⟨w.heap.size,1,none⟩=some (.slice A1 n1 c1):=OG.1.sec 1 om;clear hT hb1)
    exact HS3.1.door rfl rfl (fun w' hb=>kN.bad HE.1 hb)
   |true=>
    rw[Ng (by rw[hu];simp)]at e0;have HE:=Aj e0;have HU:=Aj hu;have HG':=HG;clear e0 hu;go_enter_defers func35,ntmps35;go_wp2_with first
    |(go_at_call 71;refine(KM TA RA tn tc rn rc T rs _ Yc.1 HRd.1 HO.1 HU.1).mono ?_;rintro r w5 ⟨rfl,hb3⟩;have HS3:=Aj (HS2.1.on hb3);have Hb3:=Aj hb3;clear hb3)
    |(go_at_call 69;refine(Ip _ _).mono ?_;rintro r w4 ⟨rfl,rfl⟩)
    |(go_at_call 70;refine(HC1.1 TA tn tc w2 HTA.1 Hb1.1).mono ?_;rintro r w3 ⟨RA,rn,rc,rfl,hRd,hb2⟩;have HS2:=Aj (OG.1.on hb2);have HRd:=Aj hRd;have Hb2:=Aj hb2;have Yc:=Aj ((HTA.1.below hb2).more hb2.size);clear hRd hb2)
    |(go_at_call 67;refine(vB _ _).mono ?_;rintro r w2 ⟨rfl,rfl⟩)
    |(go_at_call 68;rw[HW.1];refine HC0.1.mono ?_;rintro r w1 ⟨TA,tn,tc,rfl,hT,hb1⟩;have HTA:=Aj hT;have OG:=Aj (Zj.1.on hb1);have Hb1:=Aj hb1;have x1:w1.cell? ⟨w.heap.size,1,none⟩=some (.slice A1 n1 c1):=OG.1.sec 1 om;clear hT hb1)
    obtain⟨hs,hr1,hr2,hr3⟩:=(HRd.1.below Hb3.1).more Hb3.1.size;have Hr1:=Aj hr1;have Xh:=Aj hr2;have Hr3:=Aj hr3;have hrn:rn=rs.length:=HRd.1.len;have Hrn:=Aj hrn;have hrb:rn≤1000000:=by rw[hrn];exact HO.1.len
    have anq:(rn:Int)≤1000000:=om;clear hr1 hr2 hr3 hrn;go_loopw [6,7,33] (fun l s i wr=>∃k LA lc SA sc,k≤rn∧i= .int .i64 (k:Nat)∧l= .slice LA k lc∧s= .slice SA k sc∧Kept (Lp w5.heap.size wr LA lc SA sc k hs)∧Kept (Below w5.heap.size w5 wr)) (fun _ _ i _=>rn-(intOf i).toNat)
    case atStart=>exact⟨0,none,0,none,0,om,rfl,rfl,rfl,⟨Lp.nil _ _ _⟩,⟨Ae _ _⟩⟩
    case round=>
     obtain⟨k,LA,lc,SA,sc,hk,rfl,rfl,rfl,HLp,Yd⟩:=hrel;by_cases hlt:k<rn
     ·have hkh:k<hs.length:=by rw[Xh.1,←Hrn.1];exact hlt
      have hkr:k<rs.length:=by rw[←Hrn.1];exact hlt
      obtain⟨L1,l1,d1,C1,m1,e1,he,hL,hC⟩:=Hr3.1 k hkh hkr;obtain⟨b,off,rfl,kK,hc⟩:=Hr1.1.2.2.2 om;obtain⟨g1,g2⟩:=dK hs k hkh;rw[he]at g1 g2;have ha0:=(Yd.1.cell (p:=⟨b,off+k*2,none⟩) (by show b<_;exact kK)).trans (hc _ _ g1);have ha1:=(Yd.1.cell (p:=⟨b,off+(k*2+1),none⟩) (by show b<_;exact kK)).trans (hc _ _ g2);rw[←fA]at ha1;have hT1:Kept ((hs.take (k+1)).map (·.1)=(hs.take k).map (·.1)++[.slice L1 l1 d1]):=⟨by rw[Ts hkh,dR,he];rfl⟩
      have xe:Kept ((hs.take (k+1)).map (·.2)=(hs.take k).map (·.2)++[.slice C1 m1 e1]):=⟨by rw[Ts hkh,dR,he];rfl⟩
      clear hc g1 g2 hL hC he hkh hkr;go_wp2_with fail;have hbx:=AL wr (.cells #[.slice L1 l1 d1,.slice C1 m1 e1] 146);have O3:=Aj (HLp.1.alloc (.cells #[.slice L1 l1 d1,.slice C1 m1 e1] 146));have aej:=Yd.1.alloc Yd.1.size (.cells #[.slice L1 l1 d1,.slice C1 m1 e1] 146);have B3:=Aj aej;have hs3:Kept (wr.heap.size< (wr.alloc (.cells #[.slice L1 l1 d1,.slice C1 m1 e1] 146)).heap.size):=⟨sm⟩
      have hlA:Kept (∀g,ab LA=some g→w5.heap.size≤g∧g<wr.heap.size):=⟨ae HLp.1.o1⟩
      have hlS:Kept (∀g,ab SA=some g→w5.heap.size≤g∧g<wr.heap.size):=⟨ae HLp.1.o2⟩
      obtain⟨gx,hgx⟩:∃g,g=wr.heap.size:=⟨_,rfl⟩
      rw[←hgx]at hbx hs3 hlA hlS;rw[←hgx];have Hgx:=Aj hgx;clear hgx;generalize wr.alloc (.cells #[.slice L1 l1 d1,.slice C1 m1 e1] 146)=W3 at*;have d0:W3.cell? ⟨gx,0,none⟩=some (.slice L1 l1 d1):=Co _ _ 0 _ _ _ hbx;have d1':W3.cell? ⟨gx,1,none⟩=some (.slice C1 m1 e1):=Co _ _ 1 _ _ _ hbx;have Hbx:=Aj hbx;have f1:∀o,(W3.alloc o).heap[gx]? =some (.cells #[.slice L1 l1 d1,.slice C1 m1 e1] 146 (0,0)):=fun o=>(Aw _ _ _ hs3.1).trans Hbx.1
      have f2:∀o o',((W3.alloc o).alloc o').heap[gx]? =some (.cells #[.slice L1 l1 d1,.slice C1 m1 e1] 146 (0,0)):=fun o o'=>(Aw _ _ _ (by have:=hs3.1;simp;omega)).trans (f1 o)
      have F1:=Aj f1;have F2:=Aj f2;have x0:=fun o=>Co _ _ 0 _ _ _ (F1.1 o)
      have x1':=fun o=>Co _ _ 1 _ _ _ (F1.1 o)
      have y0:=fun o o'=>Co _ _ 0 _ _ _ (F2.1 o o')
      have y1:=fun o o'=>Co _ _ 1 _ _ _ (F2.1 o o')
      have P1:Kept (∀o,(W3.alloc o).heap[W3.heap.size]? =some o):=⟨fun o=>AL W3 o⟩
      have P2:Kept (∀o o',((W3.alloc o).alloc o').heap[W3.heap.size]? =some o):=⟨fun o o'=>(Aw _ _ _ sm).trans (AL W3 o)⟩
      have P3:Kept (∀o o',((W3.alloc o).alloc o').heap[W3.heap.size+1]? =some o'):=⟨fun o o'=>by have:=AL (W3.alloc o) o';simpa using this⟩
      have PY:Kept (w5.heap.size≤W3.heap.size):=⟨B3.1.size⟩
      clear f1 f2 hbx aej;go_region_held3 (fun w'=>w'.cell? ⟨gx,0,none⟩=some (.slice L1 l1 d1)∧w'.cell? ⟨gx,1,none⟩=some (.slice C1 m1 e1)) (first|exact⟨d0,d1'⟩|exact⟨x0 _,x1' _⟩|exact⟨y0 _ _,y1 _ _⟩|exact k9|exact k10 _)
       (first
        |(refine xV ?g1 (.tmp 37) (.tmp 40) 144 62 ?g2 underlying144 Um w5.heap.size LA k lc ((hs.take k).map (·.2)) ?g3 ?g4 (.slice C1 m1 e1) ?g5 rfl ?g7 ?g8 ?_;(case g1=>rfl);(case g2=>rfl);(case g3=>rfl);(case g4=>first|exact(O3.1.alloc _).o1|exact((O3.1.alloc _).alloc _).o1);(case g5=>refine⟨_,rfl,?_⟩;first|exact(P1.1 _)|exact(P2.1 _ _)|exact(P3.1 _ _));(case g7=>omega);(case g8=>(have:=PY.1;simp;omega));intro L4 c4 w6 hown hgrow hat;have hp2:=(by first|exact(O3.1.alloc _).drew.Nh hgrow|exact((O3.1.alloc _).alloc _).drew.Nh hgrow|exact(O3.1.alloc _).Nh hgrow|exact((O3.1.alloc _).alloc _).Nh hgrow:w6.ownsRow w5.heap.size 54 1 (.slice SA k sc) k ((hs.take k).map (·.1)));have Q1:=Aj hown;have Q2:=Aj hp2;have HP:=Aj (fun(p:Nat) (o:Obj) (hp:gx≤p) (h:_=some o)=>(hgrow.block p ((Ge.1 h).1) (fun e=>by have:=(hlA.1 p e.symm).2;omega)).trans h);have hb6:=(by first|exact(B3.1.alloc PY.1 _).drew.grown hgrow (by have:=PY.1;show _≤(World.alloc _ _).heap.size;simp;omega) (fun g e=>(hlA.1 g e).1)|exact((B3.1.alloc PY.1 _).alloc (by have:=PY.1;simp;omega) _).drew.grown hgrow (by have:=PY.1;show _≤(World.alloc _ _).heap.size;simp;omega) (fun g e=>(hlA.1 g e).1)|exact(B3.1.alloc PY.1 _).grown hgrow (by have:=PY.1;show _≤(World.alloc _ _).heap.size;simp;omega) (fun g e=>(hlA.1 g e).1)|exact((B3.1.alloc PY.1 _).alloc (by have:=PY.1;simp;omega) _).grown hgrow (by have:=PY.1;show _≤(World.alloc _ _).heap.size;simp;omega) (fun g e=>(hlA.1 g e).1):Below w5.heap.size w5 w6);have B6:=Aj hb6;have Vd:=Aj (HP.1 gx _ Ai (by first|exact F1.1 _|exact F2.1 _ _));have k9:w6.cell? ⟨gx,0,none⟩=some (.slice L1 l1 d1)∧w6.cell? ⟨gx,1,none⟩=some (.slice C1 m1 e1):=⟨Co _ _ 0 _ _ _ Vd.1,Co _ _ 1 _ _ _ Vd.1⟩;have k10:∀o,(w6.alloc o).cell? ⟨gx,0,none⟩=some (.slice L1 l1 d1)∧(w6.alloc o).cell? ⟨gx,1,none⟩=some (.slice C1 m1 e1):=fun o=>⟨Co _ _ 0 _ _ _ ((Aw _ _ _ ((Ge.1 Vd.1).1)).trans Vd.1),Co _ _ 1 _ _ _ ((Aw _ _ _ ((Ge.1 Vd.1).1)).trans Vd.1)⟩;clear hown hp2 hgrow hat hb6)
        |(refine xV ?q1 (.tmp 42) (.tmp 45) 81 54 ?q2 underlying81 JY w5.heap.size SA k sc ((hs.take k).map (·.1)) ?q3 ?q4 (.slice L1 l1 d1) ?q5 rfl ?q7 ?q8 ?_;(case q1=>rfl);(case q2=>rfl);(case q3=>rfl);(case q4=>first|exact Q2.1|exact Oa Q2.1 _);(case q5=>refine⟨_,rfl,?_⟩;first|exact(AL w6 _)|exact(HP.1 _ _ (by have:=hs3.1;omega) (P3.1 _ _))|exact(HP.1 _ _ (by have:=hs3.1;omega) (P2.1 _ _)));(case q7=>omega);(case q8=>(have:=B6.1.size;first|exact this|(simp;omega)));intro S4 e4 w7 hown hgrow hat;have hp1:=(by first|exact Ni (w:=w6.drew) Q1.1 Q2.1 hgrow|exact Ni (w:=(w6.alloc _).drew) (Oa Q1.1 _) (Oa Q2.1 _) hgrow|exact Ni Q1.1 Q2.1 hgrow|exact Ni (Oa Q1.1 _) (Oa Q2.1 _) hgrow:w7.ownsRow w5.heap.size 62 1 (.slice L4 (k+1) c4) (k+1) _);have R1:=Aj hp1;have R2:=Aj hown;have NL:=(by first|exact B6.1.grown hgrow B6.1.size (fun g e=>(hlS.1 g e).1)|exact B6.1.drew.grown hgrow B6.1.size (fun g e=>(hlS.1 g e).1)|exact(B6.1.alloc B6.1.size _).grown hgrow (by have:=B6.1.size;show _≤(World.alloc _ _).heap.size;simp;omega) (fun g e=>(hlS.1 g e).1)|exact(B6.1.alloc B6.1.size _).drew.grown hgrow (by have:=B6.1.size;show _≤(World.alloc _ _).heap.size;simp;omega) (fun g e=>(hlS.1 g e).1):Below w5.heap.size w5 w7);have B7:=Aj NL;have HX7:=Aj (show w7.heap[gx]? =some (.cells #[.slice L1 l1 d1,.slice C1 m1 e1] 146 (0,0))from(hgrow.block gx (by have:=(Ge.1 Vd.1).1;first|exact this|(show gx< (World.alloc _ _).heap.size;simp;omega)) (fun e=>Ez _ (hlS.1 gx e.symm).2)).trans (by first|exact Vd.1|exact(Aw _ _ _ ((Ge.1 Vd.1).1)).trans Vd.1));have k9:w7.cell? ⟨gx,0,none⟩=some (.slice L1 l1 d1)∧w7.cell? ⟨gx,1,none⟩=some (.slice C1 m1 e1):=⟨Co _ _ 0 _ _ _ HX7.1,Co _ _ 1 _ _ _ HX7.1⟩;clear hown hp1 hgrow hat NL))
      all_goals
       go_wp2;go_roundw
       case rel=>exact⟨k+1,L4,c4,S4,e4,om,by go_num,rfl,rfl,⟨⟨by rw[xe.1];exact R1.1,by rw[hT1.1];exact R2.1⟩⟩,B7⟩
       case measure=>simp[intOf];try omega
     ·obtain rfl:k=rn:=by omega
      clear hlt hk;obtain⟨hI,hL⟩:=HLp.1.ints Hrn.1 Xh.1 Hr3.1 Yd.1 Yd.1.size;rw[HO.1.ofn]at hI;have HS4:=Aj (HS3.1.on Yd.1);have x2:=HS4.1.sec 2 om;have Ux:=Aj (KE LA A2 k lc n2 c2 wr.heap.size (rs.map Bk.ln) (D 2) wr hI ((H2.1.below HS4.1.aZ).more HS4.1.aZ.size) Ai (by rw[←HO.1.ofn];have:=HO.1.tot;omega) om om (HG.1.below HS4.1.aZ));have HLL:=Aj hL;have ahZ:=Aj ((Yc.1.below (Hb3.1.trans (Yd.1.mono Hb3.1.size))).more (Lt Hb3.1.size Yd.1.size))
      change Kept (Calls _ _ _ _ (ChP wr (Bk.oC rs (D 2))))at Ux
      have e2:=HE.1;generalize hQ2:Bk.oC rs (D 2)=Q2 at e2 Ux;have wT:=Aj hQ2;obtain⟨ch,eC⟩:=Q2;simp only[]at e2;clear hI hL hQ2 HE;by_cases hc:eC=0
      ·subst hc;rw[Ng sm]at e2;have HE:=Aj e2;have hSA:Kept (∀p,ab SA=some p→p≠w.heap.size+1):=⟨fun p hp=>by have:=(ae HLp.1.o2 p hp).1;have:=HS3.1.Kj;omega⟩
       have abq:=UD wT.1;clear e2;go_wp2_with first
        |(go_at_call 73;refine(Uo _ _).mono ?_;rintro r w7 ⟨rfl,rfl⟩)
        |(go_at_call 74;refine Ux.1.mono ?_;rintro r w6 ⟨CA,cn,cc,rfl,abr,hb4,abt⟩;have HS5:=Aj (HS4.1.on hb4);have ael:=Aj abr;have Hb4:=Aj hb4;have ah1:=Aj abt;clear abr hb4 abt)
       have hCA:Kept (∀p,ab CA=some p→p≠w.heap.size+1):=⟨fun p hp=>by have:=ah1.1 p hp;have:=HS4.1.Kj;omega⟩
       obtain⟨vs1,s1,s2,s3⟩:=(HLL.1.below Hb4.1).more Hb4.1.size;obtain⟨vs2,m1,m2,m3⟩:=ael.1;have hcn:cn=ch.length:=ael.1.len;have hck:cn=k:=by rw[hcn,abq,Hrn.1]
       have Hcn:=Aj hcn;have aem:=Aj abq;obtain rfl:=hck;have S1:=Aj s1;have S2:=Aj s2;have S3:=Aj s3;have M1:=Aj m1;have M2:=Aj m2;have M3:=Aj m3;have hg5:=Aj HS5.1.out;have hgz:Kept (w.heap.size+1<w7.heap.size):=⟨by have:=HS5.1.Kj;omega⟩
       clear s1 s2 s3 m1 m2 m3 hcn abq;go_loopw [56] (fun i wr=>∃j BA bc,j≤cn∧i= .int .i64 (j:Nat)∧Kept (L2 w7 wr (w.heap.size+1) BA bc j (vs1.zip vs2))) (fun i _=>cn-(intOf i).toNat)
       case atStart=>exact⟨0,none,0,om,rfl,⟨L2.start hg5.1⟩⟩
       case round=>
        obtain⟨j,BA,bc,hj,rfl,HL2⟩:=hrel;by_cases hlt2:j<cn
        ·have hj1:j<vs1.length:=by rw[S2.1,fM,←Hrn.1];exact hlt2
         have hj2:j<vs2.length:=by rw[M2.1,←Hcn.1];exact hlt2
         have hjr:j< (rs.map (·.1)).length:=by rw[←S2.1];exact hj1
         have hjc:j<ch.length:=by rw[←M2.1];exact hj2
         obtain⟨L1,l1,d1,he1,-⟩:=S3.1 j _ (ja hjr);obtain⟨C1,m1,e1,he2,-⟩:=M3.1 j _ (ja hjc);obtain⟨b1,rG,rfl,aen,hc1⟩:=(Rd.off S1.1 Ai hSA.1 HL2.1.gr).2.2.2 om;obtain⟨b2,sS,rfl,adS,hc2⟩:=(Rd.off M1.1 Ai hCA.1 HL2.1.gr).2.2.2 om;have y1:=hc1 j _ he1;have y2:=hc2 j _ he2;have aeo:Kept ((vs1.zip vs2)[j]'(by simp;omega)=(.slice L1 l1 d1,.slice C1 m1 e1)):=⟨by
          rw[Ex];obtain⟨_,q1⟩:=kT.1 he1;obtain⟨_,q2⟩:=kT.1 he2;rw[q1,q2]⟩
         have hzl:Kept (j< (vs1.zip vs2).length):=⟨by simp;omega⟩
         have z0:=Co _ _ 0 _ _ _ HL2.1.var;have hgw:Kept (w.heap.size+1<wr.heap.size):=⟨j6 hgz.1 HL2.1.gr.size⟩
         have hbw:Kept (b1<wr.heap.size):=⟨j6 aen HL2.1.gr.size⟩
         have z1:∀o,(wr.alloc o).cell? ⟨w.heap.size+1,0,none⟩=some (.slice BA j bc):=fun o=>(AB _ _ ⟨w.heap.size+1,0,none⟩ hgw.1).trans (Co _ _ 0 _ _ _ HL2.1.var)
         have Y1:=Aj y1;have y3:∀o,(wr.alloc o).cell? ⟨b1,rG+j,none⟩=some (.slice L1 l1 d1):=fun o=>(AB _ _ ⟨b1,rG+j,none⟩ hbw.1).trans Y1.1
         have Y3:=Aj y3;have hsz:Kept (w7.heap.size≤wr.heap.size):=⟨HL2.1.gr.size⟩
         have hjb:Kept (j≤1000000):=⟨om⟩
         have hlB:Kept (∀p,ab BA=some p→w7.heap.size≤p):=⟨fun p hp=>(ae HL2.1.own p hp).1⟩
         have aep:Kept (b1≠w.heap.size+1):=⟨hSA.1 b1 rfl⟩
         have UK:Kept (b1<w7.heap.size):=⟨aen⟩
         clear hc1 hc2 he1 he2;go_wp2_with fail;refine wp_region_noPanic ?_;refine wp_region_held_drew (S:=fun w'=>w'.cell? ⟨b1,rG+j,none⟩=some (.slice L1 l1 d1)) kr y1 (fun hHeld=>?_);refine Bo (i:=1) (oi:=⟨_,_,_,_,_,_⟩) (v:=?_) rfl kr kr kr (fun _ _ _ h=>h) (Or.inl ⟨rfl,?_⟩) (by assumption) ?_
         rotate_left
         ·intro w hSw;(try dsimp only at hSw);go_simp;(try with_reducible rfl)
         try simp only[Act.put,Al,Aq,Ap]
         refine Bo (i:=2) (oi:=⟨_,_,_,_,_,_⟩) (v:=?_) rfl kr kr kr (fun _ _ _ h=>h) (Or.inl ⟨rfl,?_⟩) (by assumption) ?_
         rotate_left
         ·intro w hSw;(try dsimp only at hSw);go_simp;(try with_reducible rfl)
         try simp only[Act.put,Al,Aq,Ap]
         refine Bo (i:=3) (oi:=⟨_,_,_,_,_,_⟩) (v:=?_) rfl kr kr kr (fun _ _ _ h=>h) (Or.inl ⟨rfl,?_⟩) (by assumption) ?_
         rotate_left
         ·intro w hSw;(try dsimp only at hSw);go_simp;(try with_reducible rfl)
         try simp only[Act.put,Al,Aq,Ap]
         refine Bo (i:=4) (oi:=⟨_,_,_,_,_,_⟩) (v:=?_) rfl kr kr kr (fun _ _ _ h=>h) (Or.inl ⟨rfl,?_⟩) (by assumption) ?_
         rotate_left
         ·intro w hSw;(try dsimp only at hSw);go_simp;(try with_reducible rfl)
         try simp only[Act.put,Al,Aq,Ap]
         refine Bo (i:=5) (oi:=⟨_,_,_,_,_,_⟩) (v:=?_) rfl kr kr kr (fun _ _ _ h=>h) (Or.inl ⟨rfl,?_⟩) (by assumption) ?_
         rotate_left
         ·intro w hSw;(try dsimp only at hSw);go_simp;(try with_reducible rfl)
         try simp only[Act.put,Al,Aq,Ap]
         refine Bo (i:=6) (oi:=⟨_,_,_,_,_,_⟩) (v:=?_) rfl kr kr kr (fun _ _ _ h=>h) (Or.inl ⟨rfl,?_⟩) (by assumption) ?_
         rotate_left
         ·intro w hSw;(try dsimp only at hSw);go_simp;(try with_reducible rfl)
         try simp only[Act.put,Al,Aq,Ap]
         refine CZ (rs:=[0,7]) kr sm ?_;refine BQ (o:=⟨_,_,_,_,_,_⟩) rfl (fun K hK=>?_) (BQ (o:=⟨_,_,_,_,_,_⟩) rfl (fun K hK=>?_) CG)
         ·go_simp;refine hK.out _ _ y1 (fun hHeld=>?_);clear hK K
          try simp only[Act.put,Al,Aq,Ap]
          refine CZ (rs:=[7]) kr sm ?_;refine BQ (o:=⟨_,_,_,_,_,_⟩) rfl (fun K hK=>?_) CG;go_simp;refine hK.out _ _ (y3 _) (fun hHeld=>?_);clear hK K
          try simp only[Act.put,Al,Aq,Ap]
          refine CZ (rs:=[8]) kr sm ?_;refine BQ (o:=⟨_,_,_,_,_,_⟩) rfl (fun K hK=>?_) CG
          (refine xW ?q1 (.tmp 61) (.tmp 68) ?q2 w7.heap.size BA j bc (aG ((vs1.zip vs2).take j)) ?q3 ?q4 (.slice L1 l1 d1) (.slice C1 m1 e1) ?q5 rfl rfl ?q7 ?q8 ?_;(case q1=>rfl);(case q2=>rfl);(case q3=>rfl);(case q4=>exact Oa HL2.1.own _);(case q5=>exact⟨_,rfl,AL wr _⟩);(case q7=>exact Lt hjb.1 Ah);(case q8=>(have:=hsz.1;show _≤(World.alloc _ _).heap.size;simp;omega));intro B4 c4 w8 hown hgrow hat;have Nb:=HL2.1.push hgz.1 hzl.1 aeo.1 (W:=(wr.alloc (.cells #[.slice L1 l1 d1,.slice C1 m1 e1] 57)).drew) (fun i hi=>Aw wr _ i hi) (by show _≤(World.alloc _ _).heap.size;simp) rfl rfl rfl hgrow hown;have HP:=Aj Nb.1;have v8:=Nb.2.1;have f8:=Nb.2.2;have k9:w8.cell? ⟨b1,rG+j,none⟩=some (.slice L1 l1 d1):=(AR (a:=⟨b1,rG+j,none⟩) (hgrow.block b1 (by have:=hbw.1;show b1< (World.alloc _ _).heap.size;simp;omega) (fun e=>by have:=hlB.1 b1 e.symm;have:=UK.1;omega))).trans (Y3.1 _);have k10:(w8.setCell ⟨w.heap.size+1,0,none⟩ (.slice B4 (j+1) c4)).cell? ⟨b1,rG+j,none⟩=some (.slice L1 l1 d1):=(AJ _ _ _ _ (by intro h;exact aep.1 (congrArg Addr.block h).symm)).trans k9;clear Nb hown hgrow hat)
          refine hK.out _ _ k9 (fun hHeld=>?_);clear hK K
          try simp only[Act.put,Al,Aq,Ap]
          refine CZ (rs:=[9]) kr sm ?_;refine BQ (o:=⟨_,_,_,_,_,_⟩) rfl (fun K hK=>?_) CG;go_simp;refine hK.out _ _ k10 (fun hHeld=>?_);clear hK K
          try simp only[Act.put,Al,Aq,Ap]
          refine wpAnyH_done kr ?_ _;refine NoPanic.normal ?_;go_wp2;go_roundw
          case rel=>exact⟨j+1,B4,c4,om,by go_num,HP⟩
          case measure=>simp[intOf];try omega
         ·go_simp;refine hK.out _ _ (y3 _) (fun hHeld=>?_);clear hK K
          try simp only[Act.put,Al,Aq,Ap]
          refine CZ (rs:=[0]) kr sm ?_;refine BQ (o:=⟨_,_,_,_,_,_⟩) rfl (fun K hK=>?_) CG;go_simp;refine hK.out _ _ (y3 _) (fun hHeld=>?_);clear hK K
          try simp only[Act.put,Al,Aq,Ap]
          refine CZ (rs:=[8]) kr sm ?_;refine BQ (o:=⟨_,_,_,_,_,_⟩) rfl (fun K hK=>?_) CG
          (refine xW ?r1 (.tmp 61) (.tmp 68) ?r2 w7.heap.size BA j bc (aG ((vs1.zip vs2).take j)) ?r3 ?r4 (.slice L1 l1 d1) (.slice C1 m1 e1) ?r5 rfl rfl ?r7 ?r8 ?_;(case r1=>rfl);(case r2=>rfl);(case r3=>rfl);(case r4=>exact Oa HL2.1.own _);(case r5=>exact⟨_,rfl,AL wr _⟩);(case r7=>exact Lt hjb.1 Ah);(case r8=>(have:=hsz.1;show _≤(World.alloc _ _).heap.size;simp;omega));intro B4 c4 w8 hown hgrow hat;have Nb:=HL2.1.push hgz.1 hzl.1 aeo.1 (W:=(wr.alloc (.cells #[.slice L1 l1 d1,.slice C1 m1 e1] 57)).drew) (fun i hi=>Aw wr _ i hi) (by show _≤(World.alloc _ _).heap.size;simp) rfl rfl rfl hgrow hown;have HP:=Aj Nb.1;have v8:=Nb.2.1;have f8:=Nb.2.2;have k9:w8.cell? ⟨b1,rG+j,none⟩=some (.slice L1 l1 d1):=(AR (a:=⟨b1,rG+j,none⟩) (hgrow.block b1 (by have:=hbw.1;show b1< (World.alloc _ _).heap.size;simp;omega) (fun e=>by have:=hlB.1 b1 e.symm;have:=UK.1;omega))).trans (Y3.1 _);have k10:(w8.setCell ⟨w.heap.size+1,0,none⟩ (.slice B4 (j+1) c4)).cell? ⟨b1,rG+j,none⟩=some (.slice L1 l1 d1):=(AJ _ _ _ _ (by intro h;exact aep.1 (congrArg Addr.block h).symm)).trans k9;clear Nb hown hgrow hat)
          refine hK.out _ _ k9 (fun hHeld=>?_);clear hK K
          try simp only[Act.put,Al,Aq,Ap]
          refine CZ (rs:=[9]) kr sm ?_;refine BQ (o:=⟨_,_,_,_,_,_⟩) rfl (fun K hK=>?_) CG;go_simp;refine hK.out _ _ k10 (fun hHeld=>?_);clear hK K
          try simp only[Act.put,Al,Aq,Ap]
          refine wpAnyH_done kr ?_ _;refine NoPanic.normal ?_;go_wp2;go_roundw
          case rel=>exact⟨j+1,B4,c4,om,by go_num,HP⟩
          case measure=>simp[intOf];try omega
        ·obtain rfl:j=cn:=by omega
         clear hlt2 hj;have HS6:=Aj (HS5.1.upd HL2.1);have l1:=S2.1;have l2:=M2.1;have l3:=aem.1;have l4:=Hcn.1;rw[fM]at l1;have hK:dY wr wr.heap.size BA j bc ((rs.map (·.1)).zip ch):=by
          refine HL2.1.rd (by rw[DV];omega) (by rw[DV,DV,fM];omega) Ai hg5.1 (fun i h h'=>?_);have i1:i<vs1.length:=by rw[DV]at h;omega
          have i2:i<vs2.length:=by rw[DV]at h;omega
          have i3:i< (rs.map (·.1)).length:=by rw[fM];omega
          have i4:i<ch.length:=om;obtain⟨L1,l1,d1,he1,hr1⟩:=S3.1 i _ (ja i3);obtain⟨C1,m1,e1,he2,hr2⟩:=M3.1 i _ (ja i4);obtain⟨_,q1⟩:=kT.1 he1;obtain⟨_,q2⟩:=kT.1 he2;refine⟨L1,l1,d1,C1,m1,e1,?_,?_,?_⟩
          ·rw[Ex,q1,q2]
          ·rw[Ex];exact hr1
          ·rw[Ex];exact hr2
         have HK:=Aj hK;have hfit:∀s∈(rs.map (·.1)).zip ch,Lb.Fit s.1:=fun s hs=>by
          obtain⟨r,hr,e⟩:=bY.1 (List.of_mem_zip hs).1;rw[←e];exact HO.1.fit r hr
         have HCk:=Aj (tY BA j bc wr.heap.size ((rs.map (·.1)).zip ch) wr hK Ai (UC HO.1 wT.1) hfit);have e3:=HE.1;have z0:=Co _ _ 0 _ _ _ HL2.1.var;have hbl:((rs.map (·.1)).zip ch).length=j:=by rw[DV,fM];omega
         have Hbl:=Aj hbl;clear l1 l2 l3 l4 hK hfit hbl;generalize hbk:(rs.map (·.1)).zip ch=bk at*;have Hbk:=Aj hbk;clear hbk HE;unfold Bk.WU at e3;have HT6:=Aj (HL2.1.strs hg5.1 ((ahZ.1.below Hb4.1).more Hb4.1.size));by_cases hcb:Bk.bR bk=0
         ·rw[Ng (by simp[hcb])]at e3;rw[hcb]at HCk;have Hcb:=Aj hcb;have HC6:=Aj (fun(W8:World) (g8:Gr wr W8)=>Gu TA A3 tn tc n3 c3 (j:Int) T (D 3) W8 ((HT6.1.below g8.below).more g8.size) ((H3.1.below (HS6.1.on g8.below).aZ).more (HS6.1.on g8.below).aZ.size) om om);rw[show(bk.length:Int)=(j:Int)by rw[Hbl.1]]at e3;generalize hQ3:Pe.dec T (j:Int) (D 3)=Q3 at e3 HC6;have XE:=Aj hQ3;obtain⟨E3,eP⟩:=Q3;simp only[]at e3 HC6;clear hQ3 hcb;by_cases hep:eP=0
          ·subst hep;rw[Ng sm]at e3;have IA:Bk.sets bk=rs.map (·.1):=by
            rw[←Hbk.1];unfold Bk.sets;exact List.map_fst_zip (by rw[fM,aem.1];exact Nr _)
           have aer:Kept (Ps.Sets (rs.map (·.1))):=⟨by rw[←IA];exact Bk.jF Hcb.1 (by rw[IA];exact HO.1.wt)⟩
           have ah2:Kept (jV wr wr.heap.size SA j sc (rs.map (·.1))):=⟨⟨vs1,Rd.more (Rd.off S1.1 Ai hSA.1 HL2.1.gr) HL2.1.gr.size,S2.1,fun i l hl=>by
            obtain⟨A',n',c',e,h⟩:=S3.1 i l hl;exact⟨A',n',c',e,fO.more (Rd.but h Ai hg5.1 (UA _ _ _ _) HL2.1.gr) HL2.1.gr.size⟩⟩⟩
           have hie:¬Ps.rD (Ps.fu (rs.map (·.1)) 0) E3→Bk.Gy bk E3=22:=fun h=>by unfold Bk.Gy;rw[IA,Ng h]
           have aes:Ps.rD (Ps.fu (rs.map (·.1)) 0) E3→Bk.Gy bk E3=0:=fun h=>by unfold Bk.Gy;rw[IA,Ps0 h]
           clear IA;by_cases hidx:Ps.rD (Ps.fu (rs.map (·.1)) 0) E3;rw[aes hidx,Ng sm]at e3
           rotate_left
           rw[hie hidx,Ps0 Ah]at e3
           rotate_left
           all_goals
            have HE:=Aj e3;have HX:=Aj hidx;clear e3 hie aes hidx;go_wp2_with first
             |(go_at_call 72;refine(gz 22 Ah _).mono ?_;rintro r w14 ⟨rfl,rfl⟩)
             |(go_at_call 75;refine(wX PA EA pn pc en ec E3 E _ ((HPe.1.below Ye.1 Ai).more Ye.1.size) HEn.1).mono ?_;rintro r VH ⟨he,vW⟩;(first|rw[Bj (Ps.rD.uniq HX.1 HIx.1)]at he|rw[AF (fun q=>HX.1 (by rw[q];exact HIx.1))]at he);subst he;have ED:=Aj (HS9.1.on vW.below);have z3:=Co _ _ 0 _ _ _ ED.1.out;have z4:=Co _ _ 0 _ _ _ ED.1.err;have f3:=Fr _ _ 0 _ _ ED.1.out;have f4:=Fr _ _ 0 _ _ ED.1.err;have ah3:=Aj vW;clear vW)
             |(go_at_call 37;refine(qf SA j sc (rs.map (·.1)) _ ((ah2.1.below (Ve.1.below.trans (Hb9.1.mono Ve.1.size))).more (Lt Ve.1.size Hb9.1.size)) aer.1).mono ?_;rintro r ZG ⟨EA,en,ec,E,rfl,hIx,hEn,abu⟩;have HIx:=Aj hIx;have HEn:=Aj hEn.rd;have Ye:=Aj abu;have HS9:=Aj (HS8.1.on abu);clear hIx hEn abu)
             |(go_at_call 76;refine(Ur _ _).mono ?_;rintro r QJ ⟨rfl,rfl⟩)
             |(go_at_call 77;refine(HC6.1 w9 Ve.1).mono ?_;rintro r Qd ⟨PA,pn,pc,rfl,hPe,J7⟩;have HS8:=Aj (Yf.1.on J7);have HPe:=Aj hPe;have Hb9:=Aj J7;clear J7 hPe)
             |(go_at_call 72;refine(mf _).mono ?_;rintro r w9 ⟨rfl,rfl⟩)
             |(go_at_call 17;refine HCk.1.mono ?_;rintro r w8 ⟨rfl,rU⟩;have Yf:=Aj (HS6.1.on rU.below);have z1:=Co _ _ 0 _ _ _ Yf.1.out;have z2:=Yf.1.sec 3 om;have Ve:=Aj rU;clear rU)
           ·have q1:VH.setCell ⟨w.heap.size+1,0,none⟩ (.slice BA j bc)=VH:=vD ED.1.out;have q2:VH.setCell ⟨w.heap.size+1+1,0,none⟩ (.int .i64 0)=VH:=vD ED.1.err;rw[q1,q2];have hbz:Below wr.heap.size wr VH:=((Ve.1.below.trans (Hb9.1.mono Ve.1.size)).trans (Ye.1.mono (Lt Ve.1.size Hb9.1.size))).trans (ah3.1.below.mono (Lt (Lt Ve.1.size Hb9.1.size) Ye.1.size));have hrd:=(HK.1.below hbz).more hbz.size;refine ED.1.home rfl rfl ?_;rw[HE.1];exact⟨BA,j,bc,rfl,hrd,ED.1.aZ⟩
           ·exact ED.1.door rfl rfl (fun w' hb=>kN.bad HE.1 hb)
          ·rw[Ps0 hep]at e3;have HE:=Aj e3;have HT:=Aj hep;clear e3 hep;go_wp2_with first
            |(go_at_call 76;refine(KA _ eP HT.1 _).mono ?_;rintro r QJ ⟨rfl,rfl⟩)
            |(go_at_call 77;refine(HC6.1 w9 Ve.1).mono ?_;rintro r Qd ⟨PA,pn,pc,rfl,hPe,J7⟩;have HS8:=Aj (Yf.1.on J7);clear J7)
            |(go_at_call 72;refine(mf _).mono ?_;rintro r w9 ⟨rfl,rfl⟩)
            |(go_at_call 17;refine HCk.1.mono ?_;rintro r w8 ⟨rfl,rU⟩;have Yf:=Aj (HS6.1.on rU.below);have z1:=Co _ _ 0 _ _ _ Yf.1.out;have z2:=Yf.1.sec 3 om;have Ve:=Aj rU;clear rU)
           exact HS8.1.door rfl rfl (fun w' hb=>kN.bad HE.1 hb)
         ·rw[Ps0 hcb]at e3;have HE:=Aj e3;have HT:=Aj hcb;generalize Bk.bR bk=ek at*;clear e3 hcb;go_wp2_with first
           |(go_at_call 72;refine(gz ek HT.1 _).mono ?_;rintro r w9 ⟨rfl,rfl⟩)
           |(go_at_call 17;refine HCk.1.mono ?_;rintro r w8 ⟨rfl,rU⟩;have Yf:=Aj (HS6.1.on rU.below))
          exact Yf.1.door rfl rfl (fun w' hb=>kN.bad HE.1 hb)
      ·rw[Ps0 hc]at e2;have HE:=Aj e2;have HT:=Aj hc;clear e2 hc;go_wp2_with first
        |(go_at_call 73;refine(Kz _ eC HT.1 _).mono ?_;rintro r w7 ⟨rfl,rfl⟩)
        |(go_at_call 74;refine Ux.1.mono ?_;rintro r w6 ⟨CA,cn,cc,rfl,abr,hb4,abt⟩;have HS5:=Aj (HS4.1.on hb4))
       exact HS5.1.door rfl rfl (fun w' hb=>kN.bad HE.1 hb)
  ·rw[Ps0 hr]at e0;have HE:=Aj e0;have HT:=Aj hr;clear e0 hr;go_enter_defers func35,ntmps35;go_wp2_with first
    |(go_at_call 69;refine(Ky _ eR HT.1 _).mono ?_;rintro r w3 ⟨rfl,rfl⟩)
    |(go_at_call 70;refine(HC1.1 TA tn tc w2 HTA.1 Hb1.1).mono ?_;rintro r w3 ⟨RA,rn,rc,rfl,hRd,hb2⟩;have HS2:=Aj (OG.1.on hb2))
    |(go_at_call 67;refine(vB _ _).mono ?_;rintro r w2 ⟨rfl,rfl⟩)
    |(go_at_call 68;rw[HW.1];refine HC0.1.mono ?_;rintro r w1 ⟨TA,tn,tc,rfl,hT,hb1⟩;have HTA:=Aj hT;have OG:=Aj (Zj.1.on hb1);have Hb1:=Aj hb1;have x1:w1.cell? ⟨w.heap.size,1,none⟩=some (.slice A1 n1 c1):=OG.1.sec 1 om;clear hT hb1)
   exact HS2.1.door rfl rfl (fun w' hb=>kN.bad HE.1 hb)
 ·rw[Ps0 hT]at e0;have HE:=Aj e0;have HT:=Aj hT;clear e0 hT;go_enter_defers func35,ntmps35;go_wp2_with first
   |(go_at_call 67;refine(Kw _ eT HT.1 _).mono ?_;rintro r w2 ⟨rfl,rfl⟩)
   |(go_at_call 68;rw[HW.1];refine HC0.1.mono ?_;rintro r w1 ⟨TA,tn,tc,rfl,hT,hb1⟩)
  exact(Zj.1.on hb1).door rfl rfl (fun w' hb=>kN.bad HE.1 hb)
end
section
open Go.RowKit Go.Shelf
theorem kN.after {w w2 w3 R e} (hb:Below w.heap.size w w2) (h:kN w2 R e w3):kN w R e w3:=by
 obtain⟨A,n,c,h1,h2,h3⟩:=h;exact⟨A,n,c,h1,h2,hb.trans (h3.mono hb.size)⟩
def EE (l:List UInt8):Prop:=∀i,i<4→(Ly.mU l i).length≤if i=2 then 10000000 else 1000000
theorem aeu (V D w) (h:∀i,i<4→∃A n c,V i= .slice A n c∧bf w w.heap.size A n c (D i)∧n≤(if i=2 then 10000000 else 1000000)) (hG:Gl w):
  Calls prog 35 #[.agg (Ly.jq V)] w (kN w (Bk.oD D)):=by
 obtain⟨A0,n0,c0,e0,r0,l0⟩:=h 0 om;obtain⟨A1,n1,c1,e1,r1,l1⟩:=h 1 om;obtain⟨A2,n2,c2,e2,r2,l2⟩:=h 2 om;obtain⟨A3,n3,c3,e3,r3,l3⟩:=h 3 om;unfold Ly.jq;rw[e0,e1,e2,e3];exact UL A0 A1 A2 A3 n0 n1 n2 n3 c0 c1 c2 c3 D w r0 r1 r2 r3 (by simpa using l0) (by simpa using l1) (by simpa using l2) (by simpa using l3) hG
theorem Yg (V l w w2 o) (hf:bN w2 w.heap.size V (Ly.mU l)) (hb:Below w.heap.size w w2) (hs:EE l) (hG:Gl w):
  Calls prog 35 #[.agg (Ly.jq V)] (w2.alloc o) (kN w (Bk.oD (Ly.mU l))):=by
 have hbx:=hb.alloc hb.size o;refine(aeu V (Ly.mU l) (w2.alloc o) (fun i hi=>?_) (hG.below hbx)).mono fun e w3 h=>kN.after hbx h
 obtain⟨A,n,c,h1,h2⟩:=hf.below ((Ae _ w2).alloc Ai o) i hi;exact⟨A,n,c,h1,h2.rd,by rw[h2.len];exact hs i hi⟩
theorem EF (A n c l w) (hv:bf w w.heap.size A n c l) (hn:n≤140737488353000) (hs:EE l) (hG:Gl w):
  Calls prog 9 #[.slice A n c] w (kN w (Bk.dec l)):=by
 have LP:=Aj (sZ A n c l w hv hn hG.tab);have SA:=Aj (fun V w2 o hf hb=>Yg V l w w2 o hf hb hs hG);have hd:Bk.dec l=if Ly.pe l≠0 then([],Ly.pe l)else Bk.oD (Ly.mU l):=rfl;generalize Ly.pe l=f at*;generalize Bk.dec l=R at*;clear hv hG hs;by_cases hf:f=0
 ·subst hf;rw[Ng sm]at hd;subst hd;go_enter func9,ntmps9;go_wp2_with (first
   |(go_at_call 35;refine SC.1.mono ?_;rintro e w3 h3;obtain⟨A9,n9,c9,rfl,h4,h5⟩:=h3;have H4:=Aj h4;have H5:=Aj h5;clear h4 h5)
   |(go_at_call 34;refine LP.1.mono ?_;rintro r w2 ⟨V,rfl,hf,hb⟩;obtain⟨Aa,na,ca,Ab,nb,cb,Ac,nc,cc,Ad,nd,cd,hV⟩:=hf.lit;have SC:=Aj (SA.1 V w2 (.cells (Ly.jq V) 76) hf hb);rw[hV]at SC⊢;clear hf hb hV LP SA))
  go_ret2;exact⟨A9,n9,c9,rfl,H4.1,H5.1⟩
 ·rw[Ps0 hf]at hd;have hf1:(f !=0)=true:=by simpa using hf
  have HD:=Aj hd;clear hd hf SA;go_enter func9,ntmps9;go_wp2_with (go_at_call 34;refine LP.1.mono ?_;rintro r w2 ⟨V,rfl,hf,hb⟩;obtain⟨Aa,na,ca,Ab,nb,cb,Ac,nc,cc,Ad,nd,cd,hV⟩:=hf.lit;rw[hV];have B2:=Aj hb;clear hf hb hV LP);go_ret2;exact kN.bad HD.1 (B2.1.alloc B2.1.size _)
end
section
open Go.RowKit Go.Shelf
theorem IB (f w):Calls prog 36 #[.iface 25 (.int .i64 f)] w fun e w'=>∃c:Int,e= .returned (.int .i64 c)∧(c≠0∧(f=3→c=1))∧w=w':=by
 have hta:∀W,(Instr.typeAssert (.iface 25 (.int .i64 f)) 50 25 true).run prog W= .ok (.tuple #[.int .i64 f,.bool true]) W:=fun _=>kr
 by_cases h3:f=3
 ·subst h3;go_enter func36,ntmps36;go_wp2;go_ret;exact⟨1,rfl,⟨Ah,fun _=>rfl⟩,rfl⟩
 ·have e3:(f==3)=false:=by simpa using h3
  by_cases h12:f=12
  ·subst h12;go_enter func36,ntmps36;go_wp2;go_ret;exact⟨3,rfl,⟨Ah,fun h=>absurd h Ah⟩,rfl⟩
  ·have e12:(f==12)=false:=by simpa using h12
   have hk:=Aj h3;clear h3 h12;go_enter func36,ntmps36;go_wp2;go_ret;exact⟨2,rfl,⟨Ah,fun h=>absurd h hk.1⟩,rfl⟩
def abv (w:World) (g:Nat) (a0 a1 a2 a3 a4 a5 a6 a7:Value):World:=(((((((w.setCell ⟨g,0,none⟩ a0).setCell ⟨g,1,none⟩ a1).setCell ⟨g,2,none⟩ a2).setCell ⟨g,3,none⟩ a3).setCell ⟨g,4,none⟩ a4).setCell ⟨g,5,none⟩ a5).setCell ⟨g,6,none⟩ a6).setCell ⟨g,7,none⟩ a7
theorem UM (w g a0 a1 a2 a3 a4 a5 a6 a7 c0 c1 c2 c3 c4 c5 c6 c7) {t} (h:w.heap[g]? =some (.cells #[c0,c1,c2,c3,c4,c5,c6,c7] t (0,0))):(abv w g a0 a1 a2 a3 a4 a5 a6 a7).heap[g]? =some (.cells #[a0,a1,a2,a3,a4,a5,a6,a7] t (0,0)):=by
 unfold abv;have h0:=Ag w g 0 _ t a0 h;rw[Al]at h0;simp only[Aq]at h0;have h1:=Ag _ g 1 _ t a1 h0;rw[Al]at h1;simp only[Ap,Aq]at h1;have h2:=Ag _ g 2 _ t a2 h1;rw[Al]at h2;simp only[Ap,Aq]at h2;have h3:=Ag _ g 3 _ t a3 h2;rw[Al]at h3;simp only[Ap,Aq]at h3;have h4:=Ag _ g 4 _ t a4 h3;rw[Al]at h4;simp only[Ap,Aq]at h4;have h5:=Ag _ g 5 _ t a5 h4;rw[Al]at h5;simp only[Ap,Aq]at h5;have h6:=Ag _ g 6 _ t a6 h5;rw[Al]at h6;simp only[Ap,Aq]at h6;have h7:=Ag _ g 7 _ t a7 h6;rw[Al]at h7;simp only[Ap,Aq]at h7;exact h7
theorem KN (w:World) (g a0 a1 a2 a3 a4 a5 a6 a7):w.grownBy (abv w g a0 a1 a2 a3 a4 a5 a6 a7) (some g):=
 (((((((ak w ⟨g,0,none⟩ a0).trans (ak _ ⟨g,1,none⟩ a1)).trans (ak _ ⟨g,2,none⟩ a2)).trans (ak _ ⟨g,3,none⟩ a3)).trans (ak _ ⟨g,4,none⟩ a4)).trans (ak _ ⟨g,5,none⟩ a5)).trans (ak _ ⟨g,6,none⟩ a6)).trans (ak _ ⟨g,7,none⟩ a7)
abbrev abw:TypeId:=30
def ah6 (w:World) (f r:Int) (e:Ending) (w':World):Prop:=
 ∃c z0 z1 z2 z3 s1 s2:Int,e= .returned (.agg #[.int .i64 c,.int .i64 r,.int .i64 z0,.int .i64 z1,.int .i64 z2,.int .i64 z3,.int .i64 s1,.int .i64 s2])∧(c=0↔r=0)∧(f=3→c=1)∧Below w.heap.size w w'
theorem PZ (A n c l w) (hv:bf w w.heap.size A n c l) (hn:n≤140737488353000) (hG:Gl w) (hf0:Ly.pe l≠0):
  Calls prog 10 #[.slice A n c] w (ah6 w (Ly.pe l) (Ly.pe l)):=by
 obtain⟨W0,hW0⟩:∃W0,W0=w.alloc (.cells #[.int .i64 0,.int .i64 0,.int .i64 0,.int .i64 0,.int .i64 0,.int .i64 0,.int .i64 0,.int .i64 0] abw):=⟨_,rfl⟩
 have hb0:Below w.heap.size w W0:=by rw[hW0];exact(Ae _ w).alloc Ai _
 have hz0:W0.heap.size=w.heap.size+1:=by rw[hW0];simp
 have hg0:W0.heap[w.heap.size]? =some (.cells #[.int .i64 0,.int .i64 0,.int .i64 0,.int .i64 0,.int .i64 0,.int .i64 0,.int .i64 0,.int .i64 0] abw (0,0)):=by rw[hW0];exact Av w _
 have HW0:=Aj hW0.symm;have LP:=Aj (sZ A n c l W0 ((hv.below hb0).more om) hn (hG.below hb0).tab);have B0:=Aj hb0;have G0:=Aj hg0;have Z0:=Aj hz0;have HG:=Aj hG;obtain⟨f,hf⟩:∃f,f=Ly.pe l:=⟨_,rfl⟩
 rw[←hf]at LP hf0⊢;clear hf hv hG hW0 hb0 hz0 hg0;have hf1:(f !=0)=true:=by simpa using hf0
 have HF0:=Aj hf0;have CL:=Aj (fun W=>IB f W);clear hf0;go_enter func10,ntmps10;go_upto_region 1 with fail;rw[HW0.1];go_upto_region 3 with(go_at_call 34;refine LP.1.mono ?_;rintro r w2 ⟨V,rfl,hf,hb⟩;obtain⟨Aa,na,ca,Ab,nb,cb,Ac,nc,cc,Ad,nd,cd,hV⟩:=hf.lit;rw[hV];have B2:=Aj hb;clear hf hb hV LP)
 have hb3:Below w.heap.size w (w2.alloc (.cells #[.slice Aa na ca,.slice Ab nb cb,.slice Ac nc cc,.slice Ad nd cd] 76)):=B0.1.trans ((B2.1.alloc B2.1.size _).mono (by have:=Z0.1;omega));have hr3:(w2.alloc (.cells #[.slice Aa na ca,.slice Ab nb cb,.slice Ac nc cc,.slice Ad nd cd] 76)).heap[w.heap.size]? =some (.cells #[.int .i64 0,.int .i64 0,.int .i64 0,.int .i64 0,.int .i64 0,.int .i64 0,.int .i64 0,.int .i64 0] abw (0,0)):=((B2.1.alloc B2.1.size _).block _ (by have:=Z0.1;omega)).trans G0.1;generalize w2.alloc (.cells #[.slice Aa na ca,.slice Ab nb cb,.slice Ac nc cc,.slice Ad nd cd] 76)=W3 at*;have fz:=fun k=>Fr W3 w.heap.size k _ _ hr3
 have y0:=Co W3 w.heap.size 0 _ _ _ hr3;have y1:=Co W3 w.heap.size 1 _ _ _ hr3;have y2:=Co W3 w.heap.size 2 _ _ _ hr3;have y3:=Co W3 w.heap.size 3 _ _ _ hr3;have y4:=Co W3 w.heap.size 4 _ _ _ hr3;have y5:=Co W3 w.heap.size 5 _ _ _ hr3;have y6:=Co W3 w.heap.size 6 _ _ _ hr3;have y7:=Co W3 w.heap.size 7 _ _ _ hr3;simp at y0 y1 y2 y3 y4 y5 y6 y7;have B3:=Aj hb3;have R3:=Aj hr3;clear hb3 hr3 B2;go_wp2_with (go_at_call 36;refine(CL.1 _).mono ?_;rintro e w4 ⟨c4,rfl,hc4,rfl⟩;have Ux:=Aj hc4;clear hc4);refine Bi (v:= .agg #[.int .i64 c4,.int .i64 f,.int .i64 0,.int .i64 0,.int .i64 0,.int .i64 0,.int .i64 0,.int .i64 0]) ?_ rfl ⟨c4,_,_,_,_,_,_,rfl,⟨fun h=>absurd h Ux.1.1,fun h=>absurd h HF0.1⟩,Ux.1.2,?_⟩
 ·exact bG (fn:=Tryz.f10) (a:=2) (T1:=30) rfl _ _ w.heap.size _ _ _ _ rfl (UM _ w.heap.size _ _ _ _ _ _ _ _ _ _ _ _ _ _ _ _ R3.1) underlying30 rfl kr
 ·exact B3.1.grown (KN _ w.heap.size _ _ _ _ _ _ _ _) B3.1.size (fun r e=>by cases e;exact Nr _)
end
section
open Go.RowKit Go.Shelf
theorem jV.bC {w base n c k A hs b B} (h:w.ownsRow base 54 1 (.slice A n c) n ((hs.take k).map (·.1))) (hh:Zg w B b hs) (hB:B≤w.heap.size) (hk:k=b.length):jV w w.heap.size A n c (Bk.sets b):=by
 have hl:=hh.1;rw[iM om]at h;refine⟨_,Rd.bC h,by unfold Bk.sets;simp[hl],fun i l hl'=>?_⟩;unfold Bk.sets at hl';rw[BV]at hl';obtain⟨s,hs',rfl⟩:=Dh.1 hl';obtain⟨hi,e0⟩:=kT.1 hs';obtain⟨A1,n1,c1,A2,n2,c2,e,q1,q2⟩:=hh.2 i om hi;refine⟨A1,n1,c1,?_,?_⟩
 ·rw[BV,ja om];simp[e]
 ·rw[←e0];exact q1.more hB
def ah7 (w:World) (R:Bk.ic×Int) (e:Ending) (w':World):Prop:=
 Below w.heap.size w w'∧((R.2≠0∧e= .returned (.tuple #[.pointer none,.int .i64 R.2]))∨
  (R.2=0∧∃p q A n c A2 n2 c2 E,e= .returned (.tuple #[.pointer (some ⟨p,0,none⟩),.int .i64 0])∧w'.heap[p]? =some (.cells #[.pointer (some ⟨q,0,none⟩)] 88 (0,0))∧
   w'.heap[q]? =some (.cells #[.slice A n c,.slice A2 n2 c2] 86 (0,0))∧dY w' w'.heap.size A n c R.1∧cZ w' w'.heap.size A2 n2 c2 E∧Ps.rD (Ps.fu (Bk.sets R.1) 0) E))
theorem UO (A n c l w) (hv:bf w w.heap.size A n c l) (hn:n≤140737488353000) (hs:EE l) (hs2:(Bk.dec l).2=0→Ps.Sets (Bk.sets (Bk.dec l).1)) (hG:Gl w):
  Calls prog 11 #[.slice A n c] w (ah7 w (Bk.dec l)):=by
 have DE:=Aj (EF A n c l w hv hn hs hG);generalize Bk.dec l=R at*;obtain⟨b,f⟩:=R;have HS2:=Aj hs2;clear hv hs hs2 hG;by_cases hf:f=0
 ·subst hf;have hset:=Aj (HS2.1 rfl);go_enter func11,ntmps11;go_upto_region 6 with(go_at_call 9;refine DE.1.mono ?_;rintro e w2 ⟨A9,n9,c9,rfl,hK,hb⟩;have HK:=Aj hK;have B2:=Aj hb;clear hK hb DE)
  have hcp:=HK.1.cap;unfold maxLen at hcp;obtain⟨hc1,hc2⟩:=hcp;have hn9:=Aj HK.1.len;have hnb:n9≤1000000:=by
   have h1:=Ps.uw (Bk.sets b);have h2:=hset.1.2;have h3:(Bk.sets b).length=b.length:=by unfold Bk.sets;simp
   rw[hn9.1];omega
  obtain⟨hs,hrd,EU,IY⟩:=HK.1;have HRD:=Aj hrd;have Qi:Kept (Zg w2 w2.heap.size b hs):=⟨⟨EU,IY⟩⟩
  clear hrd EU IY;go_loopw [6,19] (fun o i wr=>∃k:Nat,k≤n9∧i= .int .i64 k∧∃A2 c2,o= .slice A2 k c2∧Kept (wr.ownsRow w2.heap.size 54 1 (.slice A2 k c2) k ((hs.take k).map (·.1)))∧Below w2.heap.size w2 wr) (fun _ i _=>n9-(intOf i).toNat)
  case atStart=>exact⟨0,bH _,rfl,none,0,rfl,⟨AX _ _ _ _⟩,Ae _ _⟩
  case round=>
   obtain⟨k,hk,rfl,A2,c2,rfl,ho,hbw⟩:=hrel;by_cases hlt:k<n9
   ·have hkh:k<hs.length:=by rw[Qi.1.1,←hn9.1];exact hlt
    have hkb:k<b.length:=by rw[←hn9.1];exact hlt
    obtain⟨A1,n1,c1,A3,n3,c3,he,-,-⟩:=Qi.1.2 k hkh hkb;obtain⟨b0,off,rfl,kK,hc⟩:=HRD.1.2.2.2 om;obtain⟨g1,g2⟩:=dK hs k hkh;rw[he]at g1 g2;have r0:=(hbw.cell (p:=⟨b0,off+k*2,none⟩) (by show b0<_;exact kK)).trans (hc _ _ g1);have r1:=(hbw.cell (p:=⟨b0,off+(k*2+1),none⟩) (by show b0<_;exact kK)).trans (hc _ _ g2);rw[←fA]at r1;have hT:Kept ((hs.take (k+1)).map (·.1)=(hs.take k).map (·.1)++[.slice A1 n1 c1]):=⟨by rw[Ts hkh,dR,he];rfl⟩
    have BW:=Aj hbw;have kP:=Aj hbw.size;clear hc g1 g2 he kK hkh hkb hbw;have P3:Kept (∀o o',((wr.alloc o).alloc o').heap[wr.heap.size+1]? =some o'):=⟨fun o o'=>by have:=AL (wr.alloc o) o';simpa using this⟩
    obtain⟨i0,hi0,hz0,hz1,hz2⟩:=AV JY;go_wp2_with (at_builtin;refine aR _ rfl (.tmp 23) (.tmp 26) _ rfl w2.heap.size 54 i0 (.slice none 0 0) 1 24 underlying81 hi0 hz0 hz1 hz2 rfl Ah A2 k c2 _ rfl (Oa (Oa ho.1 _) _) (wr.heap.size+1+1) _ _ _ [.slice A1 n1 c1] rfl (Rd.aa7 (P3.1 _ _)) (by intro u hu;rw[gJ.1 hu];rfl) (by unfold maxLen;omega) om (by have:=kP.1;simp;omega) ?_;intro A4 c4 w5 hown hgrow hat;have O5:=Aj hown;have B5:=Aj (((BW.1.alloc kP.1 _).alloc (by have:=kP.1;simp;omega) _).grown hgrow (by have:=kP.1;simp;omega) (fun r e=>(ae ho.1 r e).1));clear hown hgrow hat);go_roundw
    case rel=>exact⟨k+1,om,by go_num,A4,c4,rfl,⟨by rw[hT.1];exact O5.1⟩,B5.1⟩
    case measure=>simp[intOf];omega
   ·obtain rfl:k=n9:=by omega
    have hll:=jV.bC ho.1 (Qi.1.below hbw) hbw.size hn9.1;have BU:=Aj (qf A2 k c2 (Bk.sets b) wr hll hset.1);have BW:=Aj hbw;clear hll hbw ho;go_wp2_with (go_at_call 37;refine BU.1.mono ?_;rintro e w6 ⟨A5,n5,c5,E,rfl,hi,QF,hb6⟩;have HI:=Aj hi;have O5:=Aj QF;have B6:=Aj hb6;clear hi QF hb6 BU);go_ret2;have hal:=((Ae w6.heap.size w6).alloc Ai (.cells #[.slice A9 k c9,.slice A5 n5 c5] 86)).alloc sm (.cells #[.pointer (some ⟨w6.heap.size,0,none⟩)] 88);have h26:=BW.1.trans (B6.1.mono BW.1.size);refine⟨B2.1.trans ((h26.trans (hal.mono h26.size)).mono B2.1.size),.inr ⟨rfl,w6.heap.size+1,w6.heap.size,A9,k,c9,A5,n5,c5,E,rfl,?_,?_,?_,?_,HI.1⟩⟩
    ·have:=AL (w6.alloc (.cells #[.slice A9 k c9,.slice A5 n5 c5] 86)) (.cells #[.pointer (some ⟨w6.heap.size,0,none⟩)] 88);simpa using this
    ·exact(Aw _ _ _ sm).trans (AL w6 _)
    ·exact(HK.1.below (h26.trans (hal.mono h26.size))).more (Lt h26.size hal.size)
    ·exact(O5.1.rd.below hal Ai).more hal.size
 ·have hf1:(f !=0)=true:=by simpa using hf
  have HF:=Aj hf;clear hf HS2;go_enter func11,ntmps11;go_wp2_with (go_at_call 9;refine DE.1.mono ?_;rintro e w2 ⟨A9,n9,c9,rfl,hK,hb⟩;have B2:=Aj hb;clear hK hb DE);go_ret2;exact⟨B2.1,.inl ⟨HF.1,rfl⟩⟩
end
section
open Go.RowKit Go.Shelf
theorem P5 (A n c B b w) (hv:dY w B A n c b) (hB:B≤w.heap.size) (hf:∀s∈b,Lb.Fit s.1):
  Calls prog 19 #[.slice A n c] w fun e w'=>∃v:Bool,e= .returned (.bool v)∧(v=true→Bk.qW b∧Bk.bR b=0)∧Below w.heap.size w w':=by
 have LG:=Aj (GI A n c B b w hv hB hf);have CK:=Aj (fun W (h:Below w.heap.size w W) (hs:Bk.qW b)=>FP A n c B b W (hv.below (h.mono hB)) (Lt hB h.size) (by have:=hs.dm;omega) hf);clear hv hf;go_enter func19,ntmps19;go_wp2_with (first
  |(go_at_call 47;refine(CK.1 w2 B2.1 (HV.1 h0')).mono ?_;rintro e w3 ⟨u,rfl,hu,hg⟩;have HU:=Aj hu;have B3:=Aj (B2.1.trans (hg.below.mono B2.1.size));clear hu hg)
  |(go_at_call 28;refine LG.1.mono ?_;rintro e w2 ⟨v,rfl,hv,hb⟩;have HV:=Aj hv;have B2:=Aj hb;clear hv hb;by_cases h0':v=0))
 ·go_ret;refine⟨_,rfl,fun h=>?_,B3.1⟩;exact⟨HV.1 h0',HU.1 (by simpa using h)⟩
 ·go_ret;exact⟨_,rfl,(fun h=>by cases h),B2.1⟩
end
section
open Go.RowKit Go.Shelf
def Tp.sb:Bk.ic:=[([⟨⟨#[97]⟩,⟨#[49]⟩⟩],[(1,2)])]
theorem Tp.UQ:Bk.bR Tp.sb=0:=by decide+kernel
theorem Tp.Zk:∀s∈Tp.sb,Cs.In s.2:=by
 intro s hs p hp;unfold Tp.sb at hs;rw[gJ]at hs;subst hs;simp only[gJ]at hp;subst hp;exact⟨by unfold Tm.In;omega,Ah⟩
theorem Tp.UR:Bk.qW Tp.sb:=⟨Ah,Ah,Ah,by decide+kernel⟩
theorem Bk.qW.ok {b} (h:Bk.qW b) (hc:Bk.bR b=0) (hi:∀s∈b,Cs.In s.2):Bk.Ok b:=by
 have hw:=h.wt;refine⟨hc,hi,om,by have:=Bk.ME h;omega,fun T ht=>?_,fun T E ho i hi4=>?_⟩
 ·have:=Bk.MB (T:=T) (by have:=(h.tab hc ht).1;omega) h;omega
 ·have:=h.sec hc ho i hi4;split at this<;>omega
theorem Ly.P6 (D) (hD:Ly.tot D 4≤140737488352000):(Ly.asm D).length≤Ly.tot D 4+200:=by
 rw[Ly.yE];unfold Ly.body;rw[La];have h1:=Ly.sU D hD 4 om;have h2:=Ly.xh D hD;have h3:=Wr.lJ 5 (Ly.iT (Ly.off D) 4) om;omega
theorem Rd.two (w:World) (a b t):Rd (w.alloc (.cells #[a,b] t)) (w.heap.size+1) 2 (some ⟨w.heap.size,0,none⟩) 1 1 [a,b]:=
 ⟨Nr _,by unfold maxLen;omega,rfl,fun _=>⟨_,0,rfl,om,fun i u hu=>by
  rw[cK];exact(Ao w _ _ _ i).trans (by simpa using hu)⟩⟩
theorem Bk.qW.short {b L} (h:Bk.qW b) (hc:Bk.bR b=0) (hi:∀s∈b,Cs.In s.2) (hf:Bk.File b L):EE L∧L.length≤140737488353000∧Bk.dec L=(b,0):=by
 obtain⟨T,E,ho,rfl⟩:=hf;have htot:=(h.ok hc hi).tot ho;have hle:=Ly.P6 (Bk.D4 T E b) om;refine⟨fun i hi4=>?_,om,Bk.Te hc hi (by have:=h.wt;omega) ?_ ⟨T,E,ho,rfl⟩⟩
 ·rw[Ly.Fs _ om i hi4];exact h.sec hc ho i hi4
 ·omega
theorem xY (w):Calls prog 33 #[] w fun e w'=>∃A n c,e= .returned (.slice A n c)∧dY w' w'.heap.size A n c Tp.sb∧Below w.heap.size w w':=by
 go_enter func33,ntmps33;go_wp2;go_ret;refine⟨_,_,_,rfl,?_,(((Ae _ w).alloc Ai _).alloc sm _).alloc (by simp;try omega) _⟩;have r1:=Rd.two w (.string ⟨#[97]⟩) (.string ⟨#[49]⟩) 59;have r2:=Rd.two (w.alloc (.cells #[.string ⟨#[97]⟩,.string ⟨#[49]⟩] 59)) (.int .i64 1) (.int .u64 2) 127;have r3:=Rd.two ((w.alloc (.cells #[.string ⟨#[97]⟩,.string ⟨#[49]⟩] 59)).alloc (.cells #[.int .i64 1,.int .u64 2] 127)) (.slice (some ⟨w.heap.size,0,none⟩) 1 1) (.slice (some ⟨w.heap.size+1,0,none⟩) 1 1) 57;simp only[AU]at r1 r2 r3;have b2:Below (w.heap.size+1+1) ((w.alloc (.cells #[.string ⟨#[97]⟩,.string ⟨#[49]⟩] 59)).alloc (.cells #[.int .i64 1,.int .u64 2] 127)) (((w.alloc (.cells #[.string ⟨#[97]⟩,.string ⟨#[49]⟩] 59)).alloc (.cells #[.int .i64 1,.int .u64 2] 127)).alloc (.cells #[.slice (some ⟨w.heap.size,0,none⟩) 1 1,.slice (some ⟨w.heap.size+1,0,none⟩) 1 1] 57)):=(Ae _ _).alloc sm _;have b1:Below (w.heap.size+1) (w.alloc (.cells #[.string ⟨#[97]⟩,.string ⟨#[49]⟩] 59)) ((w.alloc (.cells #[.string ⟨#[97]⟩,.string ⟨#[49]⟩] 59)).alloc (.cells #[.int .i64 1,.int .u64 2] 127)):=(Ae _ _).alloc sm _;refine⟨[(.slice (some ⟨w.heap.size,0,none⟩) 1 1,.slice (some ⟨w.heap.size+1,0,none⟩) 1 1)],Rd.more r3 sm,rfl,fun i a a'=>?_⟩;have hi:i=0:=by simpa using a
 subst hi;exact⟨_,_,_,_,_,_,rfl,Rd.more (Rd.below (Rd.below r1 b1) (b2.mono om)) (by simp;try omega),Rd.more (Rd.below r2 b2) sm⟩
theorem aew (a b c d e f g h w):(Instr.field 30 (.agg #[a,b,c,d,e,f,g,h]) 0).run prog w= .ok a w:=kr
theorem KR (w) (hG:Gl w):Calls prog 8 #[] w fun e w'=>e= .returned (.bool true)∧Below w.heap.size w w':=by
 have HG:=Aj hG;have SM:=Aj (xY w);have EN:=Aj (fun(w1:World) (A:Option Addr) (n c:Nat) (hb:Below w.heap.size w w1) (hk:dY w1 w1.heap.size A n c Tp.sb)=>EB A n c Tp.sb w1 hk (Tp.UR.ok Tp.UQ Tp.Zk) (hG.below hb));clear hG;go_enter func8,ntmps8;go_upto_region 2 with(first
  |(go_at_call 16;refine(EN.1 w1 A1 n1 c1 B1.1 K1.1).mono ?_;rintro e w2 ⟨A2,n2,c2,L,rfl,hf,ho,hb⟩;have HF:=Aj hf;have O2:=Aj ho;have B2:=Aj (B1.1.trans (hb.mono B1.1.size));clear hf ho hb EN K1 B1)
  |(go_at_call 33;refine SM.1.mono ?_;rintro e w1 ⟨A1,n1,c1,rfl,hk,hb⟩;have K1:=Aj hk;have B1:=Aj hb;clear hk hb SM))
 obtain⟨s1,s2,s3⟩:=Tp.UR.short Tp.UQ Tp.Zk HF.1;have DE:=Aj (EF A2 n2 c2 L w2 O2.1.rd (by rw[O2.1.len];exact s2) s1 (HG.1.below B2.1));rw[s3]at DE;clear s1 s2 s3;go_upto_region 3 with(go_at_call 9;refine DE.1.mono ?_;rintro e w3 ⟨A3,n3,c3,rfl,hk,hb⟩;have K3:=Aj hk;have B3:=Aj (B2.1.trans (hb.mono B2.1.size));clear hk hb DE)
 have SM2:=Aj (xY w3);have EQ:=Aj (fun(w4:World) (A4:Option Addr) (n4 c4:Nat) (hb:Below w3.heap.size w3 w4) (hk:dY w4 w4.heap.size A4 n4 c4 Tp.sb)=>nu A3 A4 n3 c3 n4 c4 w3.heap.size w4.heap.size Tp.sb w4 (K3.1.below hb) hk hb.size Ai);have hpe:Ly.pe []=3:=by decide+kernel
 have VE:=Aj (fun(w5:World) (hb:Below w.heap.size w w5)=>by
  have h:=PZ none 0 0 [] w5 (Rd.nil w5 _ 1 0 none (by unfold maxLen;omega)) om (HG.1.below hb) (by rw[hpe];decide);rw[hpe]at h;exact h)
 clear hpe;have fr0:=aew;go_wp2_with (first
  |(go_at_call 10;refine(VE.1 w5 B5.1).mono ?_;rintro e w6 ⟨q,z0,z1,z2,z3,t1,t2,rfl,-,hq,hb⟩;obtain rfl:=hq rfl;have B6:=Aj (B5.1.trans (hb.mono B5.1.size));clear hq hb VE)
  |(go_at_call 15;refine(EQ.1 w4 A4 n4 c4 B34.1 K4.1).mono ?_;rintro e w5 ⟨rfl,hg⟩;have B5:=Aj (B4.1.trans (hg.below.mono B4.1.size));clear hg EQ)
  |(go_at_call 33;refine SM2.1.mono ?_;rintro e w4 ⟨A4,n4,c4,rfl,hk,hb⟩;have K4:=Aj hk;have B34:=Aj hb;have B4:=Aj (B3.1.trans (hb.mono B3.1.size));clear hk hb SM2))
 go_ret;exact⟨rfl,B6.1⟩
end
namespace Qy
open Lb
def Uq (l:List aQ):Prop:=l.Pairwise fun x y=>x.n≠y.n
def val (l:List aQ) (n:ByteArray):ByteArray:=(Lb.get l n).getD ByteArray.empty
theorem EH (l n):Lb.get l n=none↔n∉l.map (·.n):=by
 unfold Lb.get;rw[Option.map_eq_none_iff,List.find?_eq_none];simp only[Ch,bY,not_exists,not_and]
theorem oK {l} (hu:Uq l) (n v):Lb.get l n=some v↔(⟨n,v⟩:aQ)∈l:=by
 induction l with
 |nil=>simp[Lb.get]
 |cons y l ih=>
  obtain⟨h1,h2⟩:=AQ.1 hu;have ih:=ih h2;by_cases hy:y.n=n
  ·have e:Lb.get (y::l) n=some y.v:=by unfold Lb.get;rw[List.find?_cons];simp[hy]
   rw[e,eH];constructor
   ·intro h
    left
    cases y;simp only[gT]at h hy;rw[←hy,←h]
   ·rintro(h|h)
    ·rw[←h]
    ·exact absurd hy (h1 _ h)
  ·have e:Lb.get (y::l) n=Lb.get l n:=by unfold Lb.get;rw[List.find?_cons];simp[hy]
   rw[e,ih,eH];constructor
   ·exact .inr
   ·rintro(h|h)
    ·exact absurd (by rw[←h]) hy
    ·exact h
theorem Nn {l} (hu:Uq l) (n v):val l n=v↔((⟨n,v⟩:aQ)∈l∨(v=ByteArray.empty∧n∉l.map (·.n))):=by
 unfold val;cases h:Lb.get l n with
 |none=>
  have h1:=(EH l n).1 h;rw[Option.getD_none];constructor
  ·exact fun e=> .inr ⟨e.symm,h1⟩
  ·rintro(h2|⟨h2,-⟩)
   ·exact absurd (bY.2 ⟨_,h2,rfl⟩) h1
   ·exact h2.symm
 |some u=>
  have h1:=(oK hu n u).1 h;rw[Dq];constructor
  ·intro e;subst e;exact .inl h1
  ·rintro(h2|⟨-,h2⟩)
   ·have:=(oK hu n v).2 h2;rw[h]at this;exact Oj this
   ·exact absurd (bY.2 ⟨_,h1,rfl⟩) h2
def ok1 (l:List aQ) (m:aQ×Bool):Bool:=decide (val l m.1.n=m.1.v) !=m.2
def ok (l:List aQ) (ms:List (aQ×Bool)):Bool:=ms.all (ok1 l)
end Qy
end Go.Proofs.YtongopommlghgaaGreatDoor
