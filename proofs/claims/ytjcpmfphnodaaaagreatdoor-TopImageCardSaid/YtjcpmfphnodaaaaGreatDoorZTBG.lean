/- Part 33. -/
import Derived.Test.YtjcpmfphnodaaaaGreatDoorZTBF
namespace Go.Proofs.YtjcpmfphnodaaaaGreatDoor
set_option maxRecDepth 100000
set_option maxHeartbeats 0
open _root_.Go.Proofs.Tryz
open Go.RowKit Go.Shelf
section
attribute [local go_sem] Oper.semAt_some
theorem Rd.noc {w w'} {sz n c} {A} {xs} {row} (h:Rd w w.heap.size sz A n c xs) (hg:w.grownBy w' row) (hr:∀r,row=some r→∃o:Obj,w.heap[r]? =some o∧o.isCells=false):Rd w' w'.heap.size sz A n c xs:=by
 obtain⟨h1,h2,h3,h4⟩:=h;refine⟨h1,h2,h3,fun hn=>?_⟩;obtain⟨b,off,e,hb,hc⟩:=h4 hn;refine⟨b,off,e,jB hb hg.size,fun i u hu=>?_⟩;have hcu:=hc i u hu;refine(AL (a:=⟨b,off+i,none⟩) (hg.block b hb (fun q=>?_))).trans hcu;obtain⟨o,ho,hoc⟩:=hr b q.symm;unfold World.cell? at hcu;cases o<;>simp_all [Obj.isCells]
theorem Boxed.aU {w w'} {bx} {t} {v} (h:Boxed w bx t v) (hb:Below w.heap.size w w'):Boxed w' bx t v:=(hb.block _ (Ge.1 h).1).trans h
def afH (w:World) (b:Bk.iP) (e:Ending) (w':World):Prop:=
 ∃V T E,e= .returned (.tuple #[.agg (Ly.jd V),.int .i64 0])∧Bk.Of b T E∧Four w' w'.heap.size V (Bk.D4 T E b)∧Below w.heap.size w w'
theorem Sl (A) (n c) (b) (w) (hv:iE w w.heap.size A n c b) (hb:Bk.Ok b) (hG:Gl w):
  Calls prog 41 #[.slice A n c] w (afH w b):=by
 have hmf:∀(fn:Fn) (first cap:Array Value) (w:World),(Instr.makeFunc fn first cap).run prog w= .ok (.func fn first cap) w:=fun _ _ _ _=>rfl
 obtain⟨hlc,hcm⟩:=hv.cap;unfold maxLen at hcm;have hn:=hv.len;have hnb:n≤500000:=by rw[hn];exact hb.len
 obtain⟨hs,hrd,hhl,hhe⟩:=hv;have hHD:Xe w w.heap.size b hs:=⟨hhl,hhe⟩
 obtain⟨W0,hW0⟩:∃W0,W0=w.alloc (.cells #[.slice none 0 0,.slice none 0 0,.slice none 0 0,.slice none 0 0] 76):=⟨_,rfl⟩
 have hz0:W0.heap.size=w.heap.size+1:=by rw[hW0];simp
 have hb0:Below w.heap.size w W0:=by rw[hW0];exact(Ae _ w).alloc Ai _
 have hg0:W0.heap[w.heap.size]? =some (.cells #[.slice none 0 0,.slice none 0 0,.slice none 0 0,.slice none 0 0] 76 (0,0)):=by rw[hW0];exact Av w _
 have hk0:iE W0 w.heap.size A n c b:=iE.below ⟨hs,hrd,hhl,hhe⟩ hb0;have CK:=Aj (mK A n c w.heap.size b W0 hk0 om (by have:=hb.cK;omega) hb.fit);rw[hb.bN]at CK;have HW0:=Aj hW0.symm;have HN:=Aj hn;have HB:=Aj hb;have HG:=Aj hG;have HRD:=Aj hrd;have NV:=Aj hHD;have B0:=Aj hb0;have G0:=Aj hg0;have Z0:=Aj hz0;clear hW0 hn hb hG hrd hHD hhl hhe hb0 hg0 hz0 hk0;refine(Bd (n:=9)).1 ?_;refine callsIn_of_wp_marks func41 rfl trivial ?_ rfl;simp only[ntmps41,Ca,Lc,AB,Nat.reduceAdd,Nat.reduceSub,Cg,Ch,Cz,Cm,Ay,AU];refine Bl.2 ?_;go_upto_region 1 with fail;rw[HW0.1];go_upto_region 5 with(go_at_call 17;refine CK.1.mono ?_;rintro e w1 ⟨rfl,g1⟩;have B1:=Aj g1.below;clear g1 CK)
 have mR:=fun W=>NG n om W
 have mL:=fun W=>Sg n om W
 go_upto_region 8 with fail;obtain⟨W4,Gs⟩:∃W4,W4=(((w1.alloc (.cells #[.slice none 0 0] 22)).alloc (.cells (madeCells #[cO,cO] (n*2)) qo)).alloc (.cells #[.slice (some ⟨w1.heap.size+1,0,none⟩) n n] 138)).alloc (.cells (madeCells #[cO] n) 54):=⟨_,rfl⟩
 have z1:Kept (w.heap.size<w1.heap.size):=⟨by have:=B1.1.size;have:=Z0.1;omega⟩
 have z4:Kept (W4.heap.size=w1.heap.size+4):=⟨by rw[Gs];simp⟩
 have b4:Kept (Below w1.heap.size w1 W4):=⟨by rw[Gs];exact((((Ae _ w1).alloc Ai _).alloc sm _).alloc (by simp;omega) _).alloc (by simp;omega) _⟩
 have hd4:Kept (Boxed W4 w1.heap.size 22 cO):=⟨by rw[Gs];exact(((Boxed.new w1 _ _).alloc _).alloc _).alloc _⟩
 have hl4:Kept (Boxed W4 (w1.heap.size+1+1) 138 (.slice (some ⟨w1.heap.size+1,0,none⟩) n n)):=⟨by
  rw[Gs];have:=Boxed.new ((w1.alloc (.cells #[.slice none 0 0] 22)).alloc (.cells (madeCells #[cO,cO] (n*2)) qo)) 138 (.slice (some ⟨w1.heap.size+1,0,none⟩) n n);simp only[AO]at this;exact Boxed.alloc this _⟩
 have hf4:Kept (zF W4 (w1.heap.size+1) (w1.heap.size+1+1+1) n 0 hs):=⟨by
  rw[Gs];exact zF.made w1 n hs _ _⟩
 have bw4:Kept (Below w.heap.size w W4):=⟨B0.1.trans ((B1.1.mono (by have:=Z0.1;omega)).trans (b4.1.mono (by have:=z1.1;omega)))⟩
 have gr4:Kept (W4.heap[w.heap.size]? =some (.cells #[.slice none 0 0,.slice none 0 0,.slice none 0 0,.slice none 0 0] 76 (0,0))):=⟨((b4.1.block _ z1.1).trans (B1.1.block _ (by have:=Z0.1;omega))).trans G0.1⟩
 rw[←Gs];obtain⟨gd,hgd⟩:∃gd,gd=w1.heap.size:=⟨_,rfl⟩
 obtain⟨p,hp⟩:∃p,p=gd+1:=⟨_,rfl⟩
 obtain⟨gl,hgl⟩:∃gl,gl=gd+1+1:=⟨_,rfl⟩
 obtain⟨q,hq⟩:∃q,q=gd+1+1+1:=⟨_,rfl⟩
 rw[←hgd]at z1 z4 hd4 hl4 hf4⊢;rw[←hgl,←hp]at hl4;rw[←hq,←hp]at hf4;rw[←hq,←hgl,←hp];have E1:=Aj hp;have E2:=Aj hgl;have E3:=Aj hq;clear Gs hgd hp hgl hq b4 B1 mR mL;go_loopw [32] (fun i wr=>∃k:Nat,k≤n∧i= .int .i64 k∧Kept (zF wr p q n k hs)∧Kept (Boxed wr gd 22 cO)∧Kept (Boxed wr gl 138 (.slice (some ⟨p,0,none⟩) n n))∧Kept (Below w.heap.size w wr)∧
  Kept (wr.heap[w.heap.size]? =some (.cells #[.slice none 0 0,.slice none 0 0,.slice none 0 0,.slice none 0 0] 76 (0,0)))) (fun i _=>n-(intOf i).toNat)
 case atStart=>exact⟨0,bE _,rfl,hf4,hd4,hl4,bw4,gr4⟩
 case round=>
  clear hf4 hd4 hl4 bw4 gr4 z4;obtain⟨k,hk,rfl,hf,hd,hl,hbw,hgr⟩:=hrel;by_cases hlt:k<n
  ·have hkh:k<hs.length:=by rw[NV.1.1,←HN.1];exact hlt
   have hkb:k<b.length:=by rw[←HN.1];exact hlt
   obtain⟨A1,n1,c1,A2,n2,c2,he,-,-⟩:=NV.1.2 k hkh hkb;obtain⟨b0,off,rfl,lX,hc⟩:=HRD.1.2.2.2 om;obtain⟨g1,g2⟩:=fF hs k hkh;rw[he]at g1 g2;have hls:Kept (ve hs k= .slice A1 n1 c1):=⟨by rw[Jy hkh,he]⟩
   have r0:=(hbw.1.cell (p:=⟨b0,off+k*2,none⟩) (by show b0<_;exact lX)).trans (hc _ _ g1);have r1:=(hbw.1.cell (p:=⟨b0,off+(k*2+1),none⟩) (by show b0<_;exact lX)).trans (hc _ _ g2);rw[←gM]at r1;have hb5:=hbw.1.alloc hbw.1.size (.cells #[.slice A1 n1 c1,.slice A2 n2 c2] 57);have al5:=(Ae wr.heap.size wr).alloc Ai (.cells #[.slice A1 n1 c1,.slice A2 n2 c2] 57);have hf5:=hf.1.below al5;have hd5:=hd.1.alloc (.cells #[.slice A1 n1 c1,.slice A2 n2 c2] 57);have hl5:=hl.1.alloc (.cells #[.slice A1 n1 c1,.slice A2 n2 c2] 57);have hgr5:=(al5.block w.heap.size (by have:=hf.1.lt.1;have:=E1.1;have:=z1.1;omega)).trans hgr.1;have hx5:=Av wr (.cells #[.slice A1 n1 c1,.slice A2 n2 c2] 57);obtain⟨x5,hxe⟩:∃x,x=wr.heap.size:=⟨_,rfl⟩
   rw[←hxe]at hx5;have hxp:Kept (p<x5∧q<x5∧gl<x5∧gd<x5):=⟨by have h1:=hf.1.lt;have h3:=E1.1;have h4:=E2.1;have h5:=E3.1;omega⟩
   clear hf hd hl hbw hgr hc g1 g2 he lX al5 hkh hkb;go_wp2_with fail;rw[←hxe];clear hxe;generalize wr.alloc (.cells #[.slice A1 n1 c1,.slice A2 n2 c2] 57)=W5 at*;obtain⟨⟨v1,y1⟩,y2,⟨v2,y3⟩,y4⟩:=hf5.cells hlt;have ab9:=hf5.ne;have s0:=Co _ _ 0 _ _ _ hx5;have s0':W5.cell? ⟨x5,0,none⟩=some (.slice A1 n1 c1):=s0;have l0:=hl5.cell;have S1:(W5.setCell ⟨p,k*2,none⟩ (.slice A1 n1 c1)).cell? ⟨gl,0,none⟩=some (.slice (some ⟨p,0,none⟩) n n):=(Bh _ _ _ _ (by intro h;have:=congrArg Addr.block h;simp only[]at this;have:=E1.1;have:=E2.1;omega)).trans l0;have S2:(W5.setCell ⟨p,k*2,none⟩ (.slice A1 n1 c1)).cell? ⟨x5,0,none⟩=some (.slice A1 n1 c1):=(Bh _ _ _ _ (by intro h;have:=congrArg Addr.block h;simp only[]at this;have:=hxp.1.1;omega)).trans s0';have S3:(W5.setCell ⟨p,k*2,none⟩ (.slice A1 n1 c1)).cell? ⟨q,k,none⟩=some v2:=(Bh _ _ _ _ (by intro h;have:=congrArg Addr.block h;simp only[]at this;omega)).trans y3;have T1:((W5.setCell ⟨p,k*2,none⟩ (.slice A1 n1 c1)).setCell ⟨q,k,none⟩ (.slice A1 n1 c1)).cell? ⟨gl,0,none⟩=some (.slice (some ⟨p,0,none⟩) n n):=(Bh _ _ _ _ (by intro h;have:=congrArg Addr.block h;simp only[]at this;have:=E3.1;have:=E2.1;omega)).trans S1;have T2:((W5.setCell ⟨p,k*2,none⟩ (.slice A1 n1 c1)).setCell ⟨q,k,none⟩ (.slice A1 n1 c1)).cell? ⟨x5,0,none⟩=some (.slice A1 n1 c1):=(Bh _ _ _ _ (by intro h;have:=congrArg Addr.block h;simp only[]at this;have:=hxp.1.2.1;omega)).trans S2;have PUT:=Aj (hf5.put hlt);rw[hls.1]at PUT;have gp1:=av W5 ⟨p,k*2,none⟩ (.slice A1 n1 c1);have gp2:=av (W5.setCell ⟨p,k*2,none⟩ (.slice A1 n1 c1)) ⟨q,k,none⟩ (.slice A1 n1 c1);have HD6:Kept (Boxed ((W5.setCell ⟨p,k*2,none⟩ (.slice A1 n1 c1)).setCell ⟨q,k,none⟩ (.slice A1 n1 c1)) gd 22 cO):=⟨(hd5.kept gp1 (fun e=>by have:=Oj e;simp only[]at this;have:=E1.1;omega)).kept gp2 (fun e=>by have:=Oj e;simp only[]at this;have:=E3.1;omega)⟩
   have HL6:Kept (Boxed ((W5.setCell ⟨p,k*2,none⟩ (.slice A1 n1 c1)).setCell ⟨q,k,none⟩ (.slice A1 n1 c1)) gl 138 (.slice (some ⟨p,0,none⟩) n n)):=⟨(hl5.kept gp1 (fun e=>by have:=Oj e;simp only[]at this;have:=E1.1;have:=E2.1;omega)).kept gp2 (fun e=>by have:=Oj e;simp only[]at this;have:=E3.1;have:=E2.1;omega)⟩
   have xE:Kept (Below w.heap.size w ((W5.setCell ⟨p,k*2,none⟩ (.slice A1 n1 c1)).setCell ⟨q,k,none⟩ (.slice A1 n1 c1))):=⟨(hb5.grown gp1 hb5.size (fun r e=>by have e2:=Oj e;simp only[]at e2;have:=E1.1;have:=z1.1;omega)).grown gp2 (by have:=hb5.size;have:=gp1.size;omega) (fun r e=>by have e2:=Oj e;simp only[]at e2;have:=E3.1;have:=z1.1;omega)⟩
   have HG6:Kept (((W5.setCell ⟨p,k*2,none⟩ (.slice A1 n1 c1)).setCell ⟨q,k,none⟩ (.slice A1 n1 c1)).heap[w.heap.size]? =some (.cells #[.slice none 0 0,.slice none 0 0,.slice none 0 0,.slice none 0 0] 76 (0,0))):=⟨by
    rw[AF _ _ _ _ (by have:=E3.1;have:=z1.1;show w.heap.size≠q;omega),AF _ _ _ _ (by have:=E1.1;have:=z1.1;show w.heap.size≠p;omega)];exact hgr5⟩
   have hnq:=Aj ab9;clear hf5 hd5 hl5 hb5 hgr5 hx5 s0 gp1 gp2 hls ab9;go_region_held3 (fun w'=>w'.cell? ⟨gl,0,none⟩=some (.slice (some ⟨p,0,none⟩) n n)∧w'.cell? ⟨x5,0,none⟩=some (.slice A1 n1 c1)) (first|exact⟨l0,s0'⟩|exact⟨S1,S2⟩|exact⟨T1,T2⟩) (fail)
   all_goals
    go_wp2;go_roundw
    case rel=>exact⟨k+1,om,by go_num,⟨⟨PUT.1.rp,PUT.1.rq⟩⟩,HD6,HL6,⟨⟨xE.1.os,xE.1.tape,xE.1.output,xE.1.size,xE.1.block⟩⟩,HG6⟩
    case measure=>simp[intOf];try omega
  ·obtain rfl:k=n:=by omega
   obtain⟨fv,hfv⟩:∃fv,fv=Value.func (.func 83) #[] #[.pointer (some ⟨gd,0,none⟩),.pointer (some ⟨gl,0,none⟩)]:=⟨_,rfl⟩
   obtain⟨W7,hW7⟩:∃W7,W7=wr.alloc (.cells #[fv] 171):=⟨_,rfl⟩
   obtain⟨W8,hW8⟩:∃W8,W8=W7.alloc (.cells #[.slice A k c] 24):=⟨_,rfl⟩
   have a7:Below wr.heap.size wr W7:=by rw[hW7];exact(Ae _ _).alloc Ai _
   have a8:Below W7.heap.size W7 W8:=by rw[hW8];exact(Ae _ _).alloc Ai _
   have z7:W7.heap.size=wr.heap.size+1:=by rw[hW7];simp
   have z8:W8.heap.size=wr.heap.size+2:=by rw[hW8,AO,z7]
   have a78:=a7.trans (a8.mono a7.size);have NH:=Aj (hbw.1.trans (a78.mono hbw.1.size));have HF8:=Aj (hf.1.below a78);have HE8:=Aj ((hf.1.es (base:=w.heap.size) hd.1 hl.1).below a78);have Pt:Kept (Boxed W8 wr.heap.size 171 fv):=⟨by rw[hW8,hW7];exact Boxed.alloc (Boxed.new wr _ _) _⟩
   have hbx:Kept (Boxed W8 (wr.heap.size+1) 24 (.slice A k c)):=⟨by rw[hW8,←z7];exact Boxed.new W7 _ _⟩
   have acd:=Aj ((a78.block w.heap.size (by have:=hf.1.lt.1;have:=E1.1;have:=z1.1;omega)).trans hgr.1);have HW7:=Aj hW7.symm;have HW8:=Aj hW8.symm;have oH:Kept (w.heap.size<wr.heap.size):=⟨by have:=hf.1.lt.1;have:=E1.1;have:=z1.1;omega⟩
   have ace:=Aj (iE.below ⟨hs,HRD.1,NV.1.1,NV.1.2⟩ NH.1);obtain⟨fb,akV⟩:∃fb,fb=wr.heap.size:=⟨_,rfl⟩
   clear a7 a8 a78 hf hd hl hbw hgr hW7 hW8 hlt hk;go_wp2_with (go_at_call 84;rw[←hfv,HW7.1];refine(FZ _ _ _ _).mono ?_;rintro e w8 ⟨rfl,hw8⟩;rw[HW8.1]at hw8;subst hw8;clear HW8 HW7);have akW:=HB.1.cK;have hbs:w.heap.size≤w8.heap.size:=NH.1.size;have afJ:Kept (w.heap.size<w8.heap.size):=⟨by have h:=(Ge.1 hbx.1).1;have:=oH.1;omega⟩
   refine(Bl (n:=9)).1 ?_;refine wB Ah (gf:=138) (lb:= #[.pointer (some ⟨wr.heap.size+1,0,none⟩)]) rfl (enters_of func138 kr rfl)
    (En:=EnR) (O:=fun _=>False) (Kp:=iL w.heap.size) (L:=En.all 0 b)
    (by rintro r h;exact h.elim) (fun h k=>h.trans k) (fun W W' row hW hg hr=>iL.noc om hg (fun r e=>⟨by have:=(hr r e).1;omega,(hr r e).2⟩)) (fun x args W h=>by obtain⟨_,_,_,rfl,_⟩:=h;rfl)
    (fun pre W=>Es w.heap.size gd gl p k (ve hs) (En.dat pre) (En.cnt pre) W∧iL w.heap.size w8 W) (fun _ _ _=>False)
    (fun pre x a₁ W=>(Es w.heap.size gd gl p k (ve hs) (En.dat pre) (En.cnt pre) W∧iL w.heap.size w8 W)∧∃A7 n7 c7,a₁={tmps:= #[Value.slice A k c,undef,Value.pointer (some {block:=w.heap.size,off:=0}),Value.int IntKind.i64 0,Value.int IntKind.i64 0,Value.pointer (some {block:=gd,off:=0}),Value.pointer (some {block:=gl,off:=0}),Value.slice (some {block:=q,off:=0}) k k,u8,u9,Value.pointer (some {block:=wr.heap.size,off:=0}),Value.int IntKind.i64 (x.1:Int),Value.slice A7 n7 c7,undef,undef,undef,undef,undef,Value.slice A k c,Value.int IntKind.i64 0,Value.int IntKind.i64 0,Value.bool false,undef,undef,Value.slice A k c,Value.int IntKind.i64 (k:Int),Value.slice (some {block:=p,off:=0}) k k,Value.slice A k c,Value.int IntKind.i64 (k:Int),Value.slice (some {block:=q,off:=0}) k k,Value.slice A k c,Value.int IntKind.i64 (k:Int),Value.int IntKind.i64 (k:Int),Value.bool false,u34,u35,u36,u37,u38,u39,u40,u41,u42,u43,u44,u45,u46,u47,u48,Value.func (Fn.func 83) #[] #[Value.pointer (some {block:=gd,off:=0}),Value.pointer (some {block:=gl,off:=0})],Value.slice A k c,Value.func (Fn.func 138) #[] #[Value.pointer (some {block:=wr.heap.size+1,off:=0})],Value.int IntKind.i64 (x.1:Int),Value.slice A7 n7 c7,undef,undef,undef,undef,undef,undef,undef,undef,undef,undef,undef,undef,undef,undef,undef,undef,undef,undef,undef,undef,undef,undef,undef,undef,undef,undef,undef,undef,undef,undef,undef,undef,undef,undef,undef,undef,undef,undef,undef,undef,undef,undef],defers:=[]}∧aN W W.heap.size A7 n7 c7 x.2)
    (wh 8 (wr.heap.size+1) w.heap.size k c A b w8 w _ hbx.1 ace.1 hbs HB.1.inn (fun s hs=>by have:=Bk.zG hs;omega) HG.1 rfl NH.1 (fun pre W ⟨_,h⟩=>h))
    ?hI (fun _ _ _ _ _ h _ _=>h) ?hM ?h0 ?assign ?body ?done ?stop
   case hI=>
    rintro pre W W' row ⟨h1,h2⟩ hg hr;have hr':∀r,row=some r→w8.heap.size≤r∧∃o:Obj,W.heap[r]? =some o∧o.isCells=false:=fun r e=>(hr r e).resolve_left id
    exact⟨h1.kept hg (fun r e=>(hr' r e).2),h2.trans (iL.noc (by have:=h2.1.size;omega) hg (fun r e=>⟨by have:=(hr' r e).1;omega,(hr' r e).2⟩))⟩
   case hM=>
    rintro pre x a₁ u W W' row ⟨⟨h1,h2⟩,A7,n7,c7,ha,Ma⟩ hg hr;have hr':∀r,row=some r→w8.heap.size≤r∧∃o:Obj,W.heap[r]? =some o∧o.isCells=false:=fun r e=>(hr r e).resolve_left id
    exact⟨⟨h1.kept hg (fun r e=>(hr' r e).2),h2.trans (iL.noc (by have:=h2.1.size;omega) hg (fun r e=>⟨by have:=(hr' r e).1;omega,(hr' r e).2⟩))⟩,A7,n7,c7,ha,Rd.noc Ma hg (fun r e=>(hr' r e).2)⟩
   case h0=>exact⟨HE8.1,iL.refl _ _⟩
   case assign=>
    rintro lp pre x args W hI ⟨A7,n7,c7,rfl,Ma⟩ hpre hW
    gi_wp2
    exact⟨⟨Nr _,fun _ _ _ h _=>h⟩,iL.refl _ _,hI,A7,n7,c7,sm,Ma⟩
   case body=>
    rintro lp pre x a₁ W ⟨⟨h1,h2⟩,A7,n7,c7,rfl,Ma⟩ hpre hW;have hxl:=En.Si b 0 x (hpre.subset sm);rw[cB]at hxl;have afK:=(h2.box Pt.1 (by unfold zN;simp)).cell;rw[hfv]at afK;have hd1:=En.VL hpre;rw[En.zl,En.rR,La]at hd1;have LQ:En.dat [x]=x.2:=En.UU x.1 x.2;rw[LQ]at hd1;have hc1:=En.VM (List.IsPrefix.trans ⟨[x],rfl⟩ hpre) x.1;have hc2:=HB.1.cnt x.1 hxl;have hdl:=HB.1.dat;have AD:=Aj (CallsIn.inRound lp (Bd (n:=6).2 (VJ w.heap.size gd gl p k x.1 n7 c7 (ve hs) (En.dat pre) x.2 (En.cnt pre) A7 W h1 (by rw[HN.1];exact hxl) om Ma om om (by have:=z1.1;omega) (by have:=z1.1;have:=E1.1;omega))));have HC:=Aj (En.Sj pre x.1 x.2);have HD:Kept (En.dat (pre++[x])=En.dat pre++x.2):=⟨by rw[En.rR,LQ]⟩
    have H2:=Aj h2;clear h1 h2 Ma hd1 LQ hc1 hc2 hdl hxl
    gi_wp2_with (refine⟨trivial,AD.1.mono ?_⟩;rintro e w4 ⟨⟨v,rfl⟩,q1,q2,q3⟩;have Q1:=Aj q1;have Q2:=Aj q2;have Q3:=Aj q3;clear q1 q2 q3)
    have q1:=Q1.1;rw[HC.1,←HD.1]at q1;exact⟨Q3.1.from _,Q2.1,q1,H2.1.trans Q2.1⟩
   case done=>
    rintro D W hD ⟨hE,hK⟩ hKD;have YM:=NH.1.trans hK.1;have hrq:∃cs:Array Value,W.heap[q]? =some (.cells cs 54 (0,0))∧cs.size=k∧∀i,i<k→cs[i]? =some (if i<k then ve hs i else cO):=by
     obtain⟨cs,q1,q2,q3⟩:=HF8.1.rq;exact⟨cs,hK.2 _ _ _ _ (by unfold zN;simp) q1,q2,q3⟩
    have Wo:w.heap.size≤W.heap.size:=YM.size;have hkm:k≤maxLen:=by unfold maxLen;omega
    have RL:=Aj (VK hrq (NV.1.below YM) Wo HN.1 hkm);have RK:=Aj (iE.below ⟨hs,HRD.1,NV.1.1,NV.1.2⟩ YM);have RR:=Aj (hE.rdR (rs:=Bk.jw b) (NV.1.below YM) Wo HN.1 hkm (Bk.uL b) (fun i a a'=>Bk.Sk b i a a'));have afM:=Aj (hK.2 _ _ _ _ (by unfold zN;simp) acd.1);have BX:=Aj hE.box;obtain⟨Ad,md,cd,hd1,hd2⟩:=hE.dat;rw[En.zl]at hd2;have BD:=Aj hd1;have OD:=Aj hd2;have HK:=Aj YM;have HKD:=Aj hKD;have HSY:=Aj (zA A k c w.heap.size b W RK.1 Wo HB.1.wt);have HDz:Kept (D<W.heap.size):=⟨(Ge.1 hKD).1⟩
    have hDw:Kept (w.heap.size≤D):=⟨om⟩
    have Zi:Kept (w.heap.size<D):=⟨by have:=NH.1.size;have:=afJ.1;omega⟩
    clear hE hK hrq acd HE8 HF8 ace hbx Pt NH hKD hd1 hd2 YM;go_upto_region 20 with(go_at_call 85;refine HSY.1.mono ?_;rintro e Zj ⟨A2,n2,c2,T,rfl,ht,hT,Sm⟩;have HT:=Aj ht;have RT:=Aj hT;have B17:=Aj Sm;clear ht hT Sm HSY)
    obtain⟨g,hg⟩:∃g,g=Zj.heap.size:=⟨_,rfl⟩
    have acf:Ec W ((Zj.alloc (.cells #[.slice none 0 0,.slice none 0 0,.slice none 0 0,.slice none 0 0] 76)).alloc (.cells #[.int .i64 0,.int .i64 0,.int .i64 0] 176)) g #[.slice none 0 0,.slice none 0 0,.slice none 0 0,.slice none 0 0]:=by
     have h1:=B17.1.size;refine⟨(B17.1.alloc h1 _).alloc (by simp;omega) _,om,?_,?_⟩
     ·rw[hg,Aw _ _ _ sm];exact World.alloc_heap_new Zj _
     ·have:=World.alloc_heap_new (Zj.alloc (.cells #[.slice none 0 0,.slice none 0 0,.slice none 0 0,.slice none 0 0] 76)) (.cells #[.int .i64 0,.int .i64 0,.int .i64 0] 176);simp only[AO]at this;rw[hg];exact this
    have VO:bM ((Zj.alloc (.cells #[.slice none 0 0,.slice none 0 0,.slice none 0 0,.slice none 0 0] 76)).alloc (.cells #[.int .i64 0,.int .i64 0,.int .i64 0] 176)) g A2 n2 c2 T:=by
     rw[hg];exact bM.below RT.1 (((Ae _ Zj).alloc Ai _).alloc sm _)
    have HGZ:=Aj hg;rw[←hg];clear hg RT B17;generalize (Zj.alloc (.cells #[.slice none 0 0,.slice none 0 0,.slice none 0 0,.slice none 0 0] 76)).alloc (.cells #[.int .i64 0,.int .i64 0,.int .i64 0] 176)=NI at*;have E19:=Aj acf;have T19:=Aj VO;have hn2:n2≤1000000:=by rw[VO.len];exact HB.1.tab HT.1
    have hgl:=E19.1.lt;have Xf:Kept (g+2≤NI.heap.size):=⟨hgl⟩
    have S20:=Aj (EI A2 n2 c2 T NI (bM.more VO om) (HB.1.szT HT.1) hn2);rw[HB.1.encS HT.1]at S20;clear acf VO;go_upto_region 21 with(go_at_call 86;refine S20.1.mono ?_;rintro e w20 ⟨A3,n3,c3,rfl,o3,b20⟩;have E20:=Aj (E19.1.below b20);have B20:=Aj b20;have O3:=Aj o3;have T20:=Aj (bM.below T19.1 (b20.mono om));obtain⟨k1,k2⟩:=E20.1.c1 0;obtain⟨k3,k4⟩:=(E20.1.Jz 0 (.slice A3 n3 c3)).c2 0 om;clear o3 b20 S20)
    have E21:=Aj ((E20.1.Jz 0 (.slice A3 n3 c3)).vV 0 om);have O31:=Aj (qw O3.1 Xf.1 0 0 (.slice A3 n3 c3) (.int .i64 0));have T21:Kept (bM ((w20.setCell ⟨g,0,none⟩ (.slice A3 n3 c3)).setCell ⟨g+1,0,none⟩ (.int .i64 0)) g A2 n2 c2 T):=⟨bM.below T20.1 (((Ae _ w20).setCell (p:=⟨g,0,none⟩) Ai _).setCell (p:=⟨g+1,0,none⟩) (by show g≤g+1;omega) _)⟩
    clear k1 k2 k3 k4 T20 O3 E20 T19 E19;have Zk:NI.heap.size≤((w20.setCell ⟨g,0,none⟩ (.slice A3 n3 c3)).setCell ⟨g+1,0,none⟩ (.int .i64 0)).heap.size:=by simp[World.setCell];exact B20.1.size
    generalize (w20.setCell ⟨g,0,none⟩ (.slice A3 n3 c3)).setCell ⟨g+1,0,none⟩ (.int .i64 0)=W21 at*;have z21:=E21.1.lt;have b21:=E21.1.aU.size;have x21:=(Boxed.aU BX.1 E21.1.aU).cell;have acg:Kept (NI.heap.size≤W21.heap.size):=⟨Zk⟩
    have S21:=Aj (Ez A2 (some ⟨p,0,none⟩) n2 c2 k k T (Bk.jw b) W21 (bM.more T21.1 om) HT.1.1 ((RR.1.below E21.1.aU).more b21) hn2 om HB.1.rcL (by have:=HB.1.rcl T HT.1;omega));rw[HB.1.encR HT.1]at S21;go_upto_region 22 with(go_at_call 87;refine S21.1.mono ?_;rintro e w21 ⟨A4,n4,c4,rfl,o4,b22⟩;have E22:=Aj (E21.1.below b22);have B22:=Aj b22;have O4:=Aj o4;have O32:Kept (ah w21 NI.heap.size A3 n3 c3 (Sy.aH T)):=⟨aR O31.1 b22⟩;have T22:=Aj (bM.below T21.1 (b22.mono om));obtain⟨k1,k2⟩:=E22.1.c1 1;obtain⟨k3,k4⟩:=(E22.1.Jz 1 (.slice A4 n4 c4)).c2 1 om;clear o4 b22 S21)
    have E23:=Aj ((E22.1.Jz 1 (.slice A4 n4 c4)).vV 1 om);have O33:=Aj (qw O32.1 Xf.1 1 1 (.slice A4 n4 c4) (.int .i64 0));have O41:=Aj (qw (ah.base O4.1 (acg.1)) Xf.1 1 1 (.slice A4 n4 c4) (.int .i64 0));have T23:Kept (bM ((w21.setCell ⟨g,1,none⟩ (.slice A4 n4 c4)).setCell ⟨g+1,1,none⟩ (.int .i64 0)) g A2 n2 c2 T):=⟨bM.below T22.1 (((Ae _ w21).setCell (p:=⟨g,1,none⟩) Ai _).setCell (p:=⟨g+1,1,none⟩) (by show g≤g+1;omega) _)⟩
    clear k1 k2 k3 k4 T22 O4 O32 E22 T21 E21 O31;have Zl:Kept (NI.heap.size≤((w21.setCell ⟨g,1,none⟩ (.slice A4 n4 c4)).setCell ⟨g+1,1,none⟩ (.int .i64 0)).heap.size):=⟨by simp[World.setCell];exact Lt acg.1 B22.1.size⟩
    generalize (w21.setCell ⟨g,1,none⟩ (.slice A4 n4 c4)).setCell ⟨g+1,1,none⟩ (.int .i64 0)=W23 at*;have z23:=E23.1.lt;have x23:=(Boxed.aU BD.1 E23.1.aU).cell;obtain⟨k1,k2⟩:=E23.1.c1 2;go_upto_region 23 with fail;have E24:=Aj (E23.1.Jz 2 (.slice Ad md cd));have O34:Kept (ah (W23.setCell ⟨g,2,none⟩ (.slice Ad md cd)) NI.heap.size A3 n3 c3 (Sy.aH T)):=⟨aT O33.1 (fun r hr e=>by have:=(ae O33.1 r hr).1;have:=Xf.1;omega)⟩
    have O42:Kept (ah (W23.setCell ⟨g,2,none⟩ (.slice Ad md cd)) NI.heap.size A4 n4 c4 (Rc.aH T (Bk.jw b))):=⟨aT O41.1 (fun r hr e=>by have:=(ae O41.1 r hr).1;have:=Xf.1;omega)⟩
    have T24:Kept (bM (W23.setCell ⟨g,2,none⟩ (.slice Ad md cd)) g A2 n2 c2 T):=⟨bM.below T23.1 ((Ae _ W23).setCell (p:=⟨g,2,none⟩) Ai _)⟩
    clear k1 k2 T23 O33 O41 E23;have Zm:NI.heap.size≤(W23.setCell ⟨g,2,none⟩ (.slice Ad md cd)).heap.size:=by simp[World.setCell];exact Zl.1
    generalize W23.setCell ⟨g,2,none⟩ (.slice Ad md cd)=W24 at*;have z24:=E24.1.lt;have b24:=E24.1.aU.size;have afV:Kept (NI.heap.size≤W24.heap.size):=⟨Zm⟩
    have S24:=Aj (lK (some ⟨q,0,none⟩) k k (Bk.sets b) W24 ((RL.1.below E24.1.aU).more b24) HB.1.sets);have PE:=Aj (fun(Xg:World) (A5:Option Addr) (n5 c5:Nat) (E:List eB) (hi:Ps.uY (Ps.gB (Bk.sets b) 0) E) (ho:bg 163 Xg W24.heap.size A5 n5 c5 E) (JA:Below W24.heap.size W24 Xg)=>by
     have h:=EY A2 A5 n2 c2 n5 c5 T E Xg (bM.more (bM.below T24.1 (JA.mono om)) (by have:=JA.size;omega)) HT.1.1 ho.rd hn2 (by rw[ho.len];exact(HB.1.ab7 hi).1) (HB.1.ab7 hi).2 (by have:=HB.1.sec T E ⟨HT.1,hi⟩ 3 om;exact Lt this Ah);rw[Bk.Of.Mr ⟨HT.1,hi⟩]at h;exact h)
    go_upto_region 24 with(first
     |(go_at_call 88;refine PE2.1.mono ?_;rintro e w26 ⟨A6,n6,c6,rfl,o6,b26⟩;have E26:=Aj (E25.1.below b26);have O6:=Aj o6;have B26:=Aj b26;obtain⟨k1,k2⟩:=E26.1.c1 3;obtain⟨k3,k4⟩:=(E26.1.Jz 3 (.slice A6 n6 c6)).c2 2 om;clear o6 b26 PE2)
     |(go_at_call 37;refine S24.1.mono ?_;rintro e Xg ⟨A5,n5,c5,E,rfl,hi,ho,JA⟩;have HI:=Aj hi;have PE2:=Aj (PE.1 Xg A5 n5 c5 E hi ho JA);have E25:=Aj (E24.1.below JA);have B25:=Aj JA;clear hi ho JA S24 PE))
    have LD:=Aj ((E26.1.Jz 3 (.slice A6 n6 c6)).vV 2 om);have O35:=Aj (qw (aR (show ah Xg NI.heap.size A3 n3 c3 (Sy.aH T)from aR O34.1 B25.1) B26.1) Xf.1 3 2 (.slice A6 n6 c6) (.int .i64 0));have O43:=Aj (qw (aR (show ah Xg NI.heap.size A4 n4 c4 (Rc.aH T (Bk.jw b))from aR O42.1 B25.1) B26.1) Xf.1 3 2 (.slice A6 n6 c6) (.int .i64 0));have O61:=Aj (qw (ah.base O6.1 (show NI.heap.size≤Xg.heap.size from Lt afV.1 B25.1.size)) Xf.1 3 2 (.slice A6 n6 c6) (.int .i64 0));clear k1 k2 k3 k4 E26 E25 O6 B25 B26 O34 O42 T24 E24;generalize (w26.setCell ⟨g,3,none⟩ (.slice A6 n6 c6)).setCell ⟨g+1,2,none⟩ (.int .i64 0)=Zn at*;have i0:=LD.1.c2 0 om;have i1:=LD.1.c2 1 om;have i2:=LD.1.c2 2 om;obtain⟨i0,-⟩:=i0;obtain⟨i1,-⟩:=i1;obtain⟨i2,-⟩:=i2;have jx0:∀W,(Instr.index 176 (.agg #[.int .i64 0,.int .i64 0,.int .i64 0]) (.int .i64 0)).run prog W= .ok (.int .i64 0) W:=fun _=>kr
    have jx1:∀W,(Instr.index 176 (.agg #[.int .i64 0,.int .i64 0,.int .i64 0]) (.int .i64 1)).run prog W= .ok (.int .i64 0) W:=fun _=>kr
    have jx2:∀W,(Instr.index 176 (.agg #[.int .i64 0,.int .i64 0,.int .i64 0]) (.int .i64 2)).run prog W= .ok (.int .i64 0) W:=fun _=>kr
    have Zo:Kept (Zn.heap[w.heap.size]? =some (.cells #[.slice none 0 0,.slice none 0 0,.slice none 0 0,.slice none 0 0] 76 (0,0))):=⟨(LD.1.aU.block _ (by have:=HDz.1;have:=hDw.1;omega)).trans afM.1⟩
    have xf:=fun k=>Fr Zn w.heap.size k _ _ Zo.1
    have y0:=Co Zn w.heap.size 0 _ _ _ Zo.1;have y1:=Co Zn w.heap.size 1 _ _ _ Zo.1;have y2:=Co Zn w.heap.size 2 _ _ _ Zo.1;have y3:=Co Zn w.heap.size 3 _ _ _ Zo.1;obtain⟨m0,-⟩:=LD.1.c1 0;obtain⟨m1,-⟩:=LD.1.c1 1;obtain⟨m2,-⟩:=LD.1.c1 2;obtain⟨m3,-⟩:=LD.1.c1 3;simp at y0 y1 y2 y3 m0 m1 m2 m3;go_upto_region 25 with fail;go_loopw [87] (fun i wr=>∃j:Nat,j≤3∧i= .int .i64 j∧wr=Zn) (fun i _=>3-(intOf i).toNat)
    case atStart=>exact⟨0,om,rfl,rfl⟩
    case round=>
     obtain⟨j,hj,rfl,rfl⟩:=hrel;have YU:j=0∨j=1∨j=2∨j=3:=om;rcases YU with rfl|rfl|rfl|rfl
     ·go_wp2;go_roundw
      case rel=>exact⟨1,om,rfl,by trivial⟩
      case measure=>simp[intOf]
     ·go_wp2;go_roundw
      case rel=>exact⟨2,om,rfl,by trivial⟩
      case measure=>simp[intOf]
     ·go_wp2;go_roundw
      case rel=>exact⟨3,om,rfl,by trivial⟩
      case measure=>simp[intOf]
     ·go_wp2;have hput:=nJ wr w.heap.size (.slice A3 n3 c3) (.slice A4 n4 c4) (.slice Ad md cd) (.slice A6 n6 c6) Zo.1 rfl;have vT:=dm wr w.heap.size (.slice A3 n3 c3) (.slice A4 n4 c4) (.slice Ad md cd) (.slice A6 n6 c6);have acn:(j6 wr w.heap.size (.slice A3 n3 c3) (.slice A4 n4 c4) (.slice Ad md cd) (.slice A6 n6 c6)).heap[D]? =some (.deferred (some [])):=
       (vT.block D (jB HDz.1 LD.1.aU.size) (fun e=>by have:=Oj e;have:=Zi.1;omega)).trans ((LD.1.aU.block D HDz.1).trans HKD.1)
      have hgD:=grownBy_putObj' (j6 wr w.heap.size (.slice A3 n3 c3) (.slice A4 n4 c4) (.slice Ad md cd) (.slice A6 n6 c6)) D (.deferred none);have keep:∀{A':Option Addr} {n' c' base:Nat} {l:List UInt8},ah wr base A' n' c' l→aN ((j6 wr w.heap.size (.slice A3 n3 c3) (.slice A4 n4 c4) (.slice Ad md cd) (.slice A6 n6 c6)).putObj D (.deferred none)) ((j6 wr w.heap.size (.slice A3 n3 c3) (.slice A4 n4 c4) (.slice Ad md cd) (.slice A6 n6 c6)).putObj D (.deferred none)).heap.size A' n' c' l:=fun h=>by
       have h1:ah (j6 wr w.heap.size (.slice A3 n3 c3) (.slice A4 n4 c4) (.slice Ad md cd) (.slice A6 n6 c6)) _ _ _ _ _:=af h vT (.inr (dL h Zo.1 Ah));exact(ah.apart h1 hgD (fun r e=>by cases e;exact .inr ⟨_,acn,rfl⟩)).rd
      have hod:ah wr w.heap.size Ad md cd (Bk.dat b):=aR OD.1 LD.1.aU;have hbel:Below w.heap.size w ((j6 wr w.heap.size (.slice A3 n3 c3) (.slice A4 n4 c4) (.slice Ad md cd) (.slice A6 n6 c6)).putObj D (.deferred none)):=
       ((HK.1.trans (LD.1.aU.mono HK.1.size)).grown vT (Lt HK.1.size LD.1.aU.size) (fun r e=>by cases e;exact Nr _)).grown hgD (by have:=HK.1.size;have:=LD.1.aU.size;have:=vT.size;omega) (fun r e=>by cases e;have:=Zi.1;omega)
      refine⟨sm,.inl ⟨_,_,rfl,run_takeDeferred acn,?_⟩⟩;refine⟨.tuple #[.agg #[.slice A3 n3 c3,.slice A4 n4 c4,.slice Ad md cd,.slice A6 n6 c6],.int .i64 0],?_,fun i=>[(Value.slice A3 n3 c3),.slice A4 n4 c4,.slice Ad md cd,.slice A6 n6 c6].getD i (.slice none 0 0),T,E,rfl,⟨HT.1,HI.1⟩,fun i hi=>?_,hbel⟩
      ·have hrow:((j6 wr w.heap.size (.slice A3 n3 c3) (.slice A4 n4 c4) (.slice Ad md cd) (.slice A6 n6 c6)).putObj D (.deferred none)).heap[w.heap.size]? =some (.cells #[.slice A3 n3 c3,.slice A4 n4 c4,.slice Ad md cd,.slice A6 n6 c6] 76 (0,0)):=
        (World.putObj_heap_other (by have:=Zi.1;omega)).trans hput
       exact cu (fn:=Tryz.f41) (a:=2) (u:=3) (T1:=76) rfl _ _ w.heap.size _ _ _ _ rfl hrow underlying76 rfl kr
      ·match i,hi with
       |0,_=>exact⟨A3,n3,c3,rfl,keep O35.1⟩
       |1,_=>exact⟨A4,n4,c4,rfl,keep O43.1⟩
       |2,_=>exact⟨Ad,md,cd,rfl,keep hod⟩
       |3,_=>exact⟨A6,n6,c6,rfl,keep O61.1⟩
   case stop=>
    rintro D c pre W _ _ h _;exact h.elim
end
theorem Four.lit {w} {B} {V} {D} (h:Four w B V D):∃Aa na ca Ab nb cb Ac nc cc Ad nd cd,Ly.jd V= #[.slice Aa na ca,.slice Ab nb cb,.slice Ac nc cc,.slice Ad nd cd]:=by
 obtain⟨Aa,na,ca,ea,_⟩:=h 0 om;obtain⟨Ab,nb,cb,eb,_⟩:=h 1 om;obtain⟨Ac,nc,cc,ec,_⟩:=h 2 om;obtain⟨Ad,nd,cd,ed,_⟩:=h 3 om;exact⟨Aa,na,ca,Ab,nb,cb,Ac,nc,cc,Ad,nd,cd,by unfold Ly.jd;rw[ea,eb,ec,ed]⟩
theorem Bk.Ok.tot {b} {T} {E} (h:Bk.Ok b) (ho:Bk.Of b T E):Ly.tot (Bk.D4 T E b) 4≤40000000:=by
 have h0:=h.sec T E ho 0 om;have h1:=h.sec T E ho 1 om;have h2:=h.sec T E ho 2 om;have h3:=h.sec T E ho 3 om;simp only[Ly.tot];omega
def afY (w:World) (b:Bk.iP) (e:Ending) (w':World):Prop:=
 ∃A n c L,e= .returned (.tuple #[.slice A n c,.int .i64 0])∧Bk.File b L∧ah w' w.heap.size A n c L∧Below w.heap.size w w'
theorem Zp (V) (b) (T) (E) (w w2) (o) (hb:Bk.Ok b) (ho:Bk.Of b T E) (hV:Four w2 w2.heap.size V (Bk.D4 T E b)) (h2:Below w.heap.size w w2) (hG:Gl w):
  Calls prog 42 #[.agg (Ly.jd V)] (w2.alloc o) fun e w'=>∃A n c,e= .returned (.slice A n c)∧ah w' w.heap.size A n c (Ly.asm (Bk.D4 T E b))∧Below w.heap.size w w':=by
 have hal:=(Ae w2.heap.size w2).alloc Ai o;have hb2:=h2.alloc h2.size o;refine(xY V (Bk.D4 T E b) (w2.alloc o) (fun i hi=>?_) (by have:=hb.tot ho;omega) (hG.below hb2).tab).mono ?_
 ·obtain⟨A,n,c,e1,e2⟩:=hV i hi;exact⟨A,n,c,e1,(e2.below hal).more hal.size⟩
 ·rintro e w' ⟨A,n,c,rfl,h3,h4⟩;exact⟨A,n,c,rfl,ah.base h3 hb2.size,hb2.trans (h4.mono hb2.size)⟩
theorem zH (A) (n c) (b) (w) (hv:iE w w.heap.size A n c b) (hb:Bk.Ok b) (hG:Gl w):
  Calls prog 16 #[.slice A n c] w (afY w b):=by
 have SE:=Aj (Sl A n c b w hv hb hG);have AS:=Aj (fun V T E w2 o ho hV h2=>Zp V b T E w w2 o hb ho hV h2 hG);clear hv hb hG;go_enter func16,ntmps16;go_wp2_with (first
  |(go_at_call 42;refine SC.1.mono ?_;rintro e w3 ⟨A9,n9,c9,rfl,h4,h5⟩;have H4:=Aj h4;have H5:=Aj h5;clear h4 h5)
  |(go_at_call 41;refine SE.1.mono ?_;rintro r w2 ⟨V,T,E,rfl,ho,hV,hb2⟩;obtain⟨Aa,na,ca,Ab,nb,cb,Ac,nc,cc,Ad,nd,cd,hL⟩:=hV.lit;have SC:=Aj (AS.1 V T E w2 (.cells (Ly.jd V) 76) ho hV hb2);rw[hL]at SC⊢;have HO:=Aj ho;clear ho hV hb2 hL SE AS))
 go_ret2;exact⟨A9,n9,c9,_,rfl,⟨T,E,HO.1,rfl⟩,H4.1,H5.1⟩
end Go.Proofs.YtjcpmfphnodaaaaGreatDoor
