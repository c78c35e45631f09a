/- Part 29. -/
import Derived.Test.YtjcpmfphnodaaaaGreatDoorZTBB
namespace Go.Proofs.YtjcpmfphnodaaaaGreatDoor
set_option maxRecDepth 100000
set_option maxHeartbeats 0
open _root_.Go.Proofs.Tryz
open Go.RowKit Go.Shelf
def Nq (p d:Nat) (w:World) (Q:(Nat×(Nat×Nat))×List Bool×Int) (e:Ending) (w':World):Prop:=
 ∃(v last':Nat) (c':Nat×Nat) (r':List Bool),e= .returned (.int .u64 (v:Int))∧De w' d p last' c' Q.2.2∧Br w' p r'∧Wd p d w w'∧(Q.2.2=0→v=Q.1.1∧last'=Q.1.1∧c'=Q.1.2∧r'=Q.2.1)
theorem vW.wd {p d} {w w'} (h:vW w) (hw:Wd p d w w') (h1:2<p) (h2:p<d) (hp:p<w.heap.size):vW w':=fun j hj=>by
 have:=hw.block 2 om om om;exact(AL (a:=⟨2,j,none⟩) this).trans (h j hj)
theorem Xo.dX (n) (r):Xo.bL n 0 r=Tm.rd n r:=by unfold Xo.bL;rw[Ng sm]
theorem Xo.Rw (n) {er} (r) (h:er≠0):Xo.bL n er r=(0,r,er):=by unfold Xo.bL;rw[Ps0 h]
theorem Xo.Ns (r):(Xo.SQ 0 r).2.2=(Xo.fresh r).2.2∧((Xo.fresh r).2.2=0→Xo.SQ 0 r=Xo.fresh r):=by
 unfold Xo.SQ Xo.fresh;rw[Xo.dX];by_cases h1:(Tm.rd 6 r).2.2=0
 ·rw[h1,Xo.dX];rw[Ng sm];by_cases h2:(Tm.rd 6 (Tm.rd 6 r).2.1).2.2=0
  ·rw[h2,Ng sm];unfold Xo.kD;by_cases h3:(Tm.rd 6 r).1+((Tm.rd 6 (Tm.rd 6 r).2.1).1+1)≤64
   ·simp[h3]
   ·simp[h3]
  ·rw[Ps0 h2];unfold Xo.kD;simp[h2]
 ·rw[Ps0 h1,Xo.Rw _ _ h1];unfold Xo.kD;simp[h1]
theorem Nt (d p last) (c) (r) (w) (hD:De w d p last c 0) (hB:Br w p r) (l5:p<d) (h0:(Tm.rd 1 r).1=0):
  Calls prog 257 #[.pointer (some ⟨d,0,none⟩)] w (Nq p d w (Xo.get last c r)):=by
 have B1:=dW d p last 1 c 0 r w hD hB om l5;rw[Xo.dX]at B1;have hQ:(Xo.get last c r).2.2=(Tm.rd 1 r).2.2∧((Tm.rd 1 r).2.2=0→Xo.get last c r=((last,c),(Tm.rd 1 r).2.1,0)):=by
  unfold Xo.get;by_cases h1:(Tm.rd 1 r).2.2=0
  ·rw[Ng (by simpa using h1),Ps0 h0];exact⟨h1.symm,fun _=>rfl⟩
  ·rw[Ps0 h1];exact⟨rfl,fun h=>absurd h h1⟩
 have KQ:=Aj hQ;generalize Xo.get last c r=Q at*;generalize Tm.rd 1 r=Y at*;obtain⟨a,r1,e1⟩:=Y;simp only[]at*;subst h0;have KB:=Aj B1;clear B1 hD hB hQ;go_enter func257,ntmps257;go_wp2_with (go_at_call 256;refine KB.1.mono ?_;rintro e w1 ⟨rfl,h1,h2,h3⟩;have D1:=Aj h1;have R1:=Aj h2;have F1:=Aj h3;have k0:=h1.k.1;clear h1 h2 h3);go_ret;refine⟨last,last,c,r1,rfl,?_,R1.1,F1.1,fun h=>?_⟩
 ·rw[KQ.1.1];exact D1.1
 ·rw[KQ.1.1]at h;rw[KQ.1.2 h];exact⟨rfl,rfl,rfl,rfl⟩
theorem Tm.Jo {n} {r} (h:(Tm.rd n r).2.2≠0):(Tm.rd n r).1=0:=by
 unfold Tm.rd at h⊢;split
 ·rfl
 ·rename_i h1;rw[Ng h1]at h;exact absurd rfl h
theorem Wd.drew {p d} {w w1} (h:Wd p d w w1):Wd p d w w1.drew:=⟨h.os,h.tape,h.output,h.size,h.block⟩
def Mid (w:World) (d p last:Nat) (c cw:Nat×Nat) (er:Int) (r:List Bool) (g:Nat) (W:World):Prop:=
 g≠d∧g≠p∧w.heap.size≤g∧W.heap[g]? =some (.cells #[.int .i64 (cw.1:Int),.int .i64 (cw.2:Int)] 368 (0,0))∧De W d p last c er∧Br W p r∧Wd p d w W
theorem Mid.step {w W W2} {d p last last2 g} {c c2 cw} {er er2} {r r2} (h:Mid w d p last c cw er r g W) (hD:De W2 d p last2 c2 er2) (hB:Br W2 p r2) (hw:Wd p d W W2):Mid w d p last2 c2 cw er2 r2 g W2:=
 ⟨h.1,h.2.1,h.2.2.1,hw.row h.2.2.2.1 h.2.1 h.1,hD,hB,h.2.2.2.2.2.2.trans hw⟩
theorem Mid.cells {w W} {d p last g} {c cw} {er} {r} (h:Mid w d p last c cw er r g W):W.cell? ⟨g,0,none⟩=some (.int .i64 (cw.1:Int))∧W.cell? ⟨g,1,none⟩=some (.int .i64 (cw.2:Int)):=
 ⟨Co _ _ 0 _ _ _ h.2.2.2.1,Co _ _ 1 _ _ _ h.2.2.2.1⟩
theorem Mid.err {w W} {d p last g} {c cw} {er} {r} (h:Mid w d p last c cw er r g W):W.cell? ⟨d,4,none⟩=some (.int .i64 er):=h.2.2.2.2.1.k.2.2.2.2
theorem Mid.dr {w W} {d p last g} {c cw} {er} {r} (h:Mid w d p last c cw er r g W):Mid w d p last c cw er r g W.drew:=
 ⟨h.1,h.2.1,h.2.2.1,h.2.2.2.1,h.2.2.2.2.1,h.2.2.2.2.2.1,h.2.2.2.2.2.2.drew⟩
theorem Mid.gr {w W W2} {d p last g} {c cw} {er} {r} (h:Mid w d p last c cw er r g W) (hg:Gr W W2):Mid w d p last c cw er r g W2:=by
 have hb:=hg.below;have hd:=h.2.2.2.2.1.lt;have hp:=h.2.2.2.2.2.1.lt;exact h.step ((hb.block d hd).trans h.2.2.2.2.1) (h.2.2.2.2.2.1.below hb hp) ⟨hb.os,hb.tape,hb.output,hb.size,fun k hk _ _=>hb.block k hk⟩
theorem Mid.win {w W} {d p last g} {c cw} {er} {r} (h:Mid w d p last c cw er r g W) (hp:p<w.heap.size) (fw):Mid w d p last c fw er r g ((W.setCell ⟨g,0,none⟩ (.int .i64 (fw.1:Int))).setCell ⟨g,1,none⟩ (.int .i64 (fw.2:Int))):=by
 obtain⟨h1,h2,h3,h4,h5,h6,h7⟩:=h;refine⟨h1,h2,h3,?_,(h5.late (fun e=>h1 e.symm) 0 _).late (fun e=>h1 e.symm) 1 _,?_,(h7.late h3 0 _).late h3 1 _⟩
 ·rw[Ag _ _ 1 _ _ _ (Ag _ _ 0 _ _ _ h4)];rfl
 ·exact(h6.grown (av W ⟨g,0,none⟩ _) (fun k e=>by have:=Oj e;simp only at this;omega)).grown (av _ ⟨g,1,none⟩ _) (fun k e=>by have:=Oj e;simp only at this;omega)
theorem Mid.cur {w W} {d p last g} {c cw} {er} {r} (h:Mid w d p last c cw er r g W) (l5:p<d) (fw):Mid w d p last fw cw er r g ((W.setCell ⟨d,1,none⟩ (.int .i64 (fw.1:Int))).setCell ⟨d,2,none⟩ (.int .i64 (fw.2:Int))):=
 h.step (h.2.2.2.2.1.win fw) ((h.2.2.2.2.2.1.vX l5 1 _).vX l5 2 _) ((Wd.set p W 1 _).trans (Wd.set p _ 2 _))
theorem Xo.Rx (w) (r):Xo.gG w r=((Tm.rd w.2 r).1<<<Xo.trail w,(Tm.rd w.2 r).2.1,Xo.kD (decide ((Tm.rd w.2 r).1<<<Xo.trail w≠0)) (Tm.rd w.2 r).2.2):=by
 unfold Xo.gG Xo.kD;by_cases h:(Tm.rd w.2 r).2.2=0
 ·rw[Ng (by simpa using h),h];by_cases h2:(Tm.rd w.2 r).1<<<Xo.trail w=0
  ·simp[h2]
  ·simp[h2]
 ·rw[Ps0 h];have h3:(Tm.rd w.2 r).1=0:=by
   have h4:=h;unfold Tm.rd at h4⊢;split
   ·rfl
   ·rename_i h1;rw[Ng h1]at h4;exact absurd rfl h4
  rw[h3];simp[h]
theorem FX (c:Nat×Nat):c=(0,0)∨(c≠(0,0)∧¬((c.1:Int)=0))∨(c≠(0,0)∧((c.1:Int)=0)∧¬((c.2:Int)=0)):=by
 by_cases h1:c.1=0
 ·by_cases h2:c.2=0
  ·exact .inl (Ba h1 h2)
  ·exact .inr (.inr ⟨fun e=>h2 (by rw[e]),om,om⟩)
 ·exact .inr (.inl ⟨fun e=>h1 (by rw[e]),om⟩)
theorem Vq (d p last b) (bb) (c) (r r1 r2) (e2) (w) (hD:De w d p last c 0) (hB:Br w p r) (l5:p<d) (hc:Xo.Cw c) (hl:last<2^64) (hT:vW w) (wD:2<p)
  (h1:Tm.rd 1 r=(1,r1,0)) (h2:Tm.rd 1 r1=(b,r2,e2)) (hbb:((b:Int)==1)=bb) (hb2:bb=true→e2=0):
  Calls prog 257 #[.pointer (some ⟨d,0,none⟩)] w (Nq p d w (Xo.get last c r)):=by
 have B1:=dW d p last 1 c 0 r w hD hB om l5;rw[Xo.dX,h1]at B1;have B2:=fun(W:World) (hD:De W d p last c 0) (hB:Br W p r1)=>dW d p last 1 c 0 r1 W hD hB om l5
 rw[Xo.dX,h2]at B2;have YA:=Aj B1;have SN:=Aj B2;simp only[]at YA SN;have HQ:Kept (Xo.get last c r=if bb=false then(if e2≠0 then((0,c),(r2,e2))else if c=(0,0)then((0,c),r2,8)else if(Xo.gG c r2).2.2≠0 then((0,c),(Xo.gG c r2).2)else((last^^^ (Xo.gG c r2).1,c),(Xo.gG c r2).2))
  else if(Xo.fresh r2).2.2≠0 then((0,c),(Xo.fresh r2).2)
  else if(Xo.gG (Xo.fresh r2).1 (Xo.fresh r2).2.1).2.2≠0 then((0,c),(Xo.gG (Xo.fresh r2).1 (Xo.fresh r2).2.1).2)
  else if((Xo.fresh r2).1=Xo.win (Xo.gG (Xo.fresh r2).1 (Xo.fresh r2).2.1).1∧Xo.fits c (Xo.gG (Xo.fresh r2).1 (Xo.fresh r2).2.1).1=false)then((last^^^ (Xo.gG (Xo.fresh r2).1 (Xo.fresh r2).2.1).1,(Xo.fresh r2).1),(Xo.gG (Xo.fresh r2).1 (Xo.fresh r2).2.1).2)
  else((0,c),(Xo.gG (Xo.fresh r2).1 (Xo.fresh r2).2.1).2.1,8)):=⟨by
  have hbl:b<2:=by have:=Tm.jr 1 r1;rw[h2]at this;exact this
  unfold Xo.get;rw[h1];simp only[];rw[h2];cases bb with
  |false=>
   have hb0:b=0:=by
    have:¬(b:Int)=1:=by simpa using hbb
    omega
   subst hb0;simp
  |true=>
   have hb1:b=1:=by
    have:(b:Int)=1:=by simpa using hbb
    omega
   have:=hb2 rfl;subst hb1;subst this;simp⟩
 generalize Xo.get last c r=Q at*;have HT:=Aj (fun(W:World) (h:Wd p d w W)=>And.intro (hT.wd h wD l5 hB.lt) (show 2<W.heap.size from jB (Nat.lt_trans wD hB.lt) h.size));have hdw:=hD.lt;have hpw:=hB.lt;clear B1 B2 hD hB h1 h2 hT;go_enter func257,ntmps257;go_upto_region 3 with(go_at_call 256;refine YA.1.mono ?_;rintro e w1 ⟨rfl,h1,h2,h3⟩;have D1:=Aj h1;have R1:=Aj h2;have F1:=Aj h3;clear h1 h2 h3)
 have k6:w1.cell? ⟨d,1,none⟩=some (.int .i64 (c.1:Int))∧w1.cell? ⟨d,2,none⟩=some (.int .i64 (c.2:Int)):=⟨D1.1.k.2.1,D1.1.k.2.2.1⟩
 have k6a:=fun o=>And.intro (D1.1.alloc o).k.2.1 (D1.1.alloc o).k.2.2.1
 go_cut [3,4] (fun sp sb W=>sb= .bool bb∧∃g:Nat,sp= .pointer (some ⟨g,0,none⟩)∧Mid w d p last c c e2 r2 g W)
 case first=>
  go_region_held3 (fun w'=>w'.cell? ⟨d,1,none⟩=some (.int .i64 (c.1:Int))∧w'.cell? ⟨d,2,none⟩=some (.int .i64 (c.2:Int))) (first|exact k6|exact k6a _|exact k7|exact k8 _|exact k9 _ _ _|exact k10 _ _)
   (first
    |(go_at_call 256;refine(SN.1 w1.drew D1.1 R1.1).mono ?_;rintro e w2 ⟨rfl,h1,h2,h3⟩;have D2:=Aj h1;have R2:=Aj h2;have F2:=Aj (F1.1.drew.trans h3);have k7:=And.intro h1.k.2.1 h1.k.2.2.1;have k8:=fun o=>And.intro (h1.alloc o).k.2.1 (h1.alloc o).k.2.2.1;have k9:=fun o u v=>And.intro (((h1.alloc o).late (g:=w2.heap.size) (by have:=h1.lt;omega) 0 u).late (g:=w2.heap.size) (by have:=h1.lt;omega) 1 v).k.2.1 (((h1.alloc o).late (g:=w2.heap.size) (by have:=h1.lt;omega) 0 u).late (g:=w2.heap.size) (by have:=h1.lt;omega) 1 v).k.2.2.1;clear h1 h2 h3)
    |(go_at_call 256;refine(SN.1 (w1.alloc (.cells #[.int .i64 0,.int .i64 0] 368)).drew (D1.1.alloc _) (R1.1.al _)).mono ?_;rintro e w2 ⟨rfl,h1,h2,h3⟩;have q2:=h3.row (Av w1 (.cells #[.int .i64 0,.int .i64 0] 368)) (by have:=R1.1.lt;omega) (by have:=D1.1.lt;omega);have b0:=Co _ _ 0 _ _ _ q2;have b1:=Co _ _ 1 _ _ _ q2;have f0:=Fr _ _ 0 _ _ q2;have f1:=Fr _ _ 1 _ _ q2;have Q2:=Aj q2;clear q2;have D2:=Aj h1;have R2:=Aj h2;have F2:=Aj ((F1.1.alloc _).drew.trans h3);have k7:=And.intro h1.k.2.1 h1.k.2.2.1;have k10:=fun u v=>And.intro ((h1.late (g:=w1.heap.size) (by have:=D1.1.lt;omega) 0 u).late (g:=w1.heap.size) (by have:=D1.1.lt;omega) 1 v).k.2.1 ((h1.late (g:=w1.heap.size) (by have:=D1.1.lt;omega) 0 u).late (g:=w1.heap.size) (by have:=D1.1.lt;omega) 1 v).k.2.2.1;clear h1 h2 h3))
  all_goals (go_wp2_with fail;go_meet)
  ·exact⟨rfl,w2.heap.size,rfl,by have:=D2.1.lt;omega,by have:=R2.1.lt;omega,F2.1.size,Av w2 _,D2.1.alloc _,R2.1.al _,F2.1.alloc _⟩
  ·have hz1:=F1.1.size;have hd1:=D1.1.lt;have hp1:=R1.1.lt;refine⟨rfl,w1.heap.size,rfl,om,om,hz1,?_,(D2.1.late om 0 _).late om 1 _,?_,(F2.1.late hz1 0 _).late hz1 1 _⟩
   ·rw[Ag _ _ 1 _ _ _ (Ag _ _ 0 _ _ _ Q2.1)];rfl
   ·exact(R2.1.grown (av w2 ⟨w1.heap.size,0,none⟩ _) (fun g e=>by have:=Oj e;simp only at this;omega)).grown (av _ ⟨w1.heap.size,1,none⟩ _) (fun g e=>by have:=Oj e;simp only at this;omega)
 case rest=>
  rename World=>wc
  obtain⟨rfl,g,rfl,hm⟩:=hcut;have M:=Aj hm;obtain⟨m0,m1⟩:=hm.cells;clear hm k6 k6a D1 R1 F1 YA SN;cases bb with
  |false=>
   have HQ:Kept (Q=if e2≠0 then((0,c),(r2,e2))else if c=(0,0)then((0,c),r2,8)else if(Xo.gG c r2).2.2≠0 then((0,c),(Xo.gG c r2).2)else((last^^^ (Xo.gG c r2).1,c),(Xo.gG c r2).2)):=⟨by rw[HQ.1,Ps0 rfl]⟩
   by_cases hbad:e2≠0∨c=(0,0)
   ·obtain⟨e5,he5,hne5,hQ5⟩:∃e5:Int,(e5=if e2=0 then 8 else e2)∧e5≠0∧Q.2.2=e5:=by
     have hQ:=HQ.1;by_cases h:e2=0
     ·have hc0:c=(0,0):=hbad.resolve_left (by simpa using h);rw[Ng (by simpa using h),Ps0 hc0]at hQ;exact⟨8,by rw[Ps0 h],Ah,by rw[hQ]⟩
     ·rw[Ps0 h]at hQ;exact⟨e2,by rw[Ng h],h,by rw[hQ]⟩
    have Z8:=Aj hQ5;have HE5:=Aj hne5;have ahv:(e5 !=0)=true:=by simpa using hne5
    have CH:Kept (∀(b:Bool) (W:World),(b=false∨c≠(0,0))→Mid w d p last c c e2 r2 g W→Calls prog 277 #[.pointer (some ⟨d,0,none⟩),.bool b] W fun e w'=>e= .returned (.tuple #[])∧Mid w d p last c c e5 r2 g w'):=⟨fun b W hb hM=>by
     have h:=fK d p last c e2 b r2 W hM.2.2.2.2.1 hM.2.2.2.2.2.1 l5;have e:Xo.kD b e2=e5:=by
      rw[he5];unfold Xo.kD;by_cases h0:e2=0
      ·have hc0:c=(0,0):=hbad.resolve_left (by simpa using h0);have:b=false:=hb.resolve_right (fun h=>h hc0);rw[Ps0 ⟨h0,this⟩,Ps0 h0]
      ·rw[Ng (fun h=>h0 h.1),Ng h0]
     rw[e]at h;exact h.mono fun _ _ q=>⟨q.1,hM.step q.2.1 q.2.2.1 q.2.2.2⟩⟩
    clear he5 hne5 hQ5 hbad HQ hb2 hbb;rcases FX c with rfl|⟨hc0,hc1⟩|⟨hc0,hc1,hc2⟩
    ·have CF:=Aj (CH.1 false wc (.inl rfl) M.1);clear CH;go_wp2_with (go_at_call 277;refine CF.1.mono ?_;rintro e w3 ⟨rfl,hM⟩;have M3:=Aj hM;have k4:=hM.err;clear hM);go_ret;exact⟨0,last,_,r2,rfl,by rw[Z8.1];exact M3.1.2.2.2.2.1,M3.1.2.2.2.2.2.1,M3.1.2.2.2.2.2.2,fun h=>absurd (Z8.1.symm.trans h) HE5.1⟩
    ·have CF:=Aj (CH.1 true wc (.inr hc0) M.1);clear CH;go_wp2_with (go_at_call 277;refine CF.1.mono ?_;rintro e w3 ⟨rfl,hM⟩;have M3:=Aj hM;have k4:=hM.err;clear hM);go_ret;exact⟨0,last,_,r2,rfl,by rw[Z8.1];exact M3.1.2.2.2.2.1,M3.1.2.2.2.2.2.1,M3.1.2.2.2.2.2.2,fun h=>absurd (Z8.1.symm.trans h) HE5.1⟩
    ·have CF:=Aj (CH.1 true wc (.inr hc0) M.1);clear CH;go_wp2_with (go_at_call 277;refine CF.1.mono ?_;rintro e w3 ⟨rfl,hM⟩;have M3:=Aj hM;have k4:=hM.err;clear hM);go_ret;exact⟨0,last,_,r2,rfl,by rw[Z8.1];exact M3.1.2.2.2.2.1,M3.1.2.2.2.2.2.1,M3.1.2.2.2.2.2.2,fun h=>absurd (Z8.1.symm.trans h) HE5.1⟩
   ·have he2:e2=0:=by
     by_cases h:e2=0
     ·exact h
     ·exact absurd (.inl h) hbad
    have hc0:c≠(0,0):=fun h=>hbad (.inr h)
    subst he2;obtain⟨hc1,hc2⟩:=hc.resolve_left hc0;have vZ:Kept (Q=if(Xo.gG c r2).2.2≠0 then((0,c),(Xo.gG c r2).2)else((last^^^ (Xo.gG c r2).1,c),(Xo.gG c r2).2)):=⟨by rw[HQ.1,Ng sm,Ng hc0]⟩
    have CF:Kept (Calls prog 277 #[.pointer (some ⟨d,0,none⟩),.bool true] wc fun e w'=>e= .returned (.tuple #[])∧Mid w d p last c c 0 r2 g w'):=⟨(fK d p last c 0 true r2 wc M.1.2.2.2.2.1 M.1.2.2.2.2.2.1 l5).mono fun _ _ q=>⟨q.1,M.1.step q.2.1 q.2.2.1 q.2.2.2⟩⟩
    have IE:=Xo.Rx c r2;have BT:Kept (∀W,Mid w d p last c c 0 r2 g W→Calls prog 256 #[.pointer (some ⟨d,0,none⟩),.int .i64 (c.2:Int)] W fun e w'=>e= .returned (.int .u64 ((Tm.rd c.2 r2).1:Int))∧Mid w d p last c c (Tm.rd c.2 r2).2.2 (Tm.rd c.2 r2).2.1 g w'):=⟨fun W hM=>by
     have h:=dW d p last c.2 c 0 r2 W hM.2.2.2.2.1 hM.2.2.2.2.2.1 om l5;rw[Xo.dX]at h;exact h.mono fun _ _ q=>⟨q.1,hM.step q.2.1 q.2.2.1 q.2.2.2⟩⟩
    have TR:=Aj (fun W=>gU c hc2 W);unfold wv at TR;have hyl:=Tm.jr c.2 r2;have lZ:(Tm.rd c.2 r2).1<<<Xo.trail c<2^64:=by
     rw[BH];have e:64=(64-c.1-c.2)+c.2+c.1:=om;have h1:2^c.2*2^Xo.trail c≤2^64:=by
      rw[←Nat.pow_add];exact j5 Ah (by unfold Xo.trail;omega)
     exact jB (Nat.mul_lt_mul_of_pos_right hyl (Nat.pow_pos Ah)) h1
    have htl:Xo.trail c≤64:=by unfold Xo.trail;omega
    have hsh:IntKind.u64.wrap (((Tm.rd c.2 r2).1:Int)*2^Xo.trail c)=(((Tm.rd c.2 r2).1<<<Xo.trail c:Nat):Int):=by
     rw[BH]at lZ⊢;rw[Bb];have:((Tm.rd c.2 r2).1:Int)*2^Xo.trail c=(((Tm.rd c.2 r2).1*2^Xo.trail c:Nat):Int):=sm;rw[this];generalize (Tm.rd c.2 r2).1*2^Xo.trail c=z at*;omega
    have Ni:bits .xor .u64 (last:Int) (((Tm.rd c.2 r2).1<<<Xo.trail c:Nat):Int)=((last^^^ ((Tm.rd c.2 r2).1<<<Xo.trail c):Nat):Int):=bits_xor_u64_nat _ _ hl lZ;clear hbad HQ hb2 hbb M lZ;generalize Tm.rd c.2 r2=Y at*;obtain⟨y,r4,ey⟩:=Y;simp only[]at IE BT hyl hsh Ni;generalize Xo.trail c=tr at*;generalize y<<<tr=x at*;have IE2:=Aj IE;have CH:Kept (∀(b:Bool) (W:World),b=decide (x≠0)→Mid w d p last c c ey r4 g W→Calls prog 277 #[.pointer (some ⟨d,0,none⟩),.bool b] W fun e w'=>e= .returned (.tuple #[])∧Mid w d p last c c (Xo.kD (decide (x≠0)) ey) r4 g w'):=⟨fun b W hb hM=>by
     rw[hb];exact(fK d p last c ey (decide (x≠0)) r4 W hM.2.2.2.2.1 hM.2.2.2.2.2.1 l5).mono fun _ _ q=>⟨q.1,hM.step q.2.1 q.2.2.1 q.2.2.2⟩⟩
    rw[IE]at vZ;simp only[]at vZ;generalize Xo.kD (decide (x≠0)) ey=e4 at*;have FIN:Kept (∀W,Mid w d p last c c e4 r4 g W→Nq p d w Q (.returned (.int .u64 ((last^^^x:Nat):Int))) (W.setCell ⟨d,0,none⟩ (.int .u64 ((last^^^x:Nat):Int)))):=⟨fun W hM=>by
     have h1:=hM.2.2.2.2.1;have h2:=hM.2.2.2.2.2.1;have h3:=hM.2.2.2.2.2.2;have hQ:=vZ.1;by_cases he:e4=0
     ·rw[Ng (by simpa using he)]at hQ;rw[hQ];exact⟨_,_,_,_,rfl,h1.last _,h2.vX l5 0 _,h3.trans (Wd.set p W 0 _),fun _=>⟨rfl,rfl,rfl,rfl⟩⟩
     ·rw[Ps0 he]at hQ;rw[hQ];exact⟨_,_,_,_,rfl,h1.last _,h2.vX l5 0 _,h3.trans (Wd.set p W 0 _),fun h=>absurd h he⟩⟩
    have CSE:(¬((c.1:Int)=0))∨(((c.1:Int)=0)∧¬((c.2:Int)=0)):=by
     rcases FX c with h|h|h
     ·exact absurd h hc0
     ·exact .inl h.2
     ·exact .inr h.2
    have CSX:(∃b,b=decide (x≠0)∧b=true∧((x:Int) !=0)=true)∨(∃b,b=decide (x≠0)∧b=false∧((x:Int) !=0)=false):=by
     by_cases h:x=0
     ·exact .inr ⟨_,rfl,by simp[h],by simp[h]⟩
     ·exact .inl ⟨_,rfl,by simp[h],by simp;omega⟩
    clear IE vZ IE2 hyl;rcases CSX with⟨bx,hb1,rfl,hx0⟩|⟨bx,hb1,rfl,hx0⟩
    all_goals
     have CX:=Aj (fun W=>CH.1 _ W hb1);clear CH hb1;rcases CSE with hk1|⟨hk1,hk2⟩
     all_goals
      (try rw[hk1]at TR)
      go_wp2_with (go_at_call 277;refine CF.1.mono ?_;rintro e w3 ⟨rfl,hM⟩;have M3:=Aj hM;have k4:=hM.err;obtain⟨q0,q1⟩:=hM.cells;clear hM CF);have k6:=And.intro q0 q1;go_region_held3 (fun w'=>w'.cell? ⟨g,0,none⟩=some (.int .i64 (c.1:Int))∧w'.cell? ⟨g,1,none⟩=some (.int .i64 (c.2:Int))) (first|exact k6|exact k7|exact k8)
       (first
        |(go_at_call 256;refine(BT.1 _ (by first|exact M3.1.dr|exact M5.1)).mono ?_;rintro e w4 ⟨rfl,hM⟩;have M4:=Aj hM;have k7:=hM.cells;clear hM)
        |(go_at_call 278;refine(TR.1 _).mono ?_;rintro e w5 ⟨rfl,hg⟩;have M5:=Aj (by first|exact M4.1.gr hg|exact M3.1.dr.gr hg);have k8:=M5.1.cells;clear hg))
      all_goals
       clear q0 q1 k4 m0 m1 k6 k7 k8;go_wp2_with (go_at_call 277;(with_reducible refine(CX.1 w5 M5.1).mono ?_);rintro e w6 ⟨rfl,hM⟩;have M6:=Aj hM;have j0:=hM.2.2.2.2.1.k.1;have jf:=hM.2.2.2.2.1.f 0;clear hM);go_ret;exact FIN.1 _ M6.1
  |true=>
   obtain rfl:=hb2 rfl;obtain⟨hf1,hf2⟩:=Xo.Ns r2;have FR:=Nk d p last c 0 r2 wc M.1.2.2.2.2.1 M.1.2.2.2.2.2.1 l5;obtain⟨X,hX⟩:∃X,Xo.fresh r2=X:=⟨_,rfl⟩
   rw[hX]at hf1 hf2;have vZ:Kept (Q=if X.2.2≠0 then((0,c),X.2)else if(Xo.gG X.1 X.2.1).2.2≠0 then((0,c),(Xo.gG X.1 X.2.1).2)else if(X.1=Xo.win (Xo.gG X.1 X.2.1).1∧Xo.fits c (Xo.gG X.1 X.2.1).1=false)then((last^^^ (Xo.gG X.1 X.2.1).1,X.1),(Xo.gG X.1 X.2.1).2)else((0,c),(Xo.gG X.1 X.2.1).2.1,8)):=⟨by
    have:=HQ.1;rw[Ng sm,hX]at this;exact this⟩
   by_cases kz:X.2.2=0
   case neg=>
    rw[Ps0 kz]at vZ;have he5:((Xo.SQ 0 r2).2.2 !=0)=true:=by rw[hf1];simpa using kz
    have HF1:=Aj hf1;have HE3:=Aj kz;have FR2:=Aj (FR.mono fun _ _ q=>And.intro q.1 (M.1.step q.2.1 q.2.2.1 q.2.2.2));clear FR hf1 hf2 HQ hX kz hbb hb2;generalize Xo.SQ 0 r2=Z at*;obtain⟨fw,r3,e3⟩:=Z;simp only[]at*;go_wp2_with (go_at_call 276;refine FR2.1.mono ?_;rintro e w3 ⟨rfl,hM⟩;have M3:=Aj hM;obtain⟨q0,q1⟩:=hM.cells;have f0:=Fr _ _ 0 _ _ hM.2.2.2.1;have f1:=Fr _ _ 1 _ _ hM.2.2.2.1;have k4:=(hM.win hpw fw).err;clear hM);go_ret;have M4:=M3.1.win hpw fw;exact⟨0,last,_,r3,rfl,by rw[vZ.1,←HF1.1];exact M4.2.2.2.2.1,M4.2.2.2.2.2.1,M4.2.2.2.2.2.2,fun h=>absurd (by rw[vZ.1]at h;exact h) HE3.1⟩
   case pos=>
    obtain⟨fw,r3,e3⟩:=X;simp only[]at kz hf1 hf2 vZ;subst kz;rw[hf2 rfl]at FR;obtain⟨hw1,hw2,-⟩:=Xo.Eu hX;have Vr:Kept (Q=if(Xo.gG fw r3).2.2≠0 then((0,c),(Xo.gG fw r3).2)else if(fw=Xo.win (Xo.gG fw r3).1∧Xo.fits c (Xo.gG fw r3).1=false)then((last^^^ (Xo.gG fw r3).1,fw),(Xo.gG fw r3).2)else((0,c),(Xo.gG fw r3).2.1,8)):=⟨by rw[vZ.1,Ng sm]⟩
    have FR2:=Aj (FR.mono fun _ _ q=>And.intro q.1 (M.1.step q.2.1 q.2.2.1 q.2.2.2));simp only[]at FR2;have IE:=Xo.Rx fw r3;have BT:Kept (∀W,Mid w d p last c fw 0 r3 g W→Calls prog 256 #[.pointer (some ⟨d,0,none⟩),.int .i64 (fw.2:Int)] W fun e w'=>e= .returned (.int .u64 ((Tm.rd fw.2 r3).1:Int))∧Mid w d p last c fw (Tm.rd fw.2 r3).2.2 (Tm.rd fw.2 r3).2.1 g w'):=⟨fun W hM=>by
     have h:=dW d p last fw.2 c 0 r3 W hM.2.2.2.2.1 hM.2.2.2.2.2.1 om l5;rw[Xo.dX]at h;exact h.mono fun _ _ q=>⟨q.1,hM.step q.2.1 q.2.2.1 q.2.2.2⟩⟩
    have TR:=Aj (fun W=>gU fw hw2 W);unfold wv at TR;have hyl:=Tm.jr fw.2 r3;have lZ:(Tm.rd fw.2 r3).1<<<Xo.trail fw<2^64:=by
     rw[BH];have e:64=(64-fw.1-fw.2)+fw.2+fw.1:=om;have h1:2^fw.2*2^Xo.trail fw≤2^64:=by
      rw[←Nat.pow_add];exact j5 Ah (by unfold Xo.trail;omega)
     exact jB (Nat.mul_lt_mul_of_pos_right hyl (Nat.pow_pos Ah)) h1
    have htl:Xo.trail fw≤64:=by unfold Xo.trail;omega
    have hsh:IntKind.u64.wrap (((Tm.rd fw.2 r3).1:Int)*2^Xo.trail fw)=(((Tm.rd fw.2 r3).1<<<Xo.trail fw:Nat):Int):=by
     rw[BH]at lZ⊢;rw[Bb];have:((Tm.rd fw.2 r3).1:Int)*2^Xo.trail fw=(((Tm.rd fw.2 r3).1*2^Xo.trail fw:Nat):Int):=sm;rw[this];generalize (Tm.rd fw.2 r3).1*2^Xo.trail fw=z at*;omega
    have Ni:bits .xor .u64 (last:Int) (((Tm.rd fw.2 r3).1<<<Xo.trail fw:Nat):Int)=((last^^^ ((Tm.rd fw.2 r3).1<<<Xo.trail fw):Nat):Int):=bits_xor_u64_nat _ _ hl lZ;have YN:=Aj lZ;clear FR hf1 hf2 HQ vZ hX hb2 hbb M lZ;generalize Tm.rd fw.2 r3=Y at*;obtain⟨y,r4,ey⟩:=Y;simp only[]at IE BT hyl hsh Ni YN;generalize Xo.trail fw=tr at*;generalize y<<<tr=x at*;rw[IE]at Vr;simp only[]at Vr;have CH:Kept (∀(b:Bool) (W:World),b=decide (x≠0)→Mid w d p last c fw ey r4 g W→Calls prog 277 #[.pointer (some ⟨d,0,none⟩),.bool b] W fun e w'=>e= .returned (.tuple #[])∧Mid w d p last c fw (Xo.kD (decide (x≠0)) ey) r4 g w'):=⟨fun b W hb hM=>by
     rw[hb];exact(fK d p last c ey (decide (x≠0)) r4 W hM.2.2.2.2.1 hM.2.2.2.2.2.1 l5).mono fun _ _ q=>⟨q.1,hM.step q.2.1 q.2.2.1 q.2.2.2⟩⟩
    have YO:Xo.kD (decide (x≠0)) ey=0→x≠0:=fun h hx=>by
     rw[hx]at h;unfold Xo.kD at h;by_cases h0:ey=0
     ·rw[Ps0 ⟨h0,sm⟩]at h;cases h
     ·rw[Ng (fun q=>h0 q.1)]at h;exact h0 h
    generalize Xo.kD (decide (x≠0)) ey=e4 at*;by_cases zL:e4=0
    case neg=>
     rw[Ps0 zL]at Vr;have he5:(e4==0)=false:=by simpa using zL
     have HE4:=Aj zL;have FIN:Kept (∀W,Mid w d p last c fw e4 r4 g W→Nq p d w Q (.returned (.int .u64 ((last^^^x:Nat):Int))) (W.setCell ⟨d,0,none⟩ (.int .u64 ((last^^^x:Nat):Int)))):=⟨fun W hM=>by
      rw[Vr.1];exact⟨_,_,_,_,rfl,hM.2.2.2.2.1.last _,hM.2.2.2.2.2.1.vX l5 0 _,hM.2.2.2.2.2.2.trans (Wd.set p W 0 _),fun h=>absurd h zL⟩⟩
     have CSX:(∃b,b=decide (x≠0)∧b=true∧((x:Int) !=0)=true)∨(∃b,b=decide (x≠0)∧b=false∧((x:Int) !=0)=false):=by
      by_cases h:x=0
      ·exact .inr ⟨_,rfl,by simp[h],by simp[h]⟩
      ·exact .inl ⟨_,rfl,by simp[h],by simp;omega⟩
     clear IE Vr hyl zL YO;rcases CSX with⟨bx,hb1,rfl,hx0⟩|⟨bx,hb1,rfl,hx0⟩
     all_goals
      have CX:=Aj (fun W=>CH.1 _ W hb1);clear CH hb1;go_wp2_with (go_at_call 276;refine FR2.1.mono ?_;rintro e w3 ⟨rfl,hM⟩;have M3:=Aj (hM.win hpw fw);obtain⟨q0,q1⟩:=hM.cells;have f0:=Fr _ _ 0 _ _ hM.2.2.2.1;have f1:=Fr _ _ 1 _ _ hM.2.2.2.1;have k4:=M3.1.err;have k6:=M3.1.cells;clear hM);generalize (w3.setCell ⟨g,0,none⟩ (.int .i64 (fw.1:Int))).setCell ⟨g,1,none⟩ (.int .i64 (fw.2:Int))=w3a at*;go_region_held3 (fun w'=>w'.cell? ⟨g,0,none⟩=some (.int .i64 (fw.1:Int))∧w'.cell? ⟨g,1,none⟩=some (.int .i64 (fw.2:Int))) (first|exact k6|exact k7|exact k8)
       (first
        |(go_at_call 256;refine(BT.1 _ (by first|exact M3.1.dr|exact M5.1)).mono ?_;rintro e w4 ⟨rfl,hM⟩;have M4:=Aj hM;have k7:=hM.cells;clear hM)
        |(go_at_call 278;refine(TR.1 _).mono ?_;rintro e w5 ⟨rfl,hg⟩;have M5:=Aj (by first|exact M4.1.gr hg|exact M3.1.dr.gr hg);have k8:=M5.1.cells;clear hg))
      all_goals
       clear q0 q1 k4 m0 m1 k6 k7 k8 f0 f1;go_wp2_with (go_at_call 277;(with_reducible refine(CX.1 w5 M5.1).mono ?_);rintro e w6 ⟨rfl,hM⟩;have M6:=Aj hM;have j0:=hM.2.2.2.2.1.k.1;have jf:=hM.2.2.2.2.1.f 0;have j4:=hM.err;clear hM);go_ret;exact FIN.1 _ M6.1
    case pos=>
     subst zL;have hx0:=YO rfl;rw[Ng sm]at Vr;have hxb:((x:Int) !=0)=true:=by simp;omega
     have CX:=Aj (fun W=>CH.1 true W (by simp[hx0]));have WO:=Aj (show∀W,Mid w d p last c fw 0 r4 g W→Calls prog 279 #[.int .u64 (x:Int)] W fun e w'=>e= .returned (.agg #[.int .i64 ((Xo.win x).1:Int),.int .i64 ((Xo.win x).2:Int)])∧Gr W w' from fun W hM=>jU x YN.1 hx0 W (HT.1 W hM.2.2.2.2.2.2).1 (HT.1 W hM.2.2.2.2.2.2).2);have FT:=Aj (show∀W,Mid w d p last c fw 0 r4 g W→Calls prog 280 #[.pointer (some ⟨d,0,none⟩),.int .u64 (x:Int)] W fun e w'=>e= .returned (.bool (Xo.fits c x))∧Gr W w' from fun W hM=>FP d x c YN.1 hx0 hc W (HT.1 W hM.2.2.2.2.2.2).1 (HT.1 W hM.2.2.2.2.2.2).2 ⟨hM.2.2.2.2.1.k.2.1,hM.2.2.2.2.1.k.2.2.1⟩ hM.2.2.2.2.1.lt);have CK:Kept (∀(b:Bool) (W:World),Mid w d p last c fw 0 r4 g W→Calls prog 277 #[.pointer (some ⟨d,0,none⟩),.bool b] W fun e w'=>e= .returned (.tuple #[])∧Mid w d p last c fw (if b=true then 0 else 8) r4 g w'):=⟨fun b W hM=>by
      refine(fK d p last c 0 b r4 W hM.2.2.2.2.1 hM.2.2.2.2.2.1 l5).mono fun _ _ q=>⟨q.1,?_⟩
      have:=hM.step q.2.1 q.2.2.1 q.2.2.2;unfold Xo.kD at this;cases b<;>simpa using this⟩
     have FIN:Kept (∀(e6:Int) (W:World),(e6=if(fw=Xo.win x∧Xo.fits c x=false)then 0 else 8)→Mid w d p last fw fw e6 r4 g W→Nq p d w Q (.returned (.int .u64 ((last^^^x:Nat):Int))) (W.setCell ⟨d,0,none⟩ (.int .u64 ((last^^^x:Nat):Int)))):=⟨fun e6 W he hM=>by
      rw[Vr.1];by_cases q:fw=Xo.win x∧Xo.fits c x=false
      ·rw[Ps0 q]at he⊢;subst he;exact⟨_,_,_,_,rfl,hM.2.2.2.2.1.last _,hM.2.2.2.2.2.1.vX l5 0 _,hM.2.2.2.2.2.2.trans (Wd.set p W 0 _),fun _=>⟨rfl,rfl,rfl,rfl⟩⟩
      ·rw[Ng q]at he⊢;subst he;exact⟨_,_,_,_,rfl,hM.2.2.2.2.1.last _,hM.2.2.2.2.2.1.vX l5 0 _,hM.2.2.2.2.2.2.trans (Wd.set p W 0 _),fun h=>by simp at h⟩⟩
     clear IE Vr hyl YO CH hx0;have CSE:(fw=Xo.win x)∨(¬fw=Xo.win x∧((¬(fw.1:Int)=((Xo.win x).1:Int))∨((fw.1:Int)=((Xo.win x).1:Int)∧¬(fw.2:Int)=((Xo.win x).2:Int)))):=by
      by_cases h:fw=Xo.win x
      ·exact .inl h
      ·refine .inr ⟨h,?_⟩;by_cases h1:fw.1=(Xo.win x).1
       ·exact .inr ⟨om,fun h2=>h (Ba h1 om)⟩
       ·exact .inl om
     generalize Xo.win x=v at*;generalize Xo.fits c x=fb at*;go_wp2_with (go_at_call 276;refine FR2.1.mono ?_;rintro e w3 ⟨rfl,hM⟩;have M3:=Aj (hM.win hpw fw);obtain⟨q0,q1⟩:=hM.cells;have f0:=Fr _ _ 0 _ _ hM.2.2.2.1;have f1:=Fr _ _ 1 _ _ hM.2.2.2.1;have k4:=M3.1.err;have k6:=M3.1.cells;clear hM);generalize (w3.setCell ⟨g,0,none⟩ (.int .i64 (fw.1:Int))).setCell ⟨g,1,none⟩ (.int .i64 (fw.2:Int))=w3a at*;go_region_held3 (fun w'=>w'.cell? ⟨g,0,none⟩=some (.int .i64 (fw.1:Int))∧w'.cell? ⟨g,1,none⟩=some (.int .i64 (fw.2:Int))) (first|exact k6|exact k7|exact k8)
      (first
       |(go_at_call 256;refine(BT.1 _ (by first|exact M3.1.dr|exact M5.1)).mono ?_;rintro e w4 ⟨rfl,hM⟩;have M4:=Aj hM;have k7:=hM.cells;clear hM)
       |(go_at_call 278;refine(TR.1 _).mono ?_;rintro e w5 ⟨rfl,hg⟩;have M5:=Aj (by first|exact M4.1.gr hg|exact M3.1.dr.gr hg);have k8:=M5.1.cells;clear hg))
     clear q0 q1 k4 m0 m1 k6 k7 k8 f0 f1;go_upto_region 12 with(go_at_call 277;(with_reducible refine(CX.1 w5 M5.1).mono ?_);rintro e w6 ⟨rfl,hM⟩;have M6:=Aj hM;have j4:=hM.err;clear hM)
     clear j4;have k6:=M6.1.cells;go_cut [] (fun W=>∃e6:Int,(e6=if(fw=v∧fb=false)then 0 else 8)∧Mid w d p last c fw e6 r4 g W)
     case first=>
      rcases CSE with rfl|⟨hne,hv|⟨hv,hv2⟩⟩
      ·cases fb
       all_goals
        go_region_held3 (fun w'=>w'.cell? ⟨g,0,none⟩=some (.int .i64 (fw.1:Int))∧w'.cell? ⟨g,1,none⟩=some (.int .i64 (fw.2:Int))) (first|exact k6|exact k7|exact k8|exact k9)
         (first
          |(go_at_call 279;refine(WO.1 w6.drew M6.1.dr).mono ?_;rintro e w7 ⟨rfl,hg⟩;have M7:=Aj (M6.1.dr.gr hg);have k7:=M7.1.cells;clear hg)
          |(go_at_call 280;refine(FT.1 w7 M7.1).mono ?_;rintro e w8 ⟨rfl,hg⟩;have M8:=Aj (M7.1.gr hg);have k8:=M8.1.cells;clear hg)
          |(go_at_call 277;refine(CK.1 _ w8 M8.1).mono ?_;rintro e w9 ⟨rfl,hM⟩;have M9:=Aj hM;have k9:=M9.1.cells;clear hM))
        go_wp2_with fail;go_meet;exact⟨_,by first|rfl|simp,M9.1⟩
      ·refine wp_region_held_drew (S:=fun w'=>w'.cell? ⟨g,0,none⟩=some (.int .i64 (fw.1:Int))∧w'.cell? ⟨g,1,none⟩=some (.int .i64 (fw.2:Int))) kr k6 (fun hHeld=>?_);refine wpAnyH_take (i:=0) (oi:=⟨_,_,_,_,_,_⟩) (v:=?_) rfl kr kr kr (fun _ _ _ h=>h) (Or.inl ⟨rfl,?_⟩) (by assumption) ?_
       rotate_left
       ·intro w hSw;(try dsimp only at hSw);go_simp;(try with_reducible rfl)
       try simp only[Act.put,Al,Ap,Ao]
       refine wpAnyH_take (i:=1) (oi:=⟨_,_,_,_,_,_⟩) (v:=?_) rfl kr kr kr (fun _ _ _ h=>h) (Or.inl ⟨rfl,?_⟩) (by assumption) ?_
       rotate_left
       ·intro w hSw;(try dsimp only at hSw);go_simp;(try with_reducible rfl)
       try simp only[Act.put,Al,Ap,Ao]
       refine wpAnyH_take (i:=2) (oi:=⟨_,_,_,_,_,_⟩) (v:=?_) rfl kr kr kr (fun _ _ _ h=>h) (Or.inl ⟨rfl,?_⟩) (by assumption) ?_
       rotate_left
       ·intro w hSw;(try dsimp only at hSw);go_simp;(try with_reducible rfl)
       try simp only[Act.put,Al,Ap,Ao]
       refine wpAnyH_ready (rs:=[3]) kr sm ?_;refine AllReadyH.cons (o:=⟨_,_,_,_,_,_⟩) rfl (fun K hK=>?_) AllReadyH.nil;go_simp;refine(WO.1 w6.drew M6.1.dr).mono ?_;rintro e w7 ⟨rfl,hg⟩;have M7:=Aj (M6.1.dr.gr hg);have k7:=M7.1.cells;clear hg;refine hK.out _ _ k7 (fun hHeld=>?_);clear hK K
       try simp only[Act.put,Al,Ap,Ao]
       refine wpAnyH_take (i:=4) (oi:=⟨_,_,_,_,_,_⟩) (v:=?_) rfl kr kr kr (fun _ _ _ h=>h) (Or.inl ⟨rfl,?_⟩) (by assumption) ?_
       rotate_left
       ·intro w hSw;(try dsimp only at hSw);go_simp;(try with_reducible rfl)
       try simp only[Act.put,Al,Ap,Ao]
       refine wpAnyH_take (i:=5) (oi:=⟨_,_,_,_,_,_⟩) (v:=?_) rfl kr kr kr (fun _ _ _ h=>h) (Or.inl ⟨rfl,?_⟩) (by assumption) ?_
       rotate_left
       ·intro w hSw;(try dsimp only at hSw);go_simp;(try with_reducible rfl)
       try simp only[Act.put,Al,Ap,Ao]
       refine wpAnyH_take (i:=6) (oi:=⟨_,_,_,_,_,_⟩) rfl kr kr kr (fun _ _ _ h=>h) (Or.inr ⟨rfl,rfl⟩) (by assumption) ?_
       try simp only[Act.put,Al,Ap,Ao]
       refine wpAnyH_take (i:=7) (oi:=⟨_,_,_,_,_,_⟩) rfl kr kr kr (fun _ _ _ h=>h) (Or.inr ⟨rfl,rfl⟩) (by assumption) ?_
       try simp only[Act.put,Al,Ap,Ao]
       refine wpAnyH_take (i:=8) (oi:=⟨_,_,_,_,_,_⟩) rfl kr kr kr (fun _ _ _ h=>h) (Or.inr ⟨rfl,rfl⟩) (by assumption) ?_
       try simp only[Act.put,Al,Ap,Ao]
       refine wpAnyH_take (i:=9) (oi:=⟨_,_,_,_,_,_⟩) rfl kr kr kr (fun _ _ _ h=>h) (Or.inr ⟨rfl,rfl⟩) (by assumption) ?_
       try simp only[Act.put,Al,Ap,Ao]
       refine wpAnyH_take (i:=10) (oi:=⟨_,_,_,_,_,_⟩) rfl kr kr kr (fun _ _ _ h=>h) (Or.inr ⟨rfl,rfl⟩) (by assumption) ?_
       try simp only[Act.put,Al,Ap,Ao]
       refine wpAnyH_take (i:=11) (oi:=⟨_,_,_,_,_,_⟩) rfl kr kr kr (fun _ _ _ h=>h) (Or.inr ⟨rfl,rfl⟩) (by assumption) ?_
       try simp only[Act.put,Al,Ap,Ao]
       refine wpAnyH_take (i:=12) (oi:=⟨_,_,_,_,_,_⟩) (v:=?_) rfl kr kr kr (fun _ _ _ h=>h) (Or.inl ⟨rfl,?_⟩) (by assumption) ?_
       rotate_left
       ·intro w hSw;(try dsimp only at hSw);go_simp;(try with_reducible rfl)
       try simp only[Act.put,Al,Ap,Ao]
       refine wpAnyH_ready (rs:=[13]) kr sm ?_;refine AllReadyH.cons (o:=⟨_,_,_,_,_,_⟩) rfl (fun K hK=>?_) AllReadyH.nil;go_simp;refine(CK.1 _ w7 M7.1).mono ?_;rintro e w9 ⟨rfl,hM⟩;have M9:=Aj hM;have k9:=M9.1.cells;clear hM;refine hK.out _ _ k9 (fun hHeld=>?_);clear hK K
       try simp only[Act.put,Al,Ap,Ao]
       refine wpAnyH_done kr ?_ _;go_wp2_with fail;go_meet;exact⟨8,by rw[Ng (fun q=>hne q.1)],by simpa using M9.1⟩
      ·refine wp_region_held_drew (S:=fun w'=>w'.cell? ⟨g,0,none⟩=some (.int .i64 (fw.1:Int))∧w'.cell? ⟨g,1,none⟩=some (.int .i64 (fw.2:Int))) kr k6 (fun hHeld=>?_);refine wpAnyH_take (i:=0) (oi:=⟨_,_,_,_,_,_⟩) (v:=?_) rfl kr kr kr (fun _ _ _ h=>h) (Or.inl ⟨rfl,?_⟩) (by assumption) ?_
       rotate_left
       ·intro w hSw;(try dsimp only at hSw);go_simp;(try with_reducible rfl)
       try simp only[Act.put,Al,Ap,Ao]
       refine wpAnyH_take (i:=1) (oi:=⟨_,_,_,_,_,_⟩) (v:=?_) rfl kr kr kr (fun _ _ _ h=>h) (Or.inl ⟨rfl,?_⟩) (by assumption) ?_
       rotate_left
       ·intro w hSw;(try dsimp only at hSw);go_simp;(try with_reducible rfl)
       try simp only[Act.put,Al,Ap,Ao]
       refine wpAnyH_take (i:=2) (oi:=⟨_,_,_,_,_,_⟩) (v:=?_) rfl kr kr kr (fun _ _ _ h=>h) (Or.inl ⟨rfl,?_⟩) (by assumption) ?_
       rotate_left
       ·intro w hSw;(try dsimp only at hSw);go_simp;(try with_reducible rfl)
       try simp only[Act.put,Al,Ap,Ao]
       refine wpAnyH_ready (rs:=[3]) kr sm ?_;refine AllReadyH.cons (o:=⟨_,_,_,_,_,_⟩) rfl (fun K hK=>?_) AllReadyH.nil;go_simp;refine(WO.1 w6.drew M6.1.dr).mono ?_;rintro e w7 ⟨rfl,hg⟩;have M7:=Aj (M6.1.dr.gr hg);have k7:=M7.1.cells;clear hg;refine hK.out _ _ k7 (fun hHeld=>?_);clear hK K
       try simp only[Act.put,Al,Ap,Ao]
       refine wpAnyH_take (i:=4) (oi:=⟨_,_,_,_,_,_⟩) (v:=?_) rfl kr kr kr (fun _ _ _ h=>h) (Or.inl ⟨rfl,?_⟩) (by assumption) ?_
       rotate_left
       ·intro w hSw;(try dsimp only at hSw);go_simp;(try with_reducible rfl)
       try simp only[Act.put,Al,Ap,Ao]
       refine wpAnyH_take (i:=5) (oi:=⟨_,_,_,_,_,_⟩) (v:=?_) rfl kr kr kr (fun _ _ _ h=>h) (Or.inl ⟨rfl,?_⟩) (by assumption) ?_
       rotate_left
       ·intro w hSw;(try dsimp only at hSw);go_simp;(try with_reducible rfl)
       try simp only[Act.put,Al,Ap,Ao]
       refine wpAnyH_take (i:=6) (oi:=⟨_,_,_,_,_,_⟩) rfl kr kr kr (fun _ _ _ h=>h) (Or.inr ⟨rfl,rfl⟩) (by assumption) ?_
       try simp only[Act.put,Al,Ap,Ao]
       refine wpAnyH_take (i:=7) (oi:=⟨_,_,_,_,_,_⟩) rfl kr kr kr (fun _ _ _ h=>h) (Or.inr ⟨rfl,rfl⟩) (by assumption) ?_
       try simp only[Act.put,Al,Ap,Ao]
       refine wpAnyH_take (i:=8) (oi:=⟨_,_,_,_,_,_⟩) rfl kr kr kr (fun _ _ _ h=>h) (Or.inr ⟨rfl,rfl⟩) (by assumption) ?_
       try simp only[Act.put,Al,Ap,Ao]
       refine wpAnyH_take (i:=9) (oi:=⟨_,_,_,_,_,_⟩) rfl kr kr kr (fun _ _ _ h=>h) (Or.inr ⟨rfl,rfl⟩) (by assumption) ?_
       try simp only[Act.put,Al,Ap,Ao]
       refine wpAnyH_take (i:=10) (oi:=⟨_,_,_,_,_,_⟩) rfl kr kr kr (fun _ _ _ h=>h) (Or.inr ⟨rfl,rfl⟩) (by assumption) ?_
       try simp only[Act.put,Al,Ap,Ao]
       refine wpAnyH_take (i:=11) (oi:=⟨_,_,_,_,_,_⟩) rfl kr kr kr (fun _ _ _ h=>h) (Or.inr ⟨rfl,rfl⟩) (by assumption) ?_
       try simp only[Act.put,Al,Ap,Ao]
       refine wpAnyH_take (i:=12) (oi:=⟨_,_,_,_,_,_⟩) (v:=?_) rfl kr kr kr (fun _ _ _ h=>h) (Or.inl ⟨rfl,?_⟩) (by assumption) ?_
       rotate_left
       ·intro w hSw;(try dsimp only at hSw);go_simp;(try with_reducible rfl)
       try simp only[Act.put,Al,Ap,Ao]
       refine wpAnyH_ready (rs:=[13]) kr sm ?_;refine AllReadyH.cons (o:=⟨_,_,_,_,_,_⟩) rfl (fun K hK=>?_) AllReadyH.nil;go_simp;refine(CK.1 _ w7 M7.1).mono ?_;rintro e w9 ⟨rfl,hM⟩;have M9:=Aj hM;have k9:=M9.1.cells;clear hM;refine hK.out _ _ k9 (fun hHeld=>?_);clear hK K
       try simp only[Act.put,Al,Ap,Ao]
       refine wpAnyH_done kr ?_ _;go_wp2_with fail;go_meet;exact⟨8,by rw[Ng (fun q=>hne q.1)],by simpa using M9.1⟩
     case rest=>
      rename World=>wz
      obtain⟨e6,SK,hM⟩:=hcut;have HE6:=Aj SK;have MZ:=Aj hM;have f1:=hM.2.2.2.2.1.f 1;have f2:=hM.2.2.2.2.1.f 2;have c1:=hM.2.2.2.2.1.k.2.1;have c2:=hM.2.2.2.2.1.k.2.2.1;have hg:=hM.cells;have M10:=Aj (hM.cur l5 fw);have j0:=M10.1.2.2.2.2.1.k.1;have jf:=M10.1.2.2.2.2.1.f 0;clear SK hM k6;go_wp2;go_ret;exact FIN.1 e6 _ HE6.1 M10.1
theorem YP {w w'} {p d base n c sz} {A} {xs} {t} (h:w.ownsRow base t sz (.slice A n c) n xs) (hw:Wd p d w w') (hp:p<base) (hd:d<base):w'.ownsRow base t sz (.slice A n c) n xs:=by
 refine⟨h.1,?_⟩;rcases h.2 with hn|⟨g,cap,cur,hv,h1,h2,rest⟩
 ·exact .inl hn
 ·refine .inr ⟨g,cap,cur,hv,h1,?_,rest⟩;rw[hw.block g (Ge.1 h2).1 om om];exact h2
theorem Vs (d p last) (c) (r) (w) (hD:De w d p last c 0) (hB:Br w p r) (l5:p<d) (hc:Xo.Cw c) (hl:last<2^64) (hT:vW w) (wD:2<p):
  Calls prog 257 #[.pointer (some ⟨d,0,none⟩)] w (Nq p d w (Xo.get last c r)):=by
 by_cases h0:(Tm.rd 1 r).1=0
 ·exact Nt d p last c r w hD hB l5 h0
 ·have he:(Tm.rd 1 r).2.2=0:=by
   by_cases q:(Tm.rd 1 r).2.2=0
   ·exact q
   ·exact absurd (Tm.Jo q) h0
  have hlt:=Tm.jr 1 r;have h1:Tm.rd 1 r=(1,(Tm.rd 1 r).2.1,0):=Ba (by show(Tm.rd 1 r).1=1;omega) (Ba rfl he);refine Vq d p last _ (((Tm.rd 1 (Tm.rd 1 r).2.1).1:Int)==1) c r _ _ _ w hD hB l5 hc hl hT wD h1 rfl rfl (fun hb=>?_);by_cases q:(Tm.rd 1 (Tm.rd 1 r).2.1).2.2=0
  ·exact q
  ·rw[Tm.Jo q]at hb;simp at hb
theorem Xo.YQ {last} {c} {r} (hl:last<2^64) (hc:Xo.Cw c) (h:(Xo.get last c r).2.2=0):(Xo.get last c r).1.1<2^64∧Xo.Cw (Xo.get last c r).1.2:=by
 have h1:Xo.get last c r=(((Xo.get last c r).1.1,(Xo.get last c r).1.2),(Xo.get last c r).2.1,0):=by rw[←h]
 obtain⟨g1,g2,-⟩:=Xo.PW hl hc h1;refine⟨g1,?_⟩;have:=Xo.Ik hl g1 hc;rw[g2]at this;exact this
theorem Xo.Nu (n last) (c) (acc) (r):Xo.gets (n+1) last c acc r=if(Xo.get last c r).2.2≠0 then([],(Xo.get last c r).2)else Xo.gets n (Xo.get last c r).1.1 (Xo.get last c r).1.2 (acc++[(Xo.get last c r).1.1]) (Xo.get last c r).2.1:=rfl
theorem Wd.grow {p d} {w w1 w2} {row} (h:Wd p d w w1) (hg:w1.grownBy w2 row) (hr:∀g,row=some g→w.heap.size≤g):Wd p d w w2:=
 ⟨hg.os.trans h.os,hg.tape.trans h.tape,hg.output.trans h.output,Lt h.size hg.size,fun k hk hp hd=>(hg.block k (jB hk h.size) (fun e=>by have:=hr k e.symm;omega)).trans (h.block k hk hp hd)⟩
theorem Wd.fine {p} {w w1} (h:Wd p w.heap.size w w1):w.grownBy w1 (some p):=
 ⟨h.os,h.tape,h.output,h.size,fun k hk hp=>h.block k hk (fun e=>hp (by rw[e])) om⟩
def Ry (w:World) (p:Nat) (Q:List Nat×List Bool×Int) (e:Ending) (w':World):Prop:=
 ∃A2 n2 c2 r',e= .returned (.tuple #[.slice A2 n2 c2,.int .i64 Q.2.2])∧aG w' w.heap.size A2 n2 c2 Q.1∧Br w' p r'∧(Q.2.2=0→r'=Q.2.1)∧w.grownBy w' (some p)
def Gts (w:World) (p n:Nat) (Q:List Nat×List Bool×Int) (k:Nat) (A:Option Addr) (m c:Nat) (W:World) (er:Int):Prop:=
 ∃(last:Nat) (cw:Nat×Nat) (r:List Bool) (acc:List Nat),De W w.heap.size p last cw er∧Br W p r∧aG W (w.heap.size+1) A m c acc∧m=k∧Wd p w.heap.size w W∧Kept (er=0→Xo.Cw cw∧last<2^64)∧Kept ((er=0∧Xo.gets (n-k) last cw acc r=Q)∨(er≠0∧Q.2.2=er∧Q.1=[]))
theorem Rz (p n:Nat) (r) (w) (h:Br w p r) (hn:n≤1000000) (hT:vW w) (wD:2<p):
  Calls prog 217 #[.pointer (some ⟨p,0,none⟩),.int .i64 (n:Int)] w (Ry w p (Xo.dec n r)):=by
 have lY:=h.lt;have hn0:¬(n:Int)<0:=om;by_cases h0:n=0
 ·subst h0;have H:=Aj h;clear h hT;go_enter func217,ntmps217;go_wp2;go_ret2;exact⟨none,0,0,r,rfl,⟨rfl,.inl ⟨rfl,rfl⟩⟩,H.1,fun _=>rfl,rfl,rfl,rfl,Nr _,fun _ _ _=>rfl⟩
 ·have hne:((n:Int)==0)=false:=by simp;omega
  obtain⟨W0,hW0⟩:∃W0,W0=w.alloc (.cells #[.int .u64 0,.int .i64 0,.int .i64 0,.pointer (some ⟨p,0,none⟩),.int .i64 0] 372):=⟨_,rfl⟩
  have hD0:De W0 w.heap.size p 0 (0,0) 0:=by rw[hW0];exact Av w _
  have hB0:Br W0 p r:=by rw[hW0];exact h.al _
  have hF0:Wd p w.heap.size w W0:=by rw[hW0];exact(Wd.refl _ _ w).alloc _
  have B1:=dW w.heap.size p 0 64 (0,0) 0 r W0 hD0 hB0 om lY;rw[Xo.dX]at B1;have hv:=Tm.jr 64 r;have hbad:=fun q=>Tm.Jo (n:=64) (r:=r) q
  have hdec:Xo.dec n r=if(Tm.rd 64 r).2.2≠0 then([],(Tm.rd 64 r).2)else Xo.gets (n-1) (Tm.rd 64 r).1 (0,0) [(Tm.rd 64 r).1] (Tm.rd 64 r).2.1:=by unfold Xo.dec;rw[Ng h0]
  obtain⟨Q,hQ⟩:∃Q,Q=Xo.dec n r:=⟨_,rfl⟩
  rw[←hQ]at hdec⊢;have YR:=Aj hdec;have HT:=Aj (fun(W:World) (hw:Wd p w.heap.size w W)=>hT.wd hw wD lY lY);have HW0:=Aj hW0.symm;have SV:=Aj hF0;have KB:=Aj B1;have HV:=Aj hv;clear h hT hW0 hD0 hB0 hF0 B1 hdec hQ hbad hv;generalize Tm.rd 64 r=Y at*;obtain⟨v0,r0,e0⟩:=Y;simp only[]at YR KB HV;go_enter func217,ntmps217;go_wp2_with (go_at_call 256;rw[HW0.1];refine KB.1.mono ?_;rintro e w1 ⟨rfl,h1,h2,h3⟩;have k0:=h1.k.1;have f0:=h1.f 0;have D1:=Aj (h1.last v0);have R1:=Aj (h2.vX lY 0 (.int .u64 (v0:Int)));have F1:=Aj ((SV.1.trans h3).trans (Wd.set p w1 0 (.int .u64 (v0:Int))));have z1:=h3.size;clear h1 h2 h3);have hz0:w.heap.size+1≤W0.heap.size:=by rw[←HW0.1];simp
  have I0:Gts w p n Q 1 (some ⟨w1.heap.size,0,none⟩) 1 1 ((w1.setCell ⟨w.heap.size,0,none⟩ (.int .u64 (v0:Int))).alloc (.cells #[.int .u64 (v0:Int)] 125)) e0:=by
   refine⟨v0,(0,0),r0,[v0],D1.1.alloc _,R1.1.al _,?_,rfl,F1.1.alloc _,⟨fun _=>⟨.inl rfl,HV.1⟩⟩,⟨?_⟩⟩
   ·have:=World.ownsRow_lit (base:=w.heap.size+1) (size:=1) (e:=125) (w1.setCell ⟨w.heap.size,0,none⟩ (.int .u64 (v0:Int))) #[.int .u64 (v0:Int)] 1 (by simp;omega) (by unfold maxLen;omega) rfl;unfold aG;simpa[uW,uv]using this
   ·have hQ:=YR.1;by_cases he:e0=0
    ·rw[Ng (by simpa using he)]at hQ;exact .inl ⟨he,hQ.symm⟩
    ·rw[Ps0 he]at hQ;exact .inr ⟨he,by rw[hQ],by rw[hQ]⟩
  have KI:=Aj I0;clear I0 YR KB HV HW0 SV hz0 z1;go_loopw [7,8] (fun l i wr=>∃(k:Nat) (A2:Option Addr) (n2 c2:Nat) (er:Int),1≤k∧k≤n∧i= .int .i64 k∧l= .slice A2 n2 c2∧Gts w p n Q k A2 n2 c2 wr er) (fun _ i _=>n-(intOf i).toNat)
  case atStart=>exact⟨1,_,_,_,e0,om,om,rfl,rfl,KI.1⟩
  case round=>
   clear KI D1 R1 F1 k0 f0;obtain⟨k,A2,n2,c2,er,hk1,hkn,rfl,rfl,last,cw,r3,acc,hD,hB,hO,hm,hF,hcl,hcs⟩:=hrel;have k4:=hD.k.2.2.2.2;have oH:=hF.size;have HM:=Aj hm;have hn2:n2≤1000000:=om;clear hm;by_cases hgo:k<n∧er=0
   ·obtain⟨hlt,rfl⟩:=hgo;obtain⟨hc,hl⟩:=hcl.1 rfl;have hlt':(k:Int)< (n:Int):=om;have hG:=hcs.1.resolve_right (fun q=>q.1 rfl);have GA:=Aj (Vs w.heap.size p last cw r3 wr hD hB lY hc hl (HT.1 wr hF) wD);have hgs:=Xo.Nu (n-k-1) last cw acc r3;rw[show n-k-1+1=n-k from om,hG.2]at hgs;have hlc:=fun q=>Xo.YQ (last:=last) (c:=cw) (r:=r3) hl hc q
    have HGS:=Aj hgs;have HLC:=Aj hlc;have O:=Aj hO;have F:=Aj hF;clear hG hgs hlc hcs hD hB hF hc hl;have HH:=Aj hcl;clear hcl HH;generalize Xo.get last cw r3=X at*;go_wp2_with (first
     |(at_builtin;refine dC rfl (.tmp 45) (.tmp 48) rfl (w.heap.size+1) A2 n2 c2 acc rfl O2.1 _ _ _ _ [v] rfl (kg.one w2 v) om (by simp;omega) ?_;intro A4 c4 w5 hown hgrow hat;have O5:=Aj hown;have hr:∀g,ab A2=some g→w.heap.size<g:=(fun g e=>(ae O.1 g e).1);have D5:=Aj (show De w5 w.heap.size p last' c' X.2.2 from(hgrow.block _ (D2.1.alloc _).lt (fun e=>absurd (hr _ e.symm) (DU _))).trans (D2.1.alloc _));have R5:=Aj ((R2.1.al _).grown hgrow (fun g e=>Nat.lt_trans lY (hr g e)));have F5:=Aj ((F2.1.alloc _).grow hgrow (fun g e=>Nat.le_of_lt (hr g e)));have j4:=D5.1.k.2.2.2.2;clear hown hgrow hat hr)
     |(go_at_call 257;refine GA.1.mono ?_;rintro e w2 ⟨v,last',c',r',rfl,h1,h2,h3,h4⟩;have D2:=Aj h1;have R2:=Aj h2;have F2:=Aj (F.1.trans h3);have G2:=Aj h4;have O2:=Aj (show aG (w2.alloc (.cells #[.int .u64 (v:Int)] 125)) (w.heap.size+1) A2 n2 c2 acc from Oa (YP O.1 h3 om om) _);have hz2:=h3.size;clear h1 h2 h3 h4))
    go_roundw
    case rel=>
     refine⟨k+1,A4,n2+1,c4,X.2.2,om,om,by go_num,rfl,last',c',r',acc++[v],D5.1,R5.1,O5.1,by have:=HM.1;omega,F5.1,⟨fun h=>?_⟩,⟨?_⟩⟩
     ·obtain⟨g1,g2,g3,-⟩:=G2.1 h;obtain⟨a1,a2⟩:=HLC.1 h;rw[g2,g3];exact⟨a2,a1⟩
     ·have hQ:=HGS.1;by_cases he:X.2.2=0
      ·obtain⟨g1,g2,g3,g4⟩:=G2.1 he;rw[Ng (by simpa using he)]at hQ;refine .inl ⟨he,?_⟩;rw[g2,g3,g4,g1,show n-(k+1)=n-k-1 from om];exact hQ.symm
      ·rw[Ps0 he]at hQ;exact .inr ⟨he,by rw[hQ],by rw[hQ]⟩
    case measure=>simp[intOf];omega
   ·have R:=Aj hB;have O:=Aj hO;have F:=Aj hF;by_cases he:er=0
    ·subst he;have hkn2:k=n:=by
      by_cases q:k<n
      ·exact absurd ⟨q,rfl⟩ hgo
      ·omega
     have hQ:=hcs.1.resolve_right (fun q=>q.1 rfl);have HQ:Kept (Q=(acc,r3,0)):=⟨by rw[←hQ.2,hkn2,CZ];rfl⟩
     have hlt':¬(k:Int)< (n:Int):=om;clear hB hO hF hD hcs hcl hgo hQ;go_wp2;go_ret2;refine⟨A2,n2,c2,r3,by rw[HQ.1];rfl,by rw[HQ.1];exact⟨O.1.1,O.1.2.imp id fun⟨g,cap,cur,h1,h2,h3⟩=>⟨g,cap,cur,h1,om,h3⟩⟩,R.1,fun _=>by rw[HQ.1],F.1.fine⟩
    ·have hQ:=hcs.1.resolve_left (fun q=>he q.1);have HQ:=Aj hQ;have hne1:(er==0)=false:=by simpa using he
     have hne2:(er !=0)=true:=by simpa using he
     have HE:=Aj he;clear hB hO hF hD hcs hcl hgo hQ he;by_cases hlt:k<n
     ·have hlt':(k:Int)< (n:Int):=by omega
      go_wp2;go_region;go_wp2;go_ret2;exact⟨none,0,0,r3,by rw[HQ.1.2.1];rfl,by rw[HQ.1.2.2];exact⟨rfl,.inl ⟨rfl,rfl⟩⟩,R.1,fun h=>absurd (HQ.1.2.1.symm.trans h) HE.1,F.1.drew.fine⟩
     ·have hlt':¬(k:Int)< (n:Int):=by omega
      go_wp2;go_region;go_wp2;go_ret2;exact⟨none,0,0,r3,by rw[HQ.1.2.1];rfl,by rw[HQ.1.2.2];exact⟨rfl,.inl ⟨rfl,rfl⟩⟩,R.1,fun h=>absurd (HQ.1.2.1.symm.trans h) HE.1,F.1.drew.fine⟩
theorem Li (n:Nat) (hn:n≤1000000) (w):(Instr.makeSlice 55 (.int .i64 n) (.int .i64 n)).run prog w= .ok (.slice (some ⟨w.heap.size,0,none⟩) n n) (w.alloc (.cells (madeCells #[.int .i64 0,.int .u64 0] (n*2)) 127)):=by
 obtain⟨i0,hi0,hz0,hz1,hz2⟩:=AX Pk;have:=run_makeSlice (P:=prog) w 55 127 i0 (.agg #[.int .i64 0,.int .u64 0]) underlying55 hi0 hz0 .i64 .i64 (n:Int) (n:Int) om om (by rw[hz1];simp;omega) (by rw[hz2];omega) om;rw[hz1]at this;simpa[Value.cells]using this
theorem abR (a b) (n):(madeCells #[a,b] (n*2)).toList=(List.replicate n [a,b]).flatten:=by
 apply Dy
 ·simp[madeCells]
 ·intro i h1 h2;have hi:i<n*2:=by simpa[madeCells]using h1
  have e1:(madeCells #[a,b] (n*2)).toList[i]=if i%2=0 then a else b:=by
   rcases Cv i with h|h<;>simp[madeCells,h]
  have e2:∀(m i:Nat) (h:i<m*2),(List.replicate m [a,b]).flatten[i]? =some (if i%2=0 then a else b):=by
   intro m
   induction m with
   |zero=>intro i h;omega
   |succ m ih=>
    intro i h;rw[List.replicate_succ,Cc]
    match i,h with
    |0,_=>rfl
    |1,_=>rfl
    |i+2,h=>
     rw[Bq sm];have:=ih i om;simp only[Lc,AB];rw[show i+2-(0+1+1)=i from om,this,Nat.add_mod_right]
  rw[e1];have:=e2 n i hi;rw[l8 h2]at this;exact(Oj this).symm
theorem bF.zeros (w:World) (n base) (hn:n≤1000000) (hb:base≤w.heap.size):bF (w.alloc (.cells (madeCells #[.int .i64 0,.int .u64 0] (n*2)) 127)) base (some ⟨w.heap.size,0,none⟩) n n (List.replicate n (0,0)):=by
 obtain⟨i0,hi0,hz0,hz1,hz2⟩:=AX Pk;obtain⟨w',h1,h2,-⟩:=run_make_full (P:=prog) w base 55 127 i0 (.agg #[.int .i64 0,.int .u64 0]) 2 underlying55 hi0 hz0 hz1 .i64 .i64 n (by rw[hz2];omega) (by unfold maxLen;omega) hb;rw[Li n hn w]at h1
 injection h1 with _ h1
 subst h1;rw[show(Value.agg #[Value.int .i64 0,Value.int .u64 0]).cells= #[Value.int .i64 0,Value.int .u64 0]from rfl,abR]at h2;have e:nu (List.replicate n ((0:Int),(0:Nat)))=(List.replicate n [Value.int .i64 0,Value.int .u64 0]).flatten:=by
  unfold nu;rw[List.flatMap_def,List.map_replicate]
  rfl
 unfold bF;rw[e];exact h2
def qi (w:World) (Q:Cs.gz×Int) (e:Ending) (w':World):Prop:=
 ∃A2 n2 c2,e= .returned (.tuple #[.slice A2 n2 c2,.int .i64 Q.2])∧bF w' w.heap.size A2 n2 c2 Q.1∧Below w.heap.size w w'
theorem qi.bad {w w'} {Q:Cs.gz×Int} {f} (h:Q=([],f)) (hb:Below w.heap.size w w'):qi w Q (.returned (.tuple #[.slice none 0 0,.int .i64 f])) w':=by
 subst h;exact⟨none,0,0,rfl,bF.nil _ _,hb⟩
theorem FY (A) (n c B) (L) (w) (hv:aN w B A n c L) (_:B≤w.heap.size) (hn:n≤100000000)
  (hbad:∀(t m) (b),L=t::m::b→(t.toNat<1∨3<t.toNat)∨120≤m.toNat):
  Calls prog 125 #[.slice A n c] w (qi w (Ck.dec L)):=by
 have hlc:=hv.1;have hcm:=hv.2.1;unfold maxLen at hcm;have hl:=hv.len;cases L with
 |nil=>
  obtain rfl:n=0:=hl;have HD:Kept (Ck.dec []=([],3)):=⟨rfl⟩
  generalize Ck.dec []=Q at*;clear hv hbad;go_enter func125,ntmps125;go_wp2;go_ret2;exact qi.bad HD.1 (Ae _ _)
 |cons t L=>
  have hn1:1≤n:=by rw[hl];simp
  have hn1':¬(n:Int)<1:=om;obtain⟨b,off,rfl,hb,h0⟩:=hv.at_ (k:=0) sm;rw[Da]at h0;simp only[Cx]at h0;have htl:=t.toNat_lt;by_cases ht:t.toNat<1∨3<t.toNat
  ·have HD:Kept (Ck.dec (t::L)=([],9)):=⟨by
    cases L with
    |nil=>simp only[Ck.dec];rw[Ps0 ht]
    |cons m L=>simp only[Ck.dec];rw[Ps0 ht]⟩
   generalize Ck.dec (t::L)=Q at*;clear hv hl hbad;have hcs:(t.toNat:Int)<1∨(¬(t.toNat:Int)<1∧(3:Int)< (t.toNat:Int)):=om;clear ht;generalize (t.toNat:Int)=tv at*;rcases hcs with h1|⟨h1,h2⟩
   all_goals
    go_enter func125,ntmps125;go_wp2;go_ret2;exact qi.bad HD.1 (Ae _ _)
  ·have h1:¬(t.toNat:Int)<1:=by omega
   have h2:¬(3:Int)< (t.toNat:Int):=om;cases L with
   |nil=>
    have HD:Kept (Ck.dec [t]=([],3)):=⟨by simp only[Ck.dec];rw[Ng ht]⟩
    generalize Ck.dec [t]=Q at*;obtain rfl:n=1:=hl;clear hv hbad ht;generalize (t.toNat:Int)=tv at*;go_enter func125,ntmps125;go_wp2;go_ret2;exact qi.bad HD.1 (Ae _ _)
   |cons m L=>
    have hm:=(hbad t m L rfl).resolve_left ht;have HD:Kept (Ck.dec (t::m::L)=([],7)):=⟨by simp only[Ck.dec];rw[Ng ht,Ps0 hm]⟩
    generalize Ck.dec (t::m::L)=Q at*;have hn2:¬(n:Int)<2:=by simp at hl;omega
    obtain⟨b',off',e',hb',h3⟩:=hv.at_ (k:=1) sm;simp only[gV,BP,Bi]at e';obtain⟨rfl,rfl⟩:=e';simp only[Bz,Cx]at h3;have hm':(120:Int)≤(m.toNat:Int):=om;have rE:=m.toNat_lt;clear hv hbad ht hl hm;generalize (t.toNat:Int)=tv at*;generalize (m.toNat:Int)=mv at*;go_enter func125,ntmps125;go_wp2;go_ret2;exact qi.bad HD.1 (Ae _ _)
end Go.Proofs.YtjcpmfphnodaaaaGreatDoor
