/- Part 17. -/
import Derived.Test.YtongopommlghgaaGreatDoorZVAP
import Derived.Test.YtongopommlghgaaGreatDoorZVAL
namespace Go.Proofs.YtongopommlghgaaGreatDoor
set_option maxRecDepth 100000
set_option maxHeartbeats 0
theorem Bo:type_of% @Go.wpAnyH_take:= @Go.wpAnyH_take
theorem BQ:type_of% @Go.AllReadyH.cons:= @Go.AllReadyH.cons
theorem CG:type_of% @Go.AllReadyH.nil:= @Go.AllReadyH.nil
theorem CZ:type_of% @Go.wpAnyH_ready:= @Go.wpAnyH_ready
open _root_.Go.Proofs.Tryz
open Go.RowKit Go.Shelf
def Pm (p d:Nat) (w:World) (Q:(Nat×(Nat×Nat))×List Bool×Int) (e:Ending) (w':World):Prop:=
 ∃(v last':Nat) (c':Nat×Nat) (r':List Bool),e= .returned (.int .u64 (v:Int))∧De w' d p last' c' Q.2.2∧Br w' p r'∧Wd p d w w'∧(Q.2.2=0→v=Q.1.1∧last'=Q.1.1∧c'=Q.1.2∧r'=Q.2.1)
theorem wQ.wd {p d w w'} (h:wQ w) (hw:Wd p d w w') (h1:2<p) (h2:p<d) (hp:p<w.heap.size):wQ w':=fun j hj=>by
 have:=hw.block 2 om om om;exact(AR (a:=⟨2,j,none⟩) this).trans (h j hj)
theorem Xo.eY (n r):Xo.bJ n 0 r=Tm.rd n r:=by unfold Xo.bJ;rw[Ng sm]
theorem Xo.Ud (n) {er} (r) (h:er≠0):Xo.bJ n er r=(0,r,er):=by unfold Xo.bJ;rw[Ps0 h]
theorem Xo.Pn (r):(Xo.Va 0 r).2.2=(Xo.fresh r).2.2∧((Xo.fresh r).2.2=0→Xo.Va 0 r=Xo.fresh r):=by
 unfold Xo.Va Xo.fresh;rw[Xo.eY];by_cases h1:(Tm.rd 6 r).2.2=0
 ·rw[h1,Xo.eY];rw[Ng sm];by_cases h2:(Tm.rd 6 (Tm.rd 6 r).2.1).2.2=0
  ·rw[h2,Ng sm];unfold Xo.kM;by_cases h3:(Tm.rd 6 r).1+((Tm.rd 6 (Tm.rd 6 r).2.1).1+1)≤64
   ·simp[h3]
   ·simp[h3]
  ·rw[Ps0 h2];unfold Xo.kM;simp[h2]
 ·rw[Ps0 h1,Xo.Ud _ _ h1];unfold Xo.kM;simp[h1]
theorem Po (d p last c r w) (hD:De w d p last c 0) (hB:Br w p r) (mD:p<d) (h0:(Tm.rd 1 r).1=0):
  Calls prog 257 #[.pointer (some ⟨d,0,none⟩)] w (Pm p d w (Xo.get last c r)):=by
 have B1:=eX d p last 1 c 0 r w hD hB om mD;rw[Xo.eY]at B1;have hQ:(Xo.get last c r).2.2=(Tm.rd 1 r).2.2∧((Tm.rd 1 r).2.2=0→Xo.get last c r=((last,c),(Tm.rd 1 r).2.1,0)):=by
  unfold Xo.get;by_cases h1:(Tm.rd 1 r).2.2=0
  ·rw[Ng (by simpa using h1),Ps0 h0];exact⟨h1.symm,fun _=>rfl⟩
  ·rw[Ps0 h1];exact⟨rfl,fun h=>absurd h h1⟩
 have KQ:=Aj hQ;generalize Xo.get last c r=Q at*;generalize Tm.rd 1 r=Y at*;obtain⟨a,r1,e1⟩:=Y;simp only[]at*;subst h0;have KB:=Aj B1;clear B1 hD hB hQ;go_enter func257,ntmps257;go_wp2_with (go_at_call 256;refine KB.1.mono ?_;rintro e w1 ⟨rfl,h1,h2,h3⟩;have D1:=Aj h1;have R1:=Aj h2;have F1:=Aj h3;have k0:=h1.k.1;clear h1 h2 h3);go_ret;refine⟨last,last,c,r1,rfl,?_,R1.1,F1.1,fun h=>?_⟩
 ·rw[KQ.1.1];exact D1.1
 ·rw[KQ.1.1]at h;rw[KQ.1.2 h];exact⟨rfl,rfl,rfl,rfl⟩
theorem Tm.Kr {n r} (h:(Tm.rd n r).2.2≠0):(Tm.rd n r).1=0:=by
 unfold Tm.rd at h⊢;split
 ·rfl
 ·rename_i h1;rw[Ng h1]at h;exact absurd rfl h
theorem Wd.drew {p d w w1} (h:Wd p d w w1):Wd p d w w1.drew:=⟨h.os,h.tape,h.output,h.size,h.block⟩
def Mid (w:World) (d p last:Nat) (c cw:Nat×Nat) (er:Int) (r:List Bool) (g:Nat) (W:World):Prop:=
 g≠d∧g≠p∧w.heap.size≤g∧W.heap[g]? =some (.cells #[.int .i64 (cw.1:Int),.int .i64 (cw.2:Int)] 368 (0,0))∧De W d p last c er∧Br W p r∧Wd p d w W
theorem Mid.step {w W W2 d p last last2 g c c2 cw er er2 r r2} (h:Mid w d p last c cw er r g W) (hD:De W2 d p last2 c2 er2) (hB:Br W2 p r2) (hw:Wd p d W W2):Mid w d p last2 c2 cw er2 r2 g W2:=
 ⟨h.1,h.2.1,h.2.2.1,hw.row h.2.2.2.1 h.2.1 h.1,hD,hB,h.2.2.2.2.2.2.trans hw⟩
theorem Mid.cells {w W d p last g c cw er r} (h:Mid w d p last c cw er r g W):W.cell? ⟨g,0,none⟩=some (.int .i64 (cw.1:Int))∧W.cell? ⟨g,1,none⟩=some (.int .i64 (cw.2:Int)):=
 ⟨Co _ _ 0 _ _ _ h.2.2.2.1,Co _ _ 1 _ _ _ h.2.2.2.1⟩
theorem Mid.err {w W d p last g c cw er r} (h:Mid w d p last c cw er r g W):W.cell? ⟨d,4,none⟩=some (.int .i64 er):=h.2.2.2.2.1.k.2.2.2.2
theorem Mid.dr {w W d p last g c cw er r} (h:Mid w d p last c cw er r g W):Mid w d p last c cw er r g W.drew:=
 ⟨h.1,h.2.1,h.2.2.1,h.2.2.2.1,h.2.2.2.2.1,h.2.2.2.2.2.1,h.2.2.2.2.2.2.drew⟩
theorem Mid.gr {w W W2 d p last g c cw er r} (h:Mid w d p last c cw er r g W) (hg:Gr W W2):Mid w d p last c cw er r g W2:=by
 have hb:=hg.below;have hd:=h.2.2.2.2.1.lt;have hp:=h.2.2.2.2.2.1.lt;exact h.step ((hb.block d hd).trans h.2.2.2.2.1) (h.2.2.2.2.2.1.below hb hp) ⟨hb.os,hb.tape,hb.output,hb.size,fun k hk _ _=>hb.block k hk⟩
theorem Mid.win {w W d p last g c cw er r} (h:Mid w d p last c cw er r g W) (hp:p<w.heap.size) (fw):Mid w d p last c fw er r g ((W.setCell ⟨g,0,none⟩ (.int .i64 (fw.1:Int))).setCell ⟨g,1,none⟩ (.int .i64 (fw.2:Int))):=by
 obtain⟨h1,h2,h3,h4,h5,h6,h7⟩:=h;refine⟨h1,h2,h3,?_,(h5.late (fun e=>h1 e.symm) 0 _).late (fun e=>h1 e.symm) 1 _,?_,(h7.late h3 0 _).late h3 1 _⟩
 ·rw[Ag _ _ 1 _ _ _ (Ag _ _ 0 _ _ _ h4)];rfl
 ·exact(h6.grown (au W ⟨g,0,none⟩ _) (fun k e=>by have:=Oj e;simp only at this;omega)).grown (au _ ⟨g,1,none⟩ _) (fun k e=>by have:=Oj e;simp only at this;omega)
theorem Mid.cur {w W d p last g c cw er r} (h:Mid w d p last c cw er r g W) (mD:p<d) (fw):Mid w d p last fw cw er r g ((W.setCell ⟨d,1,none⟩ (.int .i64 (fw.1:Int))).setCell ⟨d,2,none⟩ (.int .i64 (fw.2:Int))):=
 h.step (h.2.2.2.2.1.win fw) ((h.2.2.2.2.2.1.wR mD 1 _).wR mD 2 _) ((Wd.set p W 1 _).trans (Wd.set p _ 2 _))
theorem Xo.Ue (w r):Xo.gQ w r=((Tm.rd w.2 r).1<<<Xo.trail w,(Tm.rd w.2 r).2.1,Xo.kM (decide ((Tm.rd w.2 r).1<<<Xo.trail w≠0)) (Tm.rd w.2 r).2.2):=by
 unfold Xo.gQ Xo.kM;by_cases h:(Tm.rd w.2 r).2.2=0
 ·rw[Ng (by simpa using h),h];by_cases h2:(Tm.rd w.2 r).1<<<Xo.trail w=0
  ·simp[h2]
  ·simp[h2]
 ·rw[Ps0 h];have h3:(Tm.rd w.2 r).1=0:=by
   have h4:=h;unfold Tm.rd at h4⊢;split
   ·rfl
   ·rename_i h1;rw[Ng h1]at h4;exact absurd rfl h4
  rw[h3];simp[h]
theorem Ie (c:Nat×Nat):c=(0,0)∨(c≠(0,0)∧¬((c.1:Int)=0))∨(c≠(0,0)∧((c.1:Int)=0)∧¬((c.2:Int)=0)):=by
 by_cases h1:c.1=0
 ·by_cases h2:c.2=0
  ·exact .inl (Bw h1 h2)
  ·exact .inr (.inr ⟨fun e=>h2 (by rw[e]),om,om⟩)
 ·exact .inr (.inl ⟨fun e=>h1 (by rw[e]),om⟩)
theorem XD (d p last b bb c r r1 r2 e2 w) (hD:De w d p last c 0) (hB:Br w p r) (mD:p<d) (hc:Xo.Cw c) (hl:last<2^64) (hT:wQ w) (xe:2<p)
  (h1:Tm.rd 1 r=(1,r1,0)) (h2:Tm.rd 1 r1=(b,r2,e2)) (hbb:((b:Int)==1)=bb) (hb2:bb=true→e2=0):
  Calls prog 257 #[.pointer (some ⟨d,0,none⟩)] w (Pm p d w (Xo.get last c r)):=by
 have B1:=eX d p last 1 c 0 r w hD hB om mD;rw[Xo.eY,h1]at B1;have B2:=fun(W:World) (hD:De W d p last c 0) (hB:Br W p r1)=>eX d p last 1 c 0 r1 W hD hB om mD
 rw[Xo.eY,h2]at B2;have KB1:=Aj B1;have U9:=Aj B2;simp only[]at KB1 U9;have HQ:Kept (Xo.get last c r=if bb=false then(if e2≠0 then((0,c),(r2,e2))else if c=(0,0)then((0,c),r2,8)else if(Xo.gQ c r2).2.2≠0 then((0,c),(Xo.gQ c r2).2)else((last^^^ (Xo.gQ c r2).1,c),(Xo.gQ c r2).2))
  else if(Xo.fresh r2).2.2≠0 then((0,c),(Xo.fresh r2).2)
  else if(Xo.gQ (Xo.fresh r2).1 (Xo.fresh r2).2.1).2.2≠0 then((0,c),(Xo.gQ (Xo.fresh r2).1 (Xo.fresh r2).2.1).2)
  else if((Xo.fresh r2).1=Xo.win (Xo.gQ (Xo.fresh r2).1 (Xo.fresh r2).2.1).1∧Xo.fits c (Xo.gQ (Xo.fresh r2).1 (Xo.fresh r2).2.1).1=false)then((last^^^ (Xo.gQ (Xo.fresh r2).1 (Xo.fresh r2).2.1).1,(Xo.fresh r2).1),(Xo.gQ (Xo.fresh r2).1 (Xo.fresh r2).2.1).2)
  else((0,c),(Xo.gQ (Xo.fresh r2).1 (Xo.fresh r2).2.1).2.1,8)):=⟨by
  have hbl:b<2:=by have:=Tm.jH 1 r1;rw[h2]at this;exact this
  unfold Xo.get;rw[h1];simp only[];rw[h2];cases bb with
  |false=>
   have hb0:b=0:=by
    have:¬(b:Int)=1:=by simpa using hbb
    omega
   subst hb0;simp
  |true=>
   have hb1:b=1:=by
    have:(b:Int)=1:=by simpa using hbb
    omega
   have:=hb2 rfl;subst hb1;subst this;simp⟩
 generalize Xo.get last c r=Q at*;have HT:=Aj (fun(W:World) (h:Wd p d w W)=>And.intro (hT.wd h xe mD hB.lt) (show 2<W.heap.size from j6 (Nat.lt_trans xe hB.lt) h.size));have hdw:=hD.lt;have hpw:=hB.lt;clear B1 B2 hD hB h1 h2 hT;go_enter func257,ntmps257;go_upto_region 3 with(go_at_call 256;refine KB1.1.mono ?_;rintro e w1 ⟨rfl,h1,h2,h3⟩;have D1:=Aj h1;have R1:=Aj h2;have F1:=Aj h3;clear h1 h2 h3)
 have k6:w1.cell? ⟨d,1,none⟩=some (.int .i64 (c.1:Int))∧w1.cell? ⟨d,2,none⟩=some (.int .i64 (c.2:Int)):=⟨D1.1.k.2.1,D1.1.k.2.2.1⟩
 have k6a:=fun o=>And.intro (D1.1.alloc o).k.2.1 (D1.1.alloc o).k.2.2.1
 go_cut [3,4] (fun sp sb W=>sb= .bool bb∧∃g:Nat,sp= .pointer (some ⟨g,0,none⟩)∧Mid w d p last c c e2 r2 g W)
 case first=>
  go_region_held3 (fun w'=>w'.cell? ⟨d,1,none⟩=some (.int .i64 (c.1:Int))∧w'.cell? ⟨d,2,none⟩=some (.int .i64 (c.2:Int))) (first|exact k6|exact k6a _|exact k7|exact k8 _|exact k9 _ _ _|exact k10 _ _)
   (first
    |(go_at_call 256;refine(U9.1 w1.drew D1.1 R1.1).mono ?_;rintro e w2 ⟨rfl,h1,h2,h3⟩;have D2:=Aj h1;have R2:=Aj h2;have F2:=Aj (F1.1.drew.trans h3);have k7:=And.intro h1.k.2.1 h1.k.2.2.1;have k8:=fun o=>And.intro (h1.alloc o).k.2.1 (h1.alloc o).k.2.2.1;have k9:=fun o u v=>And.intro (((h1.alloc o).late (g:=w2.heap.size) (by have:=h1.lt;omega) 0 u).late (g:=w2.heap.size) (by have:=h1.lt;omega) 1 v).k.2.1 (((h1.alloc o).late (g:=w2.heap.size) (by have:=h1.lt;omega) 0 u).late (g:=w2.heap.size) (by have:=h1.lt;omega) 1 v).k.2.2.1;clear h1 h2 h3)
    |(go_at_call 256;refine(U9.1 (w1.alloc (.cells #[.int .i64 0,.int .i64 0] 368)).drew (D1.1.alloc _) (R1.1.al _)).mono ?_;rintro e w2 ⟨rfl,h1,h2,h3⟩;have q2:=h3.row (Av w1 (.cells #[.int .i64 0,.int .i64 0] 368)) (by have:=R1.1.lt;omega) (by have:=D1.1.lt;omega);have b0:=Co _ _ 0 _ _ _ q2;have b1:=Co _ _ 1 _ _ _ q2;have f0:=Fr _ _ 0 _ _ q2;have f1:=Fr _ _ 1 _ _ q2;have Q2:=Aj q2;clear q2;have D2:=Aj h1;have R2:=Aj h2;have F2:=Aj ((F1.1.alloc _).drew.trans h3);have k7:=And.intro h1.k.2.1 h1.k.2.2.1;have k10:=fun u v=>And.intro ((h1.late (g:=w1.heap.size) (by have:=D1.1.lt;omega) 0 u).late (g:=w1.heap.size) (by have:=D1.1.lt;omega) 1 v).k.2.1 ((h1.late (g:=w1.heap.size) (by have:=D1.1.lt;omega) 0 u).late (g:=w1.heap.size) (by have:=D1.1.lt;omega) 1 v).k.2.2.1;clear h1 h2 h3))
  all_goals (go_wp2_with fail;go_meet)
  ·exact⟨rfl,w2.heap.size,rfl,by have:=D2.1.lt;omega,by have:=R2.1.lt;omega,F2.1.size,Av w2 _,D2.1.alloc _,R2.1.al _,F2.1.alloc _⟩
  ·have hz1:=F1.1.size;have hd1:=D1.1.lt;have hp1:=R1.1.lt;refine⟨rfl,w1.heap.size,rfl,om,om,hz1,?_,(D2.1.late om 0 _).late om 1 _,?_,(F2.1.late hz1 0 _).late hz1 1 _⟩
   ·rw[Ag _ _ 1 _ _ _ (Ag _ _ 0 _ _ _ Q2.1)];rfl
   ·exact(R2.1.grown (au w2 ⟨w1.heap.size,0,none⟩ _) (fun g e=>by have:=Oj e;simp only at this;omega)).grown (au _ ⟨w1.heap.size,1,none⟩ _) (fun g e=>by have:=Oj e;simp only at this;omega)
 case rest=>
  rename World=>wc
  obtain⟨rfl,g,rfl,hm⟩:=hcut;have M:=Aj hm;obtain⟨m0,m1⟩:=hm.cells;clear hm k6 k6a D1 R1 F1 KB1 U9;cases bb with
  |false=>
   have HQ:Kept (Q=if e2≠0 then((0,c),(r2,e2))else if c=(0,0)then((0,c),r2,8)else if(Xo.gQ c r2).2.2≠0 then((0,c),(Xo.gQ c r2).2)else((last^^^ (Xo.gQ c r2).1,c),(Xo.gQ c r2).2)):=⟨by rw[HQ.1,Ps0 rfl]⟩
   by_cases hbad:e2≠0∨c=(0,0)
   ·obtain⟨e5,he5,hne5,hQ5⟩:∃e5:Int,(e5=if e2=0 then 8 else e2)∧e5≠0∧Q.2.2=e5:=by
     have hQ:=HQ.1;by_cases h:e2=0
     ·have hc0:c=(0,0):=hbad.resolve_left (by simpa using h);rw[Ng (by simpa using h),Ps0 hc0]at hQ;exact⟨8,by rw[Ps0 h],Ah,by rw[hQ]⟩
     ·rw[Ps0 h]at hQ;exact⟨e2,by rw[Ng h],h,by rw[hQ]⟩
    have HQ5:=Aj hQ5;have HE5:=Aj hne5;have ajx:(e5 !=0)=true:=by simpa using hne5
    have CH:Kept (∀(b:Bool) (W:World),(b=false∨c≠(0,0))→Mid w d p last c c e2 r2 g W→Calls prog 277 #[.pointer (some ⟨d,0,none⟩),.bool b] W fun e w'=>e= .returned (.tuple #[])∧Mid w d p last c c e5 r2 g w'):=⟨fun b W hb hM=>by
     have h:=gy d p last c e2 b r2 W hM.2.2.2.2.1 hM.2.2.2.2.2.1 mD;have e:Xo.kM b e2=e5:=by
      rw[he5];unfold Xo.kM;by_cases h0:e2=0
      ·have hc0:c=(0,0):=hbad.resolve_left (by simpa using h0);have:b=false:=hb.resolve_right (fun h=>h hc0);rw[Ps0 ⟨h0,this⟩,Ps0 h0]
      ·rw[Ng (fun h=>h0 h.1),Ng h0]
     rw[e]at h;exact h.mono fun _ _ q=>⟨q.1,hM.step q.2.1 q.2.2.1 q.2.2.2⟩⟩
    clear he5 hne5 hQ5 hbad HQ hb2 hbb;rcases Ie c with rfl|⟨hc0,hc1⟩|⟨hc0,hc1,hc2⟩
    ·have CF:=Aj (CH.1 false wc (.inl rfl) M.1);clear CH;go_wp2_with (go_at_call 277;refine CF.1.mono ?_;rintro e w3 ⟨rfl,hM⟩;have M3:=Aj hM;have k4:=hM.err;clear hM);go_ret;exact⟨0,last,_,r2,rfl,by rw[HQ5.1];exact M3.1.2.2.2.2.1,M3.1.2.2.2.2.2.1,M3.1.2.2.2.2.2.2,fun h=>absurd (HQ5.1.symm.trans h) HE5.1⟩
    ·have CF:=Aj (CH.1 true wc (.inr hc0) M.1);clear CH;go_wp2_with (go_at_call 277;refine CF.1.mono ?_;rintro e w3 ⟨rfl,hM⟩;have M3:=Aj hM;have k4:=hM.err;clear hM);go_ret;exact⟨0,last,_,r2,rfl,by rw[HQ5.1];exact M3.1.2.2.2.2.1,M3.1.2.2.2.2.2.1,M3.1.2.2.2.2.2.2,fun h=>absurd (HQ5.1.symm.trans h) HE5.1⟩
    ·have CF:=Aj (CH.1 true wc (.inr hc0) M.1);clear CH;go_wp2_with (go_at_call 277;refine CF.1.mono ?_;rintro e w3 ⟨rfl,hM⟩;have M3:=Aj hM;have k4:=hM.err;clear hM);go_ret;exact⟨0,last,_,r2,rfl,by rw[HQ5.1];exact M3.1.2.2.2.2.1,M3.1.2.2.2.2.2.1,M3.1.2.2.2.2.2.2,fun h=>absurd (HQ5.1.symm.trans h) HE5.1⟩
   ·have he2:e2=0:=by
     by_cases h:e2=0
     ·exact h
     ·exact absurd (.inl h) hbad
    have hc0:c≠(0,0):=fun h=>hbad (.inr h)
    subst he2;obtain⟨hc1,hc2⟩:=hc.resolve_left hc0;have wT:Kept (Q=if(Xo.gQ c r2).2.2≠0 then((0,c),(Xo.gQ c r2).2)else((last^^^ (Xo.gQ c r2).1,c),(Xo.gQ c r2).2)):=⟨by rw[HQ.1,Ng sm,Ng hc0]⟩
    have CF:Kept (Calls prog 277 #[.pointer (some ⟨d,0,none⟩),.bool true] wc fun e w'=>e= .returned (.tuple #[])∧Mid w d p last c c 0 r2 g w'):=⟨(gy d p last c 0 true r2 wc M.1.2.2.2.2.1 M.1.2.2.2.2.2.1 mD).mono fun _ _ q=>⟨q.1,M.1.step q.2.1 q.2.2.1 q.2.2.2⟩⟩
    have IE:=Xo.Ue c r2;have BT:Kept (∀W,Mid w d p last c c 0 r2 g W→Calls prog 256 #[.pointer (some ⟨d,0,none⟩),.int .i64 (c.2:Int)] W fun e w'=>e= .returned (.int .u64 ((Tm.rd c.2 r2).1:Int))∧Mid w d p last c c (Tm.rd c.2 r2).2.2 (Tm.rd c.2 r2).2.1 g w'):=⟨fun W hM=>by
     have h:=eX d p last c.2 c 0 r2 W hM.2.2.2.2.1 hM.2.2.2.2.2.1 om mD;rw[Xo.eY]at h;exact h.mono fun _ _ q=>⟨q.1,hM.step q.2.1 q.2.2.1 q.2.2.2⟩⟩
    have TR:=Aj (fun W=>ik c hc2 W);unfold wv at TR;have hyl:=Tm.jH c.2 r2;have mr:(Tm.rd c.2 r2).1<<<Xo.trail c<2^64:=by
     rw[Ce];have e:64=(64-c.1-c.2)+c.2+c.1:=om;have h1:2^c.2*2^Xo.trail c≤2^64:=by
      rw[←Nat.pow_add];exact kR Ah (by unfold Xo.trail;omega)
     exact j6 (Nat.mul_lt_mul_of_pos_right hyl (Nat.pow_pos Ah)) h1
    have htl:Xo.trail c≤64:=by unfold Xo.trail;omega
    have hsh:IntKind.u64.wrap (((Tm.rd c.2 r2).1:Int)*2^Xo.trail c)=(((Tm.rd c.2 r2).1<<<Xo.trail c:Nat):Int):=by
     rw[Ce]at mr⊢;rw[Bv];have:((Tm.rd c.2 r2).1:Int)*2^Xo.trail c=(((Tm.rd c.2 r2).1*2^Xo.trail c:Nat):Int):=sm;rw[this];generalize (Tm.rd c.2 r2).1*2^Xo.trail c=z at*;omega
    have Pd:bits .xor .u64 (last:Int) (((Tm.rd c.2 r2).1<<<Xo.trail c:Nat):Int)=((last^^^ ((Tm.rd c.2 r2).1<<<Xo.trail c):Nat):Int):=bits_xor_u64_nat _ _ hl mr;clear hbad HQ hb2 hbb M mr;generalize Tm.rd c.2 r2=Y at*;obtain⟨y,r4,ey⟩:=Y;simp only[]at IE BT hyl hsh Pd;generalize Xo.trail c=tr at*;generalize y<<<tr=x at*;have IE2:=Aj IE;have CH:Kept (∀(b:Bool) (W:World),b=decide (x≠0)→Mid w d p last c c ey r4 g W→Calls prog 277 #[.pointer (some ⟨d,0,none⟩),.bool b] W fun e w'=>e= .returned (.tuple #[])∧Mid w d p last c c (Xo.kM (decide (x≠0)) ey) r4 g w'):=⟨fun b W hb hM=>by
     rw[hb];exact(gy d p last c ey (decide (x≠0)) r4 W hM.2.2.2.2.1 hM.2.2.2.2.2.1 mD).mono fun _ _ q=>⟨q.1,hM.step q.2.1 q.2.2.1 q.2.2.2⟩⟩
    rw[IE]at wT;simp only[]at wT;generalize Xo.kM (decide (x≠0)) ey=e4 at*;have FIN:Kept (∀W,Mid w d p last c c e4 r4 g W→Pm p d w Q (.returned (.int .u64 ((last^^^x:Nat):Int))) (W.setCell ⟨d,0,none⟩ (.int .u64 ((last^^^x:Nat):Int)))):=⟨fun W hM=>by
     have h1:=hM.2.2.2.2.1;have h2:=hM.2.2.2.2.2.1;have h3:=hM.2.2.2.2.2.2;have hQ:=wT.1;by_cases he:e4=0
     ·rw[Ng (by simpa using he)]at hQ;rw[hQ];exact⟨_,_,_,_,rfl,h1.last _,h2.wR mD 0 _,h3.trans (Wd.set p W 0 _),fun _=>⟨rfl,rfl,rfl,rfl⟩⟩
     ·rw[Ps0 he]at hQ;rw[hQ];exact⟨_,_,_,_,rfl,h1.last _,h2.wR mD 0 _,h3.trans (Wd.set p W 0 _),fun h=>absurd h he⟩⟩
    have CSE:(¬((c.1:Int)=0))∨(((c.1:Int)=0)∧¬((c.2:Int)=0)):=by
     rcases Ie c with h|h|h
     ·exact absurd h hc0
     ·exact .inl h.2
     ·exact .inr h.2
    have CSX:(∃b,b=decide (x≠0)∧b=true∧((x:Int) !=0)=true)∨(∃b,b=decide (x≠0)∧b=false∧((x:Int) !=0)=false):=by
     by_cases h:x=0
     ·exact .inr ⟨_,rfl,by simp[h],by simp[h]⟩
     ·exact .inl ⟨_,rfl,by simp[h],by simp;omega⟩
    clear IE wT IE2 hyl;rcases CSX with⟨bx,hb1,rfl,hx0⟩|⟨bx,hb1,rfl,hx0⟩
    all_goals
     have CX:=Aj (fun W=>CH.1 _ W hb1);clear CH hb1;rcases CSE with hk1|⟨hk1,hk2⟩
     all_goals
      (try rw[hk1]at TR)
      go_wp2_with (go_at_call 277;refine CF.1.mono ?_;rintro e w3 ⟨rfl,hM⟩;have M3:=Aj hM;have k4:=hM.err;obtain⟨q0,q1⟩:=hM.cells;clear hM CF);have k6:=And.intro q0 q1;go_region_held3 (fun w'=>w'.cell? ⟨g,0,none⟩=some (.int .i64 (c.1:Int))∧w'.cell? ⟨g,1,none⟩=some (.int .i64 (c.2:Int))) (first|exact k6|exact k7|exact k8)
       (first
        |(go_at_call 256;refine(BT.1 _ (by first|exact M3.1.dr|exact M5.1)).mono ?_;rintro e w4 ⟨rfl,hM⟩;have M4:=Aj hM;have k7:=hM.cells;clear hM)
        |(go_at_call 278;refine(TR.1 _).mono ?_;rintro e w5 ⟨rfl,hg⟩;have M5:=Aj (by first|exact M4.1.gr hg|exact M3.1.dr.gr hg);have k8:=M5.1.cells;clear hg))
      all_goals
       clear q0 q1 k4 m0 m1 k6 k7 k8;go_wp2_with (go_at_call 277;(with_reducible refine(CX.1 w5 M5.1).mono ?_);rintro e w6 ⟨rfl,hM⟩;have M6:=Aj hM;have j0:=hM.2.2.2.2.1.k.1;have jf:=hM.2.2.2.2.1.f 0;clear hM);go_ret;exact FIN.1 _ M6.1
  |true=>
   obtain rfl:=hb2 rfl;obtain⟨hf1,hf2⟩:=Xo.Pn r2;have FR:=Pg d p last c 0 r2 wc M.1.2.2.2.2.1 M.1.2.2.2.2.2.1 mD;obtain⟨X,hX⟩:∃X,Xo.fresh r2=X:=⟨_,rfl⟩
   rw[hX]at hf1 hf2;have wT:Kept (Q=if X.2.2≠0 then((0,c),X.2)else if(Xo.gQ X.1 X.2.1).2.2≠0 then((0,c),(Xo.gQ X.1 X.2.1).2)else if(X.1=Xo.win (Xo.gQ X.1 X.2.1).1∧Xo.fits c (Xo.gQ X.1 X.2.1).1=false)then((last^^^ (Xo.gQ X.1 X.2.1).1,X.1),(Xo.gQ X.1 X.2.1).2)else((0,c),(Xo.gQ X.1 X.2.1).2.1,8)):=⟨by
    have:=HQ.1;rw[Ng sm,hX]at this;exact this⟩
   by_cases kJ:X.2.2=0
   case neg=>
    rw[Ps0 kJ]at wT;have he5:((Xo.Va 0 r2).2.2 !=0)=true:=by rw[hf1];simpa using kJ
    have HF1:=Aj hf1;have HE3:=Aj kJ;have FR2:=Aj (FR.mono fun _ _ q=>And.intro q.1 (M.1.step q.2.1 q.2.2.1 q.2.2.2));clear FR hf1 hf2 HQ hX kJ hbb hb2;generalize Xo.Va 0 r2=Z at*;obtain⟨fw,r3,e3⟩:=Z;simp only[]at*;go_wp2_with (go_at_call 276;refine FR2.1.mono ?_;rintro e w3 ⟨rfl,hM⟩;have M3:=Aj hM;obtain⟨q0,q1⟩:=hM.cells;have f0:=Fr _ _ 0 _ _ hM.2.2.2.1;have f1:=Fr _ _ 1 _ _ hM.2.2.2.1;have k4:=(hM.win hpw fw).err;clear hM);go_ret;have M4:=M3.1.win hpw fw;exact⟨0,last,_,r3,rfl,by rw[wT.1,←HF1.1];exact M4.2.2.2.2.1,M4.2.2.2.2.2.1,M4.2.2.2.2.2.2,fun h=>absurd (by rw[wT.1]at h;exact h) HE3.1⟩
   case pos=>
    obtain⟨fw,r3,e3⟩:=X;simp only[]at kJ hf1 hf2 wT;subst kJ;rw[hf2 rfl]at FR;obtain⟨hw1,hw2,-⟩:=Xo.FI hX;have XE:Kept (Q=if(Xo.gQ fw r3).2.2≠0 then((0,c),(Xo.gQ fw r3).2)else if(fw=Xo.win (Xo.gQ fw r3).1∧Xo.fits c (Xo.gQ fw r3).1=false)then((last^^^ (Xo.gQ fw r3).1,fw),(Xo.gQ fw r3).2)else((0,c),(Xo.gQ fw r3).2.1,8)):=⟨by rw[wT.1,Ng sm]⟩
    have FR2:=Aj (FR.mono fun _ _ q=>And.intro q.1 (M.1.step q.2.1 q.2.2.1 q.2.2.2));simp only[]at FR2;have IE:=Xo.Ue fw r3;have BT:Kept (∀W,Mid w d p last c fw 0 r3 g W→Calls prog 256 #[.pointer (some ⟨d,0,none⟩),.int .i64 (fw.2:Int)] W fun e w'=>e= .returned (.int .u64 ((Tm.rd fw.2 r3).1:Int))∧Mid w d p last c fw (Tm.rd fw.2 r3).2.2 (Tm.rd fw.2 r3).2.1 g w'):=⟨fun W hM=>by
     have h:=eX d p last fw.2 c 0 r3 W hM.2.2.2.2.1 hM.2.2.2.2.2.1 om mD;rw[Xo.eY]at h;exact h.mono fun _ _ q=>⟨q.1,hM.step q.2.1 q.2.2.1 q.2.2.2⟩⟩
    have TR:=Aj (fun W=>ik fw hw2 W);unfold wv at TR;have hyl:=Tm.jH fw.2 r3;have mr:(Tm.rd fw.2 r3).1<<<Xo.trail fw<2^64:=by
     rw[Ce];have e:64=(64-fw.1-fw.2)+fw.2+fw.1:=om;have h1:2^fw.2*2^Xo.trail fw≤2^64:=by
      rw[←Nat.pow_add];exact kR Ah (by unfold Xo.trail;omega)
     exact j6 (Nat.mul_lt_mul_of_pos_right hyl (Nat.pow_pos Ah)) h1
    have htl:Xo.trail fw≤64:=by unfold Xo.trail;omega
    have hsh:IntKind.u64.wrap (((Tm.rd fw.2 r3).1:Int)*2^Xo.trail fw)=(((Tm.rd fw.2 r3).1<<<Xo.trail fw:Nat):Int):=by
     rw[Ce]at mr⊢;rw[Bv];have:((Tm.rd fw.2 r3).1:Int)*2^Xo.trail fw=(((Tm.rd fw.2 r3).1*2^Xo.trail fw:Nat):Int):=sm;rw[this];generalize (Tm.rd fw.2 r3).1*2^Xo.trail fw=z at*;omega
    have Pd:bits .xor .u64 (last:Int) (((Tm.rd fw.2 r3).1<<<Xo.trail fw:Nat):Int)=((last^^^ ((Tm.rd fw.2 r3).1<<<Xo.trail fw):Nat):Int):=bits_xor_u64_nat _ _ hl mr;have aaM:=Aj mr;clear FR hf1 hf2 HQ wT hX hb2 hbb M mr;generalize Tm.rd fw.2 r3=Y at*;obtain⟨y,r4,ey⟩:=Y;simp only[]at IE BT hyl hsh Pd aaM;generalize Xo.trail fw=tr at*;generalize y<<<tr=x at*;rw[IE]at XE;simp only[]at XE;have CH:Kept (∀(b:Bool) (W:World),b=decide (x≠0)→Mid w d p last c fw ey r4 g W→Calls prog 277 #[.pointer (some ⟨d,0,none⟩),.bool b] W fun e w'=>e= .returned (.tuple #[])∧Mid w d p last c fw (Xo.kM (decide (x≠0)) ey) r4 g w'):=⟨fun b W hb hM=>by
     rw[hb];exact(gy d p last c ey (decide (x≠0)) r4 W hM.2.2.2.2.1 hM.2.2.2.2.2.1 mD).mono fun _ _ q=>⟨q.1,hM.step q.2.1 q.2.2.1 q.2.2.2⟩⟩
    have aaN:Xo.kM (decide (x≠0)) ey=0→x≠0:=fun h hx=>by
     rw[hx]at h;unfold Xo.kM at h;by_cases h0:ey=0
     ·rw[Ps0 ⟨h0,sm⟩]at h;cases h
     ·rw[Ng (fun q=>h0 q.1)]at h;exact h0 h
    generalize Xo.kM (decide (x≠0)) ey=e4 at*;by_cases ER:e4=0
    case neg=>
     rw[Ps0 ER]at XE;have he5:(e4==0)=false:=by simpa using ER
     have HE4:=Aj ER;have FIN:Kept (∀W,Mid w d p last c fw e4 r4 g W→Pm p d w Q (.returned (.int .u64 ((last^^^x:Nat):Int))) (W.setCell ⟨d,0,none⟩ (.int .u64 ((last^^^x:Nat):Int)))):=⟨fun W hM=>by
      rw[XE.1];exact⟨_,_,_,_,rfl,hM.2.2.2.2.1.last _,hM.2.2.2.2.2.1.wR mD 0 _,hM.2.2.2.2.2.2.trans (Wd.set p W 0 _),fun h=>absurd h ER⟩⟩
     have CSX:(∃b,b=decide (x≠0)∧b=true∧((x:Int) !=0)=true)∨(∃b,b=decide (x≠0)∧b=false∧((x:Int) !=0)=false):=by
      by_cases h:x=0
      ·exact .inr ⟨_,rfl,by simp[h],by simp[h]⟩
      ·exact .inl ⟨_,rfl,by simp[h],by simp;omega⟩
     clear IE XE hyl ER aaN;rcases CSX with⟨bx,hb1,rfl,hx0⟩|⟨bx,hb1,rfl,hx0⟩
     all_goals
      have CX:=Aj (fun W=>CH.1 _ W hb1);clear CH hb1;go_wp2_with (go_at_call 276;refine FR2.1.mono ?_;rintro e w3 ⟨rfl,hM⟩;have M3:=Aj (hM.win hpw fw);obtain⟨q0,q1⟩:=hM.cells;have f0:=Fr _ _ 0 _ _ hM.2.2.2.1;have f1:=Fr _ _ 1 _ _ hM.2.2.2.1;have k4:=M3.1.err;have k6:=M3.1.cells;clear hM);generalize (w3.setCell ⟨g,0,none⟩ (.int .i64 (fw.1:Int))).setCell ⟨g,1,none⟩ (.int .i64 (fw.2:Int))=w3a at*;go_region_held3 (fun w'=>w'.cell? ⟨g,0,none⟩=some (.int .i64 (fw.1:Int))∧w'.cell? ⟨g,1,none⟩=some (.int .i64 (fw.2:Int))) (first|exact k6|exact k7|exact k8)
       (first
        |(go_at_call 256;refine(BT.1 _ (by first|exact M3.1.dr|exact M5.1)).mono ?_;rintro e w4 ⟨rfl,hM⟩;have M4:=Aj hM;have k7:=hM.cells;clear hM)
        |(go_at_call 278;refine(TR.1 _).mono ?_;rintro e w5 ⟨rfl,hg⟩;have M5:=Aj (by first|exact M4.1.gr hg|exact M3.1.dr.gr hg);have k8:=M5.1.cells;clear hg))
      all_goals
       clear q0 q1 k4 m0 m1 k6 k7 k8 f0 f1;go_wp2_with (go_at_call 277;(with_reducible refine(CX.1 w5 M5.1).mono ?_);rintro e w6 ⟨rfl,hM⟩;have M6:=Aj hM;have j0:=hM.2.2.2.2.1.k.1;have jf:=hM.2.2.2.2.1.f 0;have j4:=hM.err;clear hM);go_ret;exact FIN.1 _ M6.1
    case pos=>
     subst ER;have hx0:=aaN rfl;rw[Ng sm]at XE;have hxb:((x:Int) !=0)=true:=by simp;omega
     have CX:=Aj (fun W=>CH.1 true W (by simp[hx0]));have WO:=Aj (show∀W,Mid w d p last c fw 0 r4 g W→Calls prog 279 #[.int .u64 (x:Int)] W fun e w'=>e= .returned (.agg #[.int .i64 ((Xo.win x).1:Int),.int .i64 ((Xo.win x).2:Int)])∧Gr W w' from fun W hM=>jY x aaM.1 hx0 W (HT.1 W hM.2.2.2.2.2.2).1 (HT.1 W hM.2.2.2.2.2.2).2);have FT:=Aj (show∀W,Mid w d p last c fw 0 r4 g W→Calls prog 280 #[.pointer (some ⟨d,0,none⟩),.int .u64 (x:Int)] W fun e w'=>e= .returned (.bool (Xo.fits c x))∧Gr W w' from fun W hM=>Hw d x c aaM.1 hx0 hc W (HT.1 W hM.2.2.2.2.2.2).1 (HT.1 W hM.2.2.2.2.2.2).2 ⟨hM.2.2.2.2.1.k.2.1,hM.2.2.2.2.1.k.2.2.1⟩ hM.2.2.2.2.1.lt);have CK:Kept (∀(b:Bool) (W:World),Mid w d p last c fw 0 r4 g W→Calls prog 277 #[.pointer (some ⟨d,0,none⟩),.bool b] W fun e w'=>e= .returned (.tuple #[])∧Mid w d p last c fw (if b=true then 0 else 8) r4 g w'):=⟨fun b W hM=>by
      refine(gy d p last c 0 b r4 W hM.2.2.2.2.1 hM.2.2.2.2.2.1 mD).mono fun _ _ q=>⟨q.1,?_⟩
      have:=hM.step q.2.1 q.2.2.1 q.2.2.2;unfold Xo.kM at this;cases b<;>simpa using this⟩
     have FIN:Kept (∀(e6:Int) (W:World),(e6=if(fw=Xo.win x∧Xo.fits c x=false)then 0 else 8)→Mid w d p last fw fw e6 r4 g W→Pm p d w Q (.returned (.int .u64 ((last^^^x:Nat):Int))) (W.setCell ⟨d,0,none⟩ (.int .u64 ((last^^^x:Nat):Int)))):=⟨fun e6 W he hM=>by
      rw[XE.1];by_cases q:fw=Xo.win x∧Xo.fits c x=false
      ·rw[Ps0 q]at he⊢;subst he;exact⟨_,_,_,_,rfl,hM.2.2.2.2.1.last _,hM.2.2.2.2.2.1.wR mD 0 _,hM.2.2.2.2.2.2.trans (Wd.set p W 0 _),fun _=>⟨rfl,rfl,rfl,rfl⟩⟩
      ·rw[Ng q]at he⊢;subst he;exact⟨_,_,_,_,rfl,hM.2.2.2.2.1.last _,hM.2.2.2.2.2.1.wR mD 0 _,hM.2.2.2.2.2.2.trans (Wd.set p W 0 _),fun h=>by simp at h⟩⟩
     clear IE XE hyl aaN CH hx0;have CSE:(fw=Xo.win x)∨(¬fw=Xo.win x∧((¬(fw.1:Int)=((Xo.win x).1:Int))∨((fw.1:Int)=((Xo.win x).1:Int)∧¬(fw.2:Int)=((Xo.win x).2:Int)))):=by
      by_cases h:fw=Xo.win x
      ·exact .inl h
      ·refine .inr ⟨h,?_⟩;by_cases h1:fw.1=(Xo.win x).1
       ·exact .inr ⟨om,fun h2=>h (Bw h1 om)⟩
       ·exact .inl om
     generalize Xo.win x=v at*;generalize Xo.fits c x=fb at*;go_wp2_with (go_at_call 276;refine FR2.1.mono ?_;rintro e w3 ⟨rfl,hM⟩;have M3:=Aj (hM.win hpw fw);obtain⟨q0,q1⟩:=hM.cells;have f0:=Fr _ _ 0 _ _ hM.2.2.2.1;have f1:=Fr _ _ 1 _ _ hM.2.2.2.1;have k4:=M3.1.err;have k6:=M3.1.cells;clear hM);generalize (w3.setCell ⟨g,0,none⟩ (.int .i64 (fw.1:Int))).setCell ⟨g,1,none⟩ (.int .i64 (fw.2:Int))=w3a at*;go_region_held3 (fun w'=>w'.cell? ⟨g,0,none⟩=some (.int .i64 (fw.1:Int))∧w'.cell? ⟨g,1,none⟩=some (.int .i64 (fw.2:Int))) (first|exact k6|exact k7|exact k8)
      (first
       |(go_at_call 256;refine(BT.1 _ (by first|exact M3.1.dr|exact M5.1)).mono ?_;rintro e w4 ⟨rfl,hM⟩;have M4:=Aj hM;have k7:=hM.cells;clear hM)
       |(go_at_call 278;refine(TR.1 _).mono ?_;rintro e w5 ⟨rfl,hg⟩;have M5:=Aj (by first|exact M4.1.gr hg|exact M3.1.dr.gr hg);have k8:=M5.1.cells;clear hg))
     clear q0 q1 k4 m0 m1 k6 k7 k8 f0 f1;go_upto_region 12 with(go_at_call 277;(with_reducible refine(CX.1 w5 M5.1).mono ?_);rintro e w6 ⟨rfl,hM⟩;have M6:=Aj hM;have j4:=hM.err;clear hM)
     clear j4;have k6:=M6.1.cells;go_cut [] (fun W=>∃e6:Int,(e6=if(fw=v∧fb=false)then 0 else 8)∧Mid w d p last c fw e6 r4 g W)
     case first=>
      rcases CSE with rfl|⟨hne,hv|⟨hv,hv2⟩⟩
      ·cases fb
       all_goals
        go_region_held3 (fun w'=>w'.cell? ⟨g,0,none⟩=some (.int .i64 (fw.1:Int))∧w'.cell? ⟨g,1,none⟩=some (.int .i64 (fw.2:Int))) (first|exact k6|exact k7|exact k8|exact k9)
         (first
          |(go_at_call 279;refine(WO.1 w6.drew M6.1.dr).mono ?_;rintro e w7 ⟨rfl,hg⟩;have M7:=Aj (M6.1.dr.gr hg);have k7:=M7.1.cells;clear hg)
          |(go_at_call 280;refine(FT.1 w7 M7.1).mono ?_;rintro e w8 ⟨rfl,hg⟩;have M8:=Aj (M7.1.gr hg);have k8:=M8.1.cells;clear hg)
          |(go_at_call 277;refine(CK.1 _ w8 M8.1).mono ?_;rintro e w9 ⟨rfl,hM⟩;have M9:=Aj hM;have k9:=M9.1.cells;clear hM))
        go_wp2_with fail;go_meet;exact⟨_,by first|rfl|simp,M9.1⟩
      all_goals
       refine wp_region_held_drew (S:=fun w'=>w'.cell? ⟨g,0,none⟩=some (.int .i64 (fw.1:Int))∧w'.cell? ⟨g,1,none⟩=some (.int .i64 (fw.2:Int))) kr k6 (fun hHeld=>?_);refine Bo (i:=0) (oi:=⟨_,_,_,_,_,_⟩) (v:=?_) rfl kr kr kr (fun _ _ _ h=>h) (Or.inl ⟨rfl,?_⟩) (by assumption) ?_
       rotate_left
       ·intro w hSw;(try dsimp only at hSw);go_simp;(try with_reducible rfl)
       try simp only[Act.put,Al,Aq,Ap]
       refine Bo (i:=1) (oi:=⟨_,_,_,_,_,_⟩) (v:=?_) rfl kr kr kr (fun _ _ _ h=>h) (Or.inl ⟨rfl,?_⟩) (by assumption) ?_
       rotate_left
       ·intro w hSw;(try dsimp only at hSw);go_simp;(try with_reducible rfl)
       try simp only[Act.put,Al,Aq,Ap]
       refine Bo (i:=2) (oi:=⟨_,_,_,_,_,_⟩) (v:=?_) rfl kr kr kr (fun _ _ _ h=>h) (Or.inl ⟨rfl,?_⟩) (by assumption) ?_
       rotate_left
       ·intro w hSw;(try dsimp only at hSw);go_simp;(try with_reducible rfl)
       try simp only[Act.put,Al,Aq,Ap]
       refine CZ (rs:=[3]) kr sm ?_;refine BQ (o:=⟨_,_,_,_,_,_⟩) rfl (fun K hK=>?_) CG;go_simp;refine(WO.1 w6.drew M6.1.dr).mono ?_;rintro e w7 ⟨rfl,hg⟩;have M7:=Aj (M6.1.dr.gr hg);have k7:=M7.1.cells;clear hg;refine hK.out _ _ k7 (fun hHeld=>?_);clear hK K
       try simp only[Act.put,Al,Aq,Ap]
       refine Bo (i:=4) (oi:=⟨_,_,_,_,_,_⟩) (v:=?_) rfl kr kr kr (fun _ _ _ h=>h) (Or.inl ⟨rfl,?_⟩) (by assumption) ?_
       rotate_left
       ·intro w hSw;(try dsimp only at hSw);go_simp;(try with_reducible rfl)
       try simp only[Act.put,Al,Aq,Ap]
       refine Bo (i:=5) (oi:=⟨_,_,_,_,_,_⟩) (v:=?_) rfl kr kr kr (fun _ _ _ h=>h) (Or.inl ⟨rfl,?_⟩) (by assumption) ?_
       rotate_left
       ·intro w hSw;(try dsimp only at hSw);go_simp;(try with_reducible rfl)
       try simp only[Act.put,Al,Aq,Ap]
       refine Bo (i:=6) (oi:=⟨_,_,_,_,_,_⟩) rfl kr kr kr (fun _ _ _ h=>h) (Or.inr ⟨rfl,rfl⟩) (by assumption) ?_
       try simp only[Act.put,Al,Aq,Ap]
       refine Bo (i:=7) (oi:=⟨_,_,_,_,_,_⟩) rfl kr kr kr (fun _ _ _ h=>h) (Or.inr ⟨rfl,rfl⟩) (by assumption) ?_
       try simp only[Act.put,Al,Aq,Ap]
       refine Bo (i:=8) (oi:=⟨_,_,_,_,_,_⟩) rfl kr kr kr (fun _ _ _ h=>h) (Or.inr ⟨rfl,rfl⟩) (by assumption) ?_
       try simp only[Act.put,Al,Aq,Ap]
       refine Bo (i:=9) (oi:=⟨_,_,_,_,_,_⟩) rfl kr kr kr (fun _ _ _ h=>h) (Or.inr ⟨rfl,rfl⟩) (by assumption) ?_
       try simp only[Act.put,Al,Aq,Ap]
       refine Bo (i:=10) (oi:=⟨_,_,_,_,_,_⟩) rfl kr kr kr (fun _ _ _ h=>h) (Or.inr ⟨rfl,rfl⟩) (by assumption) ?_
       try simp only[Act.put,Al,Aq,Ap]
       refine Bo (i:=11) (oi:=⟨_,_,_,_,_,_⟩) rfl kr kr kr (fun _ _ _ h=>h) (Or.inr ⟨rfl,rfl⟩) (by assumption) ?_
       try simp only[Act.put,Al,Aq,Ap]
       refine Bo (i:=12) (oi:=⟨_,_,_,_,_,_⟩) (v:=?_) rfl kr kr kr (fun _ _ _ h=>h) (Or.inl ⟨rfl,?_⟩) (by assumption) ?_
       rotate_left
       ·intro w hSw;(try dsimp only at hSw);go_simp;(try with_reducible rfl)
       try simp only[Act.put,Al,Aq,Ap]
       refine CZ (rs:=[13]) kr sm ?_;refine BQ (o:=⟨_,_,_,_,_,_⟩) rfl (fun K hK=>?_) CG;go_simp;refine(CK.1 _ w7 M7.1).mono ?_;rintro e w9 ⟨rfl,hM⟩;have M9:=Aj hM;have k9:=M9.1.cells;clear hM;refine hK.out _ _ k9 (fun hHeld=>?_);clear hK K
       try simp only[Act.put,Al,Aq,Ap]
       refine wpAnyH_done kr ?_ _;go_wp2_with fail;go_meet;exact⟨8,by rw[Ng (fun q=>hne q.1)],by simpa using M9.1⟩
     case rest=>
      rename World=>wz
      obtain⟨e6,U7,hM⟩:=hcut;have HE6:=Aj U7;have MZ:=Aj hM;have f1:=hM.2.2.2.2.1.f 1;have f2:=hM.2.2.2.2.1.f 2;have c1:=hM.2.2.2.2.1.k.2.1;have c2:=hM.2.2.2.2.1.k.2.2.1;have hg:=hM.cells;have M10:=Aj (hM.cur mD fw);have j0:=M10.1.2.2.2.2.1.k.1;have jf:=M10.1.2.2.2.2.1.f 0;clear U7 hM k6;go_wp2;go_ret;exact FIN.1 e6 _ HE6.1 M10.1
theorem aaO {w w' p d base n c sz A xs t} (h:w.ownsRow base t sz (.slice A n c) n xs) (hw:Wd p d w w') (hp:p<base) (hd:d<base):w'.ownsRow base t sz (.slice A n c) n xs:=by
 refine⟨h.1,?_⟩;rcases h.2 with hn|⟨g,cap,cur,hv,h1,h2,rest⟩
 ·exact .inl hn
 ·refine .inr ⟨g,cap,cur,hv,h1,?_,rest⟩;rw[hw.block g (Ge.1 h2).1 om om];exact h2
theorem XF (d p last c r w) (hD:De w d p last c 0) (hB:Br w p r) (mD:p<d) (hc:Xo.Cw c) (hl:last<2^64) (hT:wQ w) (xe:2<p):
  Calls prog 257 #[.pointer (some ⟨d,0,none⟩)] w (Pm p d w (Xo.get last c r)):=by
 by_cases h0:(Tm.rd 1 r).1=0
 ·exact Po d p last c r w hD hB mD h0
 ·have he:(Tm.rd 1 r).2.2=0:=by
   by_cases q:(Tm.rd 1 r).2.2=0
   ·exact q
   ·exact absurd (Tm.Kr q) h0
  have hlt:=Tm.jH 1 r;have h1:Tm.rd 1 r=(1,(Tm.rd 1 r).2.1,0):=Bw (by show(Tm.rd 1 r).1=1;omega) (Bw rfl he);refine XD d p last _ (((Tm.rd 1 (Tm.rd 1 r).2.1).1:Int)==1) c r _ _ _ w hD hB mD hc hl hT xe h1 rfl rfl (fun hb=>?_);by_cases q:(Tm.rd 1 (Tm.rd 1 r).2.1).2.2=0
  ·exact q
  ·rw[Tm.Kr q]at hb;simp at hb
theorem Xo.aaP {last c r} (hl:last<2^64) (hc:Xo.Cw c) (h:(Xo.get last c r).2.2=0):(Xo.get last c r).1.1<2^64∧Xo.Cw (Xo.get last c r).1.2:=by
 have h1:Xo.get last c r=(((Xo.get last c r).1.1,(Xo.get last c r).1.2),(Xo.get last c r).2.1,0):=by rw[←h]
 obtain⟨g1,g2,-⟩:=Xo.Rm hl hc h1;refine⟨g1,?_⟩;have:=Xo.Jy hl g1 hc;rw[g2]at this;exact this
theorem Xo.Pp (n last c acc r):Xo.gets (n+1) last c acc r=if(Xo.get last c r).2.2≠0 then([],(Xo.get last c r).2)else Xo.gets n (Xo.get last c r).1.1 (Xo.get last c r).1.2 (acc++[(Xo.get last c r).1.1]) (Xo.get last c r).2.1:=rfl
theorem Wd.grow {p d w w1 w2 row} (h:Wd p d w w1) (hg:w1.grownBy w2 row) (hr:∀g,row=some g→w.heap.size≤g):Wd p d w w2:=
 ⟨hg.os.trans h.os,hg.tape.trans h.tape,hg.output.trans h.output,Lt h.size hg.size,fun k hk hp hd=>(hg.block k (j6 hk h.size) (fun e=>by have:=hr k e.symm;omega)).trans (h.block k hk hp hd)⟩
theorem Wd.fine {p w w1} (h:Wd p w.heap.size w w1):w.grownBy w1 (some p):=
 ⟨h.os,h.tape,h.output,h.size,fun k hk hp=>h.block k hk (fun e=>hp (by rw[e])) om⟩
def Uf (w:World) (p:Nat) (Q:List Nat×List Bool×Int) (e:Ending) (w':World):Prop:=
 ∃A2 n2 c2 r',e= .returned (.tuple #[.slice A2 n2 c2,.int .i64 Q.2.2])∧aJ w' w.heap.size A2 n2 c2 Q.1∧Br w' p r'∧(Q.2.2=0→r'=Q.2.1)∧w.grownBy w' (some p)
def Gts (w:World) (p n:Nat) (Q:List Nat×List Bool×Int) (k:Nat) (A:Option Addr) (m c:Nat) (W:World) (er:Int):Prop:=
 ∃(last:Nat) (cw:Nat×Nat) (r:List Bool) (acc:List Nat),De W w.heap.size p last cw er∧Br W p r∧aJ W (w.heap.size+1) A m c acc∧m=k∧Wd p w.heap.size w W∧Kept (er=0→Xo.Cw cw∧last<2^64)∧Kept ((er=0∧Xo.gets (n-k) last cw acc r=Q)∨(er≠0∧Q.2.2=er∧Q.1=[]))
theorem Ug (p n:Nat) (r w) (h:Br w p r) (hn:n≤1000000) (hT:wQ w) (xe:2<p):
  Calls prog 217 #[.pointer (some ⟨p,0,none⟩),.int .i64 (n:Int)] w (Uf w p (Xo.dec n r)):=by
 have mq:=h.lt;have hn0:¬(n:Int)<0:=om;by_cases h0:n=0
 ·subst h0;have H:=Aj h;clear h hT;go_enter func217,ntmps217;go_wp2;go_ret2;exact⟨none,0,0,r,rfl,⟨rfl,.inl ⟨rfl,rfl⟩⟩,H.1,fun _=>rfl,rfl,rfl,rfl,Nr _,fun _ _ _=>rfl⟩
 ·have hne:((n:Int)==0)=false:=by simp;omega
  obtain⟨W0,hW0⟩:∃W0,W0=w.alloc (.cells #[.int .u64 0,.int .i64 0,.int .i64 0,.pointer (some ⟨p,0,none⟩),.int .i64 0] 372):=⟨_,rfl⟩
  have hD0:De W0 w.heap.size p 0 (0,0) 0:=by rw[hW0];exact Av w _
  have hB0:Br W0 p r:=by rw[hW0];exact h.al _
  have hF0:Wd p w.heap.size w W0:=by rw[hW0];exact(Wd.refl _ _ w).alloc _
  have B1:=eX w.heap.size p 0 64 (0,0) 0 r W0 hD0 hB0 om mq;rw[Xo.eY]at B1;have hv:=Tm.jH 64 r;have hbad:=fun q=>Tm.Kr (n:=64) (r:=r) q
  have hdec:Xo.dec n r=if(Tm.rd 64 r).2.2≠0 then([],(Tm.rd 64 r).2)else Xo.gets (n-1) (Tm.rd 64 r).1 (0,0) [(Tm.rd 64 r).1] (Tm.rd 64 r).2.1:=by unfold Xo.dec;rw[Ng h0]
  obtain⟨Q,hQ⟩:∃Q,Q=Xo.dec n r:=⟨_,rfl⟩
  rw[←hQ]at hdec⊢;have aaQ:=Aj hdec;have HT:=Aj (fun(W:World) (hw:Wd p w.heap.size w W)=>hT.wd hw xe mq mq);have HW0:=Aj hW0.symm;have HF0:=Aj hF0;have KB:=Aj B1;have HV:=Aj hv;clear h hT hW0 hD0 hB0 hF0 B1 hdec hQ hbad hv;generalize Tm.rd 64 r=Y at*;obtain⟨v0,r0,e0⟩:=Y;simp only[]at aaQ KB HV;go_enter func217,ntmps217;go_wp2_with (go_at_call 256;rw[HW0.1];refine KB.1.mono ?_;rintro e w1 ⟨rfl,h1,h2,h3⟩;have k0:=h1.k.1;have f0:=h1.f 0;have D1:=Aj (h1.last v0);have R1:=Aj (h2.wR mq 0 (.int .u64 (v0:Int)));have F1:=Aj ((HF0.1.trans h3).trans (Wd.set p w1 0 (.int .u64 (v0:Int))));have z1:=h3.size;clear h1 h2 h3);have hz0:w.heap.size+1≤W0.heap.size:=by rw[←HW0.1];simp
  have I0:Gts w p n Q 1 (some ⟨w1.heap.size,0,none⟩) 1 1 ((w1.setCell ⟨w.heap.size,0,none⟩ (.int .u64 (v0:Int))).alloc (.cells #[.int .u64 (v0:Int)] 125)) e0:=by
   refine⟨v0,(0,0),r0,[v0],D1.1.alloc _,R1.1.al _,?_,rfl,F1.1.alloc _,⟨fun _=>⟨.inl rfl,HV.1⟩⟩,⟨?_⟩⟩
   ·have:=World.ownsRow_lit (base:=w.heap.size+1) (size:=1) (e:=125) (w1.setCell ⟨w.heap.size,0,none⟩ (.int .u64 (v0:Int))) #[.int .u64 (v0:Int)] 1 (by simp;omega) (by unfold maxLen;omega) rfl;unfold aJ;simpa[vK,uv]using this
   ·have hQ:=aaQ.1;by_cases he:e0=0
    ·rw[Ng (by simpa using he)]at hQ;exact .inl ⟨he,hQ.symm⟩
    ·rw[Ps0 he]at hQ;exact .inr ⟨he,by rw[hQ],by rw[hQ]⟩
  have KI:=Aj I0;clear I0 aaQ KB HV HW0 HF0 hz0 z1;go_loopw [7,8] (fun l i wr=>∃(k:Nat) (A2:Option Addr) (n2 c2:Nat) (er:Int),1≤k∧k≤n∧i= .int .i64 k∧l= .slice A2 n2 c2∧Gts w p n Q k A2 n2 c2 wr er) (fun _ i _=>n-(intOf i).toNat)
  case atStart=>exact⟨1,_,_,_,e0,om,om,rfl,rfl,KI.1⟩
  case round=>
   clear KI D1 R1 F1 k0 f0;obtain⟨k,A2,n2,c2,er,hk1,hkn,rfl,rfl,last,cw,r3,acc,hD,hB,hO,hm,hF,hcl,hcs⟩:=hrel;have k4:=hD.k.2.2.2.2;have kP:=hF.size;have HM:=Aj hm;have hn2:n2≤1000000:=om;clear hm;by_cases hgo:k<n∧er=0
   ·obtain⟨hlt,rfl⟩:=hgo;obtain⟨hc,hl⟩:=hcl.1 rfl;have hlt':(k:Int)< (n:Int):=om;have hG:=hcs.1.resolve_right (fun q=>q.1 rfl);have GA:=Aj (XF w.heap.size p last cw r3 wr hD hB mq hc hl (HT.1 wr hF) xe);have hgs:=Xo.Pp (n-k-1) last cw acc r3;rw[show n-k-1+1=n-k from om,hG.2]at hgs;have hlc:=fun q=>Xo.aaP (last:=last) (c:=cw) (r:=r3) hl hc q
    have HGS:=Aj hgs;have HLC:=Aj hlc;have O:=Aj hO;have F:=Aj hF;clear hG hgs hlc hcs hD hB hF hc hl;have HH:=Aj hcl;clear hcl HH;generalize Xo.get last cw r3=X at*;go_wp2_with (first
     |(at_builtin;refine dJ rfl (.tmp 45) (.tmp 48) rfl (w.heap.size+1) A2 n2 c2 acc rfl O2.1 _ _ _ _ [v] rfl (kF.one w2 v) om (by simp;omega) ?_;intro A4 c4 w5 hown hgrow hat;have O5:=Aj hown;have hr:∀g,ab A2=some g→w.heap.size<g:=(fun g e=>(ae O.1 g e).1);have D5:=Aj (show De w5 w.heap.size p last' c' X.2.2 from(hgrow.block _ (D2.1.alloc _).lt (fun e=>absurd (hr _ e.symm) (Ez _))).trans (D2.1.alloc _));have R5:=Aj ((R2.1.al _).grown hgrow (fun g e=>Nat.lt_trans mq (hr g e)));have F5:=Aj ((F2.1.alloc _).grow hgrow (fun g e=>Nat.le_of_lt (hr g e)));have j4:=D5.1.k.2.2.2.2;clear hown hgrow hat hr)
     |(go_at_call 257;refine GA.1.mono ?_;rintro e w2 ⟨v,last',c',r',rfl,h1,h2,h3,h4⟩;have D2:=Aj h1;have R2:=Aj h2;have F2:=Aj (F.1.trans h3);have G2:=Aj h4;have O2:=Aj (show aJ (w2.alloc (.cells #[.int .u64 (v:Int)] 125)) (w.heap.size+1) A2 n2 c2 acc from Oa (aaO O.1 h3 om om) _);have hz2:=h3.size;clear h1 h2 h3 h4))
    go_roundw
    case rel=>
     refine⟨k+1,A4,n2+1,c4,X.2.2,om,om,by go_num,rfl,last',c',r',acc++[v],D5.1,R5.1,O5.1,by have:=HM.1;omega,F5.1,⟨fun h=>?_⟩,⟨?_⟩⟩
     ·obtain⟨g1,g2,g3,-⟩:=G2.1 h;obtain⟨a1,a2⟩:=HLC.1 h;rw[g2,g3];exact⟨a2,a1⟩
     ·have hQ:=HGS.1;by_cases he:X.2.2=0
      ·obtain⟨g1,g2,g3,g4⟩:=G2.1 he;rw[Ng (by simpa using he)]at hQ;refine .inl ⟨he,?_⟩;rw[g2,g3,g4,g1,show n-(k+1)=n-k-1 from om];exact hQ.symm
      ·rw[Ps0 he]at hQ;exact .inr ⟨he,by rw[hQ],by rw[hQ]⟩
    case measure=>simp[intOf];omega
   ·have R:=Aj hB;have O:=Aj hO;have F:=Aj hF;by_cases he:er=0
    ·subst he;have hkn2:k=n:=by
      by_cases q:k<n
      ·exact absurd ⟨q,rfl⟩ hgo
      ·omega
     have hQ:=hcs.1.resolve_right (fun q=>q.1 rfl);have HQ:Kept (Q=(acc,r3,0)):=⟨by rw[←hQ.2,hkn2,Dy];rfl⟩
     have hlt':¬(k:Int)< (n:Int):=om;clear hB hO hF hD hcs hcl hgo hQ;go_wp2;go_ret2;refine⟨A2,n2,c2,r3,by rw[HQ.1];rfl,by rw[HQ.1];exact⟨O.1.1,O.1.2.imp id fun⟨g,cap,cur,h1,h2,h3⟩=>⟨g,cap,cur,h1,om,h3⟩⟩,R.1,fun _=>by rw[HQ.1],F.1.fine⟩
    ·have hQ:=hcs.1.resolve_left (fun q=>he q.1);have HQ:=Aj hQ;have hne1:(er==0)=false:=by simpa using he
     have hne2:(er !=0)=true:=by simpa using he
     have HE:=Aj he;clear hB hO hF hD hcs hcl hgo hQ he;by_cases hlt:k<n
     ·have hlt':(k:Int)< (n:Int):=by omega
      go_wp2;go_region;go_wp2;go_ret2;exact⟨none,0,0,r3,by rw[HQ.1.2.1];rfl,by rw[HQ.1.2.2];exact⟨rfl,.inl ⟨rfl,rfl⟩⟩,R.1,fun h=>absurd (HQ.1.2.1.symm.trans h) HE.1,F.1.drew.fine⟩
     ·have hlt':¬(k:Int)< (n:Int):=by omega
      go_wp2;go_region;go_wp2;go_ret2;exact⟨none,0,0,r3,by rw[HQ.1.2.1];rfl,by rw[HQ.1.2.2];exact⟨rfl,.inl ⟨rfl,rfl⟩⟩,R.1,fun h=>absurd (HQ.1.2.1.symm.trans h) HE.1,F.1.drew.fine⟩
theorem sH (n:Nat) (hn:n≤1000000) (w):(Instr.makeSlice 55 (.int .i64 n) (.int .i64 n)).run prog w= .ok (.slice (some ⟨w.heap.size,0,none⟩) n n) (w.alloc (.cells (madeCells #[.int .i64 0,.int .u64 0] (n*2)) 127)):=by
 obtain⟨i0,hi0,hz0,hz1,hz2⟩:=AV LJ;have:=Eb (P:=prog) w 55 127 i0 (.agg #[.int .i64 0,.int .u64 0]) underlying55 hi0 hz0 .i64 .i64 (n:Int) (n:Int) om om (by rw[hz1];simp;omega) (by rw[hz2];omega) om;rw[hz1]at this;simpa[Value.cells]using this
theorem adD (a b n):(madeCells #[a,b] (n*2)).toList=(List.replicate n [a,b]).flatten:=by
 apply DD
 ·simp[madeCells]
 ·intro i h1 h2;have hi:i<n*2:=by simpa[madeCells]using h1
  have e1:(madeCells #[a,b] (n*2)).toList[i]=if i%2=0 then a else b:=by
   rcases Df i with h|h<;>simp[madeCells,h]
  have e2:∀(m i:Nat) (h:i<m*2),(List.replicate m [a,b]).flatten[i]? =some (if i%2=0 then a else b):=by
   intro m
   induction m with
   |zero=>intro i h;omega
   |succ m ih=>
    intro i h;rw[List.replicate_succ,Ci]
    match i,h with
    |0,_=>rfl
    |1,_=>rfl
    |i+2,h=>
     rw[Bn sm];have:=ih i om;simp only[Lc,Ba];rw[show i+2-(0+1+1)=i from om,this,Nat.add_mod_right]
  rw[e1];have:=e2 n i hi;rw[ja h2]at this;exact(Oj this).symm
theorem bq.zeros (w:World) (n base) (hn:n≤1000000) (hb:base≤w.heap.size):bq (w.alloc (.cells (madeCells #[.int .i64 0,.int .u64 0] (n*2)) 127)) base (some ⟨w.heap.size,0,none⟩) n n (List.replicate n (0,0)):=by
 obtain⟨i0,hi0,hz0,hz1,hz2⟩:=AV LJ;obtain⟨w',h1,h2,-⟩:=run_make_full (P:=prog) w base 55 127 i0 (.agg #[.int .i64 0,.int .u64 0]) 2 underlying55 hi0 hz0 hz1 .i64 .i64 n (by rw[hz2];omega) (by unfold maxLen;omega) hb;rw[sH n hn w]at h1
 injection h1 with _ h1
 subst h1;rw[show(Value.agg #[Value.int .i64 0,Value.int .u64 0]).cells= #[Value.int .i64 0,Value.int .u64 0]from rfl,adD]at h2;have e:lN (List.replicate n ((0:Int),(0:Nat)))=(List.replicate n [Value.int .i64 0,Value.int .u64 0]).flatten:=by
  unfold lN;rw[List.flatMap_def,List.map_replicate]
  rfl
 unfold bq;rw[e];exact h2
def qo (w:World) (Q:Cs.gH×Int) (e:Ending) (w':World):Prop:=
 ∃A2 n2 c2,e= .returned (.tuple #[.slice A2 n2 c2,.int .i64 Q.2])∧bq w' w.heap.size A2 n2 c2 Q.1∧Below w.heap.size w w'
theorem qo.bad {w w'} {Q:Cs.gH×Int} {f} (h:Q=([],f)) (hb:Below w.heap.size w w'):qo w Q (.returned (.tuple #[.slice none 0 0,.int .i64 f])) w':=by
 subst h;exact⟨none,0,0,rfl,bq.nil _ _,hb⟩
theorem Ig (A n c B L w) (hv:bf w B A n c L) (_:B≤w.heap.size) (hn:n≤100000000)
  (hbad:∀(t m) (b),L=t::m::b→(t.toNat<1∨3<t.toNat)∨120≤m.toNat):
  Calls prog 125 #[.slice A n c] w (qo w (Ck.dec L)):=by
 have hlc:=hv.1;have hcm:=hv.2.1;unfold maxLen at hcm;have hl:=hv.len;cases L with
 |nil=>
  obtain rfl:n=0:=hl;have HD:Kept (Ck.dec []=([],3)):=⟨rfl⟩
  generalize Ck.dec []=Q at*;clear hv hbad;go_enter func125,ntmps125;go_wp2;go_ret2;exact qo.bad HD.1 (Ae _ _)
 |cons t L=>
  have hn1:1≤n:=by rw[hl];simp
  have hn1':¬(n:Int)<1:=om;obtain⟨b,off,rfl,hb,h0⟩:=hv.at_ (k:=0) sm;rw[Ct]at h0;simp only[BI]at h0;have htl:=t.toNat_lt;by_cases ht:t.toNat<1∨3<t.toNat
  ·have HD:Kept (Ck.dec (t::L)=([],9)):=⟨by
    cases L with
    |nil=>simp only[Ck.dec];rw[Ps0 ht]
    |cons m L=>simp only[Ck.dec];rw[Ps0 ht]⟩
   generalize Ck.dec (t::L)=Q at*;clear hv hl hbad;have hcs:(t.toNat:Int)<1∨(¬(t.toNat:Int)<1∧(3:Int)< (t.toNat:Int)):=om;clear ht;generalize (t.toNat:Int)=tv at*;rcases hcs with h1|⟨h1,h2⟩
   all_goals
    go_enter func125,ntmps125;go_wp2;go_ret2;exact qo.bad HD.1 (Ae _ _)
  ·have h1:¬(t.toNat:Int)<1:=by omega
   have h2:¬(3:Int)< (t.toNat:Int):=om;cases L with
   |nil=>
    have HD:Kept (Ck.dec [t]=([],3)):=⟨by simp only[Ck.dec];rw[Ng ht]⟩
    generalize Ck.dec [t]=Q at*;obtain rfl:n=1:=hl;clear hv hbad ht;generalize (t.toNat:Int)=tv at*;go_enter func125,ntmps125;go_wp2;go_ret2;exact qo.bad HD.1 (Ae _ _)
   |cons m L=>
    have hm:=(hbad t m L rfl).resolve_left ht;have HD:Kept (Ck.dec (t::m::L)=([],7)):=⟨by simp only[Ck.dec];rw[Ng ht,Ps0 hm]⟩
    generalize Ck.dec (t::m::L)=Q at*;have hn2:¬(n:Int)<2:=by simp at hl;omega
    obtain⟨b',off',e',hb',h3⟩:=hv.at_ (k:=1) sm;simp only[gT,Cf,BJ]at e';obtain⟨rfl,rfl⟩:=e';simp only[BZ,BI]at h3;have hm':(120:Int)≤(m.toNat:Int):=om;have vJ:=m.toNat_lt;clear hv hbad ht hl hm;generalize (t.toNat:Int)=tv at*;generalize (m.toNat:Int)=mv at*;go_enter func125,ntmps125;go_wp2;go_ret2;exact qo.bad HD.1 (Ae _ _)
theorem ve {w w1 w2:World} {p} (hp:w.heap.size≤p) (hz:w.heap.size≤w1.heap.size) (hg:w1.grownBy w2 (some p)):Below w.heap.size w1 w2:=
 (Ae _ _).grown hg hz (fun g e=>by cases e;exact hp)
theorem XH {w w1 w2 w3:World} {p} (hp:w.heap.size≤p) (hz:w.heap.size≤w1.heap.size) (hg:w1.grownBy w2 (some p)) (h:Below w2.heap.size w2 w3):Below w.heap.size w1 w3:=
 (ve hp hz hg).trans (h.mono (Lt hz hg.size))
theorem qp {B w w1} (h:Below B w w1) (q):Below B w (w1.drewN q):=⟨h.os,h.tape,h.output,h.size,h.block⟩
theorem qw (kn kk) (g:Nat) (hk:(kn=1∧kk=1∧g=217)∨(kn=2∧kk=2∧g=220)∨(kn=3∧kk=3∧g=223)) (A A0) (n c n0 c0 b0 off N _B:Nat) (L) (T:List Int×List Bool×Int) (V w) (hA:A=some ⟨b0,off,none⟩) (hlc:n≤c) (hcm:c≤9223372036854775807) (hn2:2≤n) (hcx:A0=if c=2 then some ⟨b0,off,none⟩else some ⟨b0,off+2,none⟩) (hn0:n0=n-2) (hc0:c0=c-2)
  (h0:w.cell? ⟨b0,off,none⟩=some (.int .u8 kk)) (h1:w.cell? ⟨b0,off+1,none⟩=some (.int .u8 ((N:Int)-1))) (hN1:1≤N) (hN:N≤120) (hG:Gl w)
  (NB:Kept (∀W,Below w.heap.size w W→Calls prog 177 #[.slice A0 n0 c0] W fun r w'=>∃p,r= .returned (.pointer (some ⟨p,0,none⟩))∧w.heap.size≤p∧Br w' p (Bt.bits L)∧Below w.heap.size w w'))
  (TG:Kept (∀p w1,w.heap.size≤p→Br w1 p (Bt.bits L)→Below w.heap.size w w1→Calls prog 178 #[.pointer (some ⟨p,0,none⟩),.int .i64 (N:Int)] w1 fun e w'=>∃A2 n2 c2,e= .returned (.tuple #[.slice A2 n2 c2,.int .i64 T.2.2])∧fB w' w1.heap.size A2 n2 c2 T.1∧Br w' p T.2.1∧w1.grownBy w' (some p)))
  (VG:Kept (∀p w3,w.heap.size≤p→Br w3 p T.2.1→Below w.heap.size w w3→Calls prog g #[.pointer (some ⟨p,0,none⟩),.int .i64 (N:Int)] w3 (Uf w3 p V)))
  (hTl:T.2.2=0→T.1.length=N) (hVl:V.2.2=0→V.1.length=N∧∀x∈V.1,x<2^64):
  Calls prog 125 #[.slice A n c] w (qo w (if T.2.2≠0 then([],T.2.2)else if V.2.2≠0 then([],V.2.2)else if Ck.fin V.2.1≠0 then([],4)else if Ck.choose V.1≠kn then([],8)else(T.1.zip V.1,0))):=by
 obtain⟨tl,r1,eT⟩:=T;obtain⟨vl,r2,eV⟩:=V;simp only[]at TG VG hTl hVl⊢;obtain⟨f,hf⟩:∃f,Ck.fin r2=f:=⟨_,rfl⟩
 obtain⟨cz,hcz⟩:∃cz,Ck.choose vl=cz:=⟨_,rfl⟩
 obtain⟨Q,hQ⟩:∃Q,Q=(if eT≠0 then([],eT)else if eV≠0 then([],eV)else if Ck.fin r2≠0 then([],4)else if Ck.choose vl≠kn then([],8)else(tl.zip vl,(0:Int))):=⟨_,rfl⟩
 rw[←hQ];rw[hf,hcz]at hQ;have HF:=Aj hf;have HC:=Aj hcz;have KG:=Aj hG;have HTL:=Aj hTl;have HVL:=Aj hVl;have HEV:Kept ((0:Int)=0):=⟨rfl⟩
 have hn1':¬(n:Int)<1:=om;have ag5:¬(n:Int)<2:=om;have hmx:¬(120:Int)≤(N:Int)-1:=om;have hcl:c0≤9223372036854775807:=om;have EC:=Aj (fun W=>jh W);unfold TW Ph at EC;have ix0:=fun W=>aaI W
 have ix1:=fun W=>aaJ W
 have ix2:=fun W=>aaK W
 have fl:=fun a b c W=>ady a b c W
 have CASES:((eT !=0)=true∧Q=([],eT))∨(eT=0∧((eV !=0)=true∧(eV==0)=false)∧Q=([],eV))∨(eT=0∧eV=0∧f=4∧Q=([],4))∨(eT=0∧eV=0∧f=0∧((cz:Int) !=kk)=true∧Q=([],8))∨(eT=0∧eV=0∧f=0∧cz=kn∧Q=(tl.zip vl,0)):=by
  by_cases h1:eT=0
  ·by_cases h2:eV=0
   ·by_cases h3:f=0
    ·by_cases h4:cz=kn
     ·exact .inr (.inr (.inr (.inr ⟨h1,h2,h3,h4,by rw[hQ,Ng (by simpa using h1),Ng (by simpa using h2),Ng (by simpa using h3),Ng (by simpa using h4)]⟩)))
     ·refine .inr (.inr (.inr (.inl ⟨h1,h2,h3,by simp;omega,by rw[hQ,Ng (by simpa using h1),Ng (by simpa using h2),Ng (by simpa using h3),Ps0 h4]⟩)))
    ·refine .inr (.inr (.inl ⟨h1,h2,?_,by rw[hQ,Ng (by simpa using h1),Ng (by simpa using h2),Ps0 h3]⟩));rw[←hf]at h3⊢;unfold Ck.fin at h3⊢;split
     ·rfl
     ·rename_i h;rw[Ng h]at h3;exact absurd rfl h3
   ·exact .inr (.inl ⟨h1,⟨by simpa using h2,by simpa using h2⟩,by rw[hQ,Ng (by simpa using h1),Ps0 h2]⟩)
  ·exact .inl ⟨by simpa using h1,by rw[hQ,Ps0 h1]⟩
 have CS:(c=2∧n=2∧A0=some ⟨b0,off,none⟩)∨(¬c=2∧A0=some ⟨b0,off+2,none⟩):=by
  by_cases h:c=2
  ·exact .inl ⟨h,om,by rw[hcx,Ps0 h]⟩
  ·exact .inr ⟨h,by rw[hcx,Ng h]⟩
 subst hA;subst hn0;subst hc0;clear hQ hf hcz hG hTl hVl hcx;rcases hk with⟨rfl,rfl,rfl⟩|⟨rfl,rfl,rfl⟩|⟨rfl,rfl,rfl⟩
 all_goals
  rcases CS with⟨rfl,rfl,rfl⟩|⟨hc2,rfl⟩
  all_goals
   rcases CASES with⟨h1,e⟩|⟨rfl,⟨h1,h2⟩,e⟩|⟨rfl,rfl,rfl,e⟩|⟨rfl,rfl,rfl,h1,e⟩|⟨rfl,rfl,rfl,rfl,e⟩
   all_goals
    have wT:=Aj e;have mkm:=fun W=>sH N om W
    clear e;go_enter func125,ntmps125;go_wp2_with fail;go_quiet (fail);go_wp2_with (first
     |(go_at_call 181;refine(uY A4 n4 c4 w4.heap.size vl (w4.drewN q) OV.1.rd Ai (HVL.1 sm).2 (by have:=OV.1.len;have:=(HVL.1 sm).1;omega) (KG.1.below S4.1).dbj (KG.1.below S4.1).dlt).mono ?_;rintro e w6 ⟨rfl,h1⟩;have B6:=Aj ((qp S4.1 q).trans (h1.mono S4.1.size));have X6:=Aj (show Below w4.heap.size w4 w6 from⟨h1.os,h1.tape,h1.output,h1.size,h1.block⟩);have O6:=Aj (show aJ w6 w3.heap.size A4 n4 c4 vl from own_below OV.1 X6.1 (fun g e=>(ae OV.1 g e).2));clear h1;rw[HC.1])
     |(go_at_call 180;refine(GQ p r4 w4 R4.1).mono ?_;rintro e w5 ⟨rfl,q,rfl⟩;have FE:=Aj (E4.1 HEV.1);rw[FE.1,HF.1])
     |((first|go_at_call 217|go_at_call 220|go_at_call 223);refine(VG.1 p w3 P1.1 R3.1 S3.1).mono ?_;rintro e w4 ⟨A4,n4,c4,r4,rfl,q1,q2,q3,q4⟩;have OV:=Aj q1;have R4:=Aj q2;have E4:=Aj q3;have G4:=Aj q4;have S4:=Aj (S3.1.trans (ve P1.1 S3.1.size q4));clear q1 q2 q3 q4)
     |(go_at_call 179;refine(EC.1 w2).mono ?_;rintro e w3 ⟨rfl,h1⟩;have B3:=Aj h1;have R3:=Aj (R2.1.below h1 R2.1.lt);have S3:=Aj (B1.1.trans (XH P1.1 B1.1.size G2.1 h1));clear h1)
     |(go_at_call 178;refine(TG.1 p w1 P1.1 R1.1 B1.1).mono ?_;rintro e w2 ⟨A2,n2,c2,rfl,q1,q2,q3⟩;have OT:=Aj q1;have R2:=Aj q2;have G2:=Aj q3;clear q1 q2 q3)
     |(go_at_call 177;refine(NB.1 _ (qp (Ae _ w) _)).mono ?_;rintro e w1 ⟨p,rfl,hp1,hp2,hp3⟩;have R1:=Aj hp2;have B1:=Aj hp3;have P1:=Aj hp1;clear hp2 hp3 NB))
   ·go_ret2;exact qo.bad wT.1 (B1.1.trans (ve P1.1 B1.1.size G2.1))
   ·go_ret2;exact qo.bad wT.1 S4.1
   ·go_ret2;exact qo.bad wT.1 (qp S4.1 q)
   ·go_ret2;exact qo.bad wT.1 B6.1
   ·skip;have hlT:=HTL.1 sm;have hlV:=(HVL.1 sm).1;have OT6:fB w6 w1.heap.size A2 n2 c2 tl:=own_below (lu (own_below OT.1 B3.1 (fun g e=>(ae OT.1 g e).2)) G4.1 R1.1.lt) X6.1 (fun g e=>(ae (lu (own_below OT.1 B3.1 (fun g e=>(ae OT.1 g e).2)) G4.1 R1.1.lt) g e).2);obtain rfl:N=n2:=by rw[←hlT];exact OT6.len.symm
    obtain rfl:N=n4:=by rw[←hlV];exact O6.1.len.symm
    have RT:=Aj OT6.rd;have RV:=Aj O6.1.rd;have OM:=Aj (bq.zeros w6 N w6.heap.size om Ai);have HLT:=Aj hlT;have HLV:=Aj hlV;have hzl:Kept (N=(tl.zip vl).length):=⟨by rw[DV];omega⟩
    have cT:=OT6.rd.2.1;have cV:=O6.1.rd.2.1;have cT2:=OT6.rd.1;have cV2:=O6.1.rd.1;unfold maxLen at cT cV;have BA:=Aj ((Ae w6.heap.size w6).alloc Ai (.cells (madeCells #[.int .i64 0,.int .u64 0] (N*2)) 127));clear hlT hlV OT6 mkm;generalize w6.alloc (.cells (madeCells #[.int .i64 0,.int .u64 0] (N*2)) 127)=wm at*;obtain⟨gm,hgm⟩:∃gm,gm=w6.heap.size:=⟨_,rfl⟩
    rw[←hgm]at OM RT RV BA⊢;have HGM:=Aj hgm;clear hgm;go_loopw [87] (fun i wr=>∃k:Nat,k≤N∧i= .int .i64 k∧bq wr gm (some ⟨gm,0,none⟩) N N (wS (tl.zip vl) (0,0) k N)∧Below gm w6 wr) (fun i _=>N-(intOf i).toNat)
    case atStart=>exact⟨0,om,rfl,by rw[uZ];exact OM.1,BA.1⟩
    case round=>
     clear OM BA;obtain⟨k,hk,rfl,oM,hb⟩:=hrel;by_cases hlt:k<N
     ·have hkT:k<tl.length:=by rw[HLT.1];exact hlt
      have hkV:k<vl.length:=by rw[HLV.1];exact hlt
      have hkZ:k< (tl.zip vl).length:=by rw[←hzl.1];exact hlt
      have hfz:=zP (tl.zip vl) (0,0) k N hlt hzl.1;rw[Ex]at hfz;have HFZ:=Aj hfz;obtain⟨bt,ot,rfl,-,e1⟩:=(RT.1.below hb).at_ hkT;obtain⟨bv,ov,rfl,-,e2⟩:=(RV.1.below hb).at_ hkV;have lM:k< (wS (tl.zip vl) (0,0) k N).length:=by rw[←oM.len];exact hlt
      obtain⟨a0,a1,f0,f1⟩:=oM.at_ lM;have OMK:=Aj oM;have HB:=Aj hb;generalize (wS (tl.zip vl) (0,0) k N)[k]=old at a0 a1;clear hfz oM hb lM;generalize tl[k]=tx at*;generalize vl[k]=vx at*;go_wp2_with fail;go_region;have OM2:=OMK.1.set k (tx,vx);rw[HFZ.1]at OM2;have KM2:=Aj OM2;have U9:=Aj ((HB.1.setCell (p:=⟨gm,k*2,none⟩) Ai (.int .i64 tx)).setCell (p:=⟨gm,k*2+1,none⟩) Ai (.int .u64 (vx:Int)));clear OM2;go_wp2;go_roundw
      case rel=>exact⟨k+1,om,by go_num,KM2.1,U9.1.drew⟩
      case measure=>simp[intOf];omega
     ·obtain rfl:k=N:=by omega
      rw[MX _ _ k hzl.1]at oM;have OMK:=Aj oM;have HB:=Aj hb;clear oM hb;go_wp2;go_ret2;have z6:=B6.1.size;refine⟨_,_,_,by rw[wT.1];rfl,by rw[wT.1];exact zQ OMK.1 (by rw[HGM.1];exact z6),B6.1.trans (HB.1.mono (by rw[HGM.1];exact z6))⟩
theorem dtg (w) (N:Nat) (L) (hN:N≤120) (hG:Gl w):Kept (∀p w1,w.heap.size≤p→Br w1 p (Bt.bits L)→Below w.heap.size w w1→Calls prog 178 #[.pointer (some ⟨p,0,none⟩),.int .i64 (N:Int)] w1 fun e w'=>∃A2 n2 c2,e= .returned (.tuple #[.slice A2 n2 c2,.int .i64 (Tm.dec N (Bt.bits L)).2.2])∧fB w' w1.heap.size A2 n2 c2 (Tm.dec N (Bt.bits L)).1∧Br w' p (Tm.dec N (Bt.bits L)).2.1∧w1.grownBy w' (some p)):=
 ⟨fun p w1 hp hB hb=>Tz p N _ w1 hB (hG.frm.below hb) (j6 hG.frm.lt hp) om⟩
theorem aha (w) (N:Nat) (r) (hN:N≤120) (hG:Gl w):Kept (∀p w3,w.heap.size≤p→Br w3 p r→Below w.heap.size w w3→Calls prog 217 #[.pointer (some ⟨p,0,none⟩),.int .i64 (N:Int)] w3 (Uf w3 p (Ck.gK 1 N r))):=
 ⟨fun p w3 hp hB hb=>Ug p N r w3 hB om (hG.below hb).dbj (j6 hG.dlt hp)⟩
theorem ahb (w) (N:Nat) (r) (hN:N≤120):Kept (∀p w3,w.heap.size≤p→Br w3 p r→Below w.heap.size w w3→Calls prog 220 #[.pointer (some ⟨p,0,none⟩),.int .i64 (N:Int)] w3 (Uf w3 p (Ck.gK 2 N r))):=
 ⟨fun p w3 _ hB _=>(TP p N r w3 hB om).mono fun _ _ ⟨A2,n2,c2,h1,h2,h3,h4⟩=>⟨A2,n2,c2,_,h1,h2,h3,fun _=>rfl,h4⟩⟩
theorem ahc (w) (N:Nat) (r) (hN:N≤120):Kept (∀p w3,w.heap.size≤p→Br w3 p r→Below w.heap.size w w3→Calls prog 223 #[.pointer (some ⟨p,0,none⟩),.int .i64 (N:Int)] w3 (Uf w3 p (Ck.gK 3 N r))):=
 ⟨fun p w3 _ hB _=>(TI p N r w3 hB om).mono fun _ _ ⟨A2,n2,c2,h1,h2,h3,h4⟩=>⟨A2,n2,c2,_,h1,h2,h3,fun _=>rfl,h4⟩⟩
theorem lD (A n c B L w) (hv:bf w B A n c L) (hB:B≤w.heap.size) (hn:n≤100000000) (hG:Gl w):
  Calls prog 125 #[.slice A n c] w (qo w (Ck.dec L)):=by
 by_cases hbad:∀(t m:UInt8) (b:List UInt8),L=t::m::b→(t.toNat<1∨3<t.toNat)∨120≤m.toNat
 ·exact Ig A n c B L w hv hB hn hbad
 ·obtain⟨t,m,b,rfl,ht,hm⟩:∃t m b,L=t::m::b∧¬(t.toNat<1∨3<t.toNat)∧¬120≤m.toNat:=by
   refine Dl fun h=>hbad fun t m b e=>?_
   by_cases h1:t.toNat<1∨3<t.toNat
   ·exact .inl h1
   ·by_cases h2:120≤m.toNat
    ·exact .inr h2
    ·exact absurd ⟨t,m,b,e,h1,h2⟩ h
  have hl:=hv.len;have hlc:=hv.1;have hcm:=hv.2.1;unfold maxLen at hcm;have hn2:2≤n:=by simp at hl;omega
  obtain⟨b0,off,rfl,hb,h0⟩:=hv.at_ (k:=0) sm;rw[Ct]at h0;simp only[BI]at h0;obtain⟨b',off',e',hb',h1⟩:=hv.at_ (k:=1) sm;simp only[gT,Cf,BJ]at e';obtain⟨rfl,rfl⟩:=e';simp only[BZ,BI]at h1;have hD:Ck.dec (t::m::b)=Ck.VU t.toNat (m.toNat+1) (Bt.bits b):=by
   simp only[Ck.dec];rw[Ng ht,Ng hm]
  have hd:=hv.drop (k:=2) om;simp only[AY,Bp,Cb,add_plain]at hd;have NB:Kept (∀W,Below w.heap.size w W→Calls prog 177 #[.slice (if c=2 then some ⟨b0,off,none⟩else some ⟨b0,off+2,none⟩) (n-2) (c-2)] W fun r w'=>∃p,r= .returned (.pointer (some ⟨p,0,none⟩))∧w.heap.size≤p∧Br w' p (Bt.bits b)∧Below w.heap.size w w'):=⟨fun W hW=>(GN _ _ _ B b W (hd.below (hW.mono hB)) (Lt hB hW.size) om).mono fun _ _ ⟨p,q1,q2,q3,q4⟩=>⟨p,q1,Lt hW.size q2,q3,hW.trans (q4.mono hW.size)⟩⟩
  have hT:∀(h:(Tm.dec (m.toNat+1) (Bt.bits b)).2.2=0),(Tm.dec (m.toNat+1) (Bt.bits b)).1.length=m.toNat+1:=fun h=>(Tm.iD (show Tm.dec (m.toNat+1) (Bt.bits b)=(_,_,0)from Bw rfl (Bw rfl h))).1
  have hV:∀(tag:Nat) (r:List Bool) (h:(Ck.gK tag (m.toNat+1) r).2.2=0),(Ck.gK tag (m.toNat+1) r).1.length=m.toNat+1∧∀x∈(Ck.gK tag (m.toNat+1) r).1,x<2^64:=fun tag r h=>by
   obtain⟨g1,g2,-⟩:=Ck.FJ (show Ck.gK tag (m.toNat+1) r=(_,_,0)from Bw rfl (Bw rfl h));exact⟨g1,g2⟩
  have h1':w.cell? ⟨b0,off+1,none⟩=some (.int .u8 (((m.toNat+1:Nat):Int)-1)):=by
   rw[h1];congr 2;omega
  rw[hD];have hcs:t.toNat=1∨t.toNat=2∨t.toNat=3:=om;rcases hcs with e|e|e
  ·rw[e]at h0⊢;exact qw 1 1 _ (.inl ⟨rfl,rfl,rfl⟩) _ _ n c (n-2) (c-2) b0 off (m.toNat+1) B b _ _ w rfl hlc om hn2 rfl rfl rfl h0 h1' om om hG NB (dtg w _ b om hG) (aha w _ _ om hG) hT (hV 1 _)
  ·rw[e]at h0⊢;exact qw 2 2 _ (.inr (.inl ⟨rfl,rfl,rfl⟩)) _ _ n c (n-2) (c-2) b0 off (m.toNat+1) B b _ _ w rfl hlc om hn2 rfl rfl rfl h0 h1' om om hG NB (dtg w _ b om hG) (ahb w _ _ om) hT (hV 2 _)
  ·rw[e]at h0⊢;exact qw 3 3 _ (.inr (.inr ⟨rfl,rfl,rfl⟩)) _ _ n c (n-2) (c-2) b0 off (m.toNat+1) B b _ _ w rfl hlc om hn2 rfl rfl rfl h0 h1' om om hG NB (dtg w _ b om hG) (ahc w _ _ om) hT (hV 3 _)
theorem Bk.Pq (b:Bk.ic) {k} (h:k<b.length):Bk.sets (b.take (k+1))=Bk.sets (b.take k)++[b[k].1]:=by
 unfold Bk.sets;rw[Ts h,dR];rfl
theorem Ps.Pt (M m):Ps.strs (M++[m])=Ps.strs M++Lb.strs m:=by unfold Ps.strs;rw[pz];simp
theorem Bk.zR (b k):Ps.wt (Bk.sets (b.take k))≤Ps.wt (Bk.sets b):=by
 unfold Bk.sets;rw[List.map_take];exact Ps.Mo _ _
theorem zS (A n c B b w) (hv:dY w B A n c b) (hB:B≤w.heap.size) (hw:Ps.wt (Bk.sets b)≤500000):
  Calls prog 85 #[.slice A n c] w fun r w'=>∃A2 n2 c2 T,r= .returned (.slice A2 n2 c2)∧Sy.gD (Ps.strs (Bk.sets b)) T∧bK w' w'.heap.size A2 n2 c2 T∧Below w.heap.size w w':=by
 obtain⟨hlc,hcm⟩:=hv.cap;unfold maxLen at hcm;have HN:=Aj hv.len;have V:=Aj hv;have hSL:Kept (∀k,(Ps.strs (Bk.sets (b.take k))).length≤1000000):=⟨fun k=>by
  have h1:=Ps.oz (Bk.sets (b.take k));have h2:=Bk.zR b k;omega⟩
 clear hv hw;go_enter func85,ntmps85;go_wp2;go_loopw [3,8] (fun o i wr=>∃k:Nat,k≤n∧i= .int .i64 k∧∃(A2:Option Addr) (n2 c2:Nat),o= .slice A2 n2 c2∧aT wr w.heap.size A2 n2 c2 (Ps.strs (Bk.sets (b.take k)))∧Below w.heap.size w wr) (fun _ i _=>n-(intOf i).toNat)
 case atStart=>exact⟨0,om,rfl,none,0,0,rfl,(show aT w w.heap.size none 0 0 []from AX _ _ _ _),Ae _ _⟩
 case round=>
  obtain⟨k,hk,rfl,A2,n2,c2,rfl,ho,hb⟩:=hrel;have O:=Aj ho;have HB:=Aj hb;have kP:=hb.size;have hn2:=ho.len;have ag5:n2≤1000000:=by have:=hSL.1 k;omega
  have HN2:=Aj hn2;clear hn2;by_cases hlt:k<n
  ·have hkl:k<b.length:=by rw[←HN.1];exact hlt
   obtain⟨b0,off,A1,n1,c1,A3,n3,c3,rfl,hL,-,hc⟩:=V.1.cells hB hkl;obtain⟨r0,r1⟩:=hc wr hb;have ht:Kept (Ps.strs (Bk.sets (b.take (k+1)))=Ps.strs (Bk.sets (b.take k))++Lb.strs b[k].1):=⟨by rw[Bk.Pq b hkl,Ps.Pt]⟩
   have hln:(Lb.strs b[k].1).length≤1000000:=by
    have:=hSL.1 (k+1);rw[ht.1,La]at this;omega
   have vJ:=Lb.aX b[k].1;have hnl:=hL.len;have hb5:=hb.alloc kP (.cells #[.slice A1 n1 c1,.slice A3 n3 c3] 57);have O5:aT (wr.alloc (.cells #[.slice A1 n1 c1,.slice A3 n3 c3] 57)) w.heap.size A2 n2 c2 (Ps.strs (Bk.sets (b.take k))):=Oa ho _;have B5:=Aj hb5;have KO5:=Aj O5;have ST:=Aj (jN A1 n1 c1 b[k].1 (wr.alloc (.cells #[.slice A1 n1 c1,.slice A3 n3 c3] 57)) ((hL.below (hb5.mono hB)).more (Lt hB hb5.size)) om);have HLN:=Aj hln;clear ho hb hc hL hln vJ hnl hb5 O5;generalize b[k].1=m at*;go_wp2_with (first
    |(at_builtin;refine gI rfl (.tmp 12) (.tmp 15) rfl w.heap.size A2 n2 c2 _ rfl O6.1 _ _ _ _ _ rfl O7.1 (by have:=HLN.1;have:=H7.1;omega) (by have:=B6.1.size;omega) ?_;intro A8 c8 w8 hown hgrow hat;have O8:=Aj hown;have B8:=Aj (B6.1.grown hgrow B6.1.size (fun g hg=>(ae O6.1 g hg).1));clear hown hgrow hat)
    |(go_at_call 123;refine ST.1.mono ?_;rintro r w6 ⟨A7,n7,c7,rfl,ho,hb⟩;have O7:=Aj ho.rd;have H7:=Aj ho.len;have O6:=Aj (show aT w6 w.heap.size A2 n2 c2 (Ps.strs (Bk.sets (b.take k)))from aN KO5.1 hb);have B6:=Aj (B5.1.trans (hb.mono B5.1.size));clear ho hb ST))
   go_roundw
   case rel=>exact⟨k+1,om,by go_num,A8,_,c8,rfl,by rw[ht.1];exact O8.1,B8.1⟩
   case measure=>simp[intOf];omega
  ·obtain rfl:k=n:=by omega
   have hall:b.take k=b:=iM (by rw[←HN.1];exact Nr _);have TB:=Aj (JP A2 n2 c2 _ wr ho.rd om);rw[hall]at TB;clear hall ho hb;go_wp2_with (go_at_call 141;refine TB.1.mono ?_;rintro r w6 ⟨A7,n7,c7,T,rfl,ht,ho,hb⟩;have HT:=Aj ht;have O7:=Aj ho;have B7:=Aj (HB.1.trans (hb.mono kP));clear ht ho hb TB);go_ret;exact⟨A7,n7,c7,T,rfl,HT.1,O7.1,B7.1⟩
def ET (t:TypeId):Prop:=t=55∨t=127∨t=24∨t=171∨t=54∨t=76
def iZ (B:Nat) (W W':World):Prop:=Below B W W'∧∀(r:Nat) (cs:Array Value) (t:TypeId) (q:Nat×Nat),ET t→W.heap[r]? =some (Obj.cells cs t q)→W'.heap[r]? =some (Obj.cells cs t q)
theorem iZ.refl (B W):iZ B W W:=⟨Ae _ _,fun _ _ _ _ _ h=>h⟩
theorem iZ.trans {B W W' W''} (h:iZ B W W') (h':iZ B W' W''):iZ B W W'':=⟨h.1.trans h'.1,fun r cs t q ht hr=>h'.2 r cs t q ht (h.2 r cs t q ht hr)⟩
theorem iZ.grown {B W W' row} (hB:B≤W.heap.size) (hg:W.grownBy W' row) (hr:∀r,row=some r→B≤r∧∀(cs) (t) (q),W.heap[r]? =some (Obj.cells cs t q)→¬ET t):iZ B W W':=
 ⟨(Ae _ _).grown hg hB (fun r e=>(hr r e).1),fun r cs t q ht h=>(hg.block r (Ge.1 h).1 (fun e=>(hr r e.symm).2 cs t q h ht)).trans h⟩
theorem iZ.none {B:Nat} {W W':World} (hB:B≤W.heap.size) (hg:W.grownBy W' none):iZ B W W':=iZ.grown hB hg (fun r e=>by cases e)
theorem iZ.noc {B W W' row} (hB:B≤W.heap.size) (hg:W.grownBy W' row) (hr:∀r,row=some r→B≤r∧∃o:Obj,W.heap[r]? =some o∧o.isCells=false):iZ B W W':=
 iZ.grown hB hg (fun r e=>⟨(hr r e).1,fun _ _ _ h=>by obtain⟨_,o,ho,hc⟩:=hr r e;rw[ho]at h;cases h;cases hc⟩)
theorem iZ.below {B W W'} (hb:Below W.heap.size W W') (hB:B≤W.heap.size):iZ B W W':=
 ⟨hb.mono hB,fun r _ _ _ _ h=>(hb.block r (Ge.1 h).1).trans h⟩
theorem iZ.own {B base n c sz W W' A xs t} (h:iZ B W W') (ho:W.ownsRow base t sz (.slice A n c) n xs) (ht:ET t):W'.ownsRow base t sz (.slice A n c) n xs:=by
 refine⟨ho.1,?_⟩;rcases ho.2 with hn|⟨g,cap,cur,hv,h1,h2,rest⟩
 ·exact .inl hn
 ·exact .inr ⟨g,cap,cur,hv,h1,h.2 _ _ _ _ ht h2,rest⟩
theorem iZ.box {B bx W W' t v} (h:iZ B W W') (hb:Boxed W bx t v) (ht:ET t):Boxed W' bx t v:=h.2 _ _ _ _ ht hb
theorem dW {w:World} {base n c sz g A xs t t' cs fr} (h:w.ownsRow base t sz (.slice A n c) n xs) (hg:w.heap[g]? =some (Obj.cells cs t' fr)) (ht:t'≠t):ab A≠some g:=by
 rcases h.2 with⟨hv,_⟩|⟨g2,cap,cur,hv,_,hgb,_⟩
 ·injection hv with hv1;rw[hv1];exact fun e=>by cases e
 ·injection hv with hv1
  rw[hv1];intro e;obtain rfl:g2=g:=by simpa[ab]using e
  rw[hg]at hgb;simp only[gT,DU]at hgb;exact ht hgb.2.1
theorem M0 {w:World} {base n c sz A xs t} (h:w.ownsRow base t sz (.slice A n c) n xs) (ht:¬ET t):∀r,ab A=some r→base≤r∧∀(cs) (t) (q),w.heap[r]? =some (Obj.cells cs t q)→¬ET t:=fun r e=>by
 refine⟨(ae h r e).1,fun cs t' q hr hi=>?_⟩;by_cases he:t'=t
 ·subst he;exact ht hi
 ·exact dW h hr he e
theorem Na {w:World} {g:Nat} {t cs q B} (h:w.heap[g]? =some (Obj.cells cs t q)) (ht:¬ET t) (hB:B≤g):∀r,some g=some r→B≤r∧∀(cs) (t) (q),w.heap[r]? =some (Obj.cells cs t q)→¬ET t:=fun r e=>by
 cases e;exact⟨hB,fun cs' t' q' hr=>by rw[h]at hr;cases hr;exact ht⟩
abbrev qx:TypeId:=146
structure Es (base gd gl p n:Nat) (LS:Nat→Value) (D:List UInt8) (C:Nat→List Int) (W:World):Prop where
 dat:∃A m c,Boxed W gd 22 (.slice A m c)∧ah W base A m c D
 box:Boxed W gl 138 (.slice (some ⟨p,0,none⟩) n n)
 row:∃(cs:Array Value) (As:Nat→Option Addr) (ns ks:Nat→Nat),W.heap[p]? =some (Obj.cells cs qx (0,0))∧cs.size=n*2∧
  (∀i,i<n→cs[i*2]? =some (LS i)∧cs[i*2+1]? =some (.slice (As i) (ns i) (ks i))∧ax W base (As i) (ns i) (ks i) (C i))∧
  ∀i j,i<n→j<n→i≠j→ab (As i)=none∨ab (As i)≠ab (As j)
section
variable {base gd gl p n:Nat} {LS:Nat→Value} {D:List UInt8} {C:Nat→List Int} {W W':World}
theorem Es.kept {row} (h:Es base gd gl p n LS D C W) (hg:W.grownBy W' row) (hr:∀r,row=some r→∃o:Obj,W.heap[r]? =some o∧o.isCells=false):Es base gd gl p n LS D C W':=by
 have hk:∀(r:Nat) (cs:Array Value) (t:TypeId) (q:Nat×Nat),W.heap[r]? =some (Obj.cells cs t q)→W'.heap[r]? =some (Obj.cells cs t q):=fun r cs t q hx=>(hg.block r (Ge.1 hx).1 (fun e=>by
  obtain⟨o,ho,hc⟩:=hr r e.symm;rw[hx]at ho;cases ho;cases hc)).trans hx
 have ho:∀{t:TypeId} {sz m c:Nat} {A:Option Addr} {xs:List Value},W.ownsRow base t sz (.slice A m c) m xs→W'.ownsRow base t sz (.slice A m c) m xs:=fun hx=>sG hx hg (fun r e=> .inr (hr r e))
 obtain⟨⟨A,m,c,d1,d2⟩,hb,cs,As,ns,ks,r1,r2,r3,r4⟩:=h;exact⟨⟨A,m,c,hk _ _ _ _ d1,ho d2⟩,hk _ _ _ _ hb,cs,As,ns,ks,hk _ _ _ _ r1,r2,fun i hi=>⟨(r3 i hi).1,(r3 i hi).2.1,ho (r3 i hi).2.2⟩,r4⟩
theorem Es.below (h:Es base gd gl p n LS D C W) (hb:Below W.heap.size W W'):Es base gd gl p n LS D C W':=by
 have hk:∀(r:Nat) (cs:Array Value) (t:TypeId) (q:Nat×Nat),W.heap[r]? =some (Obj.cells cs t q)→W'.heap[r]? =some (Obj.cells cs t q):=fun r cs t q hx=>(hb.block r (Ge.1 hx).1).trans hx
 have ho:∀{t:TypeId} {sz m c:Nat} {A:Option Addr} {xs:List Value},W.ownsRow base t sz (.slice A m c) m xs→W'.ownsRow base t sz (.slice A m c) m xs:=fun hx=>aN hx hb
 obtain⟨⟨A,m,c,d1,d2⟩,hb',cs,As,ns,ks,r1,r2,r3,r4⟩:=h;exact⟨⟨A,m,c,hk _ _ _ _ d1,ho d2⟩,hk _ _ _ _ hb',cs,As,ns,ks,hk _ _ _ _ r1,r2,fun i hi=>⟨(r3 i hi).1,(r3 i hi).2.1,ho (r3 i hi).2.2⟩,r4⟩
theorem Es.push (h:Es base gd gl p n LS D C W) {A A2 m c m2 c2 L} (hA:Boxed W gd 22 (.slice A m c)) (ho:ah W base A m c D) (hg:W.grownBy W' (ab A)) (ho':ah W' base A2 m2 c2 (D++L)) (hB:base≤gd):
  W'.cell? ⟨gd,0,none⟩=some (.slice A m c)∧W'.frozen? ⟨gd,0,none⟩=false∧Es base gd gl p n LS (D++L) C (W'.setCell ⟨gd,0,none⟩ (.slice A2 m2 c2))∧iZ base W (W'.setCell ⟨gd,0,none⟩ (.slice A2 m2 c2))∧KeepsOthers W (W'.setCell ⟨gd,0,none⟩ (.slice A2 m2 c2)):=by
 have hnt:∀{r:Nat} {cs:Array Value} {t:TypeId} {q:Nat×Nat},W.heap[r]? =some (Obj.cells cs t q)→t≠5→W'.heap[r]? =some (Obj.cells cs t q):=fun hx ht=>(hg.block _ (Ge.1 hx).1 (fun e=>dW ho hx ht e.symm)).trans hx
 have hgd:=hnt hA Ah;have wM:=au W' ⟨gd,0,none⟩ (.slice A2 m2 c2);have Uh:∀{r:Nat} {cs:Array Value} {t:TypeId} {q:Nat×Nat},W'.heap[r]? =some (Obj.cells cs t q)→t≠22→(W'.setCell ⟨gd,0,none⟩ (.slice A2 m2 c2)).heap[r]? =some (Obj.cells cs t q):=fun{r} {_} {_} {_} hx ht=>(wM.block _ (Ge.1 hx).1 (fun e=>by
  have e:r=gd:=Oj e;subst e;rw[hgd]at hx;cases hx;exact ht rfl)).trans hx
 have hzb:base≤W.heap.size:=by have:=(Ge.1 hA).1;omega
 obtain⟨-,hb,cs,As,ns,ks,r1,r2,r3,r4⟩:=h;refine⟨Co _ _ 0 _ _ _ hgd,Fr _ _ 0 _ _ hgd,⟨⟨A2,m2,c2,Boxed.set _ hgd,ag ho' wM (.inr (dW ho' hgd Ah))⟩,Uh (hnt hb Ah) Ah,cs,As,ns,ks,Uh (hnt r1 Ah) Ah,r2,fun i hi=>?_,r4⟩,?_,(CU hg (zH ho)).trans (Cu _ _ _)⟩
 ·obtain⟨q1,q2,q3⟩:=r3 i hi;have q4:ax W' base (As i) (ns i) (ks i) (C i):=ag q3 hg (eO q3 ho Ah);exact⟨q1,q2,ag q4 wM (.inr (dW q4 hgd Ah))⟩
 ·exact(iZ.grown hzb hg (M0 ho (by unfold ET;decide))).trans (iZ.grown (by have:=hg.size;omega) wM (Na hgd (by unfold ET;decide) hB))
theorem Es.note (h:Es base gd gl p n LS D C W) {i} (hi:i<n) (hB:base≤p):∃A m c,W.cell? ⟨p,i*2+1,none⟩=some (.slice A m c)∧W.frozen? ⟨p,i*2+1,none⟩=false∧ax W base A m c (C i)∧
  ∀(W1 W2) (A2) (m2 c2) (x),W.grownBy W1 none→W1.grownBy W2 (ab A)→ax W2 base A2 m2 c2 (C i++[x])→(ab A2=ab A∨ab A2=some W1.heap.size)→
   W2.cell? ⟨p,i*2+1,none⟩=some (.slice A m c)∧W2.frozen? ⟨p,i*2+1,none⟩=false∧
   Es base gd gl p n LS D (fun j=>if j=i then C i++[x]else C j) (W2.setCell ⟨p,i*2+1,none⟩ (.slice A2 m2 c2))∧iZ base W (W2.setCell ⟨p,i*2+1,none⟩ (.slice A2 m2 c2))∧KeepsOthers W (W2.setCell ⟨p,i*2+1,none⟩ (.slice A2 m2 c2)):=by
 obtain⟨⟨A,m,c,d1,d2⟩,hb,cs,As,ns,ks,r1,r2,r3,r4⟩:=h;obtain⟨q1,q2,q3⟩:=r3 i hi;refine⟨As i,ns i,ks i,(Co _ _ _ _ _ _ r1).trans q2,Fr _ _ _ _ _ r1,q3,fun W1 W2 A2 m2 c2 x hg1 hg2 ho2 hat=>?_⟩;have hk1:∀{r:Nat} {o:Obj},W.heap[r]? =some o→W1.heap[r]? =some o:=fun hx=>(hg1.block _ (Ge.1 hx).1 (fun e=>by cases e)).trans hx
 have q31:ax W1 base (As i) (ns i) (ks i) (C i):=ag q3 hg1 (by rcases ab (As i)with _|r;exact .inl rfl;exact .inr (fun e=>by cases e));have hnt:∀{r:Nat} {cs:Array Value} {t:TypeId} {q:Nat×Nat},W.heap[r]? =some (Obj.cells cs t q)→t≠3→W2.heap[r]? =some (Obj.cells cs t q):=fun hx ht=>(hg2.block _ (Ge.1 (hk1 hx)).1 (fun e=>dW q31 (hk1 hx) ht e.symm)).trans (hk1 hx)
 have wM:=hnt r1 Ah;have Nb:=au W2 ⟨p,i*2+1,none⟩ (.slice A2 m2 c2);have Uh:∀{r:Nat} {cs':Array Value} {t:TypeId} {q:Nat×Nat},W2.heap[r]? =some (Obj.cells cs' t q)→t≠qx→(W2.setCell ⟨p,i*2+1,none⟩ (.slice A2 m2 c2)).heap[r]? =some (Obj.cells cs' t q):=fun{r} {_} {_} {_} hx ht=>(Nb.block _ (Ge.1 hx).1 (fun e=>by
  have e:r=p:=Oj e;subst e;rw[wM]at hx;cases hx;exact ht rfl)).trans hx
 have hzb:base≤W.heap.size:=by have:=(Ge.1 r1).1;omega
 have hset:=Ag W2 p (i*2+1) cs qx (.slice A2 m2 c2) wM;have keep:∀{t:TypeId} {sz m' c':Nat} {A':Option Addr} {xs:List Value},W.ownsRow base t sz (.slice A' m' c') m' xs→(ab A'=none∨ab A'≠ab (As i))→t≠qx→(W2.setCell ⟨p,i*2+1,none⟩ (.slice A2 m2 c2)).ownsRow base t sz (.slice A' m' c') m' xs:=fun{t} {sz} {m'} {c'} {A'} {xs} hx hne ht=>by
  have x1:W1.ownsRow base t sz (.slice A' m' c') m' xs:=ag hx hg1 (by rcases ab A' with _|r;exact .inl rfl;exact .inr (fun e=>by cases e));have x2:W2.ownsRow base t sz (.slice A' m' c') m' xs:=ag x1 hg2 hne;exact ag x2 Nb (.inr (dW x2 wM (fun e=>ht e.symm)))
 refine⟨(Co _ _ _ _ _ _ wM).trans q2,Fr _ _ _ _ _ wM,⟨⟨A,m,c,Uh (hnt d1 Ah) Ah,keep d2 (eO d2 q3 Ah) Ah⟩,Uh (hnt hb Ah) Ah,
  _,fun j=>if j=i then A2 else As j,fun j=>if j=i then m2 else ns j,fun j=>if j=i then c2 else ks j,hset,by simp[r2],fun j hj=>?_,fun j k hj hk hjk=>?_⟩,?_,((CU hg1 (fun _ _ e=>by cases e)).trans (CU hg2 (zH q31))).trans (Cu _ _ _)⟩
 ·obtain⟨s1,s2,s3⟩:=r3 j hj;by_cases e:j=i
  ·subst e;refine⟨by rw[zT,Ng om];exact s1,?_,?_⟩
   ·rw[zT,Ps0 rfl,Ps0 om];simp
   ·simp only[Ps0];exact ag ho2 Nb (.inr (dW ho2 wM Ah))
  ·refine⟨by rw[zT,Ng om];exact s1,?_,?_⟩
   ·rw[zT,Ng om];simp only[Ng e];exact s2
   ·simp only[Ng e];exact keep s3 (r4 j i hj hi e) Ah
 ·have hlt:∀j,j<n→∀r,ab (As j)=some r→r<W1.heap.size:=fun j hj r e=>j6 (ae (r3 j hj).2.2 r e).2 hg1.size
  by_cases ej:j=i
  ·subst ej;have ek:¬k=j:=fun e=>hjk e.symm
   simp only[Ps0,Ng ek];rcases hat with e|e
   ·rw[e];exact r4 j k hj hk hjk
   ·rw[e];exact .inr (fun q=>by have:=hlt k hk _ q.symm;omega)
  ·by_cases ek:k=i
   ·subst ek;simp only[Ps0,Ng ej];rcases hat with e|e
    ·rw[e];exact r4 j k hj hk hjk
    ·rw[e];exact .inr (fun q=>by have:=hlt j hj _ q;omega)
   ·simp only[Ng ej,Ng ek];exact r4 j k hj hk hjk
 ·exact(iZ.none hzb hg1).trans ((iZ.grown (by have:=hg1.size;omega) hg2 (M0 q31 (by unfold ET;decide))).trans (iZ.grown (by have:=hg1.size;have:=hg2.size;omega) Nb (Na wM (by unfold ET;decide) hB)))
end
section
attribute [local go_sem] Oper.semAt_some
theorem Pv (A n c B) (l:Cs.gH) (w) (hv:gV w B A n c l) (hB:B≤w.heap.size) (hm:n≤1000000000):
  Calls prog 139 #[.slice A n c] w fun e w'=>∃A2 n2 c2 A3 c3,e= .returned (.slice A2 n2 c2)∧w'.ownsRow w.heap.size 55 1 (.slice A2 n2 c2) n2 ((List.range (Ck.oQ n)).map (Ck.GK A3 n))∧bq w' w.heap.size A3 n c3 l∧Below w.heap.size w w':=by
 have CL:=Aj (J9 A n c B l w hv hB om);clear hv;go_enter func139,ntmps139;go_wp2_with (first
  |(go_at_call 188;refine(Ka A3 n c3 w1).mono ?_;rintro e w2 ⟨rfl,rfl⟩)
  |(go_at_call 189;refine CL.1.mono ?_;rintro e w1 ⟨A3,c3,rfl,ho,hb⟩;have O1:=Aj ho;have B1:=Aj hb;clear ho hb CL))
 have hbx:Boxed ((w1.alloc (.cells #[.slice A3 n c3] 55)).alloc (.cells #[.int .i64 120] 3)) w1.heap.size 55 (.slice A3 n c3):=(Bd w1 _ _).alloc _;have hbk:Boxed ((w1.alloc (.cells #[.slice A3 n c3] 55)).alloc (.cells #[.int .i64 120] 3)) (w1.heap.size+1) 3 (.int .i64 120):=by
  have:=Bd (w1.alloc (.cells #[.slice A3 n c3] 55)) 3 (.int .i64 120);simpa using this
 have hb2:Below w1.heap.size w1 ((w1.alloc (.cells #[.slice A3 n c3] 55)).alloc (.cells #[.int .i64 120] 3)):=((Ae _ w1).alloc Ai _).alloc sm _;have hr2:=(O1.1.rd.below hb2).more hb2.size;have CO:=Aj (zK _ _ A3 n c3 l _ hbx hbk hr2 hm);have R2:=Aj hr2;have B2:=Aj hb2;clear hbx hbk hr2 hb2;go_wp2_with (go_at_call 187;refine CO.1.mono ?_;rintro e w4 ⟨A4,n4,c4,rfl,ho,hb⟩;have O4:=Aj ho;have B4:=Aj hb;clear ho hb CO);go_ret;have h1:=B1.1.size;have h2:=B2.1.size;have h3:=B4.1.size;refine⟨A4,n4,c4,A3,c3,rfl,zQ O4.1 (Lt h1 h2),?_,B1.1.trans ((B2.1.mono B1.1.size).trans (B4.1.mono (Lt h1 h2)))⟩;have q1:bq _ w.heap.size A3 n c3 l:=aN O1.1 B2.1;exact aN q1 B4.1
def EnR (x:Nat×List UInt8) (args:Array Value) (W:World):Prop:=∃A n c,args= #[.int .i64 (x.1:Int),.slice A n c]∧bf W W.heap.size A n c x.2
theorem En.XI (b:Bk.ic) {k} (hk:k<b.length) {j} (hj:j< (Ck.jC b[k].2).length):
  (En.all 0 (b.take k)++((Ck.jC b[k].2).take j).map (fun c=>(k,Ck.enc c)))++[(k,Ck.enc (Ck.jC b[k].2)[j])]=En.all 0 (b.take k)++((Ck.jC b[k].2).take (j+1)).map (fun c=>(k,Ck.enc c)):=by
 rw[Ts hj,dR,Af]
 rfl
theorem En.aaR (b) {k} (hk:k<b.length) (j):En.all 0 (b.take k)++((Ck.jC b[k].2).take j).map (fun c=>(k,Ck.enc c))<+:En.all 0 b:=by
 refine List.IsPrefix.trans ?_ (En.WX b (k+1));rw[En.GJ b hk];obtain⟨t,ht⟩:=List.take_prefix j (Ck.jC b[k].2);refine⟨t.map fun c=>(k,Ck.enc c),?_⟩;rw[Af,←dR,ht]
theorem En.XJ:∀(k) (s:Cs.gH),s.length≤k→∀c∈Ck.jC s,1≤c.length∧c.length≤120∧∀p∈c,p∈s:=by
 intro k
 induction k with
 |zero=>
  intro s hs c hc;rw[nL (show s.length=0 from om),Ck.dX]at hc;cases hc
 |succ k ih=>
  intro s hs c hc;by_cases h0:s=[]
  ·rw[h0,Ck.dX]at hc;cases hc
  ·rw[Ck.jR h0]at hc;have hp:=oW.2 h0;rcases eH.1 hc with rfl|hc
   ·rw[oV];exact⟨om,om,fun p hp=>List.mem_of_mem_take hp⟩
   ·obtain⟨h1,h2,h3⟩:=ih (s.drop 120) (by rw[mg];omega) c hc;exact⟨h1,h2,fun p hp=>List.mem_of_mem_drop (h3 p hp)⟩
theorem wU (n bx B m c A b w w0 X) (hw:Boxed w bx 24 (.slice A m c)) (hr:dY w B A m c b) (hB:B≤w.heap.size)
  (hin:∀s∈b,Cs.In s.2) (hsm:∀s∈b,s.2.length≤1000000000) (hG:Gl w0) (h0:w0.heap.size=B) (hw0:Below B w0 w) (hX:∀pre W,¬X pre W):
  Lf n prog 138 #[.pointer (some ⟨bx,0,none⟩)] EnR (fun _=>False) (iZ B) (En.all 0 b) w X:=by
 intro lp J Jx W hK hJ hJx Ql aW hj0;have hW:Boxed W bx 24 (.slice A m c):=hK.box hw (by unfold ET;simp);have hR:dY W B A m c b:=hr.below hK.1;have hBW:B≤W.heap.size:=Lt hB hK.1.size;have bL:=Aj aW;have HX:Kept (∀pre W,¬Jx pre W):=⟨fun pre W h=>hX pre W (Ql pre W h)⟩
 have GG:Kept (∀W',iZ B W W'→Gl W'):=⟨fun W' h=>hG.below (by rw[h0];exact hw0.trans (hK.1.trans h.1))⟩
 have hln:=Aj hr.len;obtain⟨hc1,hc2⟩:=hr.cap;unfold maxLen at hc2;have HJ:=Aj hJ;have Zd:=Aj hin;have HSM:=Aj hsm;have HR:=Aj hR;have hcb:=hW.cell;have HJ0:=Aj hj0;clear hw hK hB aW hJ hX Ql hr hJx hin hsm hG h0 hw0 hR hW hj0;refine Bl.2 ?_;go_enter func138,ntmps138;go_wp2;go_loopw [11] (fun i wr=>∃k:Nat,k≤m∧i= .int .i64 k∧iZ B W wr∧Kept (J (En.all 0 (b.take k)) wr)) (fun i _=>m-(intOf i).toNat)
 case atStart=>exact⟨0,bH _,rfl,iZ.refl _ _,HJ0⟩
 case round=>
  clear HJ0;obtain⟨k,hk,rfl,hK,hj⟩:=hrel;have HK:=Aj hK;have HRr:=HR.1.below hK.1;have hBr:B≤wr.heap.size:=Lt hBW hK.1.size;by_cases hlt:k<m
  ·have hkl:k<b.length:=by rw[←hln.1];exact hlt
   obtain⟨b0,off,A1,n1,c1,A3,n3,c3,rfl,-,hM,hc⟩:=HRr.cells hBr hkl;obtain⟨r0,r1⟩:=hc wr (Ae _ _);have hin:=Zd.1 b[k] (gG hkl);have hsm:=HSM.1 b[k] (gG hkl);have hal:=hK.trans (iZ.below (W':=wr.alloc (.cells #[.slice A1 n1 c1,.slice A3 n3 c3] 57)) ((Ae _ wr).alloc Ai _) hBr);have SO:=Aj (Pv A3 n3 c3 B b[k].2 (wr.alloc (.cells #[.slice A1 n1 c1,.slice A3 n3 c3] 57)) (hM.below (((Ae _ wr).alloc Ai _).mono hBr)) (by simp;omega) (by rw[hM.len];exact hsm));have mG:=Aj hM.len;have PRE:=Aj (fun j (h:j< (Ck.jC b[k].2).length)=>En.XI b hkl h);have PRL:=Aj (fun j=>En.aaR b hkl j);have LAST:=Aj (En.GJ b hkl);have MEM:=Aj (fun c (h:c∈Ck.jC b[k].2)=>En.XJ _ b[k].2 Ai c h);have HIK:=Aj hin;have ahf:=Aj hsm;have HAL:=Aj hal;have hj2:=Aj (HJ.1 _ _ _ none hj.1 (Ga wr (.cells #[.slice A1 n1 c1,.slice A3 n3 c3] 57) none) (fun r e=>by cases e));clear hK hj HRr hc hM hin hsm hal;generalize b[k].2=l at*;go_wp2_with (go_at_call 139;refine SO.1.mono ?_;rintro e w2 ⟨A4,n4,c4,A5,c5,rfl,o4,o5,hb2⟩;have O4:=Aj o4;have O5:=Aj o5;have B2:=Aj hb2;clear o4 o5 hb2 SO);have hz2:=HAL.1.1.size;have hj3:=Aj (HJ.1 _ _ _ none hj2.1 (aB B2.1) (fun r e=>by cases e));have HK2:=Aj (HAL.1.trans (iZ.below B2.1 (Lt hBW hz2)));have hcnt:Kept (n4=(Ck.jC l).length):=⟨by
    have:=(Rd.bC O4.1).2.2.1;rw[fM]at this;rw[Ck.uH,fM,←mG.1];omega⟩
   have hn4:n4≤1000000000:=by
    have:=(Rd.bC O4.1).2.2.1;rw[fM,Cz]at this;have h1:=mG.1;unfold Ck.oQ at this;have:=ahf.1;omega
   clear hj2 B2 HAL;go_loopw [20] (fun j wi=>∃jj:Nat,jj≤n4∧j= .int .i64 jj∧iZ B W wi∧Kept (∃base,wi.ownsRow base 55 1 (.slice A4 n4 c4) n4 ((List.range (Ck.oQ n3)).map (Ck.GK A5 n3))∧bq wi base A5 n3 c5 l)∧
    Kept (J (En.all 0 (b.take k)++((Ck.jC l).take jj).map (fun c=>(k,Ck.enc c))) wi)) (fun j _=>n4-(intOf j).toNat)
   case atStart=>exact⟨0,bH _,rfl,HK2.1,⟨_,O4.1,O5.1⟩,⟨by simpa using hj3.1⟩⟩
   case round=>
    clear hj3 HK2 O4 O5 HK;obtain⟨jj,hjj,rfl,hKi,hown,hji⟩:=hrel;have HKi:=Aj hKi;by_cases hlj:jj<n4
    ·have hjl:jj< (Ck.jC l).length:=by rw[←hcnt.1];exact hlj
     obtain⟨base,ho1,ho2⟩:=hown.1;have hrr:=nD.chunks ho2.rd Ai (Rd.bC ho1);obtain⟨b1,rG,A6,n6,c6,rfl,-,hcell,hrd⟩:=hrr.at_ hjl;obtain⟨m1,m2,m3⟩:=MEM.1 _ (gG hjl);have rT:=hrd.len;have CE:=Aj (Ib A6 n6 c6 wr.heap.size (Ck.jC l)[jj] wr hrd Ai (fun p hp=>HIK.1 p (m3 p hp)) om om (GG.1 wr hKi));have HP1:=Aj (PRE.1 jj hjl);have hpl:Kept (En.all 0 (b.take k)++((Ck.jC l).take jj).map (fun c=>(k,Ck.enc c))++[(k,Ck.enc (Ck.jC l)[jj])]<+:En.all 0 b):=⟨by rw[HP1.1];exact PRL.1 (jj+1)⟩
     have HOWN:=Aj (And.intro ho1 ho2);have hzi:B≤wr.heap.size:=Lt hBW hKi.1.size;clear hrr hrd m1 m2 m3 rT ho1 ho2 hown hKi;generalize Ck.enc (Ck.jC l)[jj]=ec at*;go_upto_region 7 with(go_at_call 140;refine CE.1.mono ?_;rintro e w3 ⟨A7,n7,c7,rfl,o7,hb3⟩;have O7:=Aj o7.rd;have B3:=Aj hb3;clear o7 hb3 CE)
     have hj3:=HJ.1 _ _ _ none hji.1 (aB B3.1) (fun r e=>by cases e);obtain⟨fn,tmps,assign,body,hy,oN⟩:=bL.1 _ (k,ec) #[.int .i64 (k:Int),.slice A7 n7 c7] w3 hj3 ⟨A7,n7,c7,rfl,O7.1⟩ hpl.1;have HK3:=Aj (HKi.1.trans (iZ.below B3.1 hzi));have HO3:=Aj (And.intro (aN HOWN.1.1 B3.1) (show bq w3 base A5 n3 c5 l from aN HOWN.1.2 B3.1));clear hj3 O7 B3 HOWN hji;refine(Bu (n:=n)).1 ?_
     gi_wp2
     refine⟨(fun h=>by simp[Fence.wide]at h),oN.mono ?_⟩;rintro e W' (⟨rfl,hj',hk'⟩|⟨rfl,rf⟩)
     ·have HK4:=Aj (HK3.1.trans hk');have HO4:Kept (∃base,W'.ownsRow base 55 1 (.slice (some ⟨b1,rG,none⟩) n4 c4) n4 ((List.range (Ck.oQ n3)).map (Ck.GK A5 n3))∧bq W' base A5 n3 c5 l):=⟨base,hk'.own HO3.1.1 (by unfold ET;simp),hk'.own HO3.1.2 (by unfold ET;simp)⟩
      have Yu:=Aj hj';rw[HP1.1]at Yu;clear hj' hk' oN hy HK3 HO3
      gi_wp2
      go_wp2;go_roundw
      case rel=>exact⟨jj+1,om,by go_num,HK4.1,HO4,Yu⟩
      case measure=>simp[intOf];omega
     ·exact absurd rf (HX.1 _ _)
    ·have hjn:n4=jj:=by omega
     subst hjn;have hj4:Kept (J (En.all 0 (b.take (k+1))) wr):=⟨by
      have:=hji.1;rw[show(Ck.jC l).take n4=Ck.jC l from iM (by rw[←hcnt.1];exact Nr _)]at this;rw[LAST.1];exact this⟩
     clear hji hown hKi;go_wp2;go_roundw
     case rel=>exact⟨k+1,om,by go_num,HKi.1,hj4⟩
     case measure=>simp[intOf];omega
  ·obtain rfl:k=m:=by omega
   have hj4:Kept (J (En.all 0 b) wr):=⟨by
    have:=hj.1;rwa[iM (by rw[←hln.1];exact Nr _)]at this⟩
   clear hj hK HRr;go_wp2;go_end0;exact⟨⟨_,rfl⟩,.inl hj4.1⟩
theorem Ih (A n c w):Calls prog 84 #[.slice A n c] w fun e w'=>
  e= .returned (.func (.func 138) #[] #[.pointer (some ⟨w.heap.size,0,none⟩)])∧w'=w.alloc (.cells #[.slice A n c] 24):=by
 have hmf:∀(fn:Fn) (first cap:Array Value) (w:World),(Instr.makeFunc fn first cap).run prog w= .ok (.func fn first cap) w:=fun _ _ _ _=>rfl
 go_enter func84,ntmps84;go_wp2;go_ret;exact⟨rfl,rfl⟩
end
end Go.Proofs.YtongopommlghgaaGreatDoor
