/- Part 35. -/
import Derived.Test.YtjcpmfphnodaaaaGreatDoorZTBH
import Derived.Test.YtjcpmfphnodaaaaGreatDoorZTBG
namespace Go.Proofs.YtjcpmfphnodaaaaGreatDoor
set_option maxRecDepth 100000
set_option maxHeartbeats 0
open _root_.Go.Proofs.Tryz
open Go.RowKit Go.Shelf
theorem uN (A) (n c) (l) (w) (hv:aN w w.heap.size A n c l) (hn:n≤140737488353000) (hs:jW l) (hs2:(Bk.dec l).2=0→Bk.cK (Bk.dec l).1≤1000000000000) (hG:Gl w):
  Calls prog 10 #[.slice A n c] w (Zy w l):=by
 obtain⟨W0,hW0⟩:∃W0,W0=w.alloc (.cells #[.int .i64 0,.int .i64 0,.int .i64 0,.int .i64 0,.int .i64 0,.int .i64 0,.int .i64 0,.int .i64 0] iV):=⟨_,rfl⟩
 have hb0:Below w.heap.size w W0:=by rw[hW0];exact(Ae _ w).alloc Ai _
 have hz0:W0.heap.size=w.heap.size+1:=by rw[hW0];simp
 have hg0:W0.heap[w.heap.size]? =some (.cells #[.int .i64 0,.int .i64 0,.int .i64 0,.int .i64 0,.int .i64 0,.int .i64 0,.int .i64 0,.int .i64 0] iV (0,0)):=by rw[hW0];exact Av w _
 have VN:=Aj (xF A n c l w hv hn hG);have HW0:=Aj hW0.symm;have LP:=Aj (mD A n c l W0 ((hv.below hb0).more om) hn (hG.below hb0).tab);have hd:Bk.dec l=if Ly.pe l≠0 then([],Ly.pe l)else Bk.kC (Ly.gH l):=rfl;have B0:=Aj hb0;have G0:=Aj hg0;have Z0:=Aj hz0;have HG:=Aj hG;have HS:=Aj hs;have HS2:=Aj hs2;unfold Zy;obtain⟨f,hf⟩:∃f,f=Ly.pe l:=⟨_,rfl⟩
 rw[←hf]at LP hd VN⊢;generalize hR:Bk.dec l=R at*;clear hf hv hs hs2 hG hW0 hb0 hz0 hg0;by_cases hf0:f=0
 ·subst hf0;rw[Ng sm]at hd;have HD:=Aj hd;clear hd;go_enter func10,ntmps10;go_upto_region 1 with fail;rw[HW0.1];go_upto_region 6 with(go_at_call 34;refine LP.1.mono ?_;rintro r w2 ⟨V,rfl,hf,hb⟩;obtain⟨Aa,na,ca,Ab,nb,cb,Ac,nc,cc,Ad,nd,cd,hV⟩:=hf.lit;rw[hV];have F2:=Aj hf;have HV:=Aj hV;have B2:=Aj hb;clear hf hb hV LP)
  obtain⟨sb,hsb⟩:∃sb,sb=w2.heap.size:=⟨_,rfl⟩
  obtain⟨rb,OY⟩:∃rb,rb=sb+1:=⟨_,rfl⟩
  have z2:=B2.1.size;have hal:Below w2.heap.size w2 ((w2.alloc (.cells #[.slice Aa na ca,.slice Ab nb cb,.slice Ac nc cc,.slice Ad nd cd] 76)).alloc (.cells #[.int .i64 0,.int .i64 0,.int .i64 0,.int .i64 0,.int .i64 0,.int .i64 0,.int .i64 0,.int .i64 0] iV)):=((Ae _ w2).alloc Ai _).alloc sm _;have LH:=Aj (B0.1.trans ((B2.1.trans (hal.mono z2)).mono (by have:=Z0.1;omega)));have HF5:=Aj (F2.1.below hal);have Zz:=Aj (((B2.1.trans (hal.mono z2)).block w.heap.size (by have:=Z0.1;omega)).trans G0.1);have acH:Kept (((w2.alloc (.cells #[.slice Aa na ca,.slice Ab nb cb,.slice Ac nc cc,.slice Ad nd cd] 76)).alloc (.cells #[.int .i64 0,.int .i64 0,.int .i64 0,.int .i64 0,.int .i64 0,.int .i64 0,.int .i64 0,.int .i64 0] iV)).heap[sb]? =some (.cells #[.slice Aa na ca,.slice Ab nb cb,.slice Ac nc cc,.slice Ad nd cd] 76 (0,0))):=⟨by rw[hsb,Aw _ _ _ sm];exact World.alloc_heap_new w2 _⟩
  have acI:Kept (((w2.alloc (.cells #[.slice Aa na ca,.slice Ab nb cb,.slice Ac nc cc,.slice Ad nd cd] 76)).alloc (.cells #[.int .i64 0,.int .i64 0,.int .i64 0,.int .i64 0,.int .i64 0,.int .i64 0,.int .i64 0,.int .i64 0] iV)).heap[rb]? =some (.cells #[.int .i64 0,.int .i64 0,.int .i64 0,.int .i64 0,.int .i64 0,.int .i64 0,.int .i64 0,.int .i64 0] iV (0,0))):=⟨by
   rw[OY,hsb];have:=World.alloc_heap_new (w2.alloc (.cells #[.slice Aa na ca,.slice Ab nb cb,.slice Ac nc cc,.slice Ad nd cd] 76)) (.cells #[.int .i64 0,.int .i64 0,.int .i64 0,.int .i64 0,.int .i64 0,.int .i64 0,.int .i64 0,.int .i64 0] iV);simp only[AO]at this;exact this⟩
  have Gi:Kept (sb<rb):=⟨om⟩
  have l7:Kept (w.heap.size<sb∧w.heap.size<rb):=⟨by have:=Z0.1;omega⟩
  have Gj:Kept (w.heap.size≤rb):=⟨by have:=Z0.1;omega⟩
  rw[←hsb,←OY];clear hsb OY hal z2 F2 B2;generalize (w2.alloc (.cells #[.slice Aa na ca,.slice Ab nb cb,.slice Ac nc cc,.slice Ad nd cd] 76)).alloc (.cells #[.int .i64 0,.int .i64 0,.int .i64 0,.int .i64 0,.int .i64 0,.int .i64 0,.int .i64 0,.int .i64 0] iV)=W5 at*;have jx0:∀W,(Instr.index 76 (.agg #[.slice Aa na ca,.slice Ab nb cb,.slice Ac nc cc,.slice Ad nd cd]) (.int .i64 0)).run prog W= .ok (.slice Aa na ca) W:=fun _=>kr
  have jx1:∀W,(Instr.index 76 (.agg #[.slice Aa na ca,.slice Ab nb cb,.slice Ac nc cc,.slice Ad nd cd]) (.int .i64 1)).run prog W= .ok (.slice Ab nb cb) W:=fun _=>kr
  have jx2:∀W,(Instr.index 76 (.agg #[.slice Aa na ca,.slice Ab nb cb,.slice Ac nc cc,.slice Ad nd cd]) (.int .i64 2)).run prog W= .ok (.slice Ac nc cc) W:=fun _=>kr
  have jx3:∀W,(Instr.index 76 (.agg #[.slice Aa na ca,.slice Ab nb cb,.slice Ac nc cc,.slice Ad nd cd]) (.int .i64 3)).run prog W= .ok (.slice Ad nd cd) W:=fun _=>kr
  go_loopw [22] (fun i wr=>∃j:Nat,j≤4∧i= .int .i64 j∧(∃z0 z1 z2 z3:Int,wr.heap[rb]? =some (.cells #[.int .i64 0,.int .i64 0,.int .i64 z0,.int .i64 z1,.int .i64 z2,.int .i64 z3,.int .i64 0,.int .i64 0] iV (0,0)))∧Kept (aV wr W0.heap.size V (Ly.gH l))∧Kept (Below w.heap.size w wr)∧
   Kept (wr.heap[w.heap.size]? =some (.cells #[.int .i64 0,.int .i64 0,.int .i64 0,.int .i64 0,.int .i64 0,.int .i64 0,.int .i64 0,.int .i64 0] iV (0,0)))∧Kept (wr.heap[sb]? =some (.cells #[.slice Aa na ca,.slice Ab nb cb,.slice Ac nc cc,.slice Ad nd cd] 76 (0,0)))) (fun i _=>4-(intOf i).toNat)
  case atStart=>exact⟨0,om,rfl,⟨0,0,0,0,acI.1⟩,HF5,LH,Zz,acH⟩
  case round=>
   clear acI HF5 LH Zz acH;obtain⟨j,hj,rfl,⟨z0,z1,z2,z3,VU⟩,HF,HB,HR,Xl⟩:=hrel;have hrb:=Aj VU;have oC:Kept (rb<wr.heap.size):=⟨(Ge.1 VU).1⟩
   have fz:=fun k=>Fr wr rb k _ _ VU
   have y0:=Co wr rb 0 _ _ _ hrb.1;have y1:=Co wr rb 1 _ _ _ hrb.1;have y2:=Co wr rb 2 _ _ _ hrb.1;have y3:=Co wr rb 3 _ _ _ hrb.1;have y4:=Co wr rb 4 _ _ _ hrb.1;have y5:=Co wr rb 5 _ _ _ hrb.1;have y6:=Co wr rb 6 _ _ _ hrb.1;have y7:=Co wr rb 7 _ _ _ hrb.1;simp at y0 y1 y2 y3 y4 y5 y6 y7;clear VU;have YU:j=0∨j=1∨j=2∨j=3∨j=4:=om;rcases YU with rfl|rfl|rfl|rfl|rfl
   ·have hs6:=Ag wr rb 2 _ iV (.int .i64 (na:Int)) hrb.1;simp at hs6;have uO:=ag wr ⟨rb,2,none⟩ (.int .i64 (na:Int));have xE:=Aj (HB.1.grown uO HB.1.size (fun r e=>by cases e;exact Gj.1));have ZA:=Aj (aV.VS HF.1 uO hrb.1 Ah);have LJ:Kept _:=Aj hs6;have ZB:=Aj ((uO.block w.heap.size (by have:=oC.1;have:=l7.1;omega) (fun e=>by have e2:=Oj e;simp only[]at e2;have:=l7.1;omega)).trans HR.1);have JF:=Aj ((uO.block sb (by have:=oC.1;have:=Gi.1;omega) (fun e=>by have e2:=Oj e;simp only[]at e2;have:=Gi.1;omega)).trans Xl.1);clear hs6 uO;go_wp2;go_roundw
    case rel=>exact⟨1,om,by trivial,⟨(na:Int),z1,z2,z3,LJ.1⟩,ZA,xE,ZB,JF⟩
    case measure=>simp[intOf]
   ·have hs6:=Ag wr rb 3 _ iV (.int .i64 (nb:Int)) hrb.1;simp at hs6;have uO:=ag wr ⟨rb,3,none⟩ (.int .i64 (nb:Int));have xE:=Aj (HB.1.grown uO HB.1.size (fun r e=>by cases e;exact Gj.1));have ZA:=Aj (aV.VS HF.1 uO hrb.1 Ah);have LJ:Kept _:=Aj hs6;have ZB:=Aj ((uO.block w.heap.size (by have:=oC.1;have:=l7.1;omega) (fun e=>by have e2:=Oj e;simp only[]at e2;have:=l7.1;omega)).trans HR.1);have JF:=Aj ((uO.block sb (by have:=oC.1;have:=Gi.1;omega) (fun e=>by have e2:=Oj e;simp only[]at e2;have:=Gi.1;omega)).trans Xl.1);clear hs6 uO;go_wp2;go_roundw
    case rel=>exact⟨2,om,by trivial,⟨z0,(nb:Int),z2,z3,LJ.1⟩,ZA,xE,ZB,JF⟩
    case measure=>simp[intOf]
   ·have hs6:=Ag wr rb 4 _ iV (.int .i64 (nc:Int)) hrb.1;simp at hs6;have uO:=ag wr ⟨rb,4,none⟩ (.int .i64 (nc:Int));have xE:=Aj (HB.1.grown uO HB.1.size (fun r e=>by cases e;exact Gj.1));have ZA:=Aj (aV.VS HF.1 uO hrb.1 Ah);have LJ:Kept _:=Aj hs6;have ZB:=Aj ((uO.block w.heap.size (by have:=oC.1;have:=l7.1;omega) (fun e=>by have e2:=Oj e;simp only[]at e2;have:=l7.1;omega)).trans HR.1);have JF:=Aj ((uO.block sb (by have:=oC.1;have:=Gi.1;omega) (fun e=>by have e2:=Oj e;simp only[]at e2;have:=Gi.1;omega)).trans Xl.1);clear hs6 uO;go_wp2;go_roundw
    case rel=>exact⟨3,om,by trivial,⟨z0,z1,(nc:Int),z3,LJ.1⟩,ZA,xE,ZB,JF⟩
    case measure=>simp[intOf]
   ·have hs6:=Ag wr rb 5 _ iV (.int .i64 (nd:Int)) hrb.1;simp at hs6;have uO:=ag wr ⟨rb,5,none⟩ (.int .i64 (nd:Int));have xE:=Aj (HB.1.grown uO HB.1.size (fun r e=>by cases e;exact Gj.1));have ZA:=Aj (aV.VS HF.1 uO hrb.1 Ah);have LJ:Kept _:=Aj hs6;have ZB:=Aj ((uO.block w.heap.size (by have:=oC.1;have:=l7.1;omega) (fun e=>by have e2:=Oj e;simp only[]at e2;have:=l7.1;omega)).trans HR.1);have JF:=Aj ((uO.block sb (by have:=oC.1;have:=Gi.1;omega) (fun e=>by have e2:=Oj e;simp only[]at e2;have:=Gi.1;omega)).trans Xl.1);clear hs6 uO;go_wp2;go_roundw
    case rel=>exact⟨4,om,by trivial,⟨z0,z1,z2,(nd:Int),LJ.1⟩,ZA,xE,ZB,JF⟩
    case measure=>simp[intOf]
   ·clear y0 y1 y2 y3 y4 y5 y6 y7 fz jx0 jx1 jx2 jx3;have SC:=Aj (Xk V (Ly.gH l) wr (fun i hi=>by
     obtain⟨A',n',c',h1,h2⟩:=HF.1 i hi;exact⟨A',n',c',h1,h2.rd,by rw[h2.len];exact HS.1 i hi⟩) (HG.1.below HB.1))
    rw[HV.1,←HD.1]at SC;have m0:=Co wr sb 0 _ _ _ Xl.1;have m1:=Co wr sb 1 _ _ _ Xl.1;have m2:=Co wr sb 2 _ _ _ Xl.1;have m3:=Co wr sb 3 _ _ _ Xl.1;simp at m0 m1 m2 m3;obtain⟨R1,R2⟩:=R;by_cases hr2:R2=0
    ·subst hr2;have hsm:=Aj (HS2.1 rfl);go_upto_region 14 with(go_at_call 35;refine SC.1.mono ?_;rintro e w6 ⟨A9,n9,c9,rfl,hK,hb⟩;have HK:=Aj hK;have xE:=Aj hb;clear hK hb SC)
     have hlk:=HK.1.cap;have hlm:n9≤9223372036854775807:=by have:=hlk.1;have:=hlk.2;unfold maxLen at this;omega
     have SM:=Aj (qH A9 n9 c9 w6.heap.size R1 w6 HK.1 Ai hsm.1);clear hlk;go_upto_region 15 with(go_at_call 31;refine SM.1.mono ?_;rintro e w7 ⟨rfl,g7⟩;have HB7:=Aj (xE.1.trans (g7.below.mono xE.1.size));have r7:=(HB7.1.block rb oC.1).trans hrb.1;have fz:=(fun k=>Fr w7 rb k _ _ r7);have y6:=Co w7 rb 6 _ _ _ r7;have y7:=Co w7 rb 7 _ _ _ r7;simp at y6 y7;have R7:=Aj r7;clear r7 g7 SM)
     have ZC:=Aj (HB.1.trans (HB7.1.mono HB.1.size));have Sq:w.heap.size<w7.heap.size:=by have:=HB7.1.size;have:=oC.1;have:=l7.1;omega
     have ZE:=(HB7.1.block w.heap.size (by have:=oC.1;have:=l7.1;omega)).trans HR.1;clear y6 y7;have q1:=Ag w7 rb 6 _ _ (.int .i64 (n9:Int)) R7.1;simp at q1;have q2:=Ag _ rb 7 _ _ (.int .i64 (Bk.cK R1:Int)) q1;simp at q2;have ga:=ag w7 ⟨rb,6,none⟩ (.int .i64 (n9:Int));have gb:=ag (w7.setCell ⟨rb,6,none⟩ (.int .i64 (n9:Int))) ⟨rb,7,none⟩ (.int .i64 (Bk.cK R1:Int));have hBx:=(ZC.1.grown ga ZC.1.size (fun r e=>by cases e;exact Gj.1)).grown gb (Lt ZC.1.size ga.size) (fun r e=>by cases e;exact Gj.1);have uP:=((gb.block w.heap.size (jB Sq ga.size) (fun e=>by have e2:=Oj e;simp only[]at e2;have:=l7.1;omega)).trans (ga.block w.heap.size Sq (fun e=>by have e2:=Oj e;simp only[]at e2;have:=l7.1;omega))).trans ZE;clear ga gb q1 fz;generalize ((w7.setCell ⟨rb,6,none⟩ (.int .i64 (n9:Int))).setCell ⟨rb,7,none⟩ (.int .i64 (Bk.cK R1:Int)))=Wx at*;have y0:=Co Wx rb 0 _ _ _ q2;have y1:=Co Wx rb 1 _ _ _ q2;have y2:=Co Wx rb 2 _ _ _ q2;have y3:=Co Wx rb 3 _ _ _ q2;have y4:=Co Wx rb 4 _ _ _ q2;have y5:=Co Wx rb 5 _ _ _ q2;have y6:=Co Wx rb 6 _ _ _ q2;have y7:=Co Wx rb 7 _ _ _ q2;have fz:=fun k=>Fr Wx w.heap.size k _ _ uP
     have t0:=Co Wx w.heap.size 0 _ _ _ uP;have t1:=Co Wx w.heap.size 1 _ _ _ uP;have t2:=Co Wx w.heap.size 2 _ _ _ uP;have t3:=Co Wx w.heap.size 3 _ _ _ uP;have t4:=Co Wx w.heap.size 4 _ _ _ uP;have t5:=Co Wx w.heap.size 5 _ _ _ uP;have t6:=Co Wx w.heap.size 6 _ _ _ uP;have t7:=Co Wx w.heap.size 7 _ _ _ uP;simp at y0 y1 y2 y3 y4 y5 y6 y7 t0 t1 t2 t3 t4 t5 t6 t7;have HRx:=Aj uP;have HBx:=Aj hBx;clear uP hBx q2;go_wp2;refine AQ (v:= .agg #[.int .i64 0,.int .i64 0,.int .i64 z0,.int .i64 z1,.int .i64 z2,.int .i64 z3,.int .i64 (n9:Int),.int .i64 (Bk.cK R1:Int)]) ?_ rfl ⟨_,_,_,_,_,_,_,rfl,⟨fun _=>rfl,fun _=>rfl⟩,(fun h=>by cases h),?_⟩
     ·exact aP (fn:=Tryz.f10) (a:=2) (T1:=30) rfl _ _ w.heap.size _ _ _ _ rfl (uM _ w.heap.size _ _ _ _ _ _ _ _ _ _ _ _ _ _ _ _ HRx.1) underlying30 rfl kr
     ·exact HBx.1.grown (ni _ w.heap.size _ _ _ _ _ _ _ _) HBx.1.size (fun r e=>by cases e;exact Nr _)
    ·have hr3:(R2 !=0)=true:=by simpa using hr2
     have HR2:=Aj hr2;clear hr2;go_upto_region 13 with(go_at_call 35;refine SC.1.mono ?_;rintro e w6 ⟨A9,n9,c9,rfl,hK,hb⟩;have xE:=Aj hb;have r6:=(hb.block rb oC.1).trans hrb.1;have fz:=(fun k=>Fr w6 rb k _ _ r6);have y0:=Co w6 rb 0 _ _ _ r6;have y1:=Co w6 rb 1 _ _ _ r6;simp at y0 y1;have R6:=Aj r6;clear r6 hb hK SC)
     have ZC:=Aj (HB.1.trans (xE.1.mono HB.1.size));have Sq:w.heap.size<w6.heap.size:=by have:=xE.1.size;have:=oC.1;have:=l7.1;omega
     have ZE:=(xE.1.block w.heap.size (by have:=oC.1;have:=l7.1;omega)).trans HR.1;clear y0 y1;have q1:=Ag w6 rb 0 _ _ (.int .i64 4) R6.1;simp at q1;have q2:=Ag _ rb 1 _ _ (.int .i64 R2) q1;simp at q2;have ga:=ag w6 ⟨rb,0,none⟩ (.int .i64 4);have gb:=ag (w6.setCell ⟨rb,0,none⟩ (.int .i64 4)) ⟨rb,1,none⟩ (.int .i64 R2);have hBx:=(ZC.1.grown ga ZC.1.size (fun r e=>by cases e;exact Gj.1)).grown gb (Lt ZC.1.size ga.size) (fun r e=>by cases e;exact Gj.1);have uP:=((gb.block w.heap.size (jB Sq ga.size) (fun e=>by have e2:=Oj e;simp only[]at e2;have:=l7.1;omega)).trans (ga.block w.heap.size Sq (fun e=>by have e2:=Oj e;simp only[]at e2;have:=l7.1;omega))).trans ZE;clear ga gb q1 fz;generalize ((w6.setCell ⟨rb,0,none⟩ (.int .i64 4)).setCell ⟨rb,1,none⟩ (.int .i64 R2))=Wx at*;have y0:=Co Wx rb 0 _ _ _ q2;have y1:=Co Wx rb 1 _ _ _ q2;have y2:=Co Wx rb 2 _ _ _ q2;have y3:=Co Wx rb 3 _ _ _ q2;have y4:=Co Wx rb 4 _ _ _ q2;have y5:=Co Wx rb 5 _ _ _ q2;have y6:=Co Wx rb 6 _ _ _ q2;have y7:=Co Wx rb 7 _ _ _ q2;have fz:=fun k=>Fr Wx w.heap.size k _ _ uP
     have t0:=Co Wx w.heap.size 0 _ _ _ uP;have t1:=Co Wx w.heap.size 1 _ _ _ uP;have t2:=Co Wx w.heap.size 2 _ _ _ uP;have t3:=Co Wx w.heap.size 3 _ _ _ uP;have t4:=Co Wx w.heap.size 4 _ _ _ uP;have t5:=Co Wx w.heap.size 5 _ _ _ uP;have t6:=Co Wx w.heap.size 6 _ _ _ uP;have t7:=Co Wx w.heap.size 7 _ _ _ uP;simp at y0 y1 y2 y3 y4 y5 y6 y7 t0 t1 t2 t3 t4 t5 t6 t7;have HRx:=Aj uP;have HBx:=Aj hBx;clear uP hBx q2;go_wp2;refine AQ (v:= .agg #[.int .i64 4,.int .i64 R2,.int .i64 z0,.int .i64 z1,.int .i64 z2,.int .i64 z3,.int .i64 0,.int .i64 0]) ?_ rfl ⟨_,_,_,_,_,_,_,rfl,⟨fun h=>absurd h Ah,fun h=>absurd h HR2.1⟩,(fun h=>by cases h),?_⟩
     ·exact aP (fn:=Tryz.f10) (a:=2) (T1:=30) rfl _ _ w.heap.size _ _ _ _ rfl (uM _ w.heap.size _ _ _ _ _ _ _ _ _ _ _ _ _ _ _ _ HRx.1) underlying30 rfl kr
     ·exact HBx.1.grown (ni _ w.heap.size _ _ _ _ _ _ _ _) HBx.1.size (fun r e=>by cases e;exact Nr _)
 ·rw[Ps0 hf0]at hd;rw[hd];exact VN.1 hf0
theorem JG (A) (n c) (l) (w) (hv:aN w w.heap.size A n c l) (hn:n≤140737488353000) (hs:jW l) (hb:(Bk.dec l).2≠0) (hG:Gl w):
  Calls prog 21 #[.slice A n c] w fun e w'=>∃p,e= .returned (.iface 104 (.pointer (some p)))∧Below w.heap.size w w':=by
 have VE:=Aj (uN A n c l w hv hn hs (fun h=>absurd h hb) hG);have HB:=Aj hb;clear hv hs hb hG;go_enter func21,ntmps21;go_upto_region 2 with(go_at_call 10;refine VE.1.mono ?_;rintro e w2 ⟨c2,z0,z1,z2,z3,s1,s2,rfl,hc,-,hb2⟩;have hc0:=Aj (fun h=>HB.1 (hc.1 h));have B2:=Aj hb2;clear hc hb2 VE)
 have hc1:(c2==0)=false:=by have:=hc0.1;simpa using this
 go_wp2;go_ret;have hz:=B2.1.size;exact⟨_,rfl,(B2.1.alloc hz _).alloc (by simp;omega) _⟩
theorem jR.bP {w} {base n c k} {A} {hs} {b} {B} (h:w.ownsRow base 54 1 (.slice A n c) n ((hs.take k).map (·.1))) (hh:Xe w B b hs) (hB:B≤w.heap.size) (hk:k=b.length):jR w w.heap.size A n c (Bk.sets b):=by
 have hl:=hh.1;rw[jY om]at h;refine⟨_,Rd.bP h,by unfold Bk.sets;simp[hl],fun i l hl'=>?_⟩;unfold Bk.sets at hl';rw[Cb]at hl';obtain⟨s,hs',rfl⟩:=Cy.1 hl';obtain⟨hi,e0⟩:=kH.1 hs';obtain⟨A1,n1,c1,A2,n2,c2,e,q1,q2⟩:=hh.2 i om hi;refine⟨A1,n1,c1,?_,?_⟩
 ·rw[Cb,l8 om];simp[e]
 ·rw[←e0];exact q1.more hB
def af8 (w:World) (R:Bk.iP×Int) (e:Ending) (w':World):Prop:=
 Below w.heap.size w w'∧((R.2≠0∧e= .returned (.tuple #[.pointer none,.int .i64 R.2]))∨
  (R.2=0∧∃p q A n c A2 n2 c2 E,e= .returned (.tuple #[.pointer (some ⟨p,0,none⟩),.int .i64 0])∧w'.heap[p]? =some (.cells #[.pointer (some ⟨q,0,none⟩)] 88 (0,0))∧
   w'.heap[q]? =some (.cells #[.slice A n c,.slice A2 n2 c2] 86 (0,0))∧iE w' w'.heap.size A n c R.1∧fI w' w'.heap.size A2 n2 c2 E∧Ps.uY (Ps.gB (Bk.sets R.1) 0) E))
theorem Gm (A) (n c) (l) (w) (hv:aN w w.heap.size A n c l) (hn:n≤140737488353000) (hs:jW l) (hs2:(Bk.dec l).2=0→Ps.Sets (Bk.sets (Bk.dec l).1)) (hG:Gl w):
  Calls prog 11 #[.slice A n c] w (af8 w (Bk.dec l)):=by
 have DE:=Aj (oz A n c l w hv hn hs hG);generalize Bk.dec l=R at*;obtain⟨b,f⟩:=R;have HS2:=Aj hs2;clear hv hs hs2 hG;by_cases hf:f=0
 ·subst hf;have hset:=Aj (HS2.1 rfl);go_enter func11,ntmps11;go_upto_region 6 with(go_at_call 9;refine DE.1.mono ?_;rintro e w2 ⟨A9,n9,c9,rfl,hK,hb⟩;have HK:=Aj hK;have B2:=Aj hb;clear hK hb DE)
  have hcp:=HK.1.cap;unfold maxLen at hcp;obtain⟨hc1,hc2⟩:=hcp;have hn9:=Aj HK.1.len;have hnb:n9≤1000000:=by
   have h1:=Ps.yZ (Bk.sets b);have h2:=hset.1.2;have h3:(Bk.sets b).length=b.length:=by unfold Bk.sets;simp
   rw[hn9.1];omega
  obtain⟨hs,hrd,hhl,hhe⟩:=HK.1;have HRD:=Aj hrd;have NV:Kept (Xe w2 w2.heap.size b hs):=⟨⟨hhl,hhe⟩⟩
  clear hrd hhl hhe;go_loopw [6,19] (fun o i wr=>∃k:Nat,k≤n9∧i= .int .i64 k∧∃A2 c2,o= .slice A2 k c2∧Kept (wr.ownsRow w2.heap.size 54 1 (.slice A2 k c2) k ((hs.take k).map (·.1)))∧Below w2.heap.size w2 wr) (fun _ i _=>n9-(intOf i).toNat)
  case atStart=>exact⟨0,bE _,rfl,none,0,rfl,⟨AY _ _ _ _⟩,Ae _ _⟩
  case round=>
   obtain⟨k,hk,rfl,A2,c2,rfl,ho,hbw⟩:=hrel;by_cases hlt:k<n9
   ·have hkh:k<hs.length:=by rw[NV.1.1,←hn9.1];exact hlt
    have hkb:k<b.length:=by rw[←hn9.1];exact hlt
    obtain⟨A1,n1,c1,A3,n3,c3,he,-,-⟩:=NV.1.2 k hkh hkb;obtain⟨b0,off,rfl,lX,hc⟩:=HRD.1.2.2.2 om;obtain⟨g1,g2⟩:=fF hs k hkh;rw[he]at g1 g2;have r0:=(hbw.cell (p:=⟨b0,off+k*2,none⟩) (by show b0<_;exact lX)).trans (hc _ _ g1);have r1:=(hbw.cell (p:=⟨b0,off+(k*2+1),none⟩) (by show b0<_;exact lX)).trans (hc _ _ g2);rw[←gM]at r1;have hT:Kept ((hs.take (k+1)).map (·.1)=(hs.take k).map (·.1)++[.slice A1 n1 c1]):=⟨by rw[Ts hkh,dY,he];rfl⟩
    have BW:=Aj hbw;have oH:=Aj hbw.size;clear hc g1 g2 he lX hkh hkb hbw;have P3:Kept (∀o o',((wr.alloc o).alloc o').heap[wr.heap.size+1]? =some o'):=⟨fun o o'=>by have:=World.alloc_heap_new (wr.alloc o) o';simpa using this⟩
    obtain⟨i0,hi0,hz0,hz1,hz2⟩:=AX I1;go_wp2_with (at_builtin;refine bI _ rfl (.tmp 23) (.tmp 26) _ rfl w2.heap.size 54 i0 (.slice none 0 0) 1 24 underlying81 hi0 hz0 hz1 hz2 rfl Ah A2 k c2 _ rfl (Oa (Oa ho.1 _) _) (wr.heap.size+1+1) _ _ _ [.slice A1 n1 c1] rfl (Rd.Zc (P3.1 _ _)) (by intro u hu;rw[iF.1 hu];rfl) (by unfold maxLen;omega) om (by have:=oH.1;simp;omega) ?_;intro A4 c4 w5 hown hgrow hat;have O5:=Aj hown;have B5:=Aj (((BW.1.alloc oH.1 _).alloc (by have:=oH.1;simp;omega) _).grown hgrow (by have:=oH.1;simp;omega) (fun r e=>(ae ho.1 r e).1));clear hown hgrow hat);go_roundw
    case rel=>exact⟨k+1,om,by go_num,A4,c4,rfl,⟨by rw[hT.1];exact O5.1⟩,B5.1⟩
    case measure=>simp[intOf];omega
   ·obtain rfl:k=n9:=by omega
    have hll:=jR.bP ho.1 (NV.1.below hbw) hbw.size hn9.1;have BU:=Aj (lK A2 k c2 (Bk.sets b) wr hll hset.1);have BW:=Aj hbw;clear hll hbw ho;go_wp2_with (go_at_call 37;refine BU.1.mono ?_;rintro e w6 ⟨A5,n5,c5,E,rfl,hi,V8,hb6⟩;have HI:=Aj hi;have O5:=Aj V8;have B6:=Aj hb6;clear hi V8 hb6 BU);go_ret2;have hal:=((Ae w6.heap.size w6).alloc Ai (.cells #[.slice A9 k c9,.slice A5 n5 c5] 86)).alloc sm (.cells #[.pointer (some ⟨w6.heap.size,0,none⟩)] 88);have h26:=BW.1.trans (B6.1.mono BW.1.size);refine⟨B2.1.trans ((h26.trans (hal.mono h26.size)).mono B2.1.size),.inr ⟨rfl,w6.heap.size+1,w6.heap.size,A9,k,c9,A5,n5,c5,E,rfl,?_,?_,?_,?_,HI.1⟩⟩
    ·have:=World.alloc_heap_new (w6.alloc (.cells #[.slice A9 k c9,.slice A5 n5 c5] 86)) (.cells #[.pointer (some ⟨w6.heap.size,0,none⟩)] 88);simpa using this
    ·exact(Aw _ _ _ sm).trans (World.alloc_heap_new w6 _)
    ·exact(HK.1.below (h26.trans (hal.mono h26.size))).more (Lt h26.size hal.size)
    ·exact(O5.1.rd.below hal Ai).more hal.size
 ·have hf1:(f !=0)=true:=by simpa using hf
  have HF:=Aj hf;clear hf HS2;go_enter func11,ntmps11;go_wp2_with (go_at_call 9;refine DE.1.mono ?_;rintro e w2 ⟨A9,n9,c9,rfl,hK,hb⟩;have B2:=Aj hb;clear hK hb DE);go_ret2;exact⟨B2.1,.inl ⟨HF.1,rfl⟩⟩
theorem Vi.LK:∀(l) (i x),(Vi.dP l i x).2.2=0→(Vi.dP l i x).2.1≤i+l.length
 |[],i,x,h=>by simp[Vi.dP]at h
 |c::l,i,x,h=>by
  rw[Vi.bQ]at h⊢;by_cases h1:i=9∧1<c.toNat
  ·rw[Ps0 h1]at h;cases h
  ·rw[Ng h1]at h⊢;by_cases h2:c.toNat=0∧0<i
   ·rw[Ps0 h2]at h;cases h
   ·rw[Ng h2]at h⊢;by_cases h3:c.toNat<128
    ·rw[Ps0 h3];simp only[Lc];omega
    ·rw[Ng h3]at h⊢;have:=Vi.LK l (i+1) _ h;simp only[Lc];omega
theorem Vi.Sr {l} {at_} (h:(Vi.get l at_).2.2=0) (h0:0≤at_):0≤(Vi.get l at_).2.1∧(Vi.get l at_).2.1≤l.length:=by
 unfold Vi.get at h⊢;split
 ·rename_i h1;rw[Ps0 h1]at h;cases h
 ·rename_i h1
  rw[Ng h1]at h;simp only[]at h⊢;by_cases h2:(Vi.dP (l.drop at_.toNat) 0 0).2.2=0
  ·rw[Ps0 h2];have:=Vi.LK _ _ _ h2;rw[jX]at this;simp only[];omega
  ·rw[Ng h2]at h;exact absurd h h2
def VV (fn:Nat) (args:Array Value) (n:Nat) (q:Prop) (P:World→Prop):Prop:=∃(t:Nat) (o:Bool),t≤n+8∧(o=true→t≤n∧q)∧
 ∀w,P w→Calls prog fn args w fun e w'=>e= .returned (.tuple #[.int .i64 (t:Int),.bool o])∧Gr w w'
def Pc.st (k:Nat):Value:=
 if k=0 then .iface 94 (.agg #[.int .i64 5,.iface 90 (.agg #[.int .i64 1])])
 else if k≤5 then .iface 90 (.agg #[.int .i64 (k:Int)])
 else if k=6 then .iface 94 (.agg #[.int .i64 8,.iface 168 (.agg #[])])
 else .iface 168 (.agg #[])
theorem NL (k) (A) (n c B at_) (l) (q0) (hq0:q0) (hnl:n=l.length) (hn:n≤140737488355328) (hat:at_≤n):
  VV 331 #[.agg #[.int .i64 k],.slice A n c,.int .i64 (at_:Int)] n q0 (fun w=>aN w B A n c l∧B≤w.heap.size):=by
 by_cases h1:n≤at_
 ·have h1':(n:Int)≤(at_:Int):=by omega
  refine⟨0,false,bE _,(fun h=>by cases h),fun w hw0=>?_⟩;clear hw0;go_enter func331,ntmps331;go_wp2;go_ret2;exact⟨rfl,(Gr.refl w).alloc _⟩
 ·have h1':¬(n:Int)≤(at_:Int):=by omega
  have hw:IntKind.i64.wrap ((at_:Int)+1)=(at_:Int)+1:=by rw[AV];omega
  have GA:Kept (∀w,aN w B A n c l∧B≤w.heap.size→_):=Aj (fun w h=>nC A n c B l ((at_:Int)+1) (w.alloc (.cells #[.int .i64 k] 90)) (h.1.alloc h.2 _) om om);have hfr:=Aj (fun h=>Vi.Sr (l:=l) (at_:=(at_:Int)+1) h om);generalize hr:Vi.get l ((at_:Int)+1)=r at*;obtain⟨x,fr,er⟩:=r;simp only[]at hfr;unfold zQ at GA;simp only[]at GA;clear hr;by_cases he:er=0
  ·subst he;obtain⟨h0,h0'⟩:=hfr.1 rfl;have hfn:fr≤(n:Int):=by rw[hnl];exact h0'
   obtain⟨f,rfl⟩:∃f:Nat,fr=(f:Int):=⟨fr.toNat,om⟩
   clear hfr h0' hnl;by_cases h2:(n:Int)-f<4
   ·refine⟨0,false,bE _,(fun h=>by cases h),fun w hw0=>?_⟩;have GB:=Aj (GA.1 w hw0);clear hw0 GA;go_enter func331,ntmps331;go_wp2_with (go_at_call 118;refine GB.1.mono ?_;rintro e w1 ⟨rfl,rfl⟩);go_ret2;exact⟨rfl,(Gr.refl w).alloc _⟩
   ·obtain⟨q,hq⟩:∃q:Nat,(n:Int)-f-4=(q:Int):=⟨((n:Int)-f-4).toNat,om⟩
    have hq2:IntKind.u64.wrap (q:Int)=(q:Int):=by rw[Bb];omega
    by_cases h3:(q:Int)< (x:Int)
    ·refine⟨0,false,bE _,(fun h=>by cases h),fun w hw0=>?_⟩;have GB:=Aj (GA.1 w hw0);clear hw0 GA;go_enter func331,ntmps331;go_wp2_with (go_at_call 118;refine GB.1.mono ?_;rintro e w1 ⟨rfl,rfl⟩);go_ret2;exact⟨rfl,(Gr.refl w).alloc _⟩
    ·have hx:IntKind.i64.wrap (x:Int)=(x:Int):=by rw[AV];omega
     refine⟨f+x+4,true,om,fun _=>⟨om,hq0⟩,fun w hw0=>?_⟩;have GB:=Aj (GA.1 w hw0);clear hw0 GA;go_enter func331,ntmps331;go_wp2_with (go_at_call 118;refine GB.1.mono ?_;rintro e w1 ⟨rfl,rfl⟩);go_ret2;exact⟨by first|rfl|(congr 3;omega),(Gr.refl w).alloc _⟩
  ·have he1:((er:Int) !=0)=true:=by simp;omega
   clear he hfr hnl;refine⟨0,false,bE _,(fun h=>by cases h),fun w hw0=>?_⟩;have GB:=Aj (GA.1 w hw0);clear hw0 GA;go_enter func331,ntmps331;go_wp2_with (go_at_call 118;refine GB.1.mono ?_;rintro e w1 ⟨rfl,rfl⟩);go_ret2;exact⟨rfl,(Gr.refl w).alloc _⟩
theorem xG (k:Nat) (v) (A) (n c at_) (q0) (hq0:q0) (P) (hk:k≤8) (hn:n≤140737488355328) (hat:at_≤n):
  VV 333 #[.agg #[.int .i64 (k:Int),v],.slice A n c,.int .i64 (at_:Int)] n q0 P:=by
 have C0:∀(w:World) m,((w.alloc (.cells #[.int .i64 (k:Int),v] 94)).drewN m).cell? ⟨w.heap.size,0,none⟩=some (.int .i64 (k:Int)):=fun w m=>Au w _ _ _ 0
 by_cases h:(k:Int)≤(n:Int)-at_
 ·refine⟨at_+k,true,om,fun _=>⟨om,hq0⟩,fun w hw0=>?_⟩;clear hw0;have c0:=C0 w;clear C0;go_enter func333,ntmps333;go_wp2_with fail;go_quiet (fail);go_wp2;go_ret2;exact⟨by first|rfl|(simp;omega),((Gr.refl w).alloc _).drewN _⟩
 ·refine⟨at_+k,false,om,(fun h=>by cases h),fun w hw0=>?_⟩;clear hw0;have c0:=C0 w;clear C0;go_enter func333,ntmps333;go_wp2_with fail;go_quiet (fail);go_wp2;go_ret2;exact⟨by first|rfl|(simp;omega),((Gr.refl w).alloc _).drewN _⟩
theorem NM (A) (n c at_:Nat) (q0) (P):
  VV 336 #[.agg #[],.slice A n c,.int .i64 (at_:Int)] n q0 P:=by
 refine⟨0,false,bE _,(fun h=>by cases h),fun w hw0=>?_⟩;clear hw0;go_enter func336,ntmps336;go_wp2;go_ret2;exact⟨rfl,(Gr.refl w).alloc _⟩
theorem JH (k:Nat) (w) (h1:1≤k) (h5:k≤5):
  Calls prog 332 #[.agg #[.int .i64 (k:Int)]] w fun e w'=>e= .returned (Pc.st (k+1))∧Gr w w':=by
 by_cases h:k=5
 ·subst h;go_enter func332,ntmps332;go_wp2;go_ret;exact⟨rfl,(Gr.refl w).alloc _⟩
 ·have h':((k:Int)==5)=false:=by simp;omega
  have hs:Pc.st (k+1)= .iface 90 (.agg #[.int .i64 ((k:Int)+1)]):=by
   unfold Pc.st;rw[Ng om,Ps0 om]
   congr 4
   try omega
  rw[hs];go_enter func332,ntmps332;go_wp2;go_ret;exact⟨rfl,(Gr.refl w).alloc _⟩
theorem uQ (k) (v) (w):
  Calls prog 334 #[.agg #[.int .i64 k,v]] w fun e w'=>e= .returned v∧Gr w w':=by
 have c1:((w.alloc (.cells #[.int .i64 k,v] 94))).cell? ⟨w.heap.size,1,none⟩=some v:=Au w _ _ _ 1;go_enter func334,ntmps334;go_wp2;go_ret;exact⟨rfl,(Gr.refl w).alloc _⟩
theorem aZ {a b c:World} {p} {row} (h:a.grownBy b (some p)) (h':b.grownBy c row) (hr:row=none∨row=some p):a.grownBy c (some p):=by
 refine⟨h'.os.trans h.os,h'.tape.trans h.tape,h'.output.trans h.output,Lt h.size h'.size,fun k hk hne=>(h'.block k (jB hk h.size) ?_).trans (h.block k hk hne)⟩;rcases hr with rfl|rfl
 ·intro e;cases e
 ·exact hne
theorem gF {a b} (h:Below a.heap.size a b):a.grownBy b none:=⟨h.os,h.tape,h.output,h.size,fun k hk _=>h.block k hk⟩
theorem lh (w:World) (a) (v):w.grownBy (w.setCell a v) (some a.block):=
 ⟨rfl,rfl,rfl,sm,fun k _ hne=>AF w a v k (fun e=>hne (by rw[e]))⟩
theorem VW (a:World) (row):a.grownBy a row:=⟨rfl,rfl,rfl,Nr _,fun _ _ _=>rfl⟩
def bu (W:World) (p:Nat) (A:Option Addr) (n c:Nat) (at_ pt er:Int) (s:Value) (cl:Bool):Prop:=
 W.heap[p]? =some (.cells #[.slice A n c,.int .i64 at_,.int .i64 pt,s,.int .i64 er,.bool cl] 96 (0,0))
theorem bu.cells {W} {p n c} {A} {at_ pt er} {s} {cl} (h:bu W p A n c at_ pt er s cl):
  W.cell? ⟨p,0,none⟩=some (.slice A n c)∧W.cell? ⟨p,1,none⟩=some (.int .i64 at_)∧W.cell? ⟨p,2,none⟩=some (.int .i64 pt)∧W.cell? ⟨p,3,none⟩=some s∧W.cell? ⟨p,4,none⟩=some (.int .i64 er)∧W.cell? ⟨p,5,none⟩=some (.bool cl):=
 ⟨Co _ _ 0 _ _ _ h,Co _ _ 1 _ _ _ h,Co _ _ 2 _ _ _ h,Co _ _ 3 _ _ _ h,Co _ _ 4 _ _ _ h,Co _ _ 5 _ _ _ h⟩
theorem bu.frozen {W} {p n c} {A} {at_ pt er} {s} {cl} (h:bu W p A n c at_ pt er s cl) (k):W.frozen? ⟨p,k,none⟩=false:=Fr _ _ k _ _ h
theorem bu.set1 {W} {p n c} {A} {at_ pt er} {s} {cl} (h:bu W p A n c at_ pt er s cl) (x):bu (W.setCell ⟨p,1,none⟩ (.int .i64 x)) p A n c x pt er s cl:=by
 have:=Ag W p 1 _ _ (.int .i64 x) h;simpa[bu]using this
theorem bu.set2 {W} {p n c} {A} {at_ pt er} {s} {cl} (h:bu W p A n c at_ pt er s cl) (x):bu (W.setCell ⟨p,2,none⟩ (.int .i64 x)) p A n c at_ x er s cl:=by
 have:=Ag W p 2 _ _ (.int .i64 x) h;simpa[bu]using this
theorem bu.acL {W} {p n c} {A} {at_ pt er} {s} {cl} (h:bu W p A n c at_ pt er s cl) (x):bu (W.setCell ⟨p,3,none⟩ x) p A n c at_ pt er x cl:=by
 have:=Ag W p 3 _ _ x h;simpa[bu]using this
theorem bu.acM {W} {p n c} {A} {at_ pt er} {s} {cl} (h:bu W p A n c at_ pt er s cl) (x):bu (W.setCell ⟨p,4,none⟩ (.int .i64 x)) p A n c at_ pt x s cl:=by
 have:=Ag W p 4 _ _ (.int .i64 x) h;simpa[bu]using this
theorem bu.af9 {W} {p n c} {A} {at_ pt er} {s} {cl} (h:bu W p A n c at_ pt er s cl) (x):bu (W.setCell ⟨p,5,none⟩ (.bool x)) p A n c at_ pt er s x:=by
 have:=Ag W p 5 _ _ (.bool x) h;simpa[bu]using this
theorem bu.set0 {W} {p n c n' c'} {A A'} {at_ pt er} {s} {cl} (h:bu W p A n c at_ pt er s cl):bu (W.setCell ⟨p,0,none⟩ (.slice A' n' c')) p A' n' c' at_ pt er s cl:=by
 have:=Ag W p 0 _ _ (.slice A' n' c') h;simpa[bu]using this
theorem bu.lt {W} {p n c} {A} {at_ pt er} {s} {cl} (h:bu W p A n c at_ pt er s cl):p<W.heap.size:=(Ge.1 h).1
theorem bu.on {W W'} {p n c} {A} {at_ pt er} {s} {cl} (h:bu W p A n c at_ pt er s cl) (hb:Below W.heap.size W W'):bu W' p A n c at_ pt er s cl:=(hb.block _ h.lt).trans h
structure PSt (k:Nat) (T:TypeId) (v:Value) (fe fx:Nat):Prop where
 eq:Pc.st k= .iface T v
 me:∀W,(method 542 T v "tsblock/piece.end").run prog W= .ok (fe,v) W
 mx:∀W,(method 542 T v "tsblock/piece.next").run prog W= .ok (fx,v) W
 ce:∀args W,(callFunc fe args).run prog W= .ok (.enter fe args) W
 cx:∀args W,(callFunc fx args).run prog W= .ok (.enter fx args) W
 ta:∀W,(Instr.typeAssert (.iface T v) 92 168 true).run prog W= .ok (.tuple #[.agg #[],.bool (decide (k=7))]) W
 en:∀(A:Option Addr) (n c B at_:Nat) (l:List UInt8),n=l.length→n≤140737488355328→at_≤n→VV fe #[v,.slice A n c,.int .i64 (at_:Int)] n (k<7) (fun w=>aN w B A n c l∧B≤w.heap.size)
 nx:k<7→∀w,Calls prog fx #[v] w fun e w'=>e= .returned (Pc.st (k+1))∧Gr w w'
theorem LM (k) (hk:k≤7):∃T v fe fx,PSt k T v fe fx:=by
 by_cases h0:k=0
 ·subst h0;exact⟨_,_,333,334,rfl,fun _=>kr,fun _=>kr,enters_of func333 kr rfl,enters_of func334 kr rfl,fun _=>kr,fun A n c B at_ l _ hn hat=>xG 5 _ A n c at_ _ om _ om hn hat,fun _ w=>uQ 5 _ w⟩
 ·by_cases h5:k≤5
  ·have e:Pc.st k= .iface 90 (.agg #[.int .i64 (k:Int)]):=by unfold Pc.st;rw[Ng h0,Ps0 h5]
   exact⟨_,_,331,332,e,fun _=>kr,fun _=>kr,enters_of func331 kr rfl,enters_of func332 kr rfl,fun _=>by rw[Az om];kernel_rfl,fun A n c B at_ l hl hn hat=>NL k A n c B at_ l _ om hl hn hat,fun _ w=>JH k w om h5⟩
  ·by_cases h6:k=6
   ·subst h6;exact⟨_,_,333,334,rfl,fun _=>kr,fun _=>kr,enters_of func333 kr rfl,enters_of func334 kr rfl,fun _=>kr,fun A n c B at_ l _ hn hat=>xG 8 _ A n c at_ _ om _ om hn hat,fun _ w=>uQ 8 _ w⟩
   ·obtain rfl:k=7:=by omega
    exact⟨_,_,336,337,rfl,fun _=>kr,fun _=>kr,enters_of func336 kr rfl,enters_of func337 kr rfl,fun _=>kr,fun A n c B at_ l _ hn hat=>NM A n c at_ _ _,fun h=>om⟩
theorem Gn (p) (A) (n c B) (l) (w) (hr:bu w p A n c 0 0 0 (Pc.st 0) false) (hv:aN w B A n c l) (hB:B≤w.heap.size) (hA:∀q,ab A=some q→q≠p) (hn:n≤140737488353000) (hT:∀W,w.grownBy W (some p)→eD W):
  Calls prog 38 #[.pointer (some ⟨p,0,none⟩)] w fun e w'=>(∃v,e= .returned v)∧(∃at_ pt er s,bu w' p A n c at_ pt er s false)∧w.grownBy w' (some p):=by
 have mixed:prog.follows .mixedOrders=true:=kr;have hlc:=hv.1;have hcm:=hv.2.1;unfold maxLen at hcm;have HN:=Aj hv.len;have RB:Kept (∀W,w.grownBy W (some p)→aN W B A n c l):=⟨fun W g=>by
  obtain⟨h1,h2,h3,h4⟩:=hv;refine⟨h1,h2,h3,fun hn=>?_⟩;obtain⟨b,off,e,hb,hc⟩:=h4 hn;refine⟨b,off,e,hb,fun i u hu=>?_⟩;exact(AL (a:=⟨b,off+i,none⟩) (g.block b om (fun q=>hA b (by rw[e];rfl) (Oj q)))).trans (hc i u hu)⟩
 have HT:=Aj hT;have HR:=Aj hr;clear hv hA hT hr;go_enter func38,ntmps38;go_wp2;go_loopw [] (fun wr=>∃k at_:Nat,k≤7∧at_≤n∧bu wr p A n c at_ k 0 (Pc.st k) false∧w.grownBy wr (some p)) (fun wr=>8-Xq (wr.cell? ⟨p,2,none⟩))
 case atStart=>exact⟨0,0,om,om,HR.1,VW _ _⟩
 case round=>
  obtain⟨k,at_,hk,hat,hr,hg⟩:=hrel;obtain⟨T,v,fe,fx,hp⟩:=LM k hk;rw[hp.eq]at hr;obtain⟨t,o,ht1,ht2,ht3⟩:=hp.en A n c B at_ l HN.1 om hat;obtain⟨c0,c1,c2,c3,c4,c5⟩:=hr.cells;have hz:=hg.size;have CG:∀k os v,wr.cell? ⟨p,k,none⟩=some v→∀m,(Sort.grow (wr.drewN m) os).cell? ⟨p,k,none⟩=some v:=fun k os v h m=>cell_grown (by show p<_;exact hr.lt) h m os
  have d0:=fun m os=>CG 0 os _ c0 m
  have d1:=fun m os=>CG 1 os _ c1 m
  have d3:=fun m os=>CG 3 os _ c3 m
  have hm:=hp.me;have hce:=hp.ce;have EC:=Aj (fun m os=>ht3 (Sort.grow (wr.drewN m) os) ⟨RB.1 _ (aZ hg (gF (show Gr wr (Sort.grow (wr.drewN m) os)from⟨m,os,rfl⟩).below) (.inl rfl)),Lt (Lt hB hz) (show Gr wr (Sort.grow (wr.drewN m) os)from⟨m,os,rfl⟩).size⟩);have HP:=Aj hp;have HR2:=Aj hr;have HG:=Aj hg;have ht2:=Aj ht2;clear CG hp ht3 hr hg;go_wp2_with fail;go_quiet_grown (first|(refine⟨rfl,Calls.grown_of (EC.1 _ _)⟩)|(refine Calls.grown_of (EC.1 _ _)));simp only[];generalize hw1:Sort.grow (wr.drewN nq) osq=w1;have G1:Gr wr w1:=⟨nq,osq,hw1.symm⟩
  have HR3:=Aj (HR2.1.on G1.below);have HG1:=Aj (aZ HG.1 (gF G1.below) (.inl rfl));obtain⟨e0,e1,e2,e3,e4,e5⟩:=HR3.1.cells;have Wo:=HG1.1.size;clear hw1 d0 d1 d3 c0 c1 c3 c4 c5 EC hm hce HR2 HG G1;cases o with
  |false=>
   have hta:=HP.1.ta;obtain⟨w2,hw2⟩:∃w2,w2=w1.alloc (.cells #[] 168):=⟨_,rfl⟩
   have R2:Kept (∀m,bu (w2.drewN m) p A n c at_ k 0 (.iface T v) false):=⟨fun m=>by rw[hw2];exact HR3.1.on ((show Gr w1 ((w1.alloc (.cells #[] 168)).drewN m)from((Gr.refl w1).alloc _).drewN m).below)⟩
   have GG2:Kept (∀m,w.grownBy (w2.drewN m) (some p)):=⟨fun m=>by rw[hw2];exact aZ HG1.1 (gF ((show Gr w1 ((w1.alloc (.cells #[] 168)).drewN m)from((Gr.refl w1).alloc _).drewN m).below)) (.inl rfl)⟩
   have f0:=fun m=>(R2.1 m).cells.1
   have f1:=fun m=>(R2.1 m).cells.2.1
   have HW2:=Aj hw2;clear hw2 ht2;have CT:=Aj (fun m=>nK A n c l (w2.drewN m) ((RB.1 _ (GG2.1 m)).more (Lt hB (GG2.1 m).size)) om (HT.1 _ (GG2.1 m)));have fin:=Aj (fun(m:Nat) (e:Int) (w3:World) (hb:Below (w2.drewN m).heap.size (w2.drewN m) w3)=>show(∃at_ pt er s,bu (w3.setCell ⟨p,4,none⟩ (.int .i64 e)) p A n c at_ pt er s false)∧w.grownBy (w3.setCell ⟨p,4,none⟩ (.int .i64 e)) (some p)from
    ⟨⟨_,_,_,_,((R2.1 m).on hb).acM e⟩,aZ (aZ (GG2.1 m) (gF hb) (.inl rfl)) (lh w3 ⟨p,4,none⟩ _) (.inr rfl)⟩)
   have cel:=Aj (fun(m:Nat) (w3:World) (hb:Below (w2.drewN m).heap.size (w2.drewN m) w3)=>(⟨((R2.1 m).on hb).cells.2.2.2.2.1,((R2.1 m).on hb).frozen 4⟩:w3.cell? ⟨p,4,none⟩=some (.int .i64 0)∧w3.frozen? ⟨p,4,none⟩=false));by_cases h7:k=7
   ·rw[Bc h7]at hta;clear h7;by_cases hlt:(at_:Int)< (n:Int)
    ·go_wp2_with fail;rw[←HW2.1];go_quiet (fail);go_wp2_with (go_at_call 81;refine(CT.1 _).mono ?_;rintro e w3 ⟨rfl,hb3⟩;obtain⟨q1,q2⟩:=cel.1 _ _ hb3;have FN:=Aj (fin.1 _ (Ly.cert l) _ hb3);clear hb3);go_end0;exact⟨⟨_,rfl⟩,FN.1⟩
    ·go_wp2_with fail;rw[←HW2.1];go_quiet (fail);go_wp2;go_end0;exact⟨⟨_,rfl⟩,⟨_,_,_,_,R2.1 _⟩,GG2.1 _⟩
   ·rw[Az h7]at hta;clear h7;go_wp2_with fail;rw[←HW2.1];go_quiet (fail);go_wp2_with (go_at_call 81;refine(CT.1 _).mono ?_;rintro e w3 ⟨rfl,hb3⟩;obtain⟨q1,q2⟩:=cel.1 _ _ hb3;have FN:=Aj (fin.1 _ (Ly.cert l) _ hb3);clear hb3);go_end0;exact⟨⟨_,rfl⟩,FN.1⟩
  |true=>
   obtain⟨htn,hk7⟩:=ht2.1 rfl;have hmx:=HP.1.mx;have hcx:=HP.1.cx;have CT:=Aj (nK A t c (l.take t) w1 (((RB.1 _ HG1.1).more (Lt hB Wo)).take htn) om (HT.1 _ HG1.1));have NX:=Aj (HP.1.nx hk7);obtain⟨T2,v2,_,_,hp2⟩:=LM (k+1) om;have HE:=Aj hp2.eq;rw[HE.1]at NX;clear ht2 HP hp2;by_cases hz:Ly.cert (l.take t)=0
   ·rw[hz]at CT;clear hz;go_wp2_with (first
     |(go_at_fn fx;refine(NX.1 _).mono ?_;rintro e w4 ⟨rfl,g4⟩;have Zz:=Aj (HR4.1.on g4.below);have HG5:=Aj (aZ HG4.1 (gF g4.below) (.inl rfl));clear g4 x0 x1 x2 x3 x4 x5;obtain⟨x0,x1,x2,x3,x4,x5⟩:=Zz.1.cells;have y:=Zz.1.frozen)
     |(go_at_call 81;refine CT.1.mono ?_;rintro e w2 ⟨rfl,hb2⟩;have HR4:=Aj (HR3.1.on hb2);have HG4:=Aj (aZ HG1.1 (gF hb2) (.inl rfl));clear hb2 e0 e1 e2 e3 e4 e5;obtain⟨x0,x1,x2,x3,x4,x5⟩:=HR4.1.cells))
    go_roundw
    case rel=>
     refine⟨k+1,t,om,htn,?_,?_⟩
     ·rw[HE.1];have:=((Zz.1.set1 (t:Int)).acL (.iface T2 v2)).set2 ((k:Int)+1);simpa using this
     ·exact aZ (aZ (aZ HG5.1 (lh _ ⟨p,1,none⟩ _) (.inr rfl)) (lh _ ⟨p,3,none⟩ _) (.inr rfl)) (lh _ ⟨p,2,none⟩ _) (.inr rfl)
    case measure=>
     have:=((Zz.1.set1 (t:Int)).acL (.iface T2 v2)).set2 ((k:Int)+1);have q2:=this.cells.2.2.1;rw[c2,q2];show 8-((k:Int)+1).toNat<8-(k:Int).toNat;omega
   ·have hz':(Ly.cert (l.take t) !=0)=true:=by simpa using hz
    generalize Ly.cert (l.take t)=er at*;clear hz;go_wp2_with (go_at_call 81;refine CT.1.mono ?_;rintro e w2 ⟨rfl,hb2⟩;have HR4:=Aj (HR3.1.on hb2);have HG4:=Aj (aZ HG1.1 (gF hb2) (.inl rfl));clear hb2 e0 e1 e2 e3 e4 e5;obtain⟨x0,x1,x2,x3,x4,x5⟩:=HR4.1.cells;have y:=HR4.1.frozen);refine AQ (BI rfl _ _ _) rfl ?_;exact⟨⟨_,rfl⟩,⟨_,_,_,_,HR4.1.acM er⟩,aZ HG4.1 (lh _ ⟨p,4,none⟩ _) (.inr rfl)⟩
theorem uR (w):Calls prog 12 #[] w fun e w'=>e= .returned (.pointer (some ⟨w.heap.size,0,none⟩))∧bu w' w.heap.size none 0 0 0 0 0 (Pc.st 0) false∧Below w.heap.size w w':=by
 go_enter func12,ntmps12;go_wp2;go_ret;exact⟨rfl,World.alloc_heap_new w _,(Ae _ w).alloc Ai _⟩
theorem aN.acO {w w'} {B n c p} {A} {l} (h:aN w B A n c l) (hB:B≤w.heap.size) (hA:∀q,ab A=some q→q≠p) (hg:w.grownBy w' (some p)):aN w' B A n c l:=by
 obtain⟨h1,h2,h3,h4⟩:=h;refine⟨h1,h2,h3,fun hn=>?_⟩;obtain⟨b,off,e,hb,hc⟩:=h4 hn;refine⟨b,off,e,hb,fun i u hu=>?_⟩;exact(AL (a:=⟨b,off+i,none⟩) (hg.block b om (fun q=>hA b (by rw[e];rfl) (Oj q)))).trans (hc i u hu)
theorem Gp (p) (A) (m c B) (L) (w) (hr:bu w p none 0 0 0 0 0 (Pc.st 0) false) (hv:aN w B A m c L) (hB:B≤w.heap.size) (hm:m≤140737488353000) (hT:∀W,w.grownBy W (some p)→eD W):
  Calls prog 13 #[.pointer (some ⟨p,0,none⟩),.slice A m c] w fun e w'=>e= .returned (.int .i64 0)∧w.grownBy w' (some p)∧
   ∃A2 c2 at_ pt er s,bu w' p A2 m c2 at_ pt er s false∧aN w' w'.heap.size A2 m c2 L∧∀q,ab A2=some q→q≠p:=by
 obtain⟨e0,e1,e2,e3,e4,e5⟩:=hr.cells;have fz:=hr.frozen;have hlt:=hr.lt;have HR:=Aj hr;have HV:=Aj hv;have HT:=Aj hT;have hp5:w.cell? ⟨p,5,none⟩=some (.bool false):=e5;clear hr hv hT;go_enter func13,ntmps13;go_upto_region 6 with(at_builtin;refine bR rfl (.tmp 17) (.tmp 18) rfl w.heap.size none 0 0 [] rfl (ah.nil _ _) B _ _ _ L rfl HV.1 om Ai ?_;intro A2 c2 w1 hown hgrow hat;rw[cB]at*;have O1:=Aj hown;have G1:=Aj hgrow;have k1:=(hgrow.block p hlt (by simp[ab])).trans HR.1;have y0:=Co _ _ 0 _ _ _ k1;have y1:=Fr _ _ 0 _ _ k1;have K1:=Aj k1;clear hown hgrow hat k1)
 have hlo:Kept (∀q,ab A2=some q→w.heap.size≤q∧q<w1.heap.size):=⟨ae O1.1⟩
 have gw2:Kept (w.grownBy (w1.setCell ⟨p,0,none⟩ (.slice A2 m c2)) (some p)):=⟨by
  have h1:w.grownBy w1 (some p):=⟨G1.1.os,G1.1.tape,G1.1.output,G1.1.size,fun k hk _=>G1.1.block k hk (by simp[ab])⟩
  exact aZ h1 (lh _ ⟨p,0,none⟩ _) (.inr rfl)⟩
 have hR2:bu (w1.setCell ⟨p,0,none⟩ (.slice A2 m c2)) p A2 m c2 0 0 0 (Pc.st 0) false:=bu.set0 (A:=none) (n:=0) (c:=0) K1.1;have hO2:ah (w1.setCell ⟨p,0,none⟩ (.slice A2 m c2)) w.heap.size A2 m c2 L:=by
  have o1:=O1.1;rw[Ay]at o1;exact af o1 (lh _ ⟨p,0,none⟩ _) (by
   rcases hA:ab A2 with _|q
   ·exact .inl rfl
   ·exact .inr (fun e=>by have e2:=Oj e;simp only[]at e2;have:=(hlo.1 q hA).1;omega))
 clear y0 y1 K1 O1 G1 e0 e1 e2 e3 e4 e5 fz hp5;generalize w1.setCell ⟨p,0,none⟩ (.slice A2 m c2)=W2 at*;have hne:Kept (∀q,ab A2=some q→q≠p):=⟨fun q hq=>by have:=(hlo.1 q hq).1;omega⟩
 have AD:=Aj (Gn p A2 m c2 W2.heap.size L W2 hR2 hO2.rd Ai hne.1 hm (fun W g=>HT.1 W (aZ gw2.1 g (.inr rfl))));obtain⟨e0,e1,e2,e3,e4,e5⟩:=hR2.cells;have HO2:=Aj hO2.rd;clear hR2 hO2;go_wp2_with (go_at_call 38;refine AD.1.mono ?_;rintro e w3 ⟨⟨v,rfl⟩,⟨at_,pt,er,s,hr3⟩,hg3⟩;have HR3:=Aj hr3;have HG3:=Aj hg3;clear hr3 hg3 AD);go_ret;exact⟨rfl,aZ gw2.1 HG3.1 (.inr rfl),A2,c2,at_,pt,er,s,HR3.1,Rd.more (aN.acO HO2.1 Ai hne.1 HG3.1) HG3.1.size,hne.1⟩
def acP (w:World) (p:Nat) (R:Bk.iP×Int) (e:Ending) (w':World):Prop:=
 ∃A n c,e= .returned (.tuple #[.slice A n c,.int .i64 R.2])∧iE w' w'.heap.size A n c R.1∧w.grownBy w' (some p)
theorem xH (p) (A) (n c) (at_ pt er) (s) (l) (w) (hr:bu w p A n c at_ pt er s false) (hv:aN w w.heap.size A n c l) (hA:∀q,ab A=some q→q≠p) (hn:n≤140737488353000) (hs:jW l) (hG:∀W,w.grownBy W (some p)→Gl W):
  Calls prog 14 #[.pointer (some ⟨p,0,none⟩)] w (acP w p (Bk.dec l)):=by
 obtain⟨c0,c1,c2,c3,c4,c5⟩:=hr.cells;have fz:=hr.frozen;have gp:=lh w ⟨p,5,none⟩ (.bool true);have hr2:=hr.af9 true;have hz:(w.setCell ⟨p,5,none⟩ (.bool true)).heap.size=w.heap.size:=by simp[World.setCell]
 have DE:=Aj (oz A n c l (w.setCell ⟨p,5,none⟩ (.bool true)) (by rw[hz];exact aN.acO hv Ai hA gp) hn hs (hG _ gp));have d0:=hr2.cells.1;have GP:=Aj gp;clear hr hr2 hv hA hs hG gp hz;unfold acP;generalize Bk.dec l=R at*;go_enter func14,ntmps14;go_wp2_with (go_at_call 9;refine DE.1.mono ?_;rintro e w3 ⟨A9,n9,c9,rfl,h4,h5⟩;have H4:=Aj h4;have H5:=Aj h5;clear h4 h5 DE);go_ret2;exact⟨A9,n9,c9,rfl,H4.1,aZ GP.1 (gF H5.1) (.inl rfl)⟩
theorem NN (A) (n c B) (b) (w) (hv:iE w B A n c b) (hB:B≤w.heap.size) (hf:∀s∈b,Lb.Fit s.1):
  Calls prog 19 #[.slice A n c] w fun e w'=>∃v:Bool,e= .returned (.bool v)∧(v=true→Bk.xu b∧Bk.bN b=0)∧Below w.heap.size w w':=by
 have LG:=Aj (Fq A n c B b w hv hB hf);have CK:=Aj (fun W (h:Below w.heap.size w W) (hs:Bk.xu b)=>Ey A n c B b W (hv.below (h.mono hB)) (Lt hB h.size) (by have:=hs.cK;omega) hf);clear hv hf;go_enter func19,ntmps19;go_wp2_with (first
  |(go_at_call 47;refine(CK.1 w2 B2.1 (HV.1 h0')).mono ?_;rintro e w3 ⟨u,rfl,hu,hg⟩;have HU:=Aj hu;have B3:=Aj (B2.1.trans (hg.below.mono B2.1.size));clear hu hg)
  |(go_at_call 28;refine LG.1.mono ?_;rintro e w2 ⟨v,rfl,hv,hb⟩;have HV:=Aj hv;have B2:=Aj hb;clear hv hb;by_cases h0':v=0))
 ·go_ret;refine⟨_,rfl,fun h=>?_,B3.1⟩;exact⟨HV.1 h0',HU.1 (by simpa using h)⟩
 ·go_ret;exact⟨_,rfl,(fun h=>by cases h),B2.1⟩
def Tp.sb:Bk.iP:=[([⟨⟨#[97]⟩,⟨#[49]⟩⟩],[(1,2)])]
theorem Tp.Su:Bk.bN Tp.sb=0:=by decide+kernel
theorem Tp.Xm:∀s∈Tp.sb,Cs.In s.2:=by
 intro s hs p hp;unfold Tp.sb at hs;rw[iF]at hs;subst hs;simp only[iF]at hp;subst hp;exact⟨by unfold Tm.In;omega,Ah⟩
theorem Tp.Sw:Bk.xu Tp.sb:=⟨Ah,Ah,Ah,by decide+kernel⟩
theorem Bk.xu.ok {b} (h:Bk.xu b) (hc:Bk.bN b=0) (hi:∀s∈b,Cs.In s.2):Bk.Ok b:=by
 have hw:=h.wt;refine⟨hc,hi,om,by have:=Bk.KJ h;omega,fun T ht=>?_,fun T E ho i hi4=>?_⟩
 ·have:=Bk.KH (T:=T) (by have:=(h.tab hc ht).1;omega) h;omega
 ·have:=h.sec hc ho i hi4;split at this<;>omega
theorem Ly.xI (D) (hD:Ly.tot D 4≤140737488352000):(Ly.asm D).length≤Ly.tot D 4+200:=by
 rw[Ly.rF];unfold Ly.body;rw[La];have h1:=Ly.sF D hD 4 om;have h2:=Ly.wI D hD;have h3:=Wr.lq 5 (Ly.gJ (Ly.off D) 4) om;omega
theorem Rd.two (w:World) (a b) (t):Rd (w.alloc (.cells #[a,b] t)) (w.heap.size+1) 2 (some ⟨w.heap.size,0,none⟩) 1 1 [a,b]:=
 ⟨Nr _,by unfold maxLen;omega,rfl,fun _=>⟨_,0,rfl,om,fun i u hu=>by
  rw[cB];exact(Au w _ _ _ i).trans (by simpa using hu)⟩⟩
theorem Bk.xu.short {b} {L} (h:Bk.xu b) (hc:Bk.bN b=0) (hi:∀s∈b,Cs.In s.2) (hf:Bk.File b L):jW L∧L.length≤140737488353000∧Bk.dec L=(b,0):=by
 obtain⟨T,E,ho,rfl⟩:=hf;have htot:=(h.ok hc hi).tot ho;have hle:=Ly.xI (Bk.D4 T E b) om;refine⟨fun i hi4=>?_,om,Bk.QO hc hi (by have:=h.wt;omega) ?_ ⟨T,E,ho,rfl⟩⟩
 ·rw[Ly.Ed _ om i hi4];exact h.sec hc ho i hi4
 ·omega
theorem uS {L} (h:Ly.pe L≠0):jW L:=fun i hi=>by
 have:Ly.gH L i=[]:=by unfold Ly.gH;rw[Ng h]
 rw[this];simp
theorem xJ (w):Calls prog 33 #[] w fun e w'=>∃A n c,e= .returned (.slice A n c)∧iE w' w'.heap.size A n c Tp.sb∧Below w.heap.size w w':=by
 go_enter func33,ntmps33;go_wp2;go_ret;refine⟨_,_,_,rfl,?_,(((Ae _ w).alloc Ai _).alloc sm _).alloc (by simp;try omega) _⟩;have r1:=Rd.two w (.string ⟨#[97]⟩) (.string ⟨#[49]⟩) 59;have r2:=Rd.two (w.alloc (.cells #[.string ⟨#[97]⟩,.string ⟨#[49]⟩] 59)) (.int .i64 1) (.int .u64 2) 127;have r3:=Rd.two ((w.alloc (.cells #[.string ⟨#[97]⟩,.string ⟨#[49]⟩] 59)).alloc (.cells #[.int .i64 1,.int .u64 2] 127)) (.slice (some ⟨w.heap.size,0,none⟩) 1 1) (.slice (some ⟨w.heap.size+1,0,none⟩) 1 1) 57;simp only[AO]at r1 r2 r3;have b2:Below (w.heap.size+1+1) ((w.alloc (.cells #[.string ⟨#[97]⟩,.string ⟨#[49]⟩] 59)).alloc (.cells #[.int .i64 1,.int .u64 2] 127)) (((w.alloc (.cells #[.string ⟨#[97]⟩,.string ⟨#[49]⟩] 59)).alloc (.cells #[.int .i64 1,.int .u64 2] 127)).alloc (.cells #[.slice (some ⟨w.heap.size,0,none⟩) 1 1,.slice (some ⟨w.heap.size+1,0,none⟩) 1 1] 57)):=(Ae _ _).alloc sm _;have b1:Below (w.heap.size+1) (w.alloc (.cells #[.string ⟨#[97]⟩,.string ⟨#[49]⟩] 59)) ((w.alloc (.cells #[.string ⟨#[97]⟩,.string ⟨#[49]⟩] 59)).alloc (.cells #[.int .i64 1,.int .u64 2] 127)):=(Ae _ _).alloc sm _;refine⟨[(.slice (some ⟨w.heap.size,0,none⟩) 1 1,.slice (some ⟨w.heap.size+1,0,none⟩) 1 1)],Rd.more r3 sm,rfl,fun i a a'=>?_⟩;have hi:i=0:=by simpa using a
 subst hi;exact⟨_,_,_,_,_,_,rfl,Rd.more (Rd.below (Rd.below r1 b1) (b2.mono om)) (by simp;try omega),Rd.more (Rd.below r2 b2) sm⟩
theorem acQ (a b c d e f g h) (w):(Instr.field 30 (.agg #[a,b,c,d,e,f,g,h]) 0).run prog w= .ok a w:=kr
theorem uT (w) (hG:Gl w):Calls prog 8 #[] w fun e w'=>e= .returned (.bool true)∧Below w.heap.size w w':=by
 have HG:=Aj hG;have SM:=Aj (xJ w);have EN:=Aj (fun(w1:World) (A:Option Addr) (n c:Nat) (hb:Below w.heap.size w w1) (hk:iE w1 w1.heap.size A n c Tp.sb)=>zH A n c Tp.sb w1 hk (Tp.Sw.ok Tp.Su Tp.Xm) (hG.below hb));clear hG;go_enter func8,ntmps8;go_upto_region 2 with(first
  |(go_at_call 16;refine(EN.1 w1 A1 n1 c1 B1.1 K1.1).mono ?_;rintro e w2 ⟨A2,n2,c2,L,rfl,hf,ho,hb⟩;have HF:=Aj hf;have O2:=Aj ho;have B2:=Aj (B1.1.trans (hb.mono B1.1.size));clear hf ho hb EN K1 B1)
  |(go_at_call 33;refine SM.1.mono ?_;rintro e w1 ⟨A1,n1,c1,rfl,hk,hb⟩;have K1:=Aj hk;have B1:=Aj hb;clear hk hb SM))
 obtain⟨s1,s2,s3⟩:=Tp.Sw.short Tp.Su Tp.Xm HF.1;have DE:=Aj (oz A2 n2 c2 L w2 O2.1.rd (by rw[O2.1.len];exact s2) s1 (HG.1.below B2.1));rw[s3]at DE;clear s1 s2 s3;go_upto_region 3 with(go_at_call 9;refine DE.1.mono ?_;rintro e w3 ⟨A3,n3,c3,rfl,hk,hb⟩;have K3:=Aj hk;have B3:=Aj (B2.1.trans (hb.mono B2.1.size));clear hk hb DE)
 have SM2:=Aj (xJ w3);have EQ:=Aj (fun(w4:World) (A4:Option Addr) (n4 c4:Nat) (hb:Below w3.heap.size w3 w4) (hk:iE w4 w4.heap.size A4 n4 c4 Tp.sb)=>mM A3 A4 n3 c3 n4 c4 w3.heap.size w4.heap.size Tp.sb w4 (K3.1.below hb) hk hb.size Ai);have hpe:Ly.pe []=3:=by decide+kernel
 have VE:=Aj (fun(w5:World) (hb:Below w.heap.size w w5)=>by
  have h:=xF none 0 0 [] w5 (Rd.nil w5 _ 1 0 none (by unfold maxLen;omega)) om (HG.1.below hb) (by rw[hpe];decide);rw[hpe]at h;exact h)
 clear hpe;have fr0:=acQ;go_wp2_with (first
  |(go_at_call 10;refine(VE.1 w5 B5.1).mono ?_;rintro e w6 ⟨q,z0,z1,z2,z3,t1,t2,rfl,-,hq,hb⟩;obtain rfl:=hq rfl;have B6:=Aj (B5.1.trans (hb.mono B5.1.size));clear hq hb VE)
  |(go_at_call 15;refine(EQ.1 w4 A4 n4 c4 B34.1 K4.1).mono ?_;rintro e w5 ⟨rfl,hg⟩;have B5:=Aj (B4.1.trans (hg.below.mono B4.1.size));clear hg EQ)
  |(go_at_call 33;refine SM2.1.mono ?_;rintro e w4 ⟨A4,n4,c4,rfl,hk,hb⟩;have K4:=Aj hk;have B34:=Aj hb;have B4:=Aj (B3.1.trans (hb.mono B3.1.size));clear hk hb SM2))
 go_ret;exact⟨rfl,B6.1⟩
end Go.Proofs.YtjcpmfphnodaaaaGreatDoor
