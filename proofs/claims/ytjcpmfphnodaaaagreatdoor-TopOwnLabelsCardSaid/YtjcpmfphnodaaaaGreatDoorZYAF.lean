/- Part 6. -/
import Derived.Test.YtjcpmfphnodaaaaGreatDoorZYAE
namespace Go.Proofs.YtjcpmfphnodaaaaGreatDoor
set_option maxRecDepth 100000
set_option maxHeartbeats 0
open _root_.Go.Proofs.Tryz
section
open Go.RowKit Go.Shelf
theorem Ly.ED (l a) (s:List UInt8) (e) (ha:a≤l.length) (h:e=0→s.length≤l.length-a):
  (Wr.take l a e ((min (l.drop a).length s.length:Nat):Int)).2=if e=0 then(a+s.length,0)else(a,e):=by
 unfold Wr.take;by_cases he:e=0
 ·have h1:=h he;have hm:min (l.drop a).length s.length=s.length:=by rw[lZ];omega
  rw[Ng (by simpa using he),hm,Ng om,Ng om,Ps0 he,kg]
 ·rw[Ps0 he,Ng he]
theorem Ly.sH {b s} (h:Ly.lit b s=0):s.length≤b.length:=by
 unfold Ly.lit at h;split at h
 ·omega
 ·split at h
  ·omega
  ·omega
theorem Ly.aeK (l) (h:l.length≤140737488354000) (k):(Ly.S l k).1≤l.length:=by
 induction k with
 |zero=>
  show Ly.a0 l≤_;unfold Ly.a0;split
  ·rename_i h0
   have:=Ly.sH h0;exact this
  ·omega
 |succ k ih=>
  rw[Ly.oN];generalize Ly.S l k=s at*;obtain⟨a,e⟩:=s;unfold Wr.mF;simp only at ih⊢;by_cases he:e=0
  ·subst he;rw[Ng sm];by_cases h0:(Wr.aK l a (UInt8.ofNat (1+k))).2.2=0
   ·rw[Ng (by simpa using h0)];have:=Wr.qx h0;simp only;omega
   ·rw[Ps0 h0];exact ih
  ·rw[Ps0 he];exact ih
theorem MN (A n c l w) (hv:aZ w w.heap.size A n c l) (hnb:n≤140737488353000) (ht:gq w):
  Calls prog 64 #[.slice A n c] w fun r w'=>∃V M,r= .returned (.tuple #[.agg (Ly.jm V),.agg (Ly.kz M),.int .i64 (Ly.pe l)])∧bL w' w.heap.size V (Ly.mG l)∧(∀i,i<5→M i=Ly.UG l i)∧Below w.heap.size w w':=by
 have hlc:=hv.1;have hcm:=hv.2.1;unfold maxLen at hcm;have hn:=Aj hv.len;obtain⟨W4,Ia⟩:∃W4,W4=(((w.alloc (.cells #[.slice none 0 0,.slice none 0 0,.slice none 0 0,.slice none 0 0] 76)).alloc (.cells #[.int .i64 0,.int .i64 0,.int .i64 0,.int .i64 0,.int .i64 0] 128)).alloc
  (.cells #[.slice none 0 0,.slice none 0 0,.slice none 0 0,.slice none 0 0] 76)).alloc (.cells #[.int .i64 0,.int .i64 0,.int .i64 0,.int .i64 0,.int .i64 0] 128):=⟨_,rfl⟩
 have hz4:W4.heap.size=w.heap.size+4:=by rw[Ia];simp
 have hb4:Below w.heap.size w W4:=by rw[Ia];exact((((Ae _ w).alloc Ai _).alloc sm _).alloc (by simp;omega) _).alloc (by simp;omega) _
 have hg2:W4.heap[w.heap.size]? =some (.cells (Ly.jm fun _=> .slice none 0 0) 76 (0,0)):=by
  rw[Ia];rw[heap_alloc_old _ _ (by simp;omega),heap_alloc_old _ _ (by simp;omega),heap_alloc_old _ _ sm,Av];rfl
 have hg3:W4.heap[w.heap.size+1]? =some (.cells (Ly.kz fun _=>0) 128 (0,0)):=by
  rw[Ia];rw[heap_alloc_old _ _ sm,heap_alloc_old _ _ sm];have h:=Av (w.alloc (.cells #[.slice none 0 0,.slice none 0 0,.slice none 0 0,.slice none 0 0] 76)) (.cells #[.int .i64 0,.int .i64 0,.int .i64 0,.int .i64 0,.int .i64 0] 128);rw[AU]at h;exact h
 have hg5:W4.heap[w.heap.size+1+1]? =some (.cells (Ly.jm fun _=> .slice none 0 0) 76 (0,0)):=by
  rw[Ia];rw[heap_alloc_old _ _ sm];have h:=Av ((w.alloc (.cells #[.slice none 0 0,.slice none 0 0,.slice none 0 0,.slice none 0 0] 76)).alloc (.cells #[.int .i64 0,.int .i64 0,.int .i64 0,.int .i64 0,.int .i64 0] 128)) (.cells #[.slice none 0 0,.slice none 0 0,.slice none 0 0,.slice none 0 0] 76);rw[AU,AU]at h;exact h
 have XB:W4.heap[w.heap.size+1+1+1]? =some (.cells (Ly.kz (Ly.mk (Ly.dL l) 0)) 128 (0,0)):=by
  rw[Ia];have h:=Av (((w.alloc (.cells #[.slice none 0 0,.slice none 0 0,.slice none 0 0,.slice none 0 0] 76)).alloc (.cells #[.int .i64 0,.int .i64 0,.int .i64 0,.int .i64 0,.int .i64 0] 128)).alloc (.cells #[.slice none 0 0,.slice none 0 0,.slice none 0 0,.slice none 0 0] 76)) (.cells #[.int .i64 0,.int .i64 0,.int .i64 0,.int .i64 0,.int .i64 0] 128);rw[AU,AU,AU]at h;exact h
 have HW:=Aj Ia.symm;have Z4:=Aj hz4;have B4:=Aj hb4;have V4:=Aj (hv.below hb4);have T4:=Aj (ht.below hb4);have G2:=Aj hg2;have G3:=Aj hg3;have G5:=Aj hg5;have G6:=Aj XB;have hgt:=ht.lt;have hSl:=Aj (Ly.aeK l (by have:=hn.1;omega));have hTL:=Aj (Ly.ED l 0 Ly.head (Ly.lit l Ly.head) (bE _) (fun h=>by have:=Ly.sH h;omega));rw[Bq]at hTL;have abx:w.heap.size≤W4.heap.size:=om;clear hv ht Ia hz4 hb4 hg2 hg3 hg5 XB;go_enter func64,ntmps64;go_upto_region 3 with fail;rw[HW.1];have hgs:Kept (W4.heap.size=w.heap.size+1+1+1+1):=⟨by rw[Z4.1]⟩
 generalize XB:w.heap.size+1+1+1=g6 at*;generalize hg5:w.heap.size+1+1=g5 at*;generalize hg3:w.heap.size+1=g3 at*;generalize hg2:w.heap.size=g2 at*;have ahs:g2<g3:=om;have aht:g3<g5:=om;have ahu:g5<g6:=om;have Xz:g6<W4.heap.size:=by rw[hgs.1];omega
 have E2:=Aj hg2;clear XB hg5 hg3 hgs Z4 hg2;go_upto_region 5 with(first
  |(go_at_call 110;refine(dK A n c g2 l W4 V4.1 abx om).mono ?_;rintro r w5 ⟨p,rfl,hp1,hp2,Kv,hb5⟩;have r5:=Aj Kv;have b5:=Aj hb5;have z5:=hb5.size;clear Kv hb5)
  |(go_at_call 111;refine(kS p 0 l 0 A n c g2 l ⟨#[84,83,66,75,1]⟩ w5 (Ly.lit l Ly.head) rfl r5.1 (V4.1.below (b5.1.mono abx)) Ah).mono ?_;rintro r w6 ⟨rfl,hr6,XB⟩;have r6:=Aj hr6;have gr6:=Aj XB;have z6:=XB.size;clear hr6 XB))
 have r6':aJ w6 p l (Wr.take l 0 (Ly.lit l Ly.head) ((min l.length Ly.head.length:Nat):Int)).2.1 (Wr.take l 0 (Ly.lit l Ly.head) ((min l.length Ly.head.length:Nat):Int)).2.2:=r6.1;rw[hTL.1]at r6';have hp0:W4.heap.size≤p:=hp1;have R6:Kept (aJ w6 p l (Ly.S l 0).1 (Ly.S l 0).2):=⟨by
  have h:=r6';show aJ w6 p l (Ly.a0 l) (Ly.lit l Ly.head);unfold Ly.a0;by_cases h0:Ly.lit l Ly.head=0
  ·rw[Ps0 h0]at h⊢;rw[h0];exact h
  ·rw[Ng h0]at h⊢;exact h⟩
 have B6:Kept (Below W4.heap.size W4 w6):=⟨b5.1.trans (Ew gr6.1 hp0 z5)⟩
 have F6:Kept (bL w6 w6.heap.size (fun _=> .slice none 0 0) (Ly.gate 0 (Ly.sec l))):=⟨fun i hi=>⟨none,0,0,rfl,ah.nil _ _⟩⟩
 have H5:Kept (w6.heap[g5]? =some (.cells (Ly.jm fun _=> .slice none 0 0) 76 (0,0))):=⟨(B6.1.block g5 om).trans G5.1⟩
 have H6:Kept (w6.heap[g6]? =some (.cells (Ly.kz (Ly.mk (Ly.dL l) 0)) 128 (0,0))):=⟨(B6.1.block g6 om).trans G6.1⟩
 have UH:p<w6.heap.size:=om;have ajI:W4.heap.size≤w6.heap.size:=B6.1.size;have D4:Kept (Below g5 W4 w6):=⟨B6.1.mono om⟩
 clear r6' r6 r5 b5 gr6 B6 G5 G6 hTL;generalize aby:w6.heap.size=base at*;have hzb:base≤w6.heap.size:=by rw[aby];exact Nr _
 clear aby;go_wp2;go_loopw [17] (fun i wr=>∃k:Nat,k≤4∧i= .int .i64 k∧aJ wr p l (Ly.S l k).1 (Ly.S l k).2∧wr.heap[g6]? =some (.cells (Ly.kz (Ly.mk (Ly.dL l) k)) 128 (0,0))∧
  (∃V,wr.heap[g5]? =some (.cells (Ly.jm V) 76 (0,0))∧bL wr base V (Ly.gate k (Ly.sec l)))∧Below g5 W4 wr∧base≤wr.heap.size) (fun i _=>4-(intOf i).toNat)
 case atStart=>exact⟨0,om,rfl,R6.1,H6.1,⟨_,H5.1,F6.1⟩,D4.1,hzb⟩
 case round=>
  clear R6 H6 H5 F6 D4;obtain⟨k,hk,rfl,hr,ha,⟨V,hs,hf⟩,hb,hz⟩:=hrel;by_cases hlt:k<4
  ·have hck:=(Co wr g6 k _ _ _ ha).trans (Ly.aF _ k om);have hfk:=Fr wr g6 k _ _ ha;have hak:Ly.dL l k=(Ly.S l k).1:=rfl;have hset:=Ly.xW (Ly.dL l) k om;have hsu:=Ly.oN l k;have hse:=Ly.sG l k;have PQ:=Ly.PN k om;rw[hak]at hset;have hSk:=hSl.1 k;obtain⟨s,hSs⟩:∃s,Ly.S l k=s:=⟨_,rfl⟩
   rw[hSs]at hr hset hsu hse hSk;obtain⟨a,e⟩:=s;simp only at hr hset hsu hse hSk;have rF:g6≠p:=om;have Ku:g5≠p:=om;have hr1:=hr.store ha (UE.kz _) rF k (.int .i64 (a:Int));have ha1:(wr.setCell ⟨g6,k,none⟩ (.int .i64 (a:Int))).heap[g6]? =some (.cells (Ly.kz (Ly.mk (Ly.dL l) (k+1))) 128 (0,0)):=by rw[Ag wr g6 k _ _ _ ha,hset]
   have hs1:=(AL wr ⟨g6,k,none⟩ (.int .i64 (a:Int)) g5 (by show g5≠g6;omega)).trans hs;have hf1:=hf.grown (ak wr ⟨g6,k,none⟩ (.int .i64 (a:Int))) (by show g6<base;omega);have hb1:Below g5 W4 (wr.setCell ⟨g6,k,none⟩ (.int .i64 (a:Int))):=hb.setCell (p:=⟨g6,k,none⟩) (by show g5≤g6;omega) _;have hz1:(wr.setCell ⟨g6,k,none⟩ (.int .i64 (a:Int))).heap.size=wr.heap.size:=sm;have ht1:gq (wr.setCell ⟨g6,k,none⟩ (.int .i64 (a:Int))):=T4.1.base (base:=g5) om hb1;have HS:=qy p a l e (UInt8.ofNat (1+k)) _ hr1 ht1;rw[PQ,←hse,←hsu]at HS;rw[hz1]at HS;have HR:=Aj hr;have HS':=Aj HS;have A1:=Aj ha1;have S1:=Aj hs1;have F1:=Aj hf1;have C1:=Aj hb1;have Z1:=Aj hz1;have aeM:Kept (∀W,bL W base V (Ly.gate k (Ly.sec l))→∀A n c,ah W base A n c (Ly.sec l k)→bL W base (fun i=>if i=k then .slice A n c else V i) (Ly.gate (k+1) (Ly.sec l))):=⟨fun W h A n c ho=>h.put ho⟩
   clear hr hr1 ha ha1 hs hs1 hf hf1 hb hb1 hz1 ht1 HS hSs hset hsu hse hak PQ;go_wp2_with (first
    |(go_at_call 112;refine(iX p a l e wr HR.1).mono ?_;rintro r w7 ⟨rfl,rfl⟩)
    |(go_at_call 113;refine HS'.1.mono ?_;rintro r w8 ⟨A3,n3,c3,rfl,ho8,hr8,rG⟩;have XC:=Aj ((rG.block g6 (by rw[Z1.1];omega) (fun e=>rF (Oj e))).trans A1.1);have s8:=Aj ((rG.block g5 (by rw[Z1.1];omega) (fun e=>Ku (Oj e))).trans S1.1);have f8:=Aj (aeM.1 _ (F1.1.grown rG UH) A3 n3 c3 (ah.base ho8 hz));have b8:=Aj (C1.1.grown rG (by rw[Z1.1];omega) (fun g e=>by cases e;omega));have hfm:=Aj ((F1.1.grown rG UH).form);have z8:=rG.size;rw[Z1.1]at z8;have c8:=(Co w8 g5 k _ _ _ s8.1).trans (Ly.bu V k hlt);have q8:=Fr w8 g5 k _ _ s8.1;have r8:=Aj hr8;clear ho8 hr8 rG))
   go_roundw
   case rel=>
    refine⟨k+1,om,by go_num,r8.1.store s8.1 (UE.jm V hfm.1) Ku k _,(AL w8 ⟨g5,k,none⟩ _ g6 (by show g6≠g5;omega)).trans XC.1,⟨fun i=>if i=k then .slice A3 n3 c3 else V i,?_,f8.1.grown (ak w8 ⟨g5,k,none⟩ _) (by show g5<base;omega)⟩,b8.1.setCell (p:=⟨g5,k,none⟩) Ai _,by simp;omega⟩;rw[Ag w8 g5 k _ _ _ s8.1,Ly.UD V k _ hlt]
   case measure=>simp[intOf];omega
  ·obtain rfl:k=4:=by omega
   have hck:=(Co wr g6 4 _ _ _ ha).trans (Ly.aF _ 4 om);have hfk:=Fr wr g6 4 _ _ ha;have hset:=Ly.xW (Ly.dL l) 4 om;have hsu:=Ly.oN l 4;have hse:=Ly.sG l 4;have hak:Ly.dL l 4=(Ly.S l 4).1:=rfl;rw[hak]at hset;have hSk:=hSl.1 4;have hS5:=hSl.1 5;obtain⟨s,hSs⟩:∃s,Ly.S l 4=s:=⟨_,rfl⟩
   rw[hSs]at hr hset hsu hse hSk;obtain⟨a,e⟩:=s;simp only at hr hset hsu hse hSk;have rF:g6≠p:=om;have Ku:g5≠p:=om;have hr1:=hr.store ha (UE.kz _) rF 4 (.int .i64 (a:Int));have ha1:(wr.setCell ⟨g6,4,none⟩ (.int .i64 (a:Int))).heap[g6]? =some (.cells (Ly.kz (Ly.mk (Ly.dL l) 5)) 128 (0,0)):=by rw[Ag wr g6 4 _ _ _ ha,hset]
   have hs1:=(AL wr ⟨g6,4,none⟩ (.int .i64 (a:Int)) g5 (by show g5≠g6;omega)).trans hs;have hf1:=hf.grown (ak wr ⟨g6,4,none⟩ (.int .i64 (a:Int))) (by show g6<base;omega);have hb1:Below g5 W4 (wr.setCell ⟨g6,4,none⟩ (.int .i64 (a:Int))):=hb.setCell (p:=⟨g6,4,none⟩) (by show g5≤g6;omega) _;have hz1:(wr.setCell ⟨g6,4,none⟩ (.int .i64 (a:Int))).heap.size=wr.heap.size:=sm;have ht1:gq (wr.setCell ⟨g6,4,none⟩ (.int .i64 (a:Int))):=T4.1.base (base:=g5) om hb1;have HS:=qy p a l e 5 _ hr1 ht1;rw[show(5:UInt8)=UInt8.ofNat (1+4)from rfl,←hse,←hsu,hz1]at HS;have HS':Kept (Calls prog 113 #[.pointer (some ⟨p,0,none⟩),.int .u8 5] (wr.setCell ⟨g6,4,none⟩ (.int .i64 (a:Int))) fun r w'=>∃A3 n3 c3,r= .returned (.slice A3 n3 c3)∧ah w' wr.heap.size A3 n3 c3 (Ly.sec l 4)∧aJ w' p l (Ly.S l 5).1 (Ly.S l 5).2∧(wr.setCell ⟨g6,4,none⟩ (.int .i64 (a:Int))).grownBy w' (some p)):=⟨HS⟩
   have HR:=Aj hr;have A1:=Aj ha1;have S1:=Aj hs1;have F1:=Aj hf1;have C1:=Aj hb1;have Z1:=Aj hz1;clear hr hr1 ha ha1 hs hs1 hf hf1 hb hb1 hz1 ht1 HS hSs hset hsu hse hak;go_upto_region 13 with(first
    |(go_at_call 112;refine(iX p a l e wr HR.1).mono ?_;rintro r w7 ⟨rfl,rfl⟩)
    |(go_at_call 113;refine HS'.1.mono ?_;rintro r w8 ⟨A3,n3,c3,rfl,ho8,hr8,rG⟩;have XC:=Aj ((rG.block g6 (by rw[Z1.1];omega) (fun e=>rF (Oj e))).trans A1.1);have s8:=Aj ((rG.block g5 (by rw[Z1.1];omega) (fun e=>Ku (Oj e))).trans S1.1);have f8:=Aj (F1.1.grown rG UH);have b8:=Aj (C1.1.grown rG (by rw[Z1.1];omega) (fun g e=>by cases e;omega));have z8:=rG.size;rw[Z1.1]at z8;have o8:=Aj ho8;have r8:=Aj hr8;clear ho8 hr8 rG))
   clear HR HS' A1 S1 F1 C1 Z1 hck hfk;have hm:∀i,Ly.mk (Ly.dL l) 5 i≤140737488355328:=fun i=>by
    unfold Ly.mk;split
    ·have h1:=hSl.1 i;have h2:=hn.1;show(Ly.S l i).1≤_;omega
    ·omega
   have hcg:Ly.iP (Ly.mk (Ly.dL l) 5) 4=Ly.iP (Ly.dL l) 4:=Ly.lF 4 fun i hi=>by unfold Ly.mk;rw[Ps0 om]
   have hcp:0< (Ly.iP (Ly.dL l) 4).length:=by rw[Ly.kR,La];have:=Vi.cO (Ly.dL l 3);omega
   have HC:=nD (Ly.mk (Ly.dL l) 5) w8 hm;rw[hcg]at HC;have k0:=(Co w8 g6 0 _ _ _ XC.1).trans (Ly.aF _ 0 om);have k1:=(Co w8 g6 1 _ _ _ XC.1).trans (Ly.aF _ 1 om);have k2:=(Co w8 g6 2 _ _ _ XC.1).trans (Ly.aF _ 2 om);have k3:=(Co w8 g6 3 _ _ _ XC.1).trans (Ly.aF _ 3 om);have k4:=(Co w8 g6 4 _ _ _ XC.1).trans (Ly.aF _ 4 om);unfold Ly.kz at HC;have HC':=Aj HC;have hpe:Ly.pe l=if(Ly.S l 5).2≠0 then(Ly.S l 5).2 else if Ly.sec l 4≠Ly.iP (Ly.dL l) 4 then 13 else if l.length-(Ly.S l 5).1<4 then 3 else if bK.df (l.take ((Ly.S l 5).1+4))=false then 12
    else if Ly.lit (l.drop ((Ly.S l 5).1+4)) Ly.tail≠0 then Ly.lit (l.drop ((Ly.S l 5).1+4)) Ly.tail else if(Ly.S l 5).1+8<l.length then 4 else 0:=rfl
   have hsn:(Ly.S l 5).2≠0→Ly.sec l 4=[]:=fun h=>by
    rw[Ly.oN]at h;rw[Ly.sG];revert h;unfold Wr.mF;by_cases he:(Ly.S l 4).2≠0
    ·rw[Ps0 he];intro _;rfl
    ·rw[Ng he];by_cases h0:(Wr.aK l (Ly.S l 4).1 (UInt8.ofNat (1+4))).2.2≠0
     ·rw[Ps0 h0];intro _;rfl
     ·rw[Ng h0];intro h;exact absurd rfl h
   obtain⟨s5,hs5⟩:∃s,Ly.S l 5=s:=⟨_,rfl⟩
   rw[hs5]at r8 hpe hsn hS5;obtain⟨a5,e5⟩:=s5;simp only at r8 hpe hsn hS5;clear HC hm hcg hs5;have PU:Kept (∀i,i<5→Ly.mk (Ly.dL l) 5 i=Ly.dL l i):=⟨fun i hi=>by unfold Ly.mk;rw[Ps0 hi]⟩
   generalize Ly.mk (Ly.dL l) 5=m5 at*;generalize hDD:Ly.sec l 4=D at*;generalize hCC:Ly.iP (Ly.dL l) 4=C at*;have hlen:=hn.1;have Vt0:Kept (∀W,Below g2 W4 W→∀k,k≤n→aZ W g2 A k c (l.take k)):=⟨fun W h k hk=>(V4.1.below h).take hk⟩
   have Vd0:Kept (∀W,Below g2 W4 W→∀k,k≤n→c≠k→aZ W g2 (A.map (·.add k)) (n-k) (c-k) (l.drop k)):=⟨fun W h k hk hc=>by have h1:=(V4.1.below h).drop hk;rw[Ng hc]at h1;exact h1⟩
   have Kw:(⟨#[75,66,83,84]⟩:ByteArray).data.toList=Ly.tail:=rfl;have h4t:Ly.tail.length=4:=rfl;have mH:∀x:Int,x≠0→(x !=0)=true∧(x==0)=false:=fun x h=>⟨by simpa using h,by simpa using h⟩
   have htk:∀(a:Nat) (e m:Int),e≠0→Wr.take l a e m=([],a,e):=fun a e m h=>by unfold Wr.take;rw[Ps0 h]
   have hfn:∀(a:Nat) (e:Int),e≠0→Wr.fin l a e=e:=fun a e h=>by unfold Wr.fin;rw[Ps0 h]
   obtain⟨e6,T,n4,a7,e7,e8,e9,a10,e10,er,UI,UJ,h7n,he9,wM,YJ,abD,SHAPE⟩:∃(e6:Int) (T:List UInt8) (n4 a7:Nat) (e7 e8 e9:Int) (a10:Nat) (e10 er:Int),
     Wr.take l a5 e6 4=(T,a7,e7)∧T.length=n4∧a7≤n∧e9=(if e8=0 then Ly.lit (l.drop a7) (⟨#[75,66,83,84]⟩:ByteArray).data.toList else e8)∧(Wr.take l a7 e9 ((min (l.drop a7).length (⟨#[75,66,83,84]⟩:ByteArray).data.toList.length:Nat):Int)).2=(a10,e10)∧Wr.fin l a10 e10=er∧Ly.pe l=er∧
      (((((D==C)=false∧(if e5=0 then 13 else e5)=e6∧n4=0∧e8=e7)∨((D==C)=true∧e6=e5∧n4=0∧e8=e7)∨((D==C)=true∧e6=e5∧n4=4∧bK.df (l.take a7)=false∧(if e7=0 then 12 else e7)=e8)∨((D==C)=true∧e6=e5∧n4=4∧bK.df (l.take a7)=true∧e8=e7))∧(er !=0)=true∧(er==0)=false)∨((D==C)=true∧e6=e5∧n4=4∧bK.df (l.take a7)=true∧e8=e7∧er=0∧c≠a7)):=by
    by_cases hDC:D=C
    ·obtain rfl:e5=0:=by
      by_cases h:e5=0
      ·exact h
      ·have h1:=hsn h;rw[hDC]at h1;rw[h1]at hcp;simp at hcp
     have hE:(D==C)=true:=by rw[hDC];simp
     have xY:Ly.pe l=if l.length-a5<4 then 3 else if bK.df (l.take (a5+4))=false then 12 else if Ly.lit (l.drop (a5+4)) Ly.tail≠0 then Ly.lit (l.drop (a5+4)) Ly.tail else if a5+8<l.length then 4 else 0:=by
      rw[hpe,Ng sm,Ng (by simpa using hDC)]
     by_cases hsh:l.length-a5<4
     ·exact⟨0,[],0,a5,3,3,3,a5,3,3,by unfold Wr.take;rw[Ng sm,Ng om,Ps0 om],rfl,om,by rw[Ng sm],by rw[htk _ _ _ Ah],hfn _ _ Ah,by rw[xY,Ps0 hsh],.inl ⟨.inr (.inl ⟨hE,rfl,rfl,rfl⟩),mH _ Ah⟩⟩
     ·have UI:Wr.take l a5 0 4=((l.drop a5).take 4,a5+4,0):=by unfold Wr.take;rw[Ng sm,Ng om,Ng om];rfl
      have UJ:((l.drop a5).take 4).length=4:=by rw[oF,lZ];omega
      rw[Ng hsh]at xY;by_cases UK:bK.df (l.take (a5+4))=false
      ·exact⟨0,_,4,a5+4,0,12,12,a5+4,12,12,UI,UJ,om,by rw[Ng sm],by rw[htk _ _ _ Ah],hfn _ _ Ah,by rw[xY,Ps0 UK],.inl ⟨.inr (.inr (.inl ⟨hE,rfl,rfl,UK,by rw[Ps0 rfl]⟩)),mH _ Ah⟩⟩
      ·rw[Ng UK]at xY;have hck:bK.df (l.take (a5+4))=true:=by simpa using UK
       by_cases vI:Ly.lit (l.drop (a5+4)) Ly.tail=0
       ·have h4l:=Ly.sH vI;rw[lZ]at h4l;rw[Ng (by simpa using vI)]at xY;have wM:(Wr.take l (a5+4) 0 ((min (l.drop (a5+4)).length Ly.tail.length:Nat):Int)).2=(a5+8,0):=by rw[Ly.ED l (a5+4) Ly.tail 0 om (fun _=>om),Ps0 rfl,h4t]
        by_cases htr:a5+8<l.length
        ·exact⟨0,_,4,a5+4,0,0,0,a5+8,0,4,UI,UJ,om,by rw[Ps0 rfl,Kw,vI],wM,by unfold Wr.fin;rw[Ng sm,Ps0 htr],by rw[xY,Ps0 htr],.inl ⟨.inr (.inr (.inr ⟨hE,rfl,rfl,hck,rfl⟩)),mH _ Ah⟩⟩
        ·exact⟨0,_,4,a5+4,0,0,0,a5+8,0,0,UI,UJ,om,by rw[Ps0 rfl,Kw,vI],wM,by unfold Wr.fin;rw[Ng sm,Ng htr],by rw[xY,Ng htr],.inr ⟨hE,rfl,rfl,hck,rfl,rfl,om⟩⟩
       ·rw[Ps0 vI]at xY;exact⟨0,_,4,a5+4,0,0,Ly.lit (l.drop (a5+4)) Ly.tail,a5+4,Ly.lit (l.drop (a5+4)) Ly.tail,_,UI,UJ,om,by rw[Ps0 rfl,Kw],by rw[htk _ _ _ vI],hfn _ _ vI,xY,.inl ⟨.inr (.inr (.inr ⟨hE,rfl,rfl,hck,rfl⟩)),mH _ vI⟩⟩
    ·obtain⟨e6,Ub⟩:∃e6,(if e5=0 then 13 else e5)=e6:=⟨_,rfl⟩
     have PW:e6≠0:=by rw[←Ub];split<;>omega
     refine⟨e6,[],0,a5,e6,e6,e6,a5,e6,e6,htk _ _ _ PW,rfl,om,by rw[Ng PW],by rw[htk _ _ _ PW],hfn _ _ PW,?_,.inl ⟨.inl ⟨by simpa using hDC,Ub,rfl,rfl⟩,mH _ PW⟩⟩;rw[hpe,←Ub];by_cases h:e5=0
     ·rw[Ng (by simpa using h),Ps0 hDC,Ps0 h]
     ·rw[Ps0 h,Ng h]
   clear hpe hsn hcp Kw h4t mH htk hfn;have hpe:=Aj abD;have Vt:Kept (∀W,Below g2 W4 W→aZ W g2 A a7 c (l.take a7)):=⟨fun W h=>Vt0.1 W h a7 h7n⟩
   obtain⟨SA,sn,sc,VD,CUT⟩:∃SA sn sc,Kept (∀W,Below g2 W4 W→aZ W g2 SA sn sc (l.drop a7))∧((n=c∧a7=c∧SA=A∧sn=0∧sc=0)∨((a7:Int)< (c:Int)∧SA=A.map (·.add a7)∧sn=n-a7∧sc=c-a7)):=by
    by_cases hcn:c=a7
    ·refine⟨A,0,0,⟨fun W h=>?_⟩,.inl ⟨om,om,rfl,rfl,rfl⟩⟩;rw[qR om];exact Rd.nil _ _ 1 0 A (by unfold maxLen;omega)
    ·exact⟨_,_,_,⟨fun W h=>Vd0.1 W h a7 h7n hcn⟩,.inr ⟨om,rfl,rfl,rfl⟩⟩
   have i1:(a7:Int)≤(n:Int):=om;have i3:(a7:Int)≤(c:Int):=om;clear hlen Vt0 Vd0 abD h7n;replace UI:=Aj UI;replace UJ:=Aj UJ;replace he9:=Aj he9;replace wM:=Aj wM;replace YJ:=Aj YJ;rcases CUT with⟨rfl,rfl,rfl,rfl,rfl⟩|⟨i2,rfl,rfl,rfl⟩
   all_goals
    rcases SHAPE with⟨⟨hE,Ub,rfl,rfl⟩|⟨hE,rfl,rfl,rfl⟩|⟨hE,rfl,rfl,hck,hk8⟩|⟨hE,rfl,rfl,hck,rfl⟩,hen,xQ⟩|⟨hE,rfl,rfl,hck,rfl,rfl,hco⟩
    all_goals
     replace hE:=Aj hE
     try replace Ub:=Aj Ub
     try replace hk8:=Aj hk8
     try replace hck:=Aj hck
     try exact absurd rfl hco
   all_goals
    go_upto_region 20 with(first
     |(go_at_call 90;refine HC'.1.mono ?_;rintro r w9 ⟨A4,n4,c4,rfl,EE,hb4⟩;have ar9:=Aj ((hb4.block g6 om).trans XC.1);have s9:=Aj ((hb4.block g5 om).trans s8.1);have f9:=Aj (f8.1.below hb4);have b9:=Aj (b8.1.trans (hb4.mono om));have z9:=Lt z8 hb4.size;have r9:=Aj (r8.1.below hb4 om);have q9:=Aj (ah.keep o8.1 hb4).rd;have t9:=Aj EE.rd;clear EE hb4 k0 k1 k2 k3 k4)
     |(go_at_call 18;refine(PM _ _ _ _ _ _ D C _ w9 _ _ q9.1 t9.1 hE.1).mono ?_;rintro r PX ⟨rfl,rfl⟩;clear q9 t9)
     |(go_at_call 114;refine(dx p _ l _ 13 w9 r9.1).mono ?_;rintro r PX ⟨rfl,YK,MO⟩;rw[Ub.1]at YK;have abF:=Aj ((MO.block g6 om (fun e=>rF (Oj e))).trans ar9.1);have s10:=Aj ((MO.block g5 om (fun e=>Ku (Oj e))).trans s9.1);have f10:=Aj (f9.1.grown MO UH);have b10:=Aj (b9.1.grown MO om (fun g e=>by cases e;omega));have z10:=Lt z9 MO.size;have r10:=Aj YK;clear YK MO r9 ar9 s9 f9 b9)
     |(go_at_call 115;refine(jl p _ l _ 4 PX r10.1 om om).mono ?_;rintro r PY ⟨A11,n11,c11,rfl,Ir,xZ,oO⟩;rw[UI.1]at Ir xZ;have PZ:=Ir.len;simp only at xZ;have P5:=Aj ((oO.block g6 om (fun e=>rF (Oj e))).trans abF.1);have s11:=Aj ((oO.block g5 om (fun e=>Ku (Oj e))).trans s10.1);have f11:=Aj (f10.1.grown oO UH);have b11:=Aj (b10.1.grown oO om (fun g e=>by cases e;omega));have z11:=Lt z10 oO.size;have r11:=Aj xZ;obtain rfl:=PZ.trans UJ.1;clear Ir xZ oO PZ r10 abF s10 f10 b10)
     |(go_at_call 115;refine(jl p _ l _ 4 w9 r9.1 om om).mono ?_;rintro r PY ⟨A11,n11,c11,rfl,Ir,xZ,oO⟩;rw[UI.1]at Ir xZ;have PZ:=Ir.len;simp only at xZ;have P5:=Aj ((oO.block g6 om (fun e=>rF (Oj e))).trans ar9.1);have s11:=Aj ((oO.block g5 om (fun e=>Ku (Oj e))).trans s9.1);have f11:=Aj (f9.1.grown oO UH);have b11:=Aj (b9.1.grown oO om (fun g e=>by cases e;omega));have z11:=Lt z9 oO.size;have r11:=Aj xZ;obtain rfl:=PZ.trans UJ.1;clear Ir xZ oO PZ r9 ar9 s9 f9 b9)
     |(go_at_call 112;refine(iX p _ l _ PY r11.1).mono ?_;rintro r YL ⟨rfl,rfl⟩)
     |(go_at_call 116;refine(wN _ _ _ _ PY g2 (Vt.1 _ (b11.1.mono om)) (T4.1.base (base:=g5) om b11.1)).mono ?_;rintro r YL ⟨rfl,rfl⟩;rw[hck.1])
     |(go_at_call 114;refine(dx p _ l _ 12 PY r11.1).mono ?_;rintro r UL ⟨rfl,YM,vJ⟩;rw[hk8.1]at YM;have abG:=Aj ((vJ.block g6 om (fun e=>rF (Oj e))).trans P5.1);have s13:=Aj ((vJ.block g5 om (fun e=>Ku (Oj e))).trans s11.1);have f13:=Aj (f11.1.grown vJ UH);have b13:=Aj (b11.1.grown vJ om (fun g e=>by cases e;omega));have z13:=Lt z11 vJ.size;have r13:=Aj YM;clear YM vJ r11 P5 s11 f11 b11)
     |(go_at_call 112;refine(iX p _ l _ UL r13.1).mono ?_;rintro r w14 ⟨rfl,rfl⟩)
     |(go_at_call 111;refine(kS p _ l _ _ _ _ g2 _ ⟨#[75,66,83,84]⟩ UL e9 he9.1 r13.1 (VD.1 _ (b13.1.mono om)) Ah).mono ?_;rintro r gX ⟨rfl,x8,oP⟩;rw[wM.1]at x8;simp only at x8;have MQ:=Aj ((oP.block g6 om (fun e=>rF (Oj e))).trans abG.1);have s15:=Aj ((oP.block g5 om (fun e=>Ku (Oj e))).trans s13.1);have f15:=Aj (f13.1.grown oP UH);have b15:=Aj (b13.1.grown oP om (fun g e=>by cases e;omega));have z15:=Lt z13 oP.size;have UM:=Aj x8;clear x8 oP r13 abG s13 f13 b13)
     |(go_at_call 111;refine(kS p _ l _ _ _ _ g2 _ ⟨#[75,66,83,84]⟩ PY e9 he9.1 r11.1 (VD.1 _ (b11.1.mono om)) Ah).mono ?_;rintro r gX ⟨rfl,x8,oP⟩;rw[wM.1]at x8;simp only at x8;have MQ:=Aj ((oP.block g6 om (fun e=>rF (Oj e))).trans P5.1);have s15:=Aj ((oP.block g5 om (fun e=>Ku (Oj e))).trans s11.1);have f15:=Aj (f11.1.grown oP UH);have b15:=Aj (b11.1.grown oP om (fun g e=>by cases e;omega));have z15:=Lt z11 oP.size;have UM:=Aj x8;clear x8 oP r11 P5 s11 f11 b11)
     |(go_at_call 117;refine(gQ p _ l _ gX UM.1).mono ?_;rintro r w16 ⟨rfl,rfl⟩;rw[YJ.1]))
   all_goals first
    |(have hnz:er≠0:=(by simpa using xQ);have mI:=(b15.1.block g2 om).trans G2.1;have hg3':=(b15.1.block g3 om).trans G3.1;have x0:=fun k=>Fr gX g2 k _ _ mI;have x1:=fun k=>Fr gX g3 k _ _ hg3';have y0:=(Co gX g2 0 _ _ _ mI).trans (Ly.bu _ 0 om);have y1:=(Co gX g2 1 _ _ _ mI).trans (Ly.bu _ 1 om);have y2:=(Co gX g2 2 _ _ _ mI).trans (Ly.bu _ 2 om);have y3:=(Co gX g2 3 _ _ _ mI).trans (Ly.bu _ 3 om);have u0:=(Co gX g3 0 _ _ _ hg3').trans (Ly.aF _ 0 om);have u1:=(Co gX g3 1 _ _ _ hg3').trans (Ly.aF _ 1 om);have u2:=(Co gX g3 2 _ _ _ hg3').trans (Ly.aF _ 2 om);have u3:=(Co gX g3 3 _ _ _ hg3').trans (Ly.aF _ 3 om);have u4:=(Co gX g3 4 _ _ _ hg3').trans (Ly.aF _ 4 om);have hoS:Kept (∀i,Ly.mG l i=[]):=⟨fun i=>by unfold Ly.mG;rw[hpe.1,Ng hnz]⟩;have hoA:Kept (∀i,Ly.UG l i=0):=⟨fun i=>by unfold Ly.UG;rw[hpe.1,Ng hnz]⟩;have hre:=Aj (Ez (kC gX g2 (.slice none 0 0) (.slice none 0 0) (.slice none 0 0) (.slice none 0 0)) g3 (.int .i64 0) (.int .i64 0) (.int .i64 0) (.int .i64 0) (.int .i64 0) (((dz gX g2 _ _ _ _).block g3 om (fun e=>by have:=Oj e;omega)).trans hg3') rfl);have hrs:=Aj (((ik (kC gX g2 (.slice none 0 0) (.slice none 0 0) (.slice none 0 0) (.slice none 0 0)) g3 (.int .i64 0) (.int .i64 0) (.int .i64 0) (.int .i64 0) (.int .i64 0)).block g2 (by rw[lG];omega) (fun e=>by have:=Oj e;omega)).trans (nG gX g2 (.slice none 0 0) (.slice none 0 0) (.slice none 0 0) (.slice none 0 0) mI rfl));have hrb:Kept (Below g2 W4 (PS (kC gX g2 (.slice none 0 0) (.slice none 0 0) (.slice none 0 0) (.slice none 0 0)) g3 (.int .i64 0) (.int .i64 0) (.int .i64 0) (.int .i64 0) (.int .i64 0))):=⟨((b15.1.mono om).grown (dz gX g2 _ _ _ _) om (fun g e=>by cases e;omega)).grown (ik _ g3 _ _ _ _ _) (by rw[lG];omega) (fun g e=>by cases e;omega)⟩;clear mI hg3';go_wp2;refine Bh (v:= .tuple #[.agg (Ly.jm fun _=> .slice none 0 0),.agg (Ly.kz fun _=>0),.int .i64 er]) ?_ rfl ⟨fun _=> .slice none 0 0,fun _=>0,by rw[hpe.1],fun i hi=>⟨none,0,0,rfl,by rw[hoS.1];exact ah.nil _ _⟩,fun i hi=>by rw[hoA.1],?_⟩;exact iQ (fn:=Tryz.f64) (a:=2) (b:=3) (u:=4) (T1:=76) (T2:=128) rfl _ _ g2 g3 _ _ _ _ _ _ _ _ rfl rfl hrs.1 hre.1 underlying76 rfl kr underlying128 rfl kr;(rw[E2.1];exact B4.1.trans hrb.1))
    |skip
   have mI:=(b15.1.block g2 om).trans G2.1;have hg3':=(b15.1.block g3 om).trans G3.1;have x0:=fun k=>Fr gX g2 k _ _ mI
   have x1:=fun k=>Fr gX g3 k _ _ hg3'
   have y0:=(Co gX g2 0 _ _ _ mI).trans (Ly.bu _ 0 om);have y1:=(Co gX g2 1 _ _ _ mI).trans (Ly.bu _ 1 om);have y2:=(Co gX g2 2 _ _ _ mI).trans (Ly.bu _ 2 om);have y3:=(Co gX g2 3 _ _ _ mI).trans (Ly.bu _ 3 om);have u0:=(Co gX g3 0 _ _ _ hg3').trans (Ly.aF _ 0 om);have u1:=(Co gX g3 1 _ _ _ hg3').trans (Ly.aF _ 1 om);have u2:=(Co gX g3 2 _ _ _ hg3').trans (Ly.aF _ 2 om);have u3:=(Co gX g3 3 _ _ _ hg3').trans (Ly.aF _ 3 om);have u4:=(Co gX g3 4 _ _ _ hg3').trans (Ly.aF _ 4 om);have v0:=(Co gX g5 0 _ _ _ s15.1).trans (Ly.bu _ 0 om);have v1:=(Co gX g5 1 _ _ _ s15.1).trans (Ly.bu _ 1 om);have v2:=(Co gX g5 2 _ _ _ s15.1).trans (Ly.bu _ 2 om);have v3:=(Co gX g5 3 _ _ _ s15.1).trans (Ly.bu _ 3 om);obtain⟨Aa,na,ca,ea⟩:=f15.1.form 0 om;obtain⟨Ab,nb,cb,eb⟩:=f15.1.form 1 om;obtain⟨Ac,nc,cc,ec⟩:=f15.1.form 2 om;obtain⟨Ad,nd,cd,ed⟩:=f15.1.form 3 om;have har:Kept (Ly.jm V= #[.slice Aa na ca,.slice Ab nb cb,.slice Ac nc cc,.slice Ad nd cd]):=⟨by unfold Ly.jm;rw[ea,eb,ec,ed]⟩
   rw[ea]at v0;rw[eb]at v1;rw[ec]at v2;rw[ed]at v3;clear ea eb ec ed;have m0:=(Co gX g6 0 _ _ _ MQ.1).trans (Ly.aF _ 0 om);have m1:=(Co gX g6 1 _ _ _ MQ.1).trans (Ly.aF _ 1 om);have m2:=(Co gX g6 2 _ _ _ MQ.1).trans (Ly.aF _ 2 om);have m3:=(Co gX g6 3 _ _ _ MQ.1).trans (Ly.aF _ 3 om);have m4:=(Co gX g6 4 _ _ _ MQ.1).trans (Ly.aF _ 4 om);have H2:=Aj mI;have H3:=Aj hg3';clear mI hg3';have dx0:∀k,gX.drew.frozen? ⟨g2,k,none⟩=false:=x0;have dx1:∀k,gX.drew.frozen? ⟨g3,k,none⟩=false:=x1;go_wp2;go_region;go_wp2;have hre:=EB<|Ez (kC gX g2 (.slice Aa na ca) (.slice Ab nb cb) (.slice Ac nc cc) (.slice Ad nd cd)) g3 (.int .i64 (m5 0:Int)) (.int .i64 (m5 1:Int)) (.int .i64 (m5 2:Int)) (.int .i64 (m5 3:Int)) (.int .i64 (m5 4:Int)) (((dz gX g2 _ _ _ _).block g3 om (fun e=>by have:=Oj e;omega)).trans H3.1) rfl
   have hrs:=EB<|((ik (kC gX g2 (.slice Aa na ca) (.slice Ab nb cb) (.slice Ac nc cc) (.slice Ad nd cd)) g3 (.int .i64 (m5 0:Int)) (.int .i64 (m5 1:Int)) (.int .i64 (m5 2:Int)) (.int .i64 (m5 3:Int)) (.int .i64 (m5 4:Int))).block g2 (by rw[lG];omega) (fun e=>by have:=Oj e;omega)).trans (nG gX g2 (.slice Aa na ca) (.slice Ab nb cb) (.slice Ac nc cc) (.slice Ad nd cd) H2.1 rfl)
   have aeS:Below g2 W4 (PS (kC gX g2 (.slice Aa na ca) (.slice Ab nb cb) (.slice Ac nc cc) (.slice Ad nd cd)) g3 (.int .i64 (m5 0:Int)) (.int .i64 (m5 1:Int)) (.int .i64 (m5 2:Int)) (.int .i64 (m5 3:Int)) (.int .i64 (m5 4:Int))):=((b15.1.mono om).grown (dz gX g2 _ _ _ _) om (fun g e=>by cases e;omega)).grown (ik _ g3 _ _ _ _ _) (by rw[lG];omega) (fun g e=>by cases e;omega);have hrb:=(B4.1.trans aeS).drew;have hfo:=bL.drew<|(f15.1.grown (dz gX g2 (.slice Aa na ca) (.slice Ab nb cb) (.slice Ac nc cc) (.slice Ad nd cd)) om).grown (ik _ g3 (.int .i64 (m5 0:Int)) (.int .i64 (m5 1:Int)) (.int .i64 (m5 2:Int)) (.int .i64 (m5 3:Int)) (.int .i64 (m5 4:Int))) om
   refine Bh (v:= .tuple #[.agg (Ly.jm V),.agg (Ly.kz m5),.int .i64 0]) ?_ rfl ⟨V,m5,by rw[hpe.1],fun i hi=>?_,fun i hi=>?_,?_⟩
   ·rw[har.1];exact iQ (fn:=Tryz.f64) (a:=2) (b:=3) (u:=4) (T1:=76) (T2:=128) rfl _ _ g2 g3 _ _ _ _ _ _ _ _ rfl rfl hrs hre underlying76 rfl kr underlying128 rfl kr
   ·obtain⟨A',n',c',h1,h2⟩:=hfo i hi;have hg:Ly.gate 4 (Ly.sec l) i=Ly.mG l i:=by unfold Ly.gate Ly.mG;rw[Ps0 hi,hpe.1,Ps0 rfl]
    rw[hg]at h2;exact⟨A',n',c',h1,ah.base h2 (by rw[E2.1];omega)⟩
   ·rw[PU.1 i hi];unfold Ly.UG;rw[hpe.1,Ps0 rfl]
   ·rw[E2.1];exact hrb
end
section
section
open Go.RowKit Go.Shelf
def Zs (w:World) (g2 g3 g7 g8:Nat):Prop:=w.heap[g2]? =some (.cells (Ly.jm fun _=> .slice none 0 0) 75 (0,0))∧w.heap[g3]? =some (.cells (Ly.kz fun _=>0) 128 (0,0))∧
 w.heap[g7]? =some (.cells (Ly.jm fun _=> .slice none 0 0) 75 (0,0))∧w.heap[g8]? =some (.cells (Ly.kz fun _=>0) 128 (0,0))
end
end
section
section
open Go.RowKit Go.Shelf
theorem bL.lit {w base V D} (h:bL w base V D):∃Aa na ca Ab nb cb Ac nc cc Ad nd cd,Ly.jm V= #[.slice Aa na ca,.slice Ab nb cb,.slice Ac nc cc,.slice Ad nd cd]:=by
 obtain⟨Aa,na,ca,ea⟩:=h.form 0 om;obtain⟨Ab,nb,cb,eb⟩:=h.form 1 om;obtain⟨Ac,nc,cc,ec⟩:=h.form 2 om;obtain⟨Ad,nd,cd,ed⟩:=h.form 3 om;exact⟨Aa,na,ca,Ab,nb,cb,Ac,nc,cc,Ad,nd,cd,by unfold Ly.jm;rw[ea,eb,ec,ed]⟩
theorem bL.base {w base base' V D} (h:bL w base V D) (hb:base'≤base):bL w base' V D:=fun i hi=>by
 obtain⟨A,n,c,h1,h2⟩:=h i hi;exact⟨A,n,c,h1,ah.base h2 hb⟩
theorem sI (A n c l w) (hv:aZ w w.heap.size A n c l) (hnb:n≤140737488353000) (ht:gq w):
  Calls prog 34 #[.slice A n c] w fun r w'=>∃V,r= .returned (.tuple #[.agg (Ly.jm V),.int .i64 (Ly.pe l)])∧bL w' w.heap.size V (Ly.mG l)∧Below w.heap.size w w':=by
 obtain⟨W1,hW1⟩:∃W1,W1=w.alloc (.cells #[.slice none 0 0,.slice none 0 0,.slice none 0 0,.slice none 0 0] 76):=⟨_,rfl⟩
 have hb1:Below w.heap.size w W1:=by rw[hW1];exact(Ae _ w).alloc Ai _
 have hz1:W1.heap.size=w.heap.size+1:=by rw[hW1];simp
 have hg1:W1.heap[w.heap.size]? =some (.cells (Ly.jm fun _=> .slice none 0 0) 76 (0,0)):=by rw[hW1];exact Av w _
 have HW:=Aj hW1.symm;have Z1:=Aj hz1;have G1:=Aj hg1;have B1:=Aj hb1;have HP:=Aj (MN A n c l W1 ((hv.below hb1).more om) hnb (ht.below hb1));clear hv ht hW1 hb1 hz1 hg1;go_enter func34,ntmps34;go_upto_region 1 with fail;rw[HW.1];generalize hg:w.heap.size=g at*;have EG:=Aj hg;clear hg;have hgW:g<W1.heap.size:=by rw[Z1.1];omega
 go_upto_region 2 with(go_at_call 64;refine HP.1.mono ?_;rintro r w2 ⟨V,M,rfl,hf,hm,hb⟩;obtain⟨Aa,na,ca,Ab,nb,cb,Ac,nc,cc,Ad,nd,cd,hV⟩:=hf.lit;rw[hV];unfold Ly.kz;have F2:=Aj hf;have M2:=Aj hm;have B2:=Aj hb;have HV:=Aj hV;clear hf hm hb hV)
 have hz2:=B2.1.size;have F3:=Aj ((F2.1.below ((Ae _ w2).alloc Ai (.cells #[.slice Aa na ca,.slice Ab nb cb,.slice Ac nc cc,.slice Ad nd cd] 76))).below ((Ae _ _).alloc Ai (.cells #[.int .i64 (M 0:Int),.int .i64 (M 1:Int),.int .i64 (M 2:Int),.int .i64 (M 3:Int),.int .i64 (M 4:Int)] 128)));have B3:Kept (Below W1.heap.size W1 ((w2.alloc (.cells #[.slice Aa na ca,.slice Ab nb cb,.slice Ac nc cc,.slice Ad nd cd] 76)).alloc (.cells #[.int .i64 (M 0:Int),.int .i64 (M 1:Int),.int .i64 (M 2:Int),.int .i64 (M 3:Int),.int .i64 (M 4:Int)] 128))):=⟨(B2.1.alloc hz2 _).alloc (by simp;omega) _⟩
 have v0:∀k,((w2.alloc (.cells #[.slice Aa na ca,.slice Ab nb cb,.slice Ac nc cc,.slice Ad nd cd] 76)).alloc (.cells #[.int .i64 (M 0:Int),.int .i64 (M 1:Int),.int .i64 (M 2:Int),.int .i64 (M 3:Int),.int .i64 (M 4:Int)] 128)).cell? ⟨w2.heap.size,k,none⟩=(#[.slice Aa na ca,.slice Ab nb cb,.slice Ac nc cc,.slice Ad nd cd]:Array Value)[k]?:=fun k=>(AB _ _ ⟨w2.heap.size,k,none⟩ sm).trans (Ao w2 _ _ _ k)
 have m0:∀k,((w2.alloc (.cells #[.slice Aa na ca,.slice Ab nb cb,.slice Ac nc cc,.slice Ad nd cd] 76)).alloc (.cells #[.int .i64 (M 0:Int),.int .i64 (M 1:Int),.int .i64 (M 2:Int),.int .i64 (M 3:Int),.int .i64 (M 4:Int)] 128)).cell? ⟨w2.heap.size+1,k,none⟩=(#[.int .i64 (M 0:Int),.int .i64 (M 1:Int),.int .i64 (M 2:Int),.int .i64 (M 3:Int),.int .i64 (M 4:Int)]:Array Value)[k]?:=fun k=>by
  have h:=Ao (w2.alloc (.cells #[.slice Aa na ca,.slice Ab nb cb,.slice Ac nc cc,.slice Ad nd cd] 76)) #[.int .i64 (M 0:Int),.int .i64 (M 1:Int),.int .i64 (M 2:Int),.int .i64 (M 3:Int),.int .i64 (M 4:Int)] 128 (0,0) k;rw[AU]at h;exact h
 generalize (w2.alloc (.cells #[.slice Aa na ca,.slice Ab nb cb,.slice Ac nc cc,.slice Ad nd cd] 76)).alloc (.cells #[.int .i64 (M 0:Int),.int .i64 (M 1:Int),.int .i64 (M 2:Int),.int .i64 (M 3:Int),.int .i64 (M 4:Int)] 128)=W3 at*;have hg3:=(B3.1.block g hgW).trans G1.1;have G3:=Aj hg3;have v1:=v0 0;simp at v1;have v2:=v0 1;simp at v2;have v3:=v0 2;simp at v3;have v4:=v0 3;simp at v4;clear v0 m0;have x0:=fun k=>Fr W3 g k _ _ hg3
 have y0:=(Co W3 g 0 _ _ _ hg3).trans (Ly.bu _ 0 om);have y1:=(Co W3 g 1 _ _ _ hg3).trans (Ly.bu _ 1 om);have y2:=(Co W3 g 2 _ _ _ hg3).trans (Ly.bu _ 2 om);have y3:=(Co W3 g 3 _ _ _ hg3).trans (Ly.bu _ 3 om);clear hg3;go_wp2;refine Bh (v:= .tuple #[.agg (Ly.jm V),.int .i64 (Ly.pe l)]) ?_ rfl ⟨V,rfl,(F3.1.grown (dz W3 g (.slice Aa na ca) (.slice Ab nb cb) (.slice Ac nc cc) (.slice Ad nd cd)) hgW).base (by rw[EG.1];omega),?_⟩
 ·have hr:=nG W3 g (.slice Aa na ca) (.slice Ab nb cb) (.slice Ac nc cc) (.slice Ad nd cd) G3.1 rfl;rw[HV.1];exact cZ (fn:=Tryz.f34) (a:=2) (u:=3) (T1:=76) rfl _ _ g _ _ _ _ rfl hr underlying76 rfl kr
 ·rw[EG.1];exact B1.1.trans ((B3.1.mono om).grown (dz W3 g (.slice Aa na ca) (.slice Ab nb cb) (.slice Ac nc cc) (.slice Ad nd cd)) (by have:=B3.1.size;omega) (fun g' e=>by cases e;exact Nr _))
end
end
section
section
open Go.RowKit
namespace Ly
theorem MR (D k n) (h:k≤n):∃R,pre D n=pre D k++R:=by
 obtain⟨m,rfl⟩:=Nat.le.dest h;exact⟨_,by unfold pre;rw[List.range_add,oL,←Af]⟩
theorem Iu (D):asm D=body D++(bK.four (bK.sum (body D))++tail):=by unfold asm bK.app;rw[Af]
theorem EF (D):lit (asm D) head=0:=by
 have h:∃R,asm D=head++R:=⟨_,by rw[Iu];unfold body pre;simp only[Af];rfl⟩
 obtain⟨R,h⟩:=h;rw[h];have hl:head.length=5:=rfl;have hm:min (head++R).length head.length=5:=by rw[La];omega
 unfold lit;rw[hm,Ng (by rw[show(5:Nat)=head.length from rfl,List.take_left,List.take_length];simp),Ng (by rw[La];omega)]
theorem YN (D):S (asm D) 0=(off D 0,0):=by
 show(a0 (asm D),lit (asm D) head)=_;unfold a0;rw[Ps0 (EF D),EF]
 rfl
theorem P6 (D) (hD:tot D 4≤140737488352000) (k) (hk:k<4) (h:S (asm D) k=(off D k,0)):S (asm D) (k+1)=(off D (k+1),0)∧sec (asm D) k=D k:=by
 obtain⟨R,hR⟩:=MR D (k+1) 4 om;have he:asm D=pre D k++Wr.frame (UInt8.ofNat (1+k)) (D k)++(R++Wr.frame 5 (iP (off D) 4)++(bK.four (bK.sum (body D))++tail)):=by
  rw[Iu]
  conv=>lhs;arg 1;unfold body
  rw[hR,ig];simp only[Af]
 have hs:=Wr.sD (pre D k) (R++Wr.frame 5 (iP (off D) 4)++(bK.four (bK.sum (body D))++tail)) (D k) (UInt8.ofNat (1+k)) (by have:=Kt D k 4 hk;omega);rw[←he]at hs;have ho:(pre D k).length=off D k:=rfl;rw[ho]at hs;rw[oN,sG,h];simp only;rw[hs];refine⟨?_,rfl⟩;simp only[az,BI];unfold off;rw[ig,La]
theorem P7 (D) (hD:tot D 4≤140737488352000) (k) (hk:k≤4):S (asm D) k=(off D k,0):=by
 induction k with
 |zero=>exact YN D
 |succ k ih=>exact(P6 D hD k om (ih om)).1
theorem YO (D) (hD:tot D 4≤140737488352000) (k) (hk:k≤4):off D k≤140737488352100:=nE D hD k hk
theorem wO (D) (hD:tot D 4≤140737488352000):(iP (off D) 4).length≤40:=by
 have h:iP (off D) 4=iP (mk (off D) 4) 4:=lF 4 fun i hi=>by unfold mk;rw[Ps0 hi]
 rw[h];refine xV _ (fun i=>?_) 4;unfold mk;split
 ·rename_i hi
  have h1:=YO D hD i om;omega
 ·omega
theorem YP (D) (hD:tot D 4≤140737488352000):S (asm D) 5=((body D).length,0)∧sec (asm D) 4=iP (off D) 4:=by
 have hc:=wO D hD;have he:asm D=pre D 4++Wr.frame 5 (iP (off D) 4)++(bK.four (bK.sum (body D))++tail):=by rw[Iu];rfl
 have hs:=Wr.sD (pre D 4) (bK.four (bK.sum (body D))++tail) (iP (off D) 4) 5 om;rw[←he]at hs;have ho:(pre D 4).length=off D 4:=rfl;rw[ho]at hs;have h4:=P7 D hD 4 om;rw[oN,sG,h4];simp only;rw[show UInt8.ofNat (1+4)=5 from rfl,hs];refine⟨?_,rfl⟩;simp only[az,BI];unfold body off;rw[La]
theorem P8 (D) (hD:tot D 4≤140737488352000) (k) (hk:k≤4):dL (asm D) k=off D k:=by
 unfold dL;rw[P7 D hD k hk]
theorem x9 (D):(asm D).length=(body D).length+8:=by
 unfold asm;rw[La,bK.jh]
 rfl
theorem P9 (D) (hD:tot D 4≤140737488352000):pe (asm D)=0:=by
 obtain⟨h5,h4⟩:=YP D hD;have ha5:dL (asm D) 5=(body D).length:=by unfold dL;rw[h5]
 have hl:=x9 D;have hc:iP (dL (asm D)) 4=iP (off D) 4:=lF 4 fun i hi=>P8 D hD i om
 have ht:(asm D).take ((body D).length+4)=bK.app (body D):=by
  unfold asm;rw[←bK.jh,List.take_left]
 have hd:(asm D).drop ((body D).length+4)=tail:=by
  unfold asm;rw[←bK.jh,Du]
 have hlt:lit tail tail=0:=Ah;unfold pe;rw[h5,h4,hc,ha5,ht,hd,hlt,bK.Kq,hl];simp only[ne_eq,BP,Ee];rw[Ng om,Ng sm,Ng om]
theorem EH (D) (hD:tot D 4≤140737488352000) (k) (hk:k<4):mG (asm D) k=D k:=by
 unfold mG;rw[Ps0 (P9 D hD)];exact(P6 D hD k hk (P7 D hD k om)).2
end Ly
end
end
section
section
open Go.RowKit
theorem Vi.Iw (l):∀(i x y k),Vi.fH l i x=(y,k,0)→∃z,y=x+z*128^i∧i<k∧l.take (k-i)=Vi.enc z∧k-i≤l.length∧(0<i→0<z):=by
 induction l with
 |nil=>intro i x y k h;simp[Vi.fH]at h
 |cons c l ih=>
  intro i x y k h;rw[Vi.bV]at h;have hc:=c.toNat_lt;split at h
  ·simp at h
  ·split at h
   ·simp at h
   ·rename_i h2
    split at h
    ·rename_i h3
     simp only[az]at h;obtain⟨rfl,rfl,_⟩:=h;refine⟨c.toNat,by rw[kQ h3],om,?_,sm,fun hi=>om⟩;rw[Vi.xK h3,show i+1-i=1 from om];simp
    ·rename_i h3
     obtain⟨z,h4,h5,h6,h7,h8⟩:=ih _ _ _ _ h;have hz:=h8 om;have e1:(c.toNat%128+z*128)%128=c.toNat%128:=om;have e2:(c.toNat%128+z*128)/128=z:=om;refine⟨c.toNat%128+z*128,?_,om,?_,by simp;omega,fun _=>om⟩
     ·rw[h4,Df,Nat.add_mul,Nat.mul_assoc z 128,Ej 128,fE]
     ·rw[Vi.Ig om,e1,e2,←h6,show k-i=(k-(i+1))+1 from om,Cb]
      congr 1
      rw[show c.toNat%128+128=c.toNat from om];simp
theorem Vi.wP {l} {a x:Nat} {t} (h:Vi.get l (a:Int)=(x,t,0)):(l.drop a).take (t.toNat-a)=Vi.enc x∧a<t.toNat∧t.toNat≤l.length:=by
 have hto:=Vi.iY h;refine⟨?_,om,om⟩;unfold Vi.get at h;split at h
 ·simp at h
 ·simp only at h;split at h
  ·rename_i h0
   rw[kg]at h h0;obtain⟨r,hr⟩:∃r,Vi.fH (l.drop a) 0 0=r:=⟨_,rfl⟩
   rw[hr]at h h0;obtain⟨y,k,er⟩:=r;simp only at h0;subst h0;simp only[az,BI]at h;obtain⟨z,h4,h5,h6,h7,h8⟩:=Vi.Iw _ _ _ _ _ hr;have e:t.toNat-a=k:=om;rw[e];rw[Nat.sub_zero]at h6;rw[h6]
   congr 1
   simp at h4;omega
  ·rename_i h0
   simp only[az]at h;exact absurd h.2.2 h0
end
end
section
section
open Go.RowKit
theorem Vi.EI (m):∀(l) (i x),(Vi.fH l i x).2.2≠3→Vi.fH (l++m) i x=Vi.fH l i x
 |[],_,_,h=>absurd rfl h
 |c::l,i,x,h=>by
  rw[Vi.bV]at h;rw[Ba,Vi.bV,Vi.bV];by_cases h1:i=9∧1<c.toNat
  ·rw[Ps0 h1,Ps0 h1]
  ·rw[Ng h1]at h⊢;rw[Ng h1];by_cases h2:c.toNat=0∧0<i
   ·rw[Ps0 h2,Ps0 h2]
   ·rw[Ng h2]at h⊢;rw[Ng h2];by_cases h3:c.toNat<128
    ·rw[Ps0 h3,Ps0 h3]
    ·rw[Ng h3]at h⊢;rw[Ng h3];exact Vi.EI m l _ _ h
theorem Vi.Ky (m l:List UInt8) (a) (ha:a≤l.length) (h:(Vi.get l (a:Int)).2.2≠3):Vi.get (l++m) (a:Int)=Vi.get l (a:Int):=by
 have c1:¬((a:Int)<0∨(l.length:Int)< (a:Int)):=om;have c2:¬((a:Int)<0∨((l++m).length:Int)< (a:Int)):=by rw[La];omega
 unfold Vi.get at h⊢;rw[Ng c1]at h;rw[Ng c1,Ng c2];simp only[kg]at h⊢;have h4:(Vi.fH (l.drop a) 0 0).2.2≠3:=fun h3=>by
  rw[Ng om]at h;exact h h3
 rw[List.drop_append_of_le_length ha,Vi.EI m (l.drop a) 0 0 h4]
theorem UO (l m:List UInt8) (a k) (h:a+k≤l.length):((l++m).drop a).take k=(l.drop a).take k:=by
 rw[List.drop_append_of_le_length om,List.take_append_of_le_length (by rw[lZ];omega)]
end
end
end Go.Proofs.YtjcpmfphnodaaaaGreatDoor
