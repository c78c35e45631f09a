/- Part 6. -/
import Derived.Test.YtjcpmfphnodaaaaGreatDoorZTAE
namespace Go.Proofs.YtjcpmfphnodaaaaGreatDoor
set_option maxRecDepth 100000
set_option maxHeartbeats 0
open _root_.Go.Proofs.Tryz
section
open Go.RowKit Go.Shelf
theorem Ly.Ea (l) (a) (s:List UInt8) (e) (ha:a≤l.length) (h:e=0→s.length≤l.length-a):
  (Wr.take l a e ((min (l.drop a).length s.length:Nat):Int)).2=if e=0 then(a+s.length,0)else(a,e):=by
 unfold Wr.take;by_cases he:e=0
 ·have h1:=h he;have hm:min (l.drop a).length s.length=s.length:=by rw[jX];omega
  rw[Ng (by simpa using he),hm,Ng om,Ng om,Ps0 he,lS]
 ·rw[Ps0 he,Ng he]
theorem Ly.je {b s} (h:Ly.lit b s=0):s.length≤b.length:=by
 unfold Ly.lit at h;split at h
 ·omega
 ·split at h
  ·omega
  ·omega
theorem Ly.adU (l) (h:l.length≤140737488354000) (k):(Ly.S l k).1≤l.length:=by
 induction k with
 |zero=>
  show Ly.a0 l≤_;unfold Ly.a0;split
  ·rename_i h0
   have:=Ly.je h0;exact this
  ·omega
 |succ k ih=>
  rw[Ly.jG];generalize Ly.S l k=s at*;obtain⟨a,e⟩:=s;unfold Wr.jb;simp only at ih⊢;by_cases he:e=0
  ·subst he;rw[Ng sm];by_cases h0:(Wr.aC l a (UInt8.ofNat (1+k))).2.2=0
   ·rw[Ng (by simpa using h0)];have:=Wr.qz h0;simp only;omega
   ·rw[Ps0 h0];exact ih
  ·rw[Ps0 he];exact ih
theorem wH (A) (n c) (l) (w) (hv:aN w w.heap.size A n c l) (hnb:n≤140737488353000) (ht:eD w):
  Calls prog 64 #[.slice A n c] w fun r w'=>∃V M,r= .returned (.tuple #[.agg (Ly.jd V),.agg (Ly.jF M),.int .i64 (Ly.pe l)])∧aV w' w.heap.size V (Ly.gH l)∧(∀i,i<5→M i=Ly.TD l i)∧Below w.heap.size w w':=by
 have hlc:=hv.1;have hcm:=hv.2.1;unfold maxLen at hcm;have hn:=Aj hv.len;obtain⟨W4,Gs⟩:∃W4,W4=(((w.alloc (.cells #[.slice none 0 0,.slice none 0 0,.slice none 0 0,.slice none 0 0] 76)).alloc (.cells #[.int .i64 0,.int .i64 0,.int .i64 0,.int .i64 0,.int .i64 0] 128)).alloc
  (.cells #[.slice none 0 0,.slice none 0 0,.slice none 0 0,.slice none 0 0] 76)).alloc (.cells #[.int .i64 0,.int .i64 0,.int .i64 0,.int .i64 0,.int .i64 0] 128):=⟨_,rfl⟩
 have hz4:W4.heap.size=w.heap.size+4:=by rw[Gs];simp
 have hb4:Below w.heap.size w W4:=by rw[Gs];exact((((Ae _ w).alloc Ai _).alloc sm _).alloc (by simp;omega) _).alloc (by simp;omega) _
 have hg2:W4.heap[w.heap.size]? =some (.cells (Ly.jd fun _=> .slice none 0 0) 76 (0,0)):=by
  rw[Gs];rw[heap_alloc_old _ _ (by simp;omega),heap_alloc_old _ _ (by simp;omega),heap_alloc_old _ _ sm,Av];rfl
 have hg3:W4.heap[w.heap.size+1]? =some (.cells (Ly.jF fun _=>0) 128 (0,0)):=by
  rw[Gs];rw[heap_alloc_old _ _ sm,heap_alloc_old _ _ sm];have h:=Av (w.alloc (.cells #[.slice none 0 0,.slice none 0 0,.slice none 0 0,.slice none 0 0] 76)) (.cells #[.int .i64 0,.int .i64 0,.int .i64 0,.int .i64 0,.int .i64 0] 128);rw[AO]at h;exact h
 have hg5:W4.heap[w.heap.size+1+1]? =some (.cells (Ly.jd fun _=> .slice none 0 0) 76 (0,0)):=by
  rw[Gs];rw[heap_alloc_old _ _ sm];have h:=Av ((w.alloc (.cells #[.slice none 0 0,.slice none 0 0,.slice none 0 0,.slice none 0 0] 76)).alloc (.cells #[.int .i64 0,.int .i64 0,.int .i64 0,.int .i64 0,.int .i64 0] 128)) (.cells #[.slice none 0 0,.slice none 0 0,.slice none 0 0,.slice none 0 0] 76);rw[AO,AO]at h;exact h
 have V9:W4.heap[w.heap.size+1+1+1]? =some (.cells (Ly.jF (Ly.mk (Ly.bG l) 0)) 128 (0,0)):=by
  rw[Gs];have h:=Av (((w.alloc (.cells #[.slice none 0 0,.slice none 0 0,.slice none 0 0,.slice none 0 0] 76)).alloc (.cells #[.int .i64 0,.int .i64 0,.int .i64 0,.int .i64 0,.int .i64 0] 128)).alloc (.cells #[.slice none 0 0,.slice none 0 0,.slice none 0 0,.slice none 0 0] 76)) (.cells #[.int .i64 0,.int .i64 0,.int .i64 0,.int .i64 0,.int .i64 0] 128);rw[AO,AO,AO]at h;exact h
 have HW:=Aj Gs.symm;have Z4:=Aj hz4;have B4:=Aj hb4;have V4:=Aj (hv.below hb4);have T4:=Aj (ht.below hb4);have G2:=Aj hg2;have G3:=Aj hg3;have G5:=Aj hg5;have G6:=Aj V9;have hgt:=ht.lt;have hSl:=Aj (Ly.adU l (by have:=hn.1;omega));have hTL:=Aj (Ly.Ea l 0 Ly.head (Ly.lit l Ly.head) (bE _) (fun h=>by have:=Ly.je h;omega));rw[BO]at hTL;have aaA:w.heap.size≤W4.heap.size:=om;clear hv ht Gs hz4 hb4 hg2 hg3 hg5 V9;go_enter func64,ntmps64;go_upto_region 3 with fail;rw[HW.1];have hgs:Kept (W4.heap.size=w.heap.size+1+1+1+1):=⟨by rw[Z4.1]⟩
 generalize V9:w.heap.size+1+1+1=g6 at*;generalize hg5:w.heap.size+1+1=g5 at*;generalize hg3:w.heap.size+1=g3 at*;generalize hg2:w.heap.size=g2 at*;have agu:g2<g3:=om;have agv:g3<g5:=om;have agw:g5<g6:=om;have V5:g6<W4.heap.size:=by rw[hgs.1];omega
 have E2:=Aj hg2;clear V9 hg5 hg3 hgs Z4 hg2;go_upto_region 5 with(first
  |(go_at_call 110;refine(bW A n c g2 l W4 V4.1 aaA om).mono ?_;rintro r w5 ⟨p,rfl,hp1,hp2,SH,hb5⟩;have r5:=Aj SH;have b5:=Aj hb5;have z5:=hb5.size;clear SH hb5)
  |(go_at_call 111;refine(kK p 0 l 0 A n c g2 l ⟨#[84,83,66,75,1]⟩ w5 (Ly.lit l Ly.head) rfl r5.1 (V4.1.below (b5.1.mono aaA)) Ah).mono ?_;rintro r w6 ⟨rfl,hr6,V9⟩;have r6:=Aj hr6;have gr6:=Aj V9;have z6:=V9.size;clear hr6 V9))
 have r6':aK w6 p l (Wr.take l 0 (Ly.lit l Ly.head) ((min l.length Ly.head.length:Nat):Int)).2.1 (Wr.take l 0 (Ly.lit l Ly.head) ((min l.length Ly.head.length:Nat):Int)).2.2:=r6.1;rw[hTL.1]at r6';have hp0:W4.heap.size≤p:=hp1;have R6:Kept (aK w6 p l (Ly.S l 0).1 (Ly.S l 0).2):=⟨by
  have h:=r6';show aK w6 p l (Ly.a0 l) (Ly.lit l Ly.head);unfold Ly.a0;by_cases h0:Ly.lit l Ly.head=0
  ·rw[Ps0 h0]at h⊢;rw[h0];exact h
  ·rw[Ng h0]at h⊢;exact h⟩
 have B6:Kept (Below W4.heap.size W4 w6):=⟨b5.1.trans (zY gr6.1 hp0 z5)⟩
 have F6:Kept (aV w6 w6.heap.size (fun _=> .slice none 0 0) (Ly.gate 0 (Ly.sec l))):=⟨fun i hi=>⟨none,0,0,rfl,ah.nil _ _⟩⟩
 have H5:Kept (w6.heap[g5]? =some (.cells (Ly.jd fun _=> .slice none 0 0) 76 (0,0))):=⟨(B6.1.block g5 om).trans G5.1⟩
 have H6:Kept (w6.heap[g6]? =some (.cells (Ly.jF (Ly.mk (Ly.bG l) 0)) 128 (0,0))):=⟨(B6.1.block g6 om).trans G6.1⟩
 have TE:p<w6.heap.size:=om;have aiP:W4.heap.size≤w6.heap.size:=B6.1.size;have D4:Kept (Below g5 W4 w6):=⟨B6.1.mono om⟩
 clear r6' r6 r5 b5 gr6 B6 G5 G6 hTL;generalize aaB:w6.heap.size=base at*;have hzb:base≤w6.heap.size:=by rw[aaB];exact Nr _
 clear aaB;go_wp2;go_loopw [17] (fun i wr=>∃k:Nat,k≤4∧i= .int .i64 k∧aK wr p l (Ly.S l k).1 (Ly.S l k).2∧wr.heap[g6]? =some (.cells (Ly.jF (Ly.mk (Ly.bG l) k)) 128 (0,0))∧
  (∃V,wr.heap[g5]? =some (.cells (Ly.jd V) 76 (0,0))∧aV wr base V (Ly.gate k (Ly.sec l)))∧Below g5 W4 wr∧base≤wr.heap.size) (fun i _=>4-(intOf i).toNat)
 case atStart=>exact⟨0,om,rfl,R6.1,H6.1,⟨_,H5.1,F6.1⟩,D4.1,hzb⟩
 case round=>
  clear R6 H6 H5 F6 D4;obtain⟨k,hk,rfl,hr,ha,⟨V,hs,hf⟩,hb,hz⟩:=hrel;by_cases hlt:k<4
  ·have hck:=(Co wr g6 k _ _ _ ha).trans (Ly.aB _ k om);have hfk:=Fr wr g6 k _ _ ha;have hak:Ly.bG l k=(Ly.S l k).1:=rfl;have hset:=Ly.xX (Ly.bG l) k om;have hsu:=Ly.jG l k;have hse:=Ly.oW l k;have Oz:=Ly.Ox k om;rw[hak]at hset;have hSk:=hSl.1 k;obtain⟨s,hSs⟩:∃s,Ly.S l k=s:=⟨_,rfl⟩
   rw[hSs]at hr hset hsu hse hSk;obtain⟨a,e⟩:=s;simp only at hr hset hsu hse hSk;have rD:g6≠p:=om;have OG:g5≠p:=om;have hr1:=hr.store ha (TC.jF _) rD k (.int .i64 (a:Int));have ha1:(wr.setCell ⟨g6,k,none⟩ (.int .i64 (a:Int))).heap[g6]? =some (.cells (Ly.jF (Ly.mk (Ly.bG l) (k+1))) 128 (0,0)):=by rw[Ag wr g6 k _ _ _ ha,hset]
   have hs1:=(AF wr ⟨g6,k,none⟩ (.int .i64 (a:Int)) g5 (by show g5≠g6;omega)).trans hs;have hf1:=hf.grown (ag wr ⟨g6,k,none⟩ (.int .i64 (a:Int))) (by show g6<base;omega);have hb1:Below g5 W4 (wr.setCell ⟨g6,k,none⟩ (.int .i64 (a:Int))):=hb.setCell (p:=⟨g6,k,none⟩) (by show g5≤g6;omega) _;have hz1:(wr.setCell ⟨g6,k,none⟩ (.int .i64 (a:Int))).heap.size=wr.heap.size:=sm;have ht1:eD (wr.setCell ⟨g6,k,none⟩ (.int .i64 (a:Int))):=T4.1.base (base:=g5) om hb1;have HS:=qA p a l e (UInt8.ofNat (1+k)) _ hr1 ht1;rw[Oz,←hse,←hsu]at HS;rw[hz1]at HS;have HR:=Aj hr;have ZM:=Aj HS;have A1:=Aj ha1;have S1:=Aj hs1;have F1:=Aj hf1;have C1:=Aj hb1;have Z1:=Aj hz1;have adW:Kept (∀W,aV W base V (Ly.gate k (Ly.sec l))→∀A n c,ah W base A n c (Ly.sec l k)→aV W base (fun i=>if i=k then .slice A n c else V i) (Ly.gate (k+1) (Ly.sec l))):=⟨fun W h A n c ho=>h.put ho⟩
   clear hr hr1 ha ha1 hs hs1 hf hf1 hb hb1 hz1 ht1 HS hSs hset hsu hse hak Oz;go_wp2_with (first
    |(go_at_call 112;refine(iN p a l e wr HR.1).mono ?_;rintro r w7 ⟨rfl,rfl⟩)
    |(go_at_call 113;refine ZM.1.mono ?_;rintro r w8 ⟨A3,n3,c3,rfl,ho8,JS,oD⟩;have Wh:=Aj ((oD.block g6 (by rw[Z1.1];omega) (fun e=>rD (Oj e))).trans A1.1);have s8:=Aj ((oD.block g5 (by rw[Z1.1];omega) (fun e=>OG (Oj e))).trans S1.1);have f8:=Aj (adW.1 _ (F1.1.grown oD TE) A3 n3 c3 (ah.base ho8 hz));have b8:=Aj (C1.1.grown oD (by rw[Z1.1];omega) (fun g e=>by cases e;omega));have hfm:=Aj ((F1.1.grown oD TE).form);have z8:=oD.size;rw[Z1.1]at z8;have c8:=(Co w8 g5 k _ _ _ s8.1).trans (Ly.bD V k hlt);have q8:=Fr w8 g5 k _ _ s8.1;have r8:=Aj JS;clear ho8 JS oD))
   go_roundw
   case rel=>
    refine⟨k+1,om,by go_num,r8.1.store s8.1 (TC.jd V hfm.1) OG k _,(AF w8 ⟨g5,k,none⟩ _ g6 (by show g6≠g5;omega)).trans Wh.1,⟨fun i=>if i=k then .slice A3 n3 c3 else V i,?_,f8.1.grown (ag w8 ⟨g5,k,none⟩ _) (by show g5<base;omega)⟩,b8.1.setCell (p:=⟨g5,k,none⟩) Ai _,by simp;omega⟩;rw[Ag w8 g5 k _ _ _ s8.1,Ly.Tz V k _ hlt]
   case measure=>simp[intOf];omega
  ·obtain rfl:k=4:=by omega
   have hck:=(Co wr g6 4 _ _ _ ha).trans (Ly.aB _ 4 om);have hfk:=Fr wr g6 4 _ _ ha;have hset:=Ly.xX (Ly.bG l) 4 om;have hsu:=Ly.jG l 4;have hse:=Ly.oW l 4;have hak:Ly.bG l 4=(Ly.S l 4).1:=rfl;rw[hak]at hset;have hSk:=hSl.1 4;have hS5:=hSl.1 5;obtain⟨s,hSs⟩:∃s,Ly.S l 4=s:=⟨_,rfl⟩
   rw[hSs]at hr hset hsu hse hSk;obtain⟨a,e⟩:=s;simp only at hr hset hsu hse hSk;have rD:g6≠p:=om;have OG:g5≠p:=om;have hr1:=hr.store ha (TC.jF _) rD 4 (.int .i64 (a:Int));have ha1:(wr.setCell ⟨g6,4,none⟩ (.int .i64 (a:Int))).heap[g6]? =some (.cells (Ly.jF (Ly.mk (Ly.bG l) 5)) 128 (0,0)):=by rw[Ag wr g6 4 _ _ _ ha,hset]
   have hs1:=(AF wr ⟨g6,4,none⟩ (.int .i64 (a:Int)) g5 (by show g5≠g6;omega)).trans hs;have hf1:=hf.grown (ag wr ⟨g6,4,none⟩ (.int .i64 (a:Int))) (by show g6<base;omega);have hb1:Below g5 W4 (wr.setCell ⟨g6,4,none⟩ (.int .i64 (a:Int))):=hb.setCell (p:=⟨g6,4,none⟩) (by show g5≤g6;omega) _;have hz1:(wr.setCell ⟨g6,4,none⟩ (.int .i64 (a:Int))).heap.size=wr.heap.size:=sm;have ht1:eD (wr.setCell ⟨g6,4,none⟩ (.int .i64 (a:Int))):=T4.1.base (base:=g5) om hb1;have HS:=qA p a l e 5 _ hr1 ht1;rw[show(5:UInt8)=UInt8.ofNat (1+4)from rfl,←hse,←hsu,hz1]at HS;have ZM:Kept (Calls prog 113 #[.pointer (some ⟨p,0,none⟩),.int .u8 5] (wr.setCell ⟨g6,4,none⟩ (.int .i64 (a:Int))) fun r w'=>∃A3 n3 c3,r= .returned (.slice A3 n3 c3)∧ah w' wr.heap.size A3 n3 c3 (Ly.sec l 4)∧aK w' p l (Ly.S l 5).1 (Ly.S l 5).2∧(wr.setCell ⟨g6,4,none⟩ (.int .i64 (a:Int))).grownBy w' (some p)):=⟨HS⟩
   have HR:=Aj hr;have A1:=Aj ha1;have S1:=Aj hs1;have F1:=Aj hf1;have C1:=Aj hb1;have Z1:=Aj hz1;clear hr hr1 ha ha1 hs hs1 hf hf1 hb hb1 hz1 ht1 HS hSs hset hsu hse hak;go_upto_region 13 with(first
    |(go_at_call 112;refine(iN p a l e wr HR.1).mono ?_;rintro r w7 ⟨rfl,rfl⟩)
    |(go_at_call 113;refine ZM.1.mono ?_;rintro r w8 ⟨A3,n3,c3,rfl,ho8,JS,oD⟩;have Wh:=Aj ((oD.block g6 (by rw[Z1.1];omega) (fun e=>rD (Oj e))).trans A1.1);have s8:=Aj ((oD.block g5 (by rw[Z1.1];omega) (fun e=>OG (Oj e))).trans S1.1);have f8:=Aj (F1.1.grown oD TE);have b8:=Aj (C1.1.grown oD (by rw[Z1.1];omega) (fun g e=>by cases e;omega));have z8:=oD.size;rw[Z1.1]at z8;have o8:=Aj ho8;have r8:=Aj JS;clear ho8 JS oD))
   clear HR ZM A1 S1 F1 C1 Z1 hck hfk;have hm:∀i,Ly.mk (Ly.bG l) 5 i≤140737488355328:=fun i=>by
    unfold Ly.mk;split
    ·have h1:=hSl.1 i;have h2:=hn.1;show(Ly.S l i).1≤_;omega
    ·omega
   have hcg:Ly.gJ (Ly.mk (Ly.bG l) 5) 4=Ly.gJ (Ly.bG l) 4:=Ly.jc 4 fun i hi=>by unfold Ly.mk;rw[Ps0 om]
   have hcp:0< (Ly.gJ (Ly.bG l) 4).length:=by rw[Ly.kJ,La];have:=Vi.bO (Ly.bG l 3);omega
   have HC:=nH (Ly.mk (Ly.bG l) 5) w8 hm;rw[hcg]at HC;have k0:=(Co w8 g6 0 _ _ _ Wh.1).trans (Ly.aB _ 0 om);have k1:=(Co w8 g6 1 _ _ _ Wh.1).trans (Ly.aB _ 1 om);have k2:=(Co w8 g6 2 _ _ _ Wh.1).trans (Ly.aB _ 2 om);have k3:=(Co w8 g6 3 _ _ _ Wh.1).trans (Ly.aB _ 3 om);have k4:=(Co w8 g6 4 _ _ _ Wh.1).trans (Ly.aB _ 4 om);unfold Ly.jF at HC;have HC':=Aj HC;have hpe:Ly.pe l=if(Ly.S l 5).2≠0 then(Ly.S l 5).2 else if Ly.sec l 4≠Ly.gJ (Ly.bG l) 4 then 13 else if l.length-(Ly.S l 5).1<4 then 3 else if aL.bN (l.take ((Ly.S l 5).1+4))=false then 12
    else if Ly.lit (l.drop ((Ly.S l 5).1+4)) Ly.tail≠0 then Ly.lit (l.drop ((Ly.S l 5).1+4)) Ly.tail else if(Ly.S l 5).1+8<l.length then 4 else 0:=rfl
   have hsn:(Ly.S l 5).2≠0→Ly.sec l 4=[]:=fun h=>by
    rw[Ly.jG]at h;rw[Ly.oW];revert h;unfold Wr.jb;by_cases he:(Ly.S l 4).2≠0
    ·rw[Ps0 he];intro _;rfl
    ·rw[Ng he];by_cases h0:(Wr.aC l (Ly.S l 4).1 (UInt8.ofNat (1+4))).2.2≠0
     ·rw[Ps0 h0];intro _;rfl
     ·rw[Ng h0];intro h;exact absurd rfl h
   obtain⟨s5,hs5⟩:∃s,Ly.S l 5=s:=⟨_,rfl⟩
   rw[hs5]at r8 hpe hsn hS5;obtain⟨a5,e5⟩:=s5;simp only at r8 hpe hsn hS5;clear HC hm hcg hs5;have OI:Kept (∀i,i<5→Ly.mk (Ly.bG l) 5 i=Ly.bG l i):=⟨fun i hi=>by unfold Ly.mk;rw[Ps0 hi]⟩
   generalize Ly.mk (Ly.bG l) 5=m5 at*;generalize hDD:Ly.sec l 4=D at*;generalize hCC:Ly.gJ (Ly.bG l) 4=C at*;have hlen:=hn.1;have Vt0:Kept (∀W,Below g2 W4 W→∀k,k≤n→aN W g2 A k c (l.take k)):=⟨fun W h k hk=>(V4.1.below h).take hk⟩
   have Vd0:Kept (∀W,Below g2 W4 W→∀k,k≤n→c≠k→aN W g2 (A.map (·.add k)) (n-k) (c-k) (l.drop k)):=⟨fun W h k hk hc=>by have h1:=(V4.1.below h).drop hk;rw[Ng hc]at h1;exact h1⟩
   have JV:(⟨#[75,66,83,84]⟩:ByteArray).data.toList=Ly.tail:=rfl;have h4t:Ly.tail.length=4:=rfl;have mq:∀x:Int,x≠0→(x !=0)=true∧(x==0)=false:=fun x h=>⟨by simpa using h,by simpa using h⟩
   have htk:∀(a:Nat) (e m:Int),e≠0→Wr.take l a e m=([],a,e):=fun a e m h=>by unfold Wr.take;rw[Ps0 h]
   have hfn:∀(a:Nat) (e:Int),e≠0→Wr.fin l a e=e:=fun a e h=>by unfold Wr.fin;rw[Ps0 h]
   obtain⟨e6,T,n4,a7,e7,e8,e9,a10,e10,er,TH,TI,h7n,ZN,wD,XI,aaF,SHAPE⟩:∃(e6:Int) (T:List UInt8) (n4 a7:Nat) (e7 e8 e9:Int) (a10:Nat) (e10 er:Int),
     Wr.take l a5 e6 4=(T,a7,e7)∧T.length=n4∧a7≤n∧e9=(if e8=0 then Ly.lit (l.drop a7) (⟨#[75,66,83,84]⟩:ByteArray).data.toList else e8)∧(Wr.take l a7 e9 ((min (l.drop a7).length (⟨#[75,66,83,84]⟩:ByteArray).data.toList.length:Nat):Int)).2=(a10,e10)∧Wr.fin l a10 e10=er∧Ly.pe l=er∧
      (((((D==C)=false∧(if e5=0 then 13 else e5)=e6∧n4=0∧e8=e7)∨((D==C)=true∧e6=e5∧n4=0∧e8=e7)∨((D==C)=true∧e6=e5∧n4=4∧aL.bN (l.take a7)=false∧(if e7=0 then 12 else e7)=e8)∨((D==C)=true∧e6=e5∧n4=4∧aL.bN (l.take a7)=true∧e8=e7))∧(er !=0)=true∧(er==0)=false)∨((D==C)=true∧e6=e5∧n4=4∧aL.bN (l.take a7)=true∧e8=e7∧er=0∧c≠a7)):=by
    by_cases hDC:D=C
    ·obtain rfl:e5=0:=by
      by_cases h:e5=0
      ·exact h
      ·have h1:=hsn h;rw[hDC]at h1;rw[h1]at hcp;simp at hcp
     have hE:(D==C)=true:=by rw[hDC];simp
     have xZ:Ly.pe l=if l.length-a5<4 then 3 else if aL.bN (l.take (a5+4))=false then 12 else if Ly.lit (l.drop (a5+4)) Ly.tail≠0 then Ly.lit (l.drop (a5+4)) Ly.tail else if a5+8<l.length then 4 else 0:=by
      rw[hpe,Ng sm,Ng (by simpa using hDC)]
     by_cases hsh:l.length-a5<4
     ·exact⟨0,[],0,a5,3,3,3,a5,3,3,by unfold Wr.take;rw[Ng sm,Ng om,Ps0 om],rfl,om,by rw[Ng sm],by rw[htk _ _ _ Ah],hfn _ _ Ah,by rw[xZ,Ps0 hsh],.inl ⟨.inr (.inl ⟨hE,rfl,rfl,rfl⟩),mq _ Ah⟩⟩
     ·have TH:Wr.take l a5 0 4=((l.drop a5).take 4,a5+4,0):=by unfold Wr.take;rw[Ng sm,Ng om,Ng om];rfl
      have TI:((l.drop a5).take 4).length=4:=by rw[lQ,jX];omega
      rw[Ng hsh]at xZ;by_cases TJ:aL.bN (l.take (a5+4))=false
      ·exact⟨0,_,4,a5+4,0,12,12,a5+4,12,12,TH,TI,om,by rw[Ng sm],by rw[htk _ _ _ Ah],hfn _ _ Ah,by rw[xZ,Ps0 TJ],.inl ⟨.inr (.inr (.inl ⟨hE,rfl,rfl,TJ,by rw[Ps0 rfl]⟩)),mq _ Ah⟩⟩
      ·rw[Ng TJ]at xZ;have hck:aL.bN (l.take (a5+4))=true:=by simpa using TJ
       by_cases vE:Ly.lit (l.drop (a5+4)) Ly.tail=0
       ·have h4l:=Ly.je vE;rw[jX]at h4l;rw[Ng (by simpa using vE)]at xZ;have wD:(Wr.take l (a5+4) 0 ((min (l.drop (a5+4)).length Ly.tail.length:Nat):Int)).2=(a5+8,0):=by rw[Ly.Ea l (a5+4) Ly.tail 0 om (fun _=>om),Ps0 rfl,h4t]
        by_cases htr:a5+8<l.length
        ·exact⟨0,_,4,a5+4,0,0,0,a5+8,0,4,TH,TI,om,by rw[Ps0 rfl,JV,vE],wD,by unfold Wr.fin;rw[Ng sm,Ps0 htr],by rw[xZ,Ps0 htr],.inl ⟨.inr (.inr (.inr ⟨hE,rfl,rfl,hck,rfl⟩)),mq _ Ah⟩⟩
        ·exact⟨0,_,4,a5+4,0,0,0,a5+8,0,0,TH,TI,om,by rw[Ps0 rfl,JV,vE],wD,by unfold Wr.fin;rw[Ng sm,Ng htr],by rw[xZ,Ng htr],.inr ⟨hE,rfl,rfl,hck,rfl,rfl,om⟩⟩
       ·rw[Ps0 vE]at xZ;exact⟨0,_,4,a5+4,0,0,Ly.lit (l.drop (a5+4)) Ly.tail,a5+4,Ly.lit (l.drop (a5+4)) Ly.tail,_,TH,TI,om,by rw[Ps0 rfl,JV],by rw[htk _ _ _ vE],hfn _ _ vE,xZ,.inl ⟨.inr (.inr (.inr ⟨hE,rfl,rfl,hck,rfl⟩)),mq _ vE⟩⟩
    ·obtain⟨e6,SK⟩:∃e6,(if e5=0 then 13 else e5)=e6:=⟨_,rfl⟩
     have OJ:e6≠0:=by rw[←SK];split<;>omega
     refine⟨e6,[],0,a5,e6,e6,e6,a5,e6,e6,htk _ _ _ OJ,rfl,om,by rw[Ng OJ],by rw[htk _ _ _ OJ],hfn _ _ OJ,?_,.inl ⟨.inl ⟨by simpa using hDC,SK,rfl,rfl⟩,mq _ OJ⟩⟩;rw[hpe,←SK];by_cases h:e5=0
     ·rw[Ng (by simpa using h),Ps0 hDC,Ps0 h]
     ·rw[Ps0 h,Ng h]
   clear hpe hsn hcp JV h4t mq htk hfn;have hpe:=Aj aaF;have Vt:Kept (∀W,Below g2 W4 W→aN W g2 A a7 c (l.take a7)):=⟨fun W h=>Vt0.1 W h a7 h7n⟩
   obtain⟨SA,sn,sc,VD,CUT⟩:∃SA sn sc,Kept (∀W,Below g2 W4 W→aN W g2 SA sn sc (l.drop a7))∧((n=c∧a7=c∧SA=A∧sn=0∧sc=0)∨((a7:Int)< (c:Int)∧SA=A.map (·.add a7)∧sn=n-a7∧sc=c-a7)):=by
    by_cases hcn:c=a7
    ·refine⟨A,0,0,⟨fun W h=>?_⟩,.inl ⟨om,om,rfl,rfl,rfl⟩⟩;rw[oL om];exact Rd.nil _ _ 1 0 A (by unfold maxLen;omega)
    ·exact⟨_,_,_,⟨fun W h=>Vd0.1 W h a7 h7n hcn⟩,.inr ⟨om,rfl,rfl,rfl⟩⟩
   have i1:(a7:Int)≤(n:Int):=om;have i3:(a7:Int)≤(c:Int):=om;clear hlen Vt0 Vd0 aaF h7n;replace TH:=Aj TH;replace TI:=Aj TI;replace ZN:=Aj ZN;replace wD:=Aj wD;replace XI:=Aj XI;rcases CUT with⟨rfl,rfl,rfl,rfl,rfl⟩|⟨i2,rfl,rfl,rfl⟩
   all_goals
    rcases SHAPE with⟨⟨hE,SK,rfl,rfl⟩|⟨hE,rfl,rfl,rfl⟩|⟨hE,rfl,rfl,hck,TK⟩|⟨hE,rfl,rfl,hck,rfl⟩,hen,wG⟩|⟨hE,rfl,rfl,hck,rfl,rfl,hco⟩
    all_goals
     replace hE:=Aj hE
     try replace SK:=Aj SK
     try replace TK:=Aj TK
     try replace hck:=Aj hck
     try exact absurd rfl hco
   all_goals
    go_upto_region 20 with(first
     |(go_at_call 90;refine HC'.1.mono ?_;rintro r w9 ⟨A4,n4,c4,rfl,ho4,hb4⟩;have ar9:=Aj ((hb4.block g6 om).trans Wh.1);have s9:=Aj ((hb4.block g5 om).trans s8.1);have f9:=Aj (f8.1.below hb4);have b9:=Aj (b8.1.trans (hb4.mono om));have z9:=Lt z8 hb4.size;have r9:=Aj (r8.1.below hb4 om);have q9:=Aj (ah.keep o8.1 hb4).rd;have t9:=Aj ho4.rd;clear ho4 hb4 k0 k1 k2 k3 k4)
     |(go_at_call 18;refine(sD _ _ _ _ _ _ D C _ w9 _ _ q9.1 t9.1 hE.1).mono ?_;rintro r JW ⟨rfl,rfl⟩;clear q9 t9)
     |(go_at_call 114;refine(bU p _ l _ 13 w9 r9.1).mono ?_;rintro r JW ⟨rfl,XJ,Mc⟩;rw[SK.1]at XJ;have aaH:=Aj ((Mc.block g6 om (fun e=>rD (Oj e))).trans ar9.1);have s10:=Aj ((Mc.block g5 om (fun e=>OG (Oj e))).trans s9.1);have f10:=Aj (f9.1.grown Mc TE);have b10:=Aj (b9.1.grown Mc om (fun g e=>by cases e;omega));have z10:=Lt z9 Mc.size;have r10:=Aj XJ;clear XJ Mc r9 ar9 s9 f9 b9)
     |(go_at_call 115;refine(fZ p _ l _ 4 JW r10.1 om om).mono ?_;rintro r GN ⟨A11,n11,c11,rfl,GQ,x8,oZ⟩;rw[TH.1]at GQ x8;have OP:=GQ.len;simp only at x8;have OQ:=Aj ((oZ.block g6 om (fun e=>rD (Oj e))).trans aaH.1);have s11:=Aj ((oZ.block g5 om (fun e=>OG (Oj e))).trans s10.1);have f11:=Aj (f10.1.grown oZ TE);have b11:=Aj (b10.1.grown oZ om (fun g e=>by cases e;omega));have z11:=Lt z10 oZ.size;have ZO:=Aj x8;obtain rfl:=OP.trans TI.1;clear GQ x8 oZ OP r10 aaH s10 f10 b10)
     |(go_at_call 115;refine(fZ p _ l _ 4 w9 r9.1 om om).mono ?_;rintro r GN ⟨A11,n11,c11,rfl,GQ,x8,oZ⟩;rw[TH.1]at GQ x8;have OP:=GQ.len;simp only at x8;have OQ:=Aj ((oZ.block g6 om (fun e=>rD (Oj e))).trans ar9.1);have s11:=Aj ((oZ.block g5 om (fun e=>OG (Oj e))).trans s9.1);have f11:=Aj (f9.1.grown oZ TE);have b11:=Aj (b9.1.grown oZ om (fun g e=>by cases e;omega));have z11:=Lt z9 oZ.size;have ZO:=Aj x8;obtain rfl:=OP.trans TI.1;clear GQ x8 oZ OP r9 ar9 s9 f9 b9)
     |(go_at_call 112;refine(iN p _ l _ GN ZO.1).mono ?_;rintro r OW ⟨rfl,rfl⟩)
     |(go_at_call 116;refine(wF _ _ _ _ GN g2 (Vt.1 _ (b11.1.mono om)) (T4.1.base (base:=g5) om b11.1)).mono ?_;rintro r OW ⟨rfl,rfl⟩;rw[hck.1])
     |(go_at_call 114;refine(bU p _ l _ 12 GN ZO.1).mono ?_;rintro r OX ⟨rfl,XL,qR⟩;rw[TK.1]at XL;have aaI:=Aj ((qR.block g6 om (fun e=>rD (Oj e))).trans OQ.1);have s13:=Aj ((qR.block g5 om (fun e=>OG (Oj e))).trans s11.1);have f13:=Aj (f11.1.grown qR TE);have b13:=Aj (b11.1.grown qR om (fun g e=>by cases e;omega));have z13:=Lt z11 qR.size;have r13:=Aj XL;clear XL qR ZO OQ s11 f11 b11)
     |(go_at_call 112;refine(iN p _ l _ OX r13.1).mono ?_;rintro r w14 ⟨rfl,rfl⟩)
     |(go_at_call 111;refine(kK p _ l _ _ _ _ g2 _ ⟨#[75,66,83,84]⟩ OX e9 ZN.1 r13.1 (VD.1 _ (b13.1.mono om)) Ah).mono ?_;rintro r gQ ⟨rfl,x9,o9⟩;rw[wD.1]at x9;simp only at x9;have Md:=Aj ((o9.block g6 om (fun e=>rD (Oj e))).trans aaI.1);have s15:=Aj ((o9.block g5 om (fun e=>OG (Oj e))).trans s13.1);have f15:=Aj (f13.1.grown o9 TE);have b15:=Aj (b13.1.grown o9 om (fun g e=>by cases e;omega));have z15:=Lt z13 o9.size;have TN:=Aj x9;clear x9 o9 r13 aaI s13 f13 b13)
     |(go_at_call 111;refine(kK p _ l _ _ _ _ g2 _ ⟨#[75,66,83,84]⟩ GN e9 ZN.1 ZO.1 (VD.1 _ (b11.1.mono om)) Ah).mono ?_;rintro r gQ ⟨rfl,x9,o9⟩;rw[wD.1]at x9;simp only at x9;have Md:=Aj ((o9.block g6 om (fun e=>rD (Oj e))).trans OQ.1);have s15:=Aj ((o9.block g5 om (fun e=>OG (Oj e))).trans s11.1);have f15:=Aj (f11.1.grown o9 TE);have b15:=Aj (b11.1.grown o9 om (fun g e=>by cases e;omega));have z15:=Lt z11 o9.size;have TN:=Aj x9;clear x9 o9 ZO OQ s11 f11 b11)
     |(go_at_call 117;refine(fQ p _ l _ gQ TN.1).mono ?_;rintro r w16 ⟨rfl,rfl⟩;rw[XI.1]))
   all_goals first
    |(have hnz:er≠0:=(by simpa using wG);have mr:=(b15.1.block g2 om).trans G2.1;have hg3':=(b15.1.block g3 om).trans G3.1;have x0:=fun k=>Fr gQ g2 k _ _ mr;have x1:=fun k=>Fr gQ g3 k _ _ hg3';have y0:=(Co gQ g2 0 _ _ _ mr).trans (Ly.bD _ 0 om);have y1:=(Co gQ g2 1 _ _ _ mr).trans (Ly.bD _ 1 om);have y2:=(Co gQ g2 2 _ _ _ mr).trans (Ly.bD _ 2 om);have y3:=(Co gQ g2 3 _ _ _ mr).trans (Ly.bD _ 3 om);have u0:=(Co gQ g3 0 _ _ _ hg3').trans (Ly.aB _ 0 om);have u1:=(Co gQ g3 1 _ _ _ hg3').trans (Ly.aB _ 1 om);have u2:=(Co gQ g3 2 _ _ _ hg3').trans (Ly.aB _ 2 om);have u3:=(Co gQ g3 3 _ _ _ hg3').trans (Ly.aB _ 3 om);have u4:=(Co gQ g3 4 _ _ _ hg3').trans (Ly.aB _ 4 om);have hoS:Kept (∀i,Ly.gH l i=[]):=⟨fun i=>by unfold Ly.gH;rw[hpe.1,Ng hnz]⟩;have hoA:Kept (∀i,Ly.TD l i=0):=⟨fun i=>by unfold Ly.TD;rw[hpe.1,Ng hnz]⟩;have hre:=Aj (DY (j6 gQ g2 (.slice none 0 0) (.slice none 0 0) (.slice none 0 0) (.slice none 0 0)) g3 (.int .i64 0) (.int .i64 0) (.int .i64 0) (.int .i64 0) (.int .i64 0) (((dm gQ g2 _ _ _ _).block g3 om (fun e=>by have:=Oj e;omega)).trans hg3') rfl);have hrs:=Aj (((gZ (j6 gQ g2 (.slice none 0 0) (.slice none 0 0) (.slice none 0 0) (.slice none 0 0)) g3 (.int .i64 0) (.int .i64 0) (.int .i64 0) (.int .i64 0) (.int .i64 0)).block g2 (by rw[lu];omega) (fun e=>by have:=Oj e;omega)).trans (nJ gQ g2 (.slice none 0 0) (.slice none 0 0) (.slice none 0 0) (.slice none 0 0) mr rfl));have hrb:Kept (Below g2 W4 (OH (j6 gQ g2 (.slice none 0 0) (.slice none 0 0) (.slice none 0 0) (.slice none 0 0)) g3 (.int .i64 0) (.int .i64 0) (.int .i64 0) (.int .i64 0) (.int .i64 0))):=⟨((b15.1.mono om).grown (dm gQ g2 _ _ _ _) om (fun g e=>by cases e;omega)).grown (gZ _ g3 _ _ _ _ _) (by rw[lu];omega) (fun g e=>by cases e;omega)⟩;clear mr hg3';go_wp2;refine AQ (v:= .tuple #[.agg (Ly.jd fun _=> .slice none 0 0),.agg (Ly.jF fun _=>0),.int .i64 er]) ?_ rfl ⟨fun _=> .slice none 0 0,fun _=>0,by rw[hpe.1],fun i hi=>⟨none,0,0,rfl,by rw[hoS.1];exact ah.nil _ _⟩,fun i hi=>by rw[hoA.1],?_⟩;exact iH (fn:=Tryz.f64) (a:=2) (b:=3) (u:=4) (T1:=76) (T2:=128) rfl _ _ g2 g3 _ _ _ _ _ _ _ _ rfl rfl hrs.1 hre.1 underlying76 rfl kr underlying128 rfl kr;(rw[E2.1];exact B4.1.trans hrb.1))
    |skip
   have mr:=(b15.1.block g2 om).trans G2.1;have hg3':=(b15.1.block g3 om).trans G3.1;have x0:=fun k=>Fr gQ g2 k _ _ mr
   have x1:=fun k=>Fr gQ g3 k _ _ hg3'
   have y0:=(Co gQ g2 0 _ _ _ mr).trans (Ly.bD _ 0 om);have y1:=(Co gQ g2 1 _ _ _ mr).trans (Ly.bD _ 1 om);have y2:=(Co gQ g2 2 _ _ _ mr).trans (Ly.bD _ 2 om);have y3:=(Co gQ g2 3 _ _ _ mr).trans (Ly.bD _ 3 om);have u0:=(Co gQ g3 0 _ _ _ hg3').trans (Ly.aB _ 0 om);have u1:=(Co gQ g3 1 _ _ _ hg3').trans (Ly.aB _ 1 om);have u2:=(Co gQ g3 2 _ _ _ hg3').trans (Ly.aB _ 2 om);have u3:=(Co gQ g3 3 _ _ _ hg3').trans (Ly.aB _ 3 om);have u4:=(Co gQ g3 4 _ _ _ hg3').trans (Ly.aB _ 4 om);have v0:=(Co gQ g5 0 _ _ _ s15.1).trans (Ly.bD _ 0 om);have v1:=(Co gQ g5 1 _ _ _ s15.1).trans (Ly.bD _ 1 om);have v2:=(Co gQ g5 2 _ _ _ s15.1).trans (Ly.bD _ 2 om);have v3:=(Co gQ g5 3 _ _ _ s15.1).trans (Ly.bD _ 3 om);obtain⟨Aa,na,ca,ea⟩:=f15.1.form 0 om;obtain⟨Ab,nb,cb,eb⟩:=f15.1.form 1 om;obtain⟨Ac,nc,cc,ec⟩:=f15.1.form 2 om;obtain⟨Ad,nd,cd,ed⟩:=f15.1.form 3 om;have har:Kept (Ly.jd V= #[.slice Aa na ca,.slice Ab nb cb,.slice Ac nc cc,.slice Ad nd cd]):=⟨by unfold Ly.jd;rw[ea,eb,ec,ed]⟩
   rw[ea]at v0;rw[eb]at v1;rw[ec]at v2;rw[ed]at v3;clear ea eb ec ed;have m0:=(Co gQ g6 0 _ _ _ Md.1).trans (Ly.aB _ 0 om);have m1:=(Co gQ g6 1 _ _ _ Md.1).trans (Ly.aB _ 1 om);have m2:=(Co gQ g6 2 _ _ _ Md.1).trans (Ly.aB _ 2 om);have m3:=(Co gQ g6 3 _ _ _ Md.1).trans (Ly.aB _ 3 om);have m4:=(Co gQ g6 4 _ _ _ Md.1).trans (Ly.aB _ 4 om);have H2:=Aj mr;have H3:=Aj hg3';clear mr hg3';have dx0:∀k,gQ.drew.frozen? ⟨g2,k,none⟩=false:=x0;have dx1:∀k,gQ.drew.frozen? ⟨g3,k,none⟩=false:=x1;go_wp2;go_region;go_wp2;have hre:=DZ<|DY (j6 gQ g2 (.slice Aa na ca) (.slice Ab nb cb) (.slice Ac nc cc) (.slice Ad nd cd)) g3 (.int .i64 (m5 0:Int)) (.int .i64 (m5 1:Int)) (.int .i64 (m5 2:Int)) (.int .i64 (m5 3:Int)) (.int .i64 (m5 4:Int)) (((dm gQ g2 _ _ _ _).block g3 om (fun e=>by have:=Oj e;omega)).trans H3.1) rfl
   have hrs:=DZ<|((gZ (j6 gQ g2 (.slice Aa na ca) (.slice Ab nb cb) (.slice Ac nc cc) (.slice Ad nd cd)) g3 (.int .i64 (m5 0:Int)) (.int .i64 (m5 1:Int)) (.int .i64 (m5 2:Int)) (.int .i64 (m5 3:Int)) (.int .i64 (m5 4:Int))).block g2 (by rw[lu];omega) (fun e=>by have:=Oj e;omega)).trans (nJ gQ g2 (.slice Aa na ca) (.slice Ab nb cb) (.slice Ac nc cc) (.slice Ad nd cd) H2.1 rfl)
   have OY:Below g2 W4 (OH (j6 gQ g2 (.slice Aa na ca) (.slice Ab nb cb) (.slice Ac nc cc) (.slice Ad nd cd)) g3 (.int .i64 (m5 0:Int)) (.int .i64 (m5 1:Int)) (.int .i64 (m5 2:Int)) (.int .i64 (m5 3:Int)) (.int .i64 (m5 4:Int))):=((b15.1.mono om).grown (dm gQ g2 _ _ _ _) om (fun g e=>by cases e;omega)).grown (gZ _ g3 _ _ _ _ _) (by rw[lu];omega) (fun g e=>by cases e;omega);have hrb:=(B4.1.trans OY).drew;have hfo:=aV.drew<|(f15.1.grown (dm gQ g2 (.slice Aa na ca) (.slice Ab nb cb) (.slice Ac nc cc) (.slice Ad nd cd)) om).grown (gZ _ g3 (.int .i64 (m5 0:Int)) (.int .i64 (m5 1:Int)) (.int .i64 (m5 2:Int)) (.int .i64 (m5 3:Int)) (.int .i64 (m5 4:Int))) om
   refine AQ (v:= .tuple #[.agg (Ly.jd V),.agg (Ly.jF m5),.int .i64 0]) ?_ rfl ⟨V,m5,by rw[hpe.1],fun i hi=>?_,fun i hi=>?_,?_⟩
   ·rw[har.1];exact iH (fn:=Tryz.f64) (a:=2) (b:=3) (u:=4) (T1:=76) (T2:=128) rfl _ _ g2 g3 _ _ _ _ _ _ _ _ rfl rfl hrs hre underlying76 rfl kr underlying128 rfl kr
   ·obtain⟨A',n',c',h1,h2⟩:=hfo i hi;have hg:Ly.gate 4 (Ly.sec l) i=Ly.gH l i:=by unfold Ly.gate Ly.gH;rw[Ps0 hi,hpe.1,Ps0 rfl]
    rw[hg]at h2;exact⟨A',n',c',h1,ah.base h2 (by rw[E2.1];omega)⟩
   ·rw[OI.1 i hi];unfold Ly.TD;rw[hpe.1,Ps0 rfl]
   ·rw[E2.1];exact hrb
end
section
section
open Go.RowKit Go.Shelf
theorem Ly.aaJ (l) (h:Ly.lit l Ly.head≠0) (k):(Ly.S l k).2=Ly.lit l Ly.head:=by
 induction k with
 |zero=>rfl
 |succ k ih=>rw[Ly.jG];unfold Wr.jb;rw[Ps0 (by rw[ih];exact h)];exact ih
def Zs (w:World) (g2 g3 g7 g8:Nat):Prop:=w.heap[g2]? =some (.cells (Ly.jd fun _=> .slice none 0 0) 75 (0,0))∧w.heap[g3]? =some (.cells (Ly.jF fun _=>0) 128 (0,0))∧
 w.heap[g7]? =some (.cells (Ly.jd fun _=> .slice none 0 0) 75 (0,0))∧w.heap[g8]? =some (.cells (Ly.jF fun _=>0) 128 (0,0))
end
end
section
section
open Go.RowKit Go.Shelf
namespace Ly
def cert (l:List UInt8):Int:=if pe l=3 then 0 else pe l
end Ly
theorem aV.lit {w} {base} {V} {D} (h:aV w base V D):∃Aa na ca Ab nb cb Ac nc cc Ad nd cd,Ly.jd V= #[.slice Aa na ca,.slice Ab nb cb,.slice Ac nc cc,.slice Ad nd cd]:=by
 obtain⟨Aa,na,ca,ea⟩:=h.form 0 om;obtain⟨Ab,nb,cb,eb⟩:=h.form 1 om;obtain⟨Ac,nc,cc,ec⟩:=h.form 2 om;obtain⟨Ad,nd,cd,ed⟩:=h.form 3 om;exact⟨Aa,na,ca,Ab,nb,cb,Ac,nc,cc,Ad,nd,cd,by unfold Ly.jd;rw[ea,eb,ec,ed]⟩
theorem aV.base {w} {base base'} {V} {D} (h:aV w base V D) (hb:base'≤base):aV w base' V D:=fun i hi=>by
 obtain⟨A,n,c,h1,h2⟩:=h i hi;exact⟨A,n,c,h1,ah.base h2 hb⟩
theorem mD (A) (n c) (l) (w) (hv:aN w w.heap.size A n c l) (hnb:n≤140737488353000) (ht:eD w):
  Calls prog 34 #[.slice A n c] w fun r w'=>∃V,r= .returned (.tuple #[.agg (Ly.jd V),.int .i64 (Ly.pe l)])∧aV w' w.heap.size V (Ly.gH l)∧Below w.heap.size w w':=by
 obtain⟨W1,hW1⟩:∃W1,W1=w.alloc (.cells #[.slice none 0 0,.slice none 0 0,.slice none 0 0,.slice none 0 0] 76):=⟨_,rfl⟩
 have hb1:Below w.heap.size w W1:=by rw[hW1];exact(Ae _ w).alloc Ai _
 have hz1:W1.heap.size=w.heap.size+1:=by rw[hW1];simp
 have hg1:W1.heap[w.heap.size]? =some (.cells (Ly.jd fun _=> .slice none 0 0) 76 (0,0)):=by rw[hW1];exact Av w _
 have HW:=Aj hW1.symm;have Z1:=Aj hz1;have G1:=Aj hg1;have B1:=Aj hb1;have HP:=Aj (wH A n c l W1 ((hv.below hb1).more om) hnb (ht.below hb1));clear hv ht hW1 hb1 hz1 hg1;go_enter func34,ntmps34;go_upto_region 1 with fail;rw[HW.1];generalize hg:w.heap.size=g at*;have EG:=Aj hg;clear hg;have hgW:g<W1.heap.size:=by rw[Z1.1];omega
 go_upto_region 2 with(go_at_call 64;refine HP.1.mono ?_;rintro r w2 ⟨V,M,rfl,hf,hm,hb⟩;obtain⟨Aa,na,ca,Ab,nb,cb,Ac,nc,cc,Ad,nd,cd,hV⟩:=hf.lit;rw[hV];unfold Ly.jF;have F2:=Aj hf;have M2:=Aj hm;have B2:=Aj hb;have HV:=Aj hV;clear hf hm hb hV)
 have hz2:=B2.1.size;have F3:=Aj ((F2.1.below ((Ae _ w2).alloc Ai (.cells #[.slice Aa na ca,.slice Ab nb cb,.slice Ac nc cc,.slice Ad nd cd] 76))).below ((Ae _ _).alloc Ai (.cells #[.int .i64 (M 0:Int),.int .i64 (M 1:Int),.int .i64 (M 2:Int),.int .i64 (M 3:Int),.int .i64 (M 4:Int)] 128)));have B3:Kept (Below W1.heap.size W1 ((w2.alloc (.cells #[.slice Aa na ca,.slice Ab nb cb,.slice Ac nc cc,.slice Ad nd cd] 76)).alloc (.cells #[.int .i64 (M 0:Int),.int .i64 (M 1:Int),.int .i64 (M 2:Int),.int .i64 (M 3:Int),.int .i64 (M 4:Int)] 128))):=⟨(B2.1.alloc hz2 _).alloc (by simp;omega) _⟩
 have v0:∀k,((w2.alloc (.cells #[.slice Aa na ca,.slice Ab nb cb,.slice Ac nc cc,.slice Ad nd cd] 76)).alloc (.cells #[.int .i64 (M 0:Int),.int .i64 (M 1:Int),.int .i64 (M 2:Int),.int .i64 (M 3:Int),.int .i64 (M 4:Int)] 128)).cell? ⟨w2.heap.size,k,none⟩=(#[.slice Aa na ca,.slice Ab nb cb,.slice Ac nc cc,.slice Ad nd cd]:Array Value)[k]?:=fun k=>(AJ _ _ ⟨w2.heap.size,k,none⟩ sm).trans (Au w2 _ _ _ k)
 have m0:∀k,((w2.alloc (.cells #[.slice Aa na ca,.slice Ab nb cb,.slice Ac nc cc,.slice Ad nd cd] 76)).alloc (.cells #[.int .i64 (M 0:Int),.int .i64 (M 1:Int),.int .i64 (M 2:Int),.int .i64 (M 3:Int),.int .i64 (M 4:Int)] 128)).cell? ⟨w2.heap.size+1,k,none⟩=(#[.int .i64 (M 0:Int),.int .i64 (M 1:Int),.int .i64 (M 2:Int),.int .i64 (M 3:Int),.int .i64 (M 4:Int)]:Array Value)[k]?:=fun k=>by
  have h:=Au (w2.alloc (.cells #[.slice Aa na ca,.slice Ab nb cb,.slice Ac nc cc,.slice Ad nd cd] 76)) #[.int .i64 (M 0:Int),.int .i64 (M 1:Int),.int .i64 (M 2:Int),.int .i64 (M 3:Int),.int .i64 (M 4:Int)] 128 (0,0) k;rw[AO]at h;exact h
 generalize (w2.alloc (.cells #[.slice Aa na ca,.slice Ab nb cb,.slice Ac nc cc,.slice Ad nd cd] 76)).alloc (.cells #[.int .i64 (M 0:Int),.int .i64 (M 1:Int),.int .i64 (M 2:Int),.int .i64 (M 3:Int),.int .i64 (M 4:Int)] 128)=W3 at*;have hg3:=(B3.1.block g hgW).trans G1.1;have G3:=Aj hg3;have v1:=v0 0;simp at v1;have v2:=v0 1;simp at v2;have v3:=v0 2;simp at v3;have v4:=v0 3;simp at v4;clear v0 m0;have x0:=fun k=>Fr W3 g k _ _ hg3
 have y0:=(Co W3 g 0 _ _ _ hg3).trans (Ly.bD _ 0 om);have y1:=(Co W3 g 1 _ _ _ hg3).trans (Ly.bD _ 1 om);have y2:=(Co W3 g 2 _ _ _ hg3).trans (Ly.bD _ 2 om);have y3:=(Co W3 g 3 _ _ _ hg3).trans (Ly.bD _ 3 om);clear hg3;go_wp2;refine AQ (v:= .tuple #[.agg (Ly.jd V),.int .i64 (Ly.pe l)]) ?_ rfl ⟨V,rfl,(F3.1.grown (dm W3 g (.slice Aa na ca) (.slice Ab nb cb) (.slice Ac nc cc) (.slice Ad nd cd)) hgW).base (by rw[EG.1];omega),?_⟩
 ·have hr:=nJ W3 g (.slice Aa na ca) (.slice Ab nb cb) (.slice Ac nc cc) (.slice Ad nd cd) G3.1 rfl;rw[HV.1];exact cu (fn:=Tryz.f34) (a:=2) (u:=3) (T1:=76) rfl _ _ g _ _ _ _ rfl hr underlying76 rfl kr
 ·rw[EG.1];exact B1.1.trans ((B3.1.mono om).grown (dm W3 g (.slice Aa na ca) (.slice Ab nb cb) (.slice Ac nc cc) (.slice Ad nd cd)) (by have:=B3.1.size;omega) (fun g' e=>by cases e;exact Nr _))
theorem nK (A) (n c) (l) (w) (hv:aN w w.heap.size A n c l) (hnb:n≤140737488353000) (ht:eD w):
  Calls prog 81 #[.slice A n c] w fun r w'=>r= .returned (.int .i64 (Ly.cert l))∧Below w.heap.size w w':=by
 have HP:=Aj (wH A n c l w hv hnb ht);clear hv ht;obtain⟨f,hf⟩:∃f,Ly.pe l=f:=⟨_,rfl⟩
 by_cases h3:f=3
 ·have hc:Kept (Ly.cert l=0):=⟨by unfold Ly.cert;rw[hf,Ps0 h3]⟩
  subst h3;rw[hf]at HP;clear hf;go_enter func81,ntmps81;go_wp2_with (go_at_call 64;refine HP.1.mono ?_;rintro r w2 ⟨V,M,rfl,hf,hm,hb⟩;obtain⟨Aa,na,ca,Ab,nb,cb,Ac,nc,cc,Ad,nd,cd,hV⟩:=hf.lit;rw[hV];unfold Ly.jF;have B2:=Aj hb;clear hf hm hb hV);go_ret;have hz:=B2.1.size;exact⟨by rw[hc.1];rfl,(B2.1.alloc hz _).alloc (by simp;omega) _⟩
 ·have hc:Kept (Ly.cert l=f):=⟨by unfold Ly.cert;rw[hf,Ng h3]⟩
  rw[hf]at HP;have wG:(f==3)=false:=by simpa using h3
  have hen:(f !=3)=true:=by simpa using h3
  clear hf h3;go_enter func81,ntmps81;go_wp2_with (go_at_call 64;refine HP.1.mono ?_;rintro r w2 ⟨V,M,rfl,hf,hm,hb⟩;obtain⟨Aa,na,ca,Ab,nb,cb,Ac,nc,cc,Ad,nd,cd,hV⟩:=hf.lit;rw[hV];unfold Ly.jF;have B2:=Aj hb;clear hf hm hb hV);go_ret;have hz:=B2.1.size;exact⟨by rw[hc.1];rfl,(B2.1.alloc hz _).alloc (by simp;omega) _⟩
end
end
section
section
open Go.RowKit
namespace Ly
theorem Me (D) (k n) (h:k≤n):∃R,pre D n=pre D k++R:=by
 obtain⟨m,rfl⟩:=Nat.le.dest h;exact⟨_,by unfold pre;rw[List.range_add,oV,←Af]⟩
theorem GU (D):asm D=body D++(aL.four (aL.sum (body D))++tail):=by unfold asm aL.app;rw[Af]
theorem Eb (D):lit (asm D) head=0:=by
 have h:∃R,asm D=head++R:=⟨_,by rw[GU];unfold body pre;simp only[Af];rfl⟩
 obtain⟨R,h⟩:=h;rw[h];have hl:head.length=5:=rfl;have hm:min (head++R).length head.length=5:=by rw[La];omega
 unfold lit;rw[hm,Ng (by rw[show(5:Nat)=head.length from rfl,Dv,List.take_length];simp),Ng (by rw[La];omega)]
theorem XM (D):S (asm D) 0=(off D 0,0):=by
 show(a0 (asm D),lit (asm D) head)=_;unfold a0;rw[Ps0 (Eb D),Eb]
 rfl
theorem OZ (D) (hD:tot D 4≤140737488352000) (k) (hk:k<4) (h:S (asm D) k=(off D k,0)):S (asm D) (k+1)=(off D (k+1),0)∧sec (asm D) k=D k:=by
 obtain⟨R,hR⟩:=Me D (k+1) 4 om;have he:asm D=pre D k++Wr.frame (UInt8.ofNat (1+k)) (D k)++(R++Wr.frame 5 (gJ (off D) 4)++(aL.four (aL.sum (body D))++tail)):=by
  rw[GU]
  conv=>lhs;arg 1;unfold body
  rw[hR,gq];simp only[Af]
 have hs:=Wr.su (pre D k) (R++Wr.frame 5 (gJ (off D) 4)++(aL.four (aL.sum (body D))++tail)) (D k) (UInt8.ofNat (1+k)) (by have:=JU D k 4 hk;omega);rw[←he]at hs;have ho:(pre D k).length=off D k:=rfl;rw[ho]at hs;rw[jG,oW,h];simp only;rw[hs];refine⟨?_,rfl⟩;simp only[ay,Bi];unfold off;rw[gq,La]
theorem O0 (D) (hD:tot D 4≤140737488352000) (k) (hk:k≤4):S (asm D) k=(off D k,0):=by
 induction k with
 |zero=>exact XM D
 |succ k ih=>exact(OZ D hD k om (ih om)).1
theorem XN (D) (hD:tot D 4≤140737488352000) (k) (hk:k≤4):off D k≤140737488352100:=nI D hD k hk
theorem wI (D) (hD:tot D 4≤140737488352000):(gJ (off D) 4).length≤40:=by
 have h:gJ (off D) 4=gJ (mk (off D) 4) 4:=jc 4 fun i hi=>by unfold mk;rw[Ps0 hi]
 rw[h];refine xW _ (fun i=>?_) 4;unfold mk;split
 ·rename_i hi
  have h1:=XN D hD i om;omega
 ·omega
theorem XO (D) (hD:tot D 4≤140737488352000):S (asm D) 5=((body D).length,0)∧sec (asm D) 4=gJ (off D) 4:=by
 have hc:=wI D hD;have he:asm D=pre D 4++Wr.frame 5 (gJ (off D) 4)++(aL.four (aL.sum (body D))++tail):=by rw[GU];rfl
 have hs:=Wr.su (pre D 4) (aL.four (aL.sum (body D))++tail) (gJ (off D) 4) 5 om;rw[←he]at hs;have ho:(pre D 4).length=off D 4:=rfl;rw[ho]at hs;have h4:=O0 D hD 4 om;rw[jG,oW,h4];simp only;rw[show UInt8.ofNat (1+4)=5 from rfl,hs];refine⟨?_,rfl⟩;simp only[ay,Bi];unfold body off;rw[La]
theorem Pb (D) (hD:tot D 4≤140737488352000) (k) (hk:k≤4):bG (asm D) k=off D k:=by
 unfold bG;rw[O0 D hD k hk]
theorem rF (D):(asm D).length=(body D).length+8:=by
 unfold asm;rw[La,aL.iY]
 rfl
theorem GV (D) (hD:tot D 4≤140737488352000):pe (asm D)=0:=by
 obtain⟨h5,h4⟩:=XO D hD;have ha5:bG (asm D) 5=(body D).length:=by unfold bG;rw[h5]
 have hl:=rF D;have hc:gJ (bG (asm D)) 4=gJ (off D) 4:=jc 4 fun i hi=>Pb D hD i om
 have ht:(asm D).take ((body D).length+4)=aL.app (body D):=by
  unfold asm;rw[←aL.iY,Dv]
 have hd:(asm D).drop ((body D).length+4)=tail:=by
  unfold asm;rw[←aL.iY,CW]
 have hlt:lit tail tail=0:=Ah;unfold pe;rw[h5,h4,hc,ha5,ht,hd,hlt,aL.rA,hl];simp only[ne_eq,Bw,Dx];rw[Ng om,Ng sm,Ng om]
theorem Ed (D) (hD:tot D 4≤140737488352000) (k) (hk:k<4):gH (asm D) k=D k:=by
 unfold gH;rw[Ps0 (GV D hD)];exact(OZ D hD k hk (O0 D hD k om)).2
end Ly
end
end
section
section
open Go.RowKit
theorem Vi.GX (l):∀(i x y k),Vi.dP l i x=(y,k,0)→∃z,y=x+z*128^i∧i<k∧l.take (k-i)=Vi.enc z∧k-i≤l.length∧(0<i→0<z):=by
 induction l with
 |nil=>intro i x y k h;simp[Vi.dP]at h
 |cons c l ih=>
  intro i x y k h;rw[Vi.bQ]at h;have hc:=c.toNat_lt;split at h
  ·simp at h
  ·split at h
   ·simp at h
   ·rename_i h2
    split at h
    ·rename_i h3
     simp only[ay]at h;obtain⟨rfl,rfl,_⟩:=h;refine⟨c.toNat,by rw[jA h3],om,?_,sm,fun hi=>om⟩;rw[Vi.xL h3,show i+1-i=1 from om];simp
    ·rename_i h3
     obtain⟨z,h4,h5,h6,h7,h8⟩:=ih _ _ _ _ h;have hz:=h8 om;have e1:(c.toNat%128+z*128)%128=c.toNat%128:=om;have e2:(c.toNat%128+z*128)/128=z:=om;refine⟨c.toNat%128+z*128,?_,om,?_,by simp;omega,fun _=>om⟩
     ·rw[h4,BQ,Nat.add_mul,Nat.mul_assoc z 128,Dm 128,gM]
     ·rw[Vi.Gw om,e1,e2,←h6,show k-i=(k-(i+1))+1 from om,Bu]
      congr 1
      rw[show c.toNat%128+128=c.toNat from om];simp
theorem Vi.pg {l} {a x:Nat} {t} (h:Vi.get l (a:Int)=(x,t,0)):(l.drop a).take (t.toNat-a)=Vi.enc x∧a<t.toNat∧t.toNat≤l.length:=by
 have hto:=Vi.gX h;refine⟨?_,om,om⟩;unfold Vi.get at h;split at h
 ·simp at h
 ·simp only at h;split at h
  ·rename_i h0
   rw[lS]at h h0;obtain⟨r,hr⟩:∃r,Vi.dP (l.drop a) 0 0=r:=⟨_,rfl⟩
   rw[hr]at h h0;obtain⟨y,k,er⟩:=r;simp only at h0;subst h0;simp only[ay,Bi]at h;obtain⟨z,h4,h5,h6,h7,h8⟩:=Vi.GX _ _ _ _ _ hr;have e:t.toNat-a=k:=om;rw[e];rw[Nat.sub_zero]at h6;rw[h6]
   congr 1
   simp at h4;omega
  ·rename_i h0
   simp only[ay]at h;exact absurd h.2.2 h0
theorem sG (l:List UInt8) (a b) (h:a≤b):l.take b=l.take a++(l.drop a).take (b-a):=by
 conv=>lhs;rw[show b=a+(b-a)from om,List.take_add]
theorem Wr.GY {l} {a a'} {id} {d} (h:Wr.jb l a 0 id=(d,a',0)):(l.drop a).take (a'-a)=Wr.frame id d∧a≤a'∧a'≤l.length:=by
 unfold Wr.jb at h;rw[Ng sm]at h;by_cases h0:(Wr.aC l a id).2.2=0
 ·rw[Ng (by simpa using h0)]at h;obtain⟨s,hs⟩:∃s,Wr.aC l a id=s:=⟨_,rfl⟩
  rw[hs]at h h0;obtain⟨d',t',er⟩:=s;simp only at h0 h;subst h0;simp only[ay,Bi]at h;obtain⟨rfl,rfl⟩:=h;unfold Wr.aC at hs;by_cases ha:a<l.length
  ·rw[dif_pos ha]at hs;split at hs
   ·simp at hs
   ·rename_i hid
    obtain⟨g,hg⟩:∃g,Vi.get l ((a:Int)+1)=g:=⟨_,rfl⟩
    rw[hg]at hs;obtain⟨x,t,eg⟩:=g;simp only at hs;split at hs
    ·rename_i h1
     simp only[ay]at hs;omega
    ·rename_i h1
     have h1:eg=0:=by simpa using h1
     subst h1;split at hs
     ·simp at hs
     ·rename_i h2
      split at hs
      ·simp at hs
      ·rename_i h3
       have h3:aL.bN ((l.drop a).take (t.toNat+x+4-a))=true:=by simpa using h3
       simp only[ay,Bi]at hs;obtain⟨hd,ht'⟩:=hs;obtain⟨c1,c2,c3⟩:=Vi.pg (a:=a+1) (by rw[Int.natCast_add];exact hg);have hto:=Vi.gX (a:=a+1) (by rw[Int.natCast_add];exact hg);have e1:t'.toNat=t.toNat+x+4:=om;rw[e1];refine⟨?_,om,om⟩;have hlen:((l.drop a).take (t.toNat+x+4-a)).length=t.toNat+x+4-a:=by rw[lQ,jX];omega
       unfold aL.bN at h3;rw[BV,beq_iff_eq]at h3;rw[h3.2,hlen,List.take_take,show min (t.toNat+x+4-a-4) (t.toNat+x+4-a)=t.toNat+x-a from om];have hdl:d'.length=x:=by rw[←hd,lQ,jX];omega
       have hX:(l.drop a).take (t.toNat+x-a)=id::Wr.str d':=by
        rw[oN ha,show t.toNat+x-a=(t.toNat+x-(a+1))+1 from om,Bu];have XB:l[a]=id:=by simpa using hid
        rw[XB]
        congr 1
        rw[sG (l.drop (a+1)) (t.toNat-(a+1)) (t.toNat+x-(a+1)) om,c1,DK,show a+1+(t.toNat-(a+1))=t.toNat from om,show t.toNat+x-(a+1)-(t.toNat-(a+1))=x from om,hd];unfold Wr.str;rw[hdl]
       rw[hX]
       rfl
  ·rw[dif_neg ha]at hs;simp at hs
 ·rw[Ps0 h0]at h;simp only[ay]at h;exact absurd h.2.2 h0
namespace Ly
theorem GZ (l) (k) (h:(S l (k+1)).2=0):(S l k).2=0:=by
 by_cases h0:(S l k).2=0
 ·exact h0
 ·rw[jG]at h;unfold Wr.jb at h;rw[Ps0 h0]at h;exact h
theorem JX (l) (k n) (hk:k≤n) (h:(S l n).2=0):(S l k).2=0:=by
 induction n with
 |zero=>rw[Nat.le_zero.1 hk];exact h
 |succ n ih=>
  rcases DD n k with h1|h1
  ·rw[show k=n+1 from om];exact h
  ·exact ih h1 (GZ l n h)
theorem JY (l) (k) (h:(S l (k+1)).2=0):(l.drop (S l k).1).take ((S l (k+1)).1-(S l k).1)=Wr.frame (UInt8.ofNat (1+k)) (sec l k)∧(S l k).1≤(S l (k+1)).1∧(S l (k+1)).1≤l.length:=by
 have h0:=GZ l k h;refine Wr.GY ?_;rw[jG]at h⊢;rw[oW];rw[h0]at h⊢;generalize Wr.jb l (S l k).1 0 (UInt8.ofNat (1+k))=s at*;obtain⟨d,a',e⟩:=s;simp only at h⊢;rw[h]
theorem Ee {b s} (h:lit b s=0):b.take s.length=s:=by
 have hl:=je h;unfold lit at h;have hm:min b.length s.length=s.length:=om;rw[hm]at h;split at h
 ·omega
 ·rename_i h1
  have h1:b.take s.length=s.take s.length:=by simpa using h1
  rw[h1,List.take_length]
theorem Wj (l) (hl:lit l head=0) (k) (h:(S l k).2=0):l.take (S l k).1=pre (sec l) k∧(S l k).1=off (sec l) k∧(S l k).1≤l.length:=by
 induction k with
 |zero=>
  have h0:(S l 0).1=5:=by show a0 l=5;unfold a0;rw[Ps0 hl]
  have h1:=Ee hl;have h2:=je hl;have h3:pre (sec l) 0=head:=by simp[pre]
  refine⟨?_,?_,?_⟩
  ·rw[h0,h3];exact h1
  ·rw[h0];unfold off;rw[h3];rfl
  ·rw[h0];exact h2
 |succ k ih=>
  obtain⟨i1,i2,i3⟩:=ih (GZ l k h);obtain⟨f1,f2,f3⟩:=JY l k h;have h4:l.take (S l (k+1)).1=pre (sec l) (k+1):=by rw[sG l _ _ f2,i1,f1,←gq]
  refine⟨h4,?_,f3⟩;unfold off;rw[←h4,lQ];omega
theorem canon (l) (h:pe l=0):asm (sec l)=l:=by
 have hS:(S l 5).2=0:=by
  by_cases h0:(S l 5).2=0
  ·exact h0
  ·unfold pe at h;rw[Ps0 h0]at h;exact absurd h h0
 have hl:lit l head=0:=by
  by_cases h0:lit l head=0
  ·exact h0
  ·have:=aaJ l h0 5;rw[hS]at this;exact this.symm
 unfold pe at h;rw[Ng (by simpa using hS)]at h;split at h
 ·omega
 ·rename_i hc
  split at h
  ·omega
  ·rename_i hsh
   split at h
   ·omega
   ·rename_i hck
    split at h
    ·rename_i ht
     exact absurd h ht
    ·rename_i ht
     split at h
     ·omega
     ·rename_i htr
      have hc:sec l 4=gJ (bG l) 4:=by simpa using hc
      have hck:aL.bN (l.take (bG l 5+4))=true:=by simpa using hck
      have ht:lit (l.drop (bG l 5+4)) tail=0:=by simpa using ht
      have h4:=JX l 4 5 om hS;obtain⟨p1,p2,p3⟩:=Wj l hl 4 h4;obtain⟨f1,f2,f3⟩:=JY l 4 hS;have hoff:gJ (bG l) 4=gJ (off (sec l)) 4:=jc 4 fun i hi=>by
       have h5:=JX l i 5 om hS;exact(Wj l hl i h5).2.1
      have hbody:l.take (bG l 5)=body (sec l):=by
       show l.take (S l 5).1=_;rw[sG l _ _ f2,p1,f1,hc,hoff]
       rfl
      have ha5:bG l 5≤l.length:=f3;have happ:l.take (bG l 5+4)=aL.app (body (sec l)):=by
       have hlen:(l.take (bG l 5+4)).length=bG l 5+4:=by rw[lQ];omega
       unfold aL.bN at hck;rw[BV,beq_iff_eq]at hck;rw[hck.2,hlen,List.take_take,show min (bG l 5+4-4) (bG l 5+4)=bG l 5 from om,hbody]
      have htl:=Ee ht;have htz:=je ht;rw[jX]at htz;have h4t:tail.length=4:=rfl;rw[jY (by rw[jX];omega)]at htl;unfold asm;rw[←happ,←htl,jC]
end Ly
end
end
section
section
open Go.RowKit
theorem Vi.Ef (m):∀(l) (i x),(Vi.dP l i x).2.2≠3→Vi.dP (l++m) i x=Vi.dP l i x
 |[],_,_,h=>absurd rfl h
 |c::l,i,x,h=>by
  rw[Vi.bQ]at h;rw[AU,Vi.bQ,Vi.bQ];by_cases h1:i=9∧1<c.toNat
  ·rw[Ps0 h1,Ps0 h1]
  ·rw[Ng h1]at h⊢;rw[Ng h1];by_cases h2:c.toNat=0∧0<i
   ·rw[Ps0 h2,Ps0 h2]
   ·rw[Ng h2]at h⊢;rw[Ng h2];by_cases h3:c.toNat<128
    ·rw[Ps0 h3,Ps0 h3]
    ·rw[Ng h3]at h⊢;rw[Ng h3];exact Vi.Ef m l _ _ h
theorem Vi.JZ (m l:List UInt8) (a) (ha:a≤l.length) (h:(Vi.get l (a:Int)).2.2≠3):Vi.get (l++m) (a:Int)=Vi.get l (a:Int):=by
 have c1:¬((a:Int)<0∨(l.length:Int)< (a:Int)):=om;have c2:¬((a:Int)<0∨((l++m).length:Int)< (a:Int)):=by rw[La];omega
 unfold Vi.get at h⊢;rw[Ng c1]at h;rw[Ng c1,Ng c2];simp only[lS]at h⊢;have h4:(Vi.dP (l.drop a) 0 0).2.2≠3:=fun h3=>by
  rw[Ng om]at h;exact h h3
 rw[List.drop_append_of_le_length ha,Vi.Ef m (l.drop a) 0 0 h4]
theorem TP (l m:List UInt8) (a k) (h:a+k≤l.length):((l++m).drop a).take k=(l.drop a).take k:=by
 rw[List.drop_append_of_le_length om,List.take_append_of_le_length (by rw[jX];omega)]
end
end
section
section
open Go.RowKit Go.Shelf
namespace Ly
theorem getD_take (l:List UInt8) (m q) (h:q<m):(l.take m).getD q 0=l.getD q 0:=by
 simp only[List.getD,List.getElem?_take,Ps0 h]
theorem mF (m):∀(n) (l) (k p),(aL.aX l k n p).take m=aL.aX (l.take m) k n p
 |0,_,_,_=>rfl
 |n+1,l,k,p=>by
  by_cases h:k<8*l.length∧p%2=1
  ·rw[aL.oQ l k n p h.1 h.2,mF m n];by_cases hm:k/8<m
   ·rw[aL.oQ (l.take m) k n p (by rw[lQ];omega) h.2,getD_take l m _ hm,List.take_set]
   ·rw[aL.kG (l.take m) k n p (by rw[lQ];omega),List.take_set_of_le om]
  ·rw[aL.kG l k n p h,mF m n,aL.kG];rw[lQ];omega
theorem TQ (D) (hD:tot D 4≤140737488352000) (k p):pe (aL.aX (asm D) k 32 p)=0↔asm D=aL.aX (asm D) k 32 p:=by
 constructor
 ·intro h;have hc:=canon _ h;generalize hE:sec (aL.aX (asm D) k 32 p)=E at hc;have hl:(asm E).length=(asm D).length:=by rw[hc,aL.jD]
  have h4:tail.length=4:=rfl;have l1:(asm D).length=(aL.app (body D)).length+4:=by unfold asm;rw[La,h4]
  have l2:(asm E).length=(aL.app (body E)).length+4:=by unfold asm;rw[La,h4]
  have t1:(asm D).take (aL.app (body D)).length=aL.app (body D):=by unfold asm;rw[Dv]
  have t2:(asm E).take (aL.app (body D)).length=aL.app (body E):=by
   rw[show(aL.app (body D)).length=(aL.app (body E)).length from om];unfold asm;rw[Dv]
  have hf:=mF (aL.app (body D)).length 32 (asm D) k p;rw[←hc,t1,t2]at hf;have hck:aL.bN (aL.aX (aL.app (body D)) k 32 p)=true:=by rw[←hf];exact aL.rA _
  have he:=(aL.Oq (aL.app (body D)) k p (aL.rA _)).1 hck;rw[←hc];unfold asm;rw[hf,←he]
 ·intro h;rw[←h];exact GV D hD
end Ly
end
end
end Go.Proofs.YtjcpmfphnodaaaaGreatDoor
