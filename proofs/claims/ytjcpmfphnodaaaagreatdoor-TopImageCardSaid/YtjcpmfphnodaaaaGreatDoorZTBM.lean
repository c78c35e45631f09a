/- Part 39. -/
import Derived.Test.YtjcpmfphnodaaaaGreatDoorZTBI
import Derived.Test.YtjcpmfphnodaaaaGreatDoorCards
import Derived.Test.YtjcpmfphnodaaaaGreatDoorTie
namespace Go.Proofs.YtjcpmfphnodaaaaGreatDoor
set_option maxRecDepth 100000
set_option maxHeartbeats 0
open _root_.Go.Proofs.Tryz
section
open Go.RowKit Go.Shelf
theorem JL {L} (h:L.length≤1000000):jW L:=fun i hi=>by
 by_cases hp:Ly.pe L=0
 ·have e:Ly.gH L i=Ly.sec L i:=by unfold Ly.gH;rw[Ps0 hp]
  have h2:=Bk.mW (Ly.sec L) i hi;have h3:=Ly.canon L hp;rw[h3]at h2;rw[e];split<;>omega
 ·exact uS hp i hi
namespace Bk
theorem zD (T) (r):1+r.1.length≤(Rc.iw T r).length:=by
 unfold Rc.iw;simp only[La];have h1:=Vi.bO r.1.length;have h2:=Lb.aQ r.1;have h3:(Lb.strs r.1).length≤((Lb.strs r.1).flatMap (Rc.dE T)).length:=by
  generalize Lb.strs r.1=l
  induction l with
  |nil=>simp
  |cons s l ih=>
   have:=Vi.bO ((Sy.idx T s).getD 0);have e:(Rc.dE T s).length=(Vi.enc ((Sy.idx T s).getD 0)).length:=rfl;simp only[Aq,La,Lc];omega
 omega
theorem ZJ (T) (b):Ps.wt (sets b)≤(Rc.aH T (jw b)).length:=by
 unfold Rc.aH;rw[La];have key:∀(b:iP),Ps.wt (sets b)≤((jw b).flatMap (Rc.iw T)).length:=by
  intro b
  induction b with
  |nil=>simp[sets,Ps.wt]
  |cons s b ih=>
   have e1:Ps.wt (sets (s::b))=(1+s.1.length)+Ps.wt (sets b):=by simp[sets,Ps.wt]
   have e2:jw (s::b)=Rc.bH (s.1,Cs.lens s.2)::jw b:=rfl;have h:=zD T (Rc.bH (s.1,Cs.lens s.2));have e3:(Rc.bH (s.1,Cs.lens s.2)).1=s.1:=rfl;rw[e3]at h;rw[e1,e2,Aq,La];omega
 have:=key b;omega
theorem Sz {L} {b} (hL:L.length≤10000) (h:dec L=(b,0)):Ok b∧File b L:=by
 obtain⟨h1,h2,h3⟩:=fG om h;obtain⟨T,E,ho,hf⟩:=h3;have hl:∀i,i<4→(D4 T E b i).length≤10000:=fun i hi=>by
  have:=mW (D4 T E b) i hi;rw[←hf]at this;omega
 have hw:=ZJ T b;have h11:(Rc.aH T (jw b)).length≤10000:=hl 1 om;have h12:(dat b).length≤10000:=hl 2 om;refine⟨⟨h1,h2,om,om,fun T' ht=>?_,fun T' E' ho' i hi=>?_⟩,T,E,ho,hf⟩
 ·rw[←ho.1.uniq ht];omega
 ·obtain⟨rfl,rfl⟩:=ho.uniq ho';have:=hl i hi;omega
theorem VZ {L} (h:(dec L).2≠0):(dec L).1=[]:=by
 unfold dec kC MK qV MI at h⊢;by_cases a:Ly.pe L≠0
 ·rw[Ps0 a]
 ·rw[Ng a]at h⊢;split
  ·rfl
  ·rename_i c1
   rw[Ng c1]at h;split
   ·rfl
   ·rename_i c2
    rw[Ng c2]at h;split
    ·rfl
    ·rename_i c3
     rw[Ng c3]at h;split
     ·rfl
     ·rename_i c4
      rw[Ng c4]at h;split
      ·rfl
      ·rename_i c5
       rw[Ng c5]at h;split
       ·rfl
       ·rename_i c6
        rw[Ng c6]at h;split
        ·rfl
        ·rename_i c7
         rw[Ng c7]at h;exact absurd rfl h
end Bk
theorem NR (A) (n c) (l) (w) (hv:aN w w.heap.size A n c l) (hG:Gl w):
  Calls prog 3 #[.slice A n c] w fun e w'=>e= .returned (.bool true)∧Below w.heap.size w w':=by
 have HG:=Aj hG;have HV:=Aj hv;have HN:=Aj hv.len;have hcm:n≤9223372036854775807:=by have h1:=hv.1;have h2:=hv.2.1;unfold maxLen at h2;omega
 have hcm':(n:Int)≤9223372036854775807:=om;have ST:=Aj (fun(W:World) (h:Below w.heap.size w W)=>uT W (hG.below h));by_cases hbig:6000<n
 ·have hb':(6000:Int)< (n:Int):=by omega
  clear hG hv hcm;go_enter func3,ntmps3;go_wp2_with (go_at_call 8;refine(ST.1 w (Ae _ _)).mono ?_;rintro e w2 ⟨rfl,hb⟩;have B2:=Aj hb;clear hb);go_ret;exact⟨rfl,B2.1⟩
 ·have hb':¬(6000:Int)< (n:Int):=by omega
  have hl:l.length≤6000:=by rw[←hv.len];omega
  have hss:=JL (L:=l) om;have mo:n≤140737488353000:=om;have DE:=Aj (oz A n c l w hv mo hss hG);have hok:(Bk.dec l).2=0→Bk.Ok (Bk.dec l).1∧Bk.File (Bk.dec l).1 l:=fun h=>Bk.Sz om (by rw[←h])
  have her:=fun h=>Bk.VZ (L:=l) h
  have VE:=Aj (fun(W:World) (h:Below w.heap.size w W)=>uN A n c l W ((hv.below h).more h.size) mo hss (fun q=>by have:=(hok q).1.cK;omega) (hG.below h));unfold Zy at VE;have OE:=Aj (fun(W:World) (h:Below w.heap.size w W)=>Gm A n c l W ((hv.below h).more h.size) mo hss (fun q=>(hok q).1.sets) (hG.below h));have FE:=Aj (fun(W:World) (p:Nat) (h:Below w.heap.size w W) (hr:bu W p none 0 0 0 0 0 (Pc.st 0) false) (hp:w.heap.size≤p)=>Gp p A n c w.heap.size l W hr (hv.below h) h.size mo (fun W' g=>(hG.below (h.grown g h.size (fun r e=>by cases e;exact hp))).tab));have CE:=Aj (fun(W:World) (p:Nat) (A':Option Addr) (c':Nat) (at_ pt er:Int) (s:Value) (hw:Below w.heap.size w W) (hr:bu W p A' n c' at_ pt er s false) (hv:aN W W.heap.size A' n c' l) (hA:∀q,ab A'=some q→q≠p) (hp:w.heap.size≤p)=>xH p A' n c' at_ pt er s l W hr hv hA mo hss (fun W' g=>hG.below (hw.grown g hw.size (fun r e=>by cases e;exact hp))));generalize Bk.dec l=R at*;obtain⟨b,f⟩:=R;have HOK:=Aj hok;have HER:=Aj her;clear hG hv hcm hss hok her hl;by_cases hf0:f=0
  ·subst hf0;obtain⟨hk0,Xn⟩:=HOK.1 rfl;have HB0:=Aj hk0;have HFI:=Aj Xn;clear hk0 Xn;go_enter func3,ntmps3;go_upto_region 11 with(first
    |(go_at_call 14;refine(CE.1 w7 _ _ _ _ _ _ _ B7.1 R7.1 V7.1 N7.1 P6.1.1).mono ?_;rintro e w8 ⟨A8,n8,c8,rfl,TK,hg⟩;have K8:=Aj TK;have B8:=Aj (B7.1.grown hg B7.1.size (fun r e=>by cases e;exact P6.1.1));have C8:=Aj (C7.1.grown hg C7.1.size (fun r e=>by cases e;exact P6.1.2));clear TK hg CE)
    |(go_at_call 13;refine(FE.1 w6 _ B6.1 R6.1 P6.1.1).mono ?_;rintro e w7 ⟨rfl,hg,A7,c7,at7,pt7,er7,s7,hr,hv,hA⟩;have R7:=Aj hr;have V7:=Aj hv;have N7:=Aj hA;have B7:=Aj (B6.1.grown hg B6.1.size (fun r e=>by cases e;exact P6.1.1));have C7:=Aj (C6.1.grown hg C6.1.size (fun r e=>by cases e;exact P6.1.2));clear hr hv hA hg FE)
    |(go_at_call 12;refine(uR w5).mono ?_;rintro e w6 ⟨rfl,hr,hb⟩;have R6:=Aj hr;have P6:Kept (w.heap.size≤w5.heap.size∧wR.heap.size≤w5.heap.size):=⟨⟨B5.1.size,C5.1.size⟩⟩;have B6:=Aj (B5.1.trans (hb.mono B5.1.size));have C6:=Aj (C5.1.trans (hb.mono C5.1.size));clear hr hb)
    |(go_at_call 11;rw[HWR.1];refine(OE.1 wR BR.1).mono ?_;rintro e w5 ⟨hb,h5⟩;obtain⟨-,p5,q5,A5,n5,c5,A5',n5',c5',E5,rfl,-⟩:=h5.resolve_left (fun q=>q.1 rfl);have B5:=Aj (BR.1.trans (hb.mono BR.1.size));have C5:=Aj hb;clear hb h5 OE)
    |(go_at_call 10;refine(VE.1 w2 B2.1).mono ?_;rintro e w3 ⟨vc,z0,z1,z2,z3,t1,t2,rfl,hvc,-,hb⟩;have HVC:=Aj hvc;have B3:=Aj (B2.1.trans (hb.mono B2.1.size));obtain⟨wR,SB⟩:∃wR,wR=w3.alloc (.cells #[.int .i64 vc,.int .i64 0,.int .i64 z0,.int .i64 z1,.int .i64 z2,.int .i64 z3,.int .i64 t1,.int .i64 t2] iV):=⟨_,rfl⟩;have HWR:=Aj SB.symm;have BR:Kept (Below w.heap.size w wR):=⟨by rw[SB];exact B3.1.alloc B3.1.size _⟩;have C2R:Kept (Below w2.heap.size w2 wR):=⟨by rw[SB];exact hb.alloc hb.size _⟩;have GR:Kept (wR.heap[w3.heap.size]? =some (.cells #[.int .i64 vc,.int .i64 0,.int .i64 z0,.int .i64 z1,.int .i64 z2,.int .i64 z3,.int .i64 t1,.int .i64 t2] iV (0,0))):=⟨by rw[SB];exact World.alloc_heap_new w3 _⟩;clear hvc hb SB VE)
    |(go_at_call 9;refine DE.1.mono ?_;rintro e w2 ⟨A4,n4,c4,rfl,hk,hb⟩;have K2:=Aj hk;have B2:=Aj hb;clear hk hb DE))
   have acV:vc=0:=by have:=HVC.1;simpa using this
   subst acV;have hz3:w3.heap.size<wR.heap.size:=(Ge.1 GR.1).1;have JS:=(C8.1.block w3.heap.size hz3).trans GR.1;have y0:=Co w8 w3.heap.size 0 _ _ _ JS;have y1:=Co w8 w3.heap.size 1 _ _ _ JS;simp at y0 y1;have ZL:=Aj (C2R.1.trans (C8.1.mono C2R.1.size));have EQ:=Aj (mM A4 A8 n4 c4 n8 c8 w8.heap.size w8.heap.size b w8 ((K2.1.below ZL.1).more ZL.1.size) K8.1 Ai Ai);clear JS hz3;have EN:=Aj (fun(W:World) (h:Below w2.heap.size w2 W) (hw:Below w.heap.size w W)=>zH A4 n4 c4 b W ((K2.1.below h).more h.size) HB0.1 (HG.1.below hw));have CK:=Aj (fun(W:World) (h:Below w2.heap.size w2 W)=>mK A4 n4 c4 w2.heap.size b W (K2.1.below h) h.size (by have:=HB0.1.cK;omega) HB0.1.fit);rw[HB0.1.bN]at CK;go_wp2_with (first
    |(go_at_call 18;refine(sD A10 A n10 n c10 c L10 l true OW OW.heap.size w.heap.size Z12.1 (HV.1.below B12.1) (by rw[Bk.File.uniq F10.1 HFI.1];simp)).mono ?_;rintro e OX ⟨rfl,rfl⟩)
    |(go_at_call 17;refine(CK.1 GN C11.1).mono ?_;rintro e OW ⟨rfl,hg⟩;have Z12:=Aj ((Z11.1.below hg.below).more hg.size);have B12:=Aj (B11.1.trans (hg.below.mono B11.1.size));clear hg)
    |(go_at_call 8;refine(ST.1 JW B10.1).mono ?_;rintro e GN ⟨rfl,hb⟩;have B11:=Aj (B10.1.trans (hb.mono B10.1.size));have C11:=Aj (C10.1.trans (hb.mono C10.1.size));have Z11:=Aj ((Z10.1.below hb).more hb.size);clear hb)
    |(go_at_call 16;refine(EN.1 w9 C9.1 B9.1).mono ?_;rintro e JW ⟨A10,n10,c10,L10,rfl,hf,ho,hb⟩;have F10:=Aj hf;have Z10:=Aj ho.rd;have B10:=Aj (B9.1.trans (hb.mono B9.1.size));have C10:=Aj (C9.1.trans (hb.mono C9.1.size));clear hf ho hb EN)
    |(go_at_call 15;refine EQ.1.mono ?_;rintro e w9 ⟨rfl,hg⟩;have B9:=Aj (B8.1.trans (hg.below.mono B8.1.size));have C9:=Aj (ZL.1.trans (hg.below.mono ZL.1.size));clear hg EQ))
   go_ret;exact⟨rfl,B12.1⟩
  ·have SV:=Aj hf0;have hf1:(f !=0)=true:=by simpa using hf0
   have hf2:(f==0)=false:=by simpa using hf0
   have hb0:=HER.1 hf0;clear hf0;go_enter func3,ntmps3;go_upto_region 11 with(first
    |(go_at_call 14;refine(CE.1 w7 _ _ _ _ _ _ _ B7.1 R7.1 V7.1 N7.1 P6.1.1).mono ?_;rintro e w8 ⟨A8,n8,c8,rfl,TK,hg⟩;have K8:=Aj TK;have B8:=Aj (B7.1.grown hg B7.1.size (fun r e=>by cases e;exact P6.1.1));have C8:=Aj (C7.1.grown hg C7.1.size (fun r e=>by cases e;exact P6.1.2));clear TK hg CE)
    |(go_at_call 13;refine(FE.1 w6 _ B6.1 R6.1 P6.1.1).mono ?_;rintro e w7 ⟨rfl,hg,A7,c7,at7,pt7,er7,s7,hr,hv,hA⟩;have R7:=Aj hr;have V7:=Aj hv;have N7:=Aj hA;have B7:=Aj (B6.1.grown hg B6.1.size (fun r e=>by cases e;exact P6.1.1));have C7:=Aj (C6.1.grown hg C6.1.size (fun r e=>by cases e;exact P6.1.2));clear hr hv hA hg FE)
    |(go_at_call 12;refine(uR w5).mono ?_;rintro e w6 ⟨rfl,hr,hb⟩;have R6:=Aj hr;have P6:Kept (w.heap.size≤w5.heap.size∧wR.heap.size≤w5.heap.size):=⟨⟨B5.1.size,C5.1.size⟩⟩;have B6:=Aj (B5.1.trans (hb.mono B5.1.size));have C6:=Aj (C5.1.trans (hb.mono C5.1.size));clear hr hb)
    |(go_at_call 11;rw[HWR.1];refine(OE.1 wR BR.1).mono ?_;rintro e w5 ⟨hb,h5⟩;obtain⟨-,rfl⟩:=h5.resolve_right (fun q=>SV.1 q.1);have B5:=Aj (BR.1.trans (hb.mono BR.1.size));have C5:=Aj hb;clear hb h5 OE)
    |(go_at_call 10;refine(VE.1 w2 B2.1).mono ?_;rintro e w3 ⟨vc,z0,z1,z2,z3,t1,t2,rfl,hvc,-,hb⟩;have HVC:=Aj hvc;have B3:=Aj (B2.1.trans (hb.mono B2.1.size));obtain⟨wR,SB⟩:∃wR,wR=w3.alloc (.cells #[.int .i64 vc,.int .i64 f,.int .i64 z0,.int .i64 z1,.int .i64 z2,.int .i64 z3,.int .i64 t1,.int .i64 t2] iV):=⟨_,rfl⟩;have HWR:=Aj SB.symm;have BR:Kept (Below w.heap.size w wR):=⟨by rw[SB];exact B3.1.alloc B3.1.size _⟩;have C2R:Kept (Below w2.heap.size w2 wR):=⟨by rw[SB];exact hb.alloc hb.size _⟩;have GR:Kept (wR.heap[w3.heap.size]? =some (.cells #[.int .i64 vc,.int .i64 f,.int .i64 z0,.int .i64 z1,.int .i64 z2,.int .i64 z3,.int .i64 t1,.int .i64 t2] iV (0,0))):=⟨by rw[SB];exact World.alloc_heap_new w3 _⟩;clear hvc hb SB VE)
    |(go_at_call 9;refine DE.1.mono ?_;rintro e w2 ⟨A4,n4,c4,rfl,hk,hb⟩;have K2:=Aj hk;have B2:=Aj hb;clear hk hb DE))
   have acV:(vc==0)=false:=by have:=HVC.1;have:=SV.1;simp;omega
   have hz3:w3.heap.size<wR.heap.size:=(Ge.1 GR.1).1;have JS:=(C8.1.block w3.heap.size hz3).trans GR.1;have y0:=Co w8 w3.heap.size 0 _ _ _ JS;have y1:=Co w8 w3.heap.size 1 _ _ _ JS;simp at y0 y1;have ZL:=Aj (C2R.1.trans (C8.1.mono C2R.1.size));have EQ:=Aj (mM A4 A8 n4 c4 n8 c8 w8.heap.size w8.heap.size b w8 ((K2.1.below ZL.1).more ZL.1.size) K8.1 Ai Ai);clear JS hz3;have hn4:n4=0:=by rw[K2.1.len,hb0];rfl
   subst hn4;go_wp2_with (first
    |(go_at_call 8;refine(ST.1 w9 B9.1).mono ?_;rintro e GN ⟨rfl,hb⟩;have B11:=Aj (B9.1.trans (hb.mono B9.1.size));clear hb)
    |(go_at_call 15;refine EQ.1.mono ?_;rintro e w9 ⟨rfl,hg⟩;have B9:=Aj (B8.1.trans (hg.below.mono B8.1.size));clear hg EQ))
   go_ret;exact⟨rfl,B11.1⟩
end
namespace topImage
open Go
theorem k0:(Rows.topImageRow.wf (OpenSpec.ofChange Rows.topImageSpec))=true:=kr
theorem k1:(laidOutB prog)=true:=kr
theorem k2:(mapsRowed prog)=true:=kr
theorem k3:(Tryz.f3.params.all (prog.readableRec ·))=true:=kr
theorem k4:(namedTie prog Rows.topImageRow.named Rows.topImageSpec.vars)=true:=kr
theorem k5:((Rows.topImageRow.stops==[]))=true:=kr
theorem k6:((prog.stops==[]))=true:=kr
theorem k7:((Rows.topImageRow.knobs==[]))=true:=kr
theorem k8:((prog.stopKnobs==[]))=true:=kr
theorem k9:((Rows.topImageRow.inPlace==prog.inPlace 3))=true:=kr
theorem k10:((Rows.topImageRow.unfollowed==prog.unfollowed 3))=true:=kr
theorem k11:((Rows.topImageRow.recurses==prog.recurses 3))=true:=kr
theorem k12:((Rows.topImageRow.named==prog.varsNamed 3))=true:=kr
theorem k13:((Rows.topImageRow.maps==(Tryz.f3.params.toList++Rows.topImageSpec.plain.varTypes prog).any (prog.mapsRec ·)))=true:=kr
theorem k14:((Rows.topImageRow.ifaces==(Tryz.f3.params.toList++Rows.topImageSpec.plain.varTypes prog).any (prog.ifacesRec ·)))=true:=kr
theorem k15:((Rows.topImageRow.mapsOut==prog.mapsAmong Tryz.f3.resultTypes.toList))=true:=kr
theorem k16:((Rows.topImageRow.loops==(Tryz.f3.params.toList++Rows.topImageSpec.plain.varTypes prog).any (prog.loopsFrom ·)))=true:=kr
theorem k17:((Rows.topImageRow.wideKeys==(Tryz.f3.params.toList++Rows.topImageSpec.plain.varTypes prog++Tryz.f3.resultTypes.toList).any (prog.wideKeysFrom ·)))=true:=kr
theorem k18:(Rows.topImageSpec.vars.all (prog.varReadable ·))=true:=kr
theorem k19:(Tryz.f3.resultTypes.all (fun t=>prog.readableRec t&&decide (t<prog.types.size)))=true:=kr
theorem k20:((Rows.topImageRow.ifacesOut==Tryz.f3.resultTypes.toList.any (prog.ifacesRec ·)))=true:=kr
theorem k21:((Rows.topImageRow.loopsOut==Tryz.f3.resultTypes.toList.any (prog.loopsFrom ·)))=true:=kr
theorem k22:((Rows.topImageRow.plainKeys==prog.plainKeys))=true:=kr
theorem k23:(Rows.topImageRow.shortTexts.isNone)=true:=kr
theorem k24:(prog.stopsHeard)=true:=kr
theorem k25:(prog.mayEnter)=true:=kr
theorem k26:((Rows.topImageRow.lifted==prog.liftsFinal))=true:=kr
theorem k27:((prog.make==some Rows.topImageRow.make))=true:=kr
theorem k28:((Rows.topImageRow.kinds==(if Rows.topImageRow.domain.isEmpty then[]else Tryz.f3.params.toList.map fun t=>match prog.underlying t with|some (.int k)=>some k|_=>none)))=true:=kr
theorem k29:((Rows.topImageRow.pinned==Rows.topImageRow.pinnedBy))=true:=kr
theorem k30:((Rows.topImageRow.veiled==(Tryz.f3.params.toList++Rows.topImageSpec.plain.varTypes prog++Tryz.f3.resultTypes.toList).any (prog.veiledRec ·)))=true:=kr
theorem k31:(Rows.topImageRow.veiledFits prog Tryz.f3.params.toList (Tryz.f3.params.toList++Rows.topImageSpec.plain.varTypes prog++Tryz.f3.resultTypes.toList))=true:=kr
theorem aM {a b} (h:a=true) (g:b=true):(a&&b)=true:=by rw[h,g];rfl
theorem closed:joinedFacts prog 3 Tryz.f3 Rows.topImageSpec Rows.topImageRow=true:=by
 unfold joinedFacts;exact(aM (aM (aM (aM (aM (aM (aM (aM (aM (aM (aM (aM (aM (aM (aM (aM (aM (aM (aM (aM (aM (aM (aM (aM (aM (aM (aM (aM (aM (aM (aM k0 k1) k2) k3) k4) k5) k6) k7) k8) k9) k10) k11) k12) k13) k14) k15) k16) k17) k18) k19) k20) k21) k22) k23) k24) k25) k26) k27) k28) k29) k30) k31)
end topImage
end Go.Proofs.YtjcpmfphnodaaaaGreatDoor
