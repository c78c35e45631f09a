/- Part 30. -/
import Derived.Test.YtjcpmfphnodaaaaGreatDoorZTBC
import Derived.Test.YtjcpmfphnodaaaaGreatDoorZTAT
namespace Go.Proofs.YtjcpmfphnodaaaaGreatDoor
set_option maxRecDepth 100000
set_option maxHeartbeats 0
open _root_.Go.Proofs.Tryz
section
open Go.RowKit Go.Shelf
theorem uH {w w1 w2:World} {p} (hp:w.heap.size≤p) (hz:w.heap.size≤w1.heap.size) (hg:w1.grownBy w2 (some p)):Below w.heap.size w1 w2:=
 (Ae _ _).grown hg hz (fun g e=>by cases e;exact hp)
theorem Vu {w w1 w2 w3:World} {p} (hp:w.heap.size≤p) (hz:w.heap.size≤w1.heap.size) (hg:w1.grownBy w2 (some p)) (h:Below w2.heap.size w2 w3):Below w.heap.size w1 w3:=
 (uH hp hz hg).trans (h.mono (Lt hz hg.size))
theorem qj {B} {w w1} (h:Below B w w1) (q):Below B w (w1.drewN q):=⟨h.os,h.tape,h.output,h.size,h.block⟩
theorem qm (kn) (kk) (g:Nat) (hk:(kn=1∧kk=1∧g=217)∨(kn=2∧kk=2∧g=220)∨(kn=3∧kk=3∧g=223)) (A A0) (n c n0 c0 b0 off N _B:Nat) (L) (T:List Int×List Bool×Int) (V) (w) (hA:A=some ⟨b0,off,none⟩) (hlc:n≤c) (hcm:c≤9223372036854775807) (hn2:2≤n) (hcx:A0=if c=2 then some ⟨b0,off,none⟩else some ⟨b0,off+2,none⟩) (hn0:n0=n-2) (hc0:c0=c-2)
  (h0:w.cell? ⟨b0,off,none⟩=some (.int .u8 kk)) (h1:w.cell? ⟨b0,off+1,none⟩=some (.int .u8 ((N:Int)-1))) (hN1:1≤N) (hN:N≤120) (hG:Gl w)
  (NB:Kept (∀W,Below w.heap.size w W→Calls prog 177 #[.slice A0 n0 c0] W fun r w'=>∃p,r= .returned (.pointer (some ⟨p,0,none⟩))∧w.heap.size≤p∧Br w' p (Bt.bits L)∧Below w.heap.size w w'))
  (TG:Kept (∀p w1,w.heap.size≤p→Br w1 p (Bt.bits L)→Below w.heap.size w w1→Calls prog 178 #[.pointer (some ⟨p,0,none⟩),.int .i64 (N:Int)] w1 fun e w'=>∃A2 n2 c2,e= .returned (.tuple #[.slice A2 n2 c2,.int .i64 T.2.2])∧eG w' w1.heap.size A2 n2 c2 T.1∧Br w' p T.2.1∧w1.grownBy w' (some p)))
  (VG:Kept (∀p w3,w.heap.size≤p→Br w3 p T.2.1→Below w.heap.size w w3→Calls prog g #[.pointer (some ⟨p,0,none⟩),.int .i64 (N:Int)] w3 (Ry w3 p V)))
  (hTl:T.2.2=0→T.1.length=N) (hVl:V.2.2=0→V.1.length=N∧∀x∈V.1,x<2^64):
  Calls prog 125 #[.slice A n c] w (qi w (if T.2.2≠0 then([],T.2.2)else if V.2.2≠0 then([],V.2.2)else if Ck.fin V.2.1≠0 then([],4)else if Ck.choose V.1≠kn then([],8)else(T.1.zip V.1,0))):=by
 obtain⟨tl,r1,eT⟩:=T;obtain⟨vl,r2,eV⟩:=V;simp only[]at TG VG hTl hVl⊢;obtain⟨f,hf⟩:∃f,Ck.fin r2=f:=⟨_,rfl⟩
 obtain⟨cz,hcz⟩:∃cz,Ck.choose vl=cz:=⟨_,rfl⟩
 obtain⟨Q,hQ⟩:∃Q,Q=(if eT≠0 then([],eT)else if eV≠0 then([],eV)else if Ck.fin r2≠0 then([],4)else if Ck.choose vl≠kn then([],8)else(tl.zip vl,(0:Int))):=⟨_,rfl⟩
 rw[←hQ];rw[hf,hcz]at hQ;have HF:=Aj hf;have HC:=Aj hcz;have KG:=Aj hG;have HTL:=Aj hTl;have HVL:=Aj hVl;have HEV:Kept ((0:Int)=0):=⟨rfl⟩
 have hn1':¬(n:Int)<1:=om;have afg:¬(n:Int)<2:=om;have hmx:¬(120:Int)≤(N:Int)-1:=om;have hcl:c0≤9223372036854775807:=om;have EC:=Aj (fun W=>iU W);unfold Ro Nl at EC;have ix0:=fun W=>YJ W
 have ix1:=fun W=>YK W
 have ix2:=fun W=>YL W
 have fl:=fun a b c W=>abJ a b c W
 have CASES:((eT !=0)=true∧Q=([],eT))∨(eT=0∧((eV !=0)=true∧(eV==0)=false)∧Q=([],eV))∨(eT=0∧eV=0∧f=4∧Q=([],4))∨(eT=0∧eV=0∧f=0∧((cz:Int) !=kk)=true∧Q=([],8))∨(eT=0∧eV=0∧f=0∧cz=kn∧Q=(tl.zip vl,0)):=by
  by_cases h1:eT=0
  ·by_cases h2:eV=0
   ·by_cases h3:f=0
    ·by_cases h4:cz=kn
     ·exact .inr (.inr (.inr (.inr ⟨h1,h2,h3,h4,by rw[hQ,Ng (by simpa using h1),Ng (by simpa using h2),Ng (by simpa using h3),Ng (by simpa using h4)]⟩)))
     ·refine .inr (.inr (.inr (.inl ⟨h1,h2,h3,by simp;omega,by rw[hQ,Ng (by simpa using h1),Ng (by simpa using h2),Ng (by simpa using h3),Ps0 h4]⟩)))
    ·refine .inr (.inr (.inl ⟨h1,h2,?_,by rw[hQ,Ng (by simpa using h1),Ng (by simpa using h2),Ps0 h3]⟩));rw[←hf]at h3⊢;unfold Ck.fin at h3⊢;split
     ·rfl
     ·rename_i h;rw[Ng h]at h3;exact absurd rfl h3
   ·exact .inr (.inl ⟨h1,⟨by simpa using h2,by simpa using h2⟩,by rw[hQ,Ng (by simpa using h1),Ps0 h2]⟩)
  ·exact .inl ⟨by simpa using h1,by rw[hQ,Ps0 h1]⟩
 have CS:(c=2∧n=2∧A0=some ⟨b0,off,none⟩)∨(¬c=2∧A0=some ⟨b0,off+2,none⟩):=by
  by_cases h:c=2
  ·exact .inl ⟨h,om,by rw[hcx,Ps0 h]⟩
  ·exact .inr ⟨h,by rw[hcx,Ng h]⟩
 subst hA;subst hn0;subst hc0;clear hQ hf hcz hG hTl hVl hcx;rcases hk with⟨rfl,rfl,rfl⟩|⟨rfl,rfl,rfl⟩|⟨rfl,rfl,rfl⟩
 all_goals
  rcases CS with⟨rfl,rfl,rfl⟩|⟨hc2,rfl⟩
  all_goals
   rcases CASES with⟨h1,e⟩|⟨rfl,⟨h1,h2⟩,e⟩|⟨rfl,rfl,rfl,e⟩|⟨rfl,rfl,rfl,h1,e⟩|⟨rfl,rfl,rfl,rfl,e⟩
   all_goals
    have vZ:=Aj e;have mkm:=fun W=>Li N om W
    clear e;go_enter func125,ntmps125;go_wp2_with fail;go_quiet (fail);go_wp2_with (first
     |(go_at_call 181;refine(uF A4 n4 c4 w4.heap.size vl (w4.drewN q) OV.1.rd Ai (HVL.1 sm).2 (by have:=OV.1.len;have:=(HVL.1 sm).1;omega) (KG.1.below S4.1).dbj (KG.1.below S4.1).Z6).mono ?_;rintro e w6 ⟨rfl,h1⟩;have B6:=Aj ((qj S4.1 q).trans (h1.mono S4.1.size));have X6:=Aj (show Below w4.heap.size w4 w6 from⟨h1.os,h1.tape,h1.output,h1.size,h1.block⟩);have O6:=Aj (show aG w6 w3.heap.size A4 n4 c4 vl from own_below OV.1 X6.1 (fun g e=>(ae OV.1 g e).2));clear h1;rw[HC.1])
     |(go_at_call 180;refine(Fy p r4 w4 R4.1).mono ?_;rintro e w5 ⟨rfl,q,rfl⟩;have FE:=Aj (E4.1 HEV.1);rw[FE.1,HF.1])
     |((first|go_at_call 217|go_at_call 220|go_at_call 223);refine(VG.1 p w3 P1.1 R3.1 S3.1).mono ?_;rintro e w4 ⟨A4,n4,c4,r4,rfl,q1,q2,q3,q4⟩;have OV:=Aj q1;have R4:=Aj q2;have E4:=Aj q3;have G4:=Aj q4;have S4:=Aj (S3.1.trans (uH P1.1 S3.1.size q4));clear q1 q2 q3 q4)
     |(go_at_call 179;refine(EC.1 w2).mono ?_;rintro e w3 ⟨rfl,h1⟩;have B3:=Aj h1;have R3:=Aj (R2.1.below h1 R2.1.lt);have S3:=Aj (B1.1.trans (Vu P1.1 B1.1.size G2.1 h1));clear h1)
     |(go_at_call 178;refine(TG.1 p w1 P1.1 R1.1 B1.1).mono ?_;rintro e w2 ⟨A2,n2,c2,rfl,q1,q2,q3⟩;have OT:=Aj q1;have R2:=Aj q2;have G2:=Aj q3;clear q1 q2 q3)
     |(go_at_call 177;refine(NB.1 _ (qj (Ae _ w) _)).mono ?_;rintro e w1 ⟨p,rfl,hp1,hp2,hp3⟩;have R1:=Aj hp2;have B1:=Aj hp3;have P1:=Aj hp1;clear hp2 hp3 NB))
   ·go_ret2;exact qi.bad vZ.1 (B1.1.trans (uH P1.1 B1.1.size G2.1))
   ·go_ret2;exact qi.bad vZ.1 S4.1
   ·go_ret2;exact qi.bad vZ.1 (qj S4.1 q)
   ·go_ret2;exact qi.bad vZ.1 B6.1
   ·skip;have SX:=HTL.1 sm;have hlV:=(HVL.1 sm).1;have OT6:eG w6 w1.heap.size A2 n2 c2 tl:=own_below (kX (own_below OT.1 B3.1 (fun g e=>(ae OT.1 g e).2)) G4.1 R1.1.lt) X6.1 (fun g e=>(ae (kX (own_below OT.1 B3.1 (fun g e=>(ae OT.1 g e).2)) G4.1 R1.1.lt) g e).2);obtain rfl:N=n2:=by rw[←SX];exact OT6.len.symm
    obtain rfl:N=n4:=by rw[←hlV];exact O6.1.len.symm
    have RT:=Aj OT6.rd;have RV:=Aj O6.1.rd;have OM:=Aj (bF.zeros w6 N w6.heap.size om Ai);have HLT:=Aj SX;have HLV:=Aj hlV;have hzl:Kept (N=(tl.zip vl).length):=⟨by rw[Dp];omega⟩
    have cT:=OT6.rd.2.1;have cV:=O6.1.rd.2.1;have cT2:=OT6.rd.1;have cV2:=O6.1.rd.1;unfold maxLen at cT cV;have BA:=Aj ((Ae w6.heap.size w6).alloc Ai (.cells (madeCells #[.int .i64 0,.int .u64 0] (N*2)) 127));clear SX hlV OT6 mkm;generalize w6.alloc (.cells (madeCells #[.int .i64 0,.int .u64 0] (N*2)) 127)=wm at*;obtain⟨gm,hgm⟩:∃gm,gm=w6.heap.size:=⟨_,rfl⟩
    rw[←hgm]at OM RT RV BA⊢;have HGM:=Aj hgm;clear hgm;go_loopw [87] (fun i wr=>∃k:Nat,k≤N∧i= .int .i64 k∧bF wr gm (some ⟨gm,0,none⟩) N N (vY (tl.zip vl) (0,0) k N)∧Below gm w6 wr) (fun i _=>N-(intOf i).toNat)
    case atStart=>exact⟨0,om,rfl,by rw[uG];exact OM.1,BA.1⟩
    case round=>
     clear OM BA;obtain⟨k,hk,rfl,oM,hb⟩:=hrel;by_cases hlt:k<N
     ·have hkT:k<tl.length:=by rw[HLT.1];exact hlt
      have hkV:k<vl.length:=by rw[HLV.1];exact hlt
      have hkZ:k< (tl.zip vl).length:=by rw[←hzl.1];exact hlt
      have hfz:=zy (tl.zip vl) (0,0) k N hlt hzl.1;rw[DT]at hfz;have HFZ:=Aj hfz;obtain⟨bt,ot,rfl,-,e1⟩:=(RT.1.below hb).at_ hkT;obtain⟨bv,ov,rfl,-,e2⟩:=(RV.1.below hb).at_ hkV;have lM:k< (vY (tl.zip vl) (0,0) k N).length:=by rw[←oM.len];exact hlt
      obtain⟨a0,a1,f0,f1⟩:=oM.at_ lM;have OMK:=Aj oM;have HB:=Aj hb;generalize (vY (tl.zip vl) (0,0) k N)[k]=old at a0 a1;clear hfz oM hb lM;generalize tl[k]=tx at*;generalize vl[k]=vx at*;go_wp2_with fail;go_region;have OM2:=OMK.1.set k (tx,vx);rw[HFZ.1]at OM2;have KM2:=Aj OM2;have SN:=Aj ((HB.1.setCell (p:=⟨gm,k*2,none⟩) Ai (.int .i64 tx)).setCell (p:=⟨gm,k*2+1,none⟩) Ai (.int .u64 (vx:Int)));clear OM2;go_wp2;go_roundw
      case rel=>exact⟨k+1,om,by go_num,KM2.1,SN.1.drew⟩
      case measure=>simp[intOf];omega
     ·obtain rfl:k=N:=by omega
      rw[Lh _ _ k hzl.1]at oM;have OMK:=Aj oM;have HB:=Aj hb;clear oM hb;go_wp2;go_ret2;have z6:=B6.1.size;refine⟨_,_,_,by rw[vZ.1];rfl,by rw[vZ.1];exact qh OMK.1 (by rw[HGM.1];exact z6),B6.1.trans (HB.1.mono (by rw[HGM.1];exact z6))⟩
end
section
open Go.RowKit Go.Shelf
theorem dtg (w) (N:Nat) (L) (hN:N≤120) (hG:Gl w):Kept (∀p w1,w.heap.size≤p→Br w1 p (Bt.bits L)→Below w.heap.size w w1→Calls prog 178 #[.pointer (some ⟨p,0,none⟩),.int .i64 (N:Int)] w1 fun e w'=>∃A2 n2 c2,e= .returned (.tuple #[.slice A2 n2 c2,.int .i64 (Tm.dec N (Bt.bits L)).2.2])∧eG w' w1.heap.size A2 n2 c2 (Tm.dec N (Bt.bits L)).1∧Br w' p (Tm.dec N (Bt.bits L)).2.1∧w1.grownBy w' (some p)):=
 ⟨fun p w1 hp hB hb=>Q7 p N _ w1 hB (hG.frm.below hb) (jB hG.frm.lt hp) om⟩
theorem afl (w) (N:Nat) (r) (hN:N≤120) (hG:Gl w):Kept (∀p w3,w.heap.size≤p→Br w3 p r→Below w.heap.size w w3→Calls prog 217 #[.pointer (some ⟨p,0,none⟩),.int .i64 (N:Int)] w3 (Ry w3 p (Ck.gy 1 N r))):=
 ⟨fun p w3 hp hB hb=>Rz p N r w3 hB om (hG.below hb).dbj (jB hG.Z6 hp)⟩
theorem afm (w) (N:Nat) (r) (hN:N≤120):Kept (∀p w3,w.heap.size≤p→Br w3 p r→Below w.heap.size w w3→Calls prog 220 #[.pointer (some ⟨p,0,none⟩),.int .i64 (N:Int)] w3 (Ry w3 p (Ck.gy 2 N r))):=
 ⟨fun p w3 _ hB _=>(Rj p N r w3 hB om).mono fun _ _ ⟨A2,n2,c2,h1,h2,h3,h4⟩=>⟨A2,n2,c2,_,h1,h2,h3,fun _=>rfl,h4⟩⟩
theorem afn (w) (N:Nat) (r) (hN:N≤120):Kept (∀p w3,w.heap.size≤p→Br w3 p r→Below w.heap.size w w3→Calls prog 223 #[.pointer (some ⟨p,0,none⟩),.int .i64 (N:Int)] w3 (Ry w3 p (Ck.gy 3 N r))):=
 ⟨fun p w3 _ hB _=>(Re p N r w3 hB om).mono fun _ _ ⟨A2,n2,c2,h1,h2,h3,h4⟩=>⟨A2,n2,c2,_,h1,h2,h3,fun _=>rfl,h4⟩⟩
theorem kZ (A) (n c B) (L) (w) (hv:aN w B A n c L) (hB:B≤w.heap.size) (hn:n≤100000000) (hG:Gl w):
  Calls prog 125 #[.slice A n c] w (qi w (Ck.dec L)):=by
 by_cases hbad:∀(t m:UInt8) (b:List UInt8),L=t::m::b→(t.toNat<1∨3<t.toNat)∨120≤m.toNat
 ·exact FY A n c B L w hv hB hn hbad
 ·obtain⟨t,m,b,rfl,ht,hm⟩:∃t m b,L=t::m::b∧¬(t.toNat<1∨3<t.toNat)∧¬120≤m.toNat:=by
   refine Cj fun h=>hbad fun t m b e=>?_
   by_cases h1:t.toNat<1∨3<t.toNat
   ·exact .inl h1
   ·by_cases h2:120≤m.toNat
    ·exact .inr h2
    ·exact absurd ⟨t,m,b,e,h1,h2⟩ h
  have hl:=hv.len;have hlc:=hv.1;have hcm:=hv.2.1;unfold maxLen at hcm;have hn2:2≤n:=by simp at hl;omega
  obtain⟨b0,off,rfl,hb,h0⟩:=hv.at_ (k:=0) sm;rw[Da]at h0;simp only[Cx]at h0;obtain⟨b',off',e',hb',h1⟩:=hv.at_ (k:=1) sm;simp only[gV,BP,Bi]at e';obtain⟨rfl,rfl⟩:=e';simp only[Bz,Cx]at h1;have hD:Ck.dec (t::m::b)=Ck.Ue t.toNat (m.toNat+1) (Bt.bits b):=by
   simp only[Ck.dec];rw[Ng ht,Ng hm]
  have hd:=hv.drop (k:=2) om;simp only[Bv,BO,DV,add_plain]at hd;have NB:Kept (∀W,Below w.heap.size w W→Calls prog 177 #[.slice (if c=2 then some ⟨b0,off,none⟩else some ⟨b0,off+2,none⟩) (n-2) (c-2)] W fun r w'=>∃p,r= .returned (.pointer (some ⟨p,0,none⟩))∧w.heap.size≤p∧Br w' p (Bt.bits b)∧Below w.heap.size w w'):=⟨fun W hW=>(Fx _ _ _ B b W (hd.below (hW.mono hB)) (Lt hB hW.size) om).mono fun _ _ ⟨p,q1,q2,q3,q4⟩=>⟨p,q1,Lt hW.size q2,q3,hW.trans (q4.mono hW.size)⟩⟩
  have hT:∀(h:(Tm.dec (m.toNat+1) (Bt.bits b)).2.2=0),(Tm.dec (m.toNat+1) (Bt.bits b)).1.length=m.toNat+1:=fun h=>(Tm.fG (show Tm.dec (m.toNat+1) (Bt.bits b)=(_,_,0)from Ba rfl (Ba rfl h))).1
  have hV:∀(tag:Nat) (r:List Bool) (h:(Ck.gy tag (m.toNat+1) r).2.2=0),(Ck.gy tag (m.toNat+1) r).1.length=m.toNat+1∧∀x∈(Ck.gy tag (m.toNat+1) r).1,x<2^64:=fun tag r h=>by
   obtain⟨g1,g2,-⟩:=Ck.Ev (show Ck.gy tag (m.toNat+1) r=(_,_,0)from Ba rfl (Ba rfl h));exact⟨g1,g2⟩
  have h1':w.cell? ⟨b0,off+1,none⟩=some (.int .u8 (((m.toNat+1:Nat):Int)-1)):=by
   rw[h1];congr 2;omega
  rw[hD];have hcs:t.toNat=1∨t.toNat=2∨t.toNat=3:=om;rcases hcs with e|e|e
  ·rw[e]at h0⊢;exact qm 1 1 _ (.inl ⟨rfl,rfl,rfl⟩) _ _ n c (n-2) (c-2) b0 off (m.toNat+1) B b _ _ w rfl hlc om hn2 rfl rfl rfl h0 h1' om om hG NB (dtg w _ b om hG) (afl w _ _ om hG) hT (hV 1 _)
  ·rw[e]at h0⊢;exact qm 2 2 _ (.inr (.inl ⟨rfl,rfl,rfl⟩)) _ _ n c (n-2) (c-2) b0 off (m.toNat+1) B b _ _ w rfl hlc om hn2 rfl rfl rfl h0 h1' om om hG NB (dtg w _ b om hG) (afm w _ _ om) hT (hV 2 _)
  ·rw[e]at h0⊢;exact qm 3 3 _ (.inr (.inr ⟨rfl,rfl,rfl⟩)) _ _ n c (n-2) (c-2) b0 off (m.toNat+1) B b _ _ w rfl hlc om hn2 rfl rfl rfl h0 h1' om om hG NB (dtg w _ b om hG) (afn w _ _ om) hT (hV 3 _)
end
section
open Go.RowKit Go.Shelf
theorem Bk.Nv (b:Bk.iP) {k} (h:k<b.length):Bk.sets (b.take (k+1))=Bk.sets (b.take k)++[b[k].1]:=by
 unfold Bk.sets;rw[Ts h,dY];rfl
theorem Ps.Nw (M) (m):Ps.strs (M++[m])=Ps.strs M++Lb.strs m:=by unfold Ps.strs;rw[oV];simp
theorem Bk.zz (b) (k):Ps.wt (Bk.sets (b.take k))≤Ps.wt (Bk.sets b):=by
 unfold Bk.sets;rw[List.map_take];exact Ps.Ku _ _
theorem zA (A) (n c B) (b) (w) (hv:iE w B A n c b) (hB:B≤w.heap.size) (hw:Ps.wt (Bk.sets b)≤500000):
  Calls prog 85 #[.slice A n c] w fun r w'=>∃A2 n2 c2 T,r= .returned (.slice A2 n2 c2)∧Sy.eD (Ps.strs (Bk.sets b)) T∧bM w' w'.heap.size A2 n2 c2 T∧Below w.heap.size w w':=by
 obtain⟨hlc,hcm⟩:=hv.cap;unfold maxLen at hcm;have HN:=Aj hv.len;have V:=Aj hv;have hSL:Kept (∀k,(Ps.strs (Bk.sets (b.take k))).length≤1000000):=⟨fun k=>by
  have h1:=Ps.oo (Bk.sets (b.take k));have h2:=Bk.zz b k;omega⟩
 clear hv hw;go_enter func85,ntmps85;go_wp2;go_loopw [3,8] (fun o i wr=>∃k:Nat,k≤n∧i= .int .i64 k∧∃(A2:Option Addr) (n2 c2:Nat),o= .slice A2 n2 c2∧aS wr w.heap.size A2 n2 c2 (Ps.strs (Bk.sets (b.take k)))∧Below w.heap.size w wr) (fun _ i _=>n-(intOf i).toNat)
 case atStart=>exact⟨0,om,rfl,none,0,0,rfl,(show aS w w.heap.size none 0 0 []from AY _ _ _ _),Ae _ _⟩
 case round=>
  obtain⟨k,hk,rfl,A2,n2,c2,rfl,ho,hb⟩:=hrel;have O:=Aj ho;have HB:=Aj hb;have oH:=hb.size;have hn2:=ho.len;have afg:n2≤1000000:=by have:=hSL.1 k;omega
  have HN2:=Aj hn2;clear hn2;by_cases hlt:k<n
  ·have hkl:k<b.length:=by rw[←HN.1];exact hlt
   obtain⟨b0,off,A1,n1,c1,A3,n3,c3,rfl,hL,-,hc⟩:=V.1.cells hB hkl;obtain⟨r0,r1⟩:=hc wr hb;have ht:Kept (Ps.strs (Bk.sets (b.take (k+1)))=Ps.strs (Bk.sets (b.take k))++Lb.strs b[k].1):=⟨by rw[Bk.Nv b hkl,Ps.Nw]⟩
   have hln:(Lb.strs b[k].1).length≤1000000:=by
    have:=hSL.1 (k+1);rw[ht.1,La]at this;omega
   have rE:=Lb.aQ b[k].1;have hnl:=hL.len;have hb5:=hb.alloc oH (.cells #[.slice A1 n1 c1,.slice A3 n3 c3] 57);have O5:aS (wr.alloc (.cells #[.slice A1 n1 c1,.slice A3 n3 c3] 57)) w.heap.size A2 n2 c2 (Ps.strs (Bk.sets (b.take k))):=Oa ho _;have B5:=Aj hb5;have KO5:=Aj O5;have ST:=Aj (jI A1 n1 c1 b[k].1 (wr.alloc (.cells #[.slice A1 n1 c1,.slice A3 n3 c3] 57)) ((hL.below (hb5.mono hB)).more (Lt hB hb5.size)) om);have HLN:=Aj hln;clear ho hb hc hL hln rE hnl hb5 O5;generalize b[k].1=m at*;go_wp2_with (first
    |(at_builtin;refine gu rfl (.tmp 12) (.tmp 15) rfl w.heap.size A2 n2 c2 _ rfl O6.1 _ _ _ _ _ rfl O7.1 (by have:=HLN.1;have:=H7.1;omega) (by have:=B6.1.size;omega) ?_;intro A8 c8 w8 hown hgrow hat;have O8:=Aj hown;have B8:=Aj (B6.1.grown hgrow B6.1.size (fun g hg=>(ae O6.1 g hg).1));clear hown hgrow hat)
    |(go_at_call 123;refine ST.1.mono ?_;rintro r w6 ⟨A7,n7,c7,rfl,ho,hb⟩;have O7:=Aj ho.rd;have H7:=Aj ho.len;have O6:=Aj (show aS w6 w.heap.size A2 n2 c2 (Ps.strs (Bk.sets (b.take k)))from aR KO5.1 hb);have B6:=Aj (B5.1.trans (hb.mono B5.1.size));clear ho hb ST))
   go_roundw
   case rel=>exact⟨k+1,om,by go_num,A8,_,c8,rfl,by rw[ht.1];exact O8.1,B8.1⟩
   case measure=>simp[intOf];omega
  ·obtain rfl:k=n:=by omega
   have hall:b.take k=b:=jY (by rw[←HN.1];exact Nr _);have TB:=Aj (IP A2 n2 c2 _ wr ho.rd om);rw[hall]at TB;clear hall ho hb;go_wp2_with (go_at_call 141;refine TB.1.mono ?_;rintro r w6 ⟨A7,n7,c7,T,rfl,ht,ho,hb⟩;have HT:=Aj ht;have O7:=Aj ho;have B7:=Aj (HB.1.trans (hb.mono oH));clear ht ho hb TB);go_ret;exact⟨A7,n7,c7,T,rfl,HT.1,O7.1,B7.1⟩
end
section
open Go.RowKit Go.Shelf
def zN (t:TypeId):Prop:=t=55∨t=127∨t=24∨t=171∨t=54∨t=76
def iL (B:Nat) (W W':World):Prop:=Below B W W'∧∀(r:Nat) (cs:Array Value) (t:TypeId) (q:Nat×Nat),zN t→W.heap[r]? =some (Obj.cells cs t q)→W'.heap[r]? =some (Obj.cells cs t q)
theorem iL.refl (B) (W):iL B W W:=⟨Ae _ _,fun _ _ _ _ _ h=>h⟩
theorem iL.trans {B} {W W' W''} (h:iL B W W') (h':iL B W' W''):iL B W W'':=⟨h.1.trans h'.1,fun r cs t q ht hr=>h'.2 r cs t q ht (h.2 r cs t q ht hr)⟩
theorem iL.grown {B} {W W'} {row} (hB:B≤W.heap.size) (hg:W.grownBy W' row) (hr:∀r,row=some r→B≤r∧∀(cs) (t) (q),W.heap[r]? =some (Obj.cells cs t q)→¬zN t):iL B W W':=
 ⟨(Ae _ _).grown hg hB (fun r e=>(hr r e).1),fun r cs t q ht h=>(hg.block r (Ge.1 h).1 (fun e=>(hr r e.symm).2 cs t q h ht)).trans h⟩
theorem iL.none {B:Nat} {W W':World} (hB:B≤W.heap.size) (hg:W.grownBy W' none):iL B W W':=iL.grown hB hg (fun r e=>by cases e)
theorem iL.noc {B} {W W'} {row} (hB:B≤W.heap.size) (hg:W.grownBy W' row) (hr:∀r,row=some r→B≤r∧∃o:Obj,W.heap[r]? =some o∧o.isCells=false):iL B W W':=
 iL.grown hB hg (fun r e=>⟨(hr r e).1,fun _ _ _ h=>by obtain⟨_,o,ho,hc⟩:=hr r e;rw[ho]at h;cases h;cases hc⟩)
theorem iL.below {B} {W W'} (hb:Below W.heap.size W W') (hB:B≤W.heap.size):iL B W W':=
 ⟨hb.mono hB,fun r _ _ _ _ h=>(hb.block r (Ge.1 h).1).trans h⟩
theorem iL.own {B base n c sz} {W W'} {A} {xs} {t} (h:iL B W W') (ho:W.ownsRow base t sz (.slice A n c) n xs) (ht:zN t):W'.ownsRow base t sz (.slice A n c) n xs:=by
 refine⟨ho.1,?_⟩;rcases ho.2 with hn|⟨g,cap,cur,hv,h1,h2,rest⟩
 ·exact .inl hn
 ·exact .inr ⟨g,cap,cur,hv,h1,h.2 _ _ _ _ ht h2,rest⟩
theorem iL.box {B bx} {W W'} {t} {v} (h:iL B W W') (hb:Boxed W bx t v) (ht:zN t):Boxed W' bx t v:=h.2 _ _ _ _ ht hb
theorem dL {w:World} {base n c sz g} {A} {xs} {t t'} {cs} {fr} (h:w.ownsRow base t sz (.slice A n c) n xs) (hg:w.heap[g]? =some (Obj.cells cs t' fr)) (ht:t'≠t):ab A≠some g:=by
 rcases h.2 with⟨hv,_⟩|⟨g2,cap,cur,hv,_,hgb,_⟩
 ·injection hv with hv1;rw[hv1];exact fun e=>by cases e
 ·injection hv with hv1
  rw[hv1];intro e;obtain rfl:g2=g:=by simpa[ab]using e
  rw[hg]at hgb;simp only[gV,Dn]at hgb;exact ht hgb.2.1
theorem Lj {w:World} {base n c sz} {A} {xs} {t} (h:w.ownsRow base t sz (.slice A n c) n xs) (ht:¬zN t):∀r,ab A=some r→base≤r∧∀(cs) (t) (q),w.heap[r]? =some (Obj.cells cs t q)→¬zN t:=fun r e=>by
 refine⟨(ae h r e).1,fun cs t' q hr hi=>?_⟩;by_cases he:t'=t
 ·subst he;exact ht hi
 ·exact dL h hr he e
theorem Ll {w:World} {g:Nat} {t} {cs} {q} {B} (h:w.heap[g]? =some (Obj.cells cs t q)) (ht:¬zN t) (hB:B≤g):∀r,some g=some r→B≤r∧∀(cs) (t) (q),w.heap[r]? =some (Obj.cells cs t q)→¬zN t:=fun r e=>by
 cases e;exact⟨hB,fun cs' t' q' hr=>by rw[h]at hr;cases hr;exact ht⟩
abbrev qo:TypeId:=146
structure Es (base gd gl p n:Nat) (LS:Nat→Value) (D:List UInt8) (C:Nat→List Int) (W:World):Prop where
 dat:∃A m c,Boxed W gd 22 (.slice A m c)∧ah W base A m c D
 box:Boxed W gl 138 (.slice (some ⟨p,0,none⟩) n n)
 row:∃(cs:Array Value) (As:Nat→Option Addr) (ns ks:Nat→Nat),W.heap[p]? =some (Obj.cells cs qo (0,0))∧cs.size=n*2∧
  (∀i,i<n→cs[i*2]? =some (LS i)∧cs[i*2+1]? =some (.slice (As i) (ns i) (ks i))∧aO W base (As i) (ns i) (ks i) (C i))∧
  ∀i j,i<n→j<n→i≠j→ab (As i)=none∨ab (As i)≠ab (As j)
section
variable {base gd gl p n:Nat} {LS:Nat→Value} {D:List UInt8} {C:Nat→List Int} {W W':World}
theorem Es.kept {row} (h:Es base gd gl p n LS D C W) (hg:W.grownBy W' row) (hr:∀r,row=some r→∃o:Obj,W.heap[r]? =some o∧o.isCells=false):Es base gd gl p n LS D C W':=by
 have hk:∀(r:Nat) (cs:Array Value) (t:TypeId) (q:Nat×Nat),W.heap[r]? =some (Obj.cells cs t q)→W'.heap[r]? =some (Obj.cells cs t q):=fun r cs t q hx=>(hg.block r (Ge.1 hx).1 (fun e=>by
  obtain⟨o,ho,hc⟩:=hr r e.symm;rw[hx]at ho;cases ho;cases hc)).trans hx
 have ho:∀{t:TypeId} {sz m c:Nat} {A:Option Addr} {xs:List Value},W.ownsRow base t sz (.slice A m c) m xs→W'.ownsRow base t sz (.slice A m c) m xs:=fun hx=>rU hx hg (fun r e=> .inr (hr r e))
 obtain⟨⟨A,m,c,d1,d2⟩,hb,cs,As,ns,ks,r1,r2,r3,r4⟩:=h;exact⟨⟨A,m,c,hk _ _ _ _ d1,ho d2⟩,hk _ _ _ _ hb,cs,As,ns,ks,hk _ _ _ _ r1,r2,fun i hi=>⟨(r3 i hi).1,(r3 i hi).2.1,ho (r3 i hi).2.2⟩,r4⟩
theorem Es.below (h:Es base gd gl p n LS D C W) (hb:Below W.heap.size W W'):Es base gd gl p n LS D C W':=by
 have hk:∀(r:Nat) (cs:Array Value) (t:TypeId) (q:Nat×Nat),W.heap[r]? =some (Obj.cells cs t q)→W'.heap[r]? =some (Obj.cells cs t q):=fun r cs t q hx=>(hb.block r (Ge.1 hx).1).trans hx
 have ho:∀{t:TypeId} {sz m c:Nat} {A:Option Addr} {xs:List Value},W.ownsRow base t sz (.slice A m c) m xs→W'.ownsRow base t sz (.slice A m c) m xs:=fun hx=>aR hx hb
 obtain⟨⟨A,m,c,d1,d2⟩,hb',cs,As,ns,ks,r1,r2,r3,r4⟩:=h;exact⟨⟨A,m,c,hk _ _ _ _ d1,ho d2⟩,hk _ _ _ _ hb',cs,As,ns,ks,hk _ _ _ _ r1,r2,fun i hi=>⟨(r3 i hi).1,(r3 i hi).2.1,ho (r3 i hi).2.2⟩,r4⟩
theorem Es.push (h:Es base gd gl p n LS D C W) {A A2} {m c m2 c2} {L} (hA:Boxed W gd 22 (.slice A m c)) (ho:ah W base A m c D) (hg:W.grownBy W' (ab A)) (ho':ah W' base A2 m2 c2 (D++L)) (hB:base≤gd):
  W'.cell? ⟨gd,0,none⟩=some (.slice A m c)∧W'.frozen? ⟨gd,0,none⟩=false∧Es base gd gl p n LS (D++L) C (W'.setCell ⟨gd,0,none⟩ (.slice A2 m2 c2))∧iL base W (W'.setCell ⟨gd,0,none⟩ (.slice A2 m2 c2))∧KeepsOthers W (W'.setCell ⟨gd,0,none⟩ (.slice A2 m2 c2)):=by
 have hnt:∀{r:Nat} {cs:Array Value} {t:TypeId} {q:Nat×Nat},W.heap[r]? =some (Obj.cells cs t q)→t≠5→W'.heap[r]? =some (Obj.cells cs t q):=fun hx ht=>(hg.block _ (Ge.1 hx).1 (fun e=>dL ho hx ht e.symm)).trans hx
 have hgd:=hnt hA Ah;have vT:=av W' ⟨gd,0,none⟩ (.slice A2 m2 c2);have RF:∀{r:Nat} {cs:Array Value} {t:TypeId} {q:Nat×Nat},W'.heap[r]? =some (Obj.cells cs t q)→t≠22→(W'.setCell ⟨gd,0,none⟩ (.slice A2 m2 c2)).heap[r]? =some (Obj.cells cs t q):=fun{r} {_} {_} {_} hx ht=>(vT.block _ (Ge.1 hx).1 (fun e=>by
  have e:r=gd:=Oj e;subst e;rw[hgd]at hx;cases hx;exact ht rfl)).trans hx
 have hzb:base≤W.heap.size:=by have:=(Ge.1 hA).1;omega
 obtain⟨-,hb,cs,As,ns,ks,r1,r2,r3,r4⟩:=h;refine⟨Co _ _ 0 _ _ _ hgd,Fr _ _ 0 _ _ hgd,⟨⟨A2,m2,c2,Boxed.set _ hgd,af ho' vT (.inr (dL ho' hgd Ah))⟩,RF (hnt hb Ah) Ah,cs,As,ns,ks,RF (hnt r1 Ah) Ah,r2,fun i hi=>?_,r4⟩,?_,(KeepsOthers.of_grownBy hg (zm ho)).trans (KeepsOthers.setCell _ _ _)⟩
 ·obtain⟨q1,q2,q3⟩:=r3 i hi;have q4:aO W' base (As i) (ns i) (ks i) (C i):=af q3 hg (dU q3 ho Ah);exact⟨q1,q2,af q4 vT (.inr (dL q4 hgd Ah))⟩
 ·exact(iL.grown hzb hg (Lj ho (by unfold zN;decide))).trans (iL.grown (by have:=hg.size;omega) vT (Ll hgd (by unfold zN;decide) hB))
theorem Es.note (h:Es base gd gl p n LS D C W) {i} (hi:i<n) (hB:base≤p):∃A m c,W.cell? ⟨p,i*2+1,none⟩=some (.slice A m c)∧W.frozen? ⟨p,i*2+1,none⟩=false∧aO W base A m c (C i)∧
  ∀(W1 W2) (A2) (m2 c2) (x),W.grownBy W1 none→W1.grownBy W2 (ab A)→aO W2 base A2 m2 c2 (C i++[x])→(ab A2=ab A∨ab A2=some W1.heap.size)→
   W2.cell? ⟨p,i*2+1,none⟩=some (.slice A m c)∧W2.frozen? ⟨p,i*2+1,none⟩=false∧
   Es base gd gl p n LS D (fun j=>if j=i then C i++[x]else C j) (W2.setCell ⟨p,i*2+1,none⟩ (.slice A2 m2 c2))∧iL base W (W2.setCell ⟨p,i*2+1,none⟩ (.slice A2 m2 c2))∧KeepsOthers W (W2.setCell ⟨p,i*2+1,none⟩ (.slice A2 m2 c2)):=by
 obtain⟨⟨A,m,c,d1,d2⟩,hb,cs,As,ns,ks,r1,r2,r3,r4⟩:=h;obtain⟨q1,q2,q3⟩:=r3 i hi;refine⟨As i,ns i,ks i,(Co _ _ _ _ _ _ r1).trans q2,Fr _ _ _ _ _ r1,q3,fun W1 W2 A2 m2 c2 x hg1 hg2 ho2 hat=>?_⟩;have hk1:∀{r:Nat} {o:Obj},W.heap[r]? =some o→W1.heap[r]? =some o:=fun hx=>(hg1.block _ (Ge.1 hx).1 (fun e=>by cases e)).trans hx
 have q31:aO W1 base (As i) (ns i) (ks i) (C i):=af q3 hg1 (by rcases ab (As i)with _|r;exact .inl rfl;exact .inr (fun e=>by cases e));have hnt:∀{r:Nat} {cs:Array Value} {t:TypeId} {q:Nat×Nat},W.heap[r]? =some (Obj.cells cs t q)→t≠3→W2.heap[r]? =some (Obj.cells cs t q):=fun hx ht=>(hg2.block _ (Ge.1 (hk1 hx)).1 (fun e=>dL q31 (hk1 hx) ht e.symm)).trans (hk1 hx)
 have vT:=hnt r1 Ah;have Lm:=av W2 ⟨p,i*2+1,none⟩ (.slice A2 m2 c2);have RF:∀{r:Nat} {cs':Array Value} {t:TypeId} {q:Nat×Nat},W2.heap[r]? =some (Obj.cells cs' t q)→t≠qo→(W2.setCell ⟨p,i*2+1,none⟩ (.slice A2 m2 c2)).heap[r]? =some (Obj.cells cs' t q):=fun{r} {_} {_} {_} hx ht=>(Lm.block _ (Ge.1 hx).1 (fun e=>by
  have e:r=p:=Oj e;subst e;rw[vT]at hx;cases hx;exact ht rfl)).trans hx
 have hzb:base≤W.heap.size:=by have:=(Ge.1 r1).1;omega
 have hset:=Ag W2 p (i*2+1) cs qo (.slice A2 m2 c2) vT;have keep:∀{t:TypeId} {sz m' c':Nat} {A':Option Addr} {xs:List Value},W.ownsRow base t sz (.slice A' m' c') m' xs→(ab A'=none∨ab A'≠ab (As i))→t≠qo→(W2.setCell ⟨p,i*2+1,none⟩ (.slice A2 m2 c2)).ownsRow base t sz (.slice A' m' c') m' xs:=fun{t} {sz} {m'} {c'} {A'} {xs} hx hne ht=>by
  have x1:W1.ownsRow base t sz (.slice A' m' c') m' xs:=af hx hg1 (by rcases ab A' with _|r;exact .inl rfl;exact .inr (fun e=>by cases e));have x2:W2.ownsRow base t sz (.slice A' m' c') m' xs:=af x1 hg2 hne;exact af x2 Lm (.inr (dL x2 vT (fun e=>ht e.symm)))
 refine⟨(Co _ _ _ _ _ _ vT).trans q2,Fr _ _ _ _ _ vT,⟨⟨A,m,c,RF (hnt d1 Ah) Ah,keep d2 (dU d2 q3 Ah) Ah⟩,RF (hnt hb Ah) Ah,
  _,fun j=>if j=i then A2 else As j,fun j=>if j=i then m2 else ns j,fun j=>if j=i then c2 else ks j,hset,by simp[r2],fun j hj=>?_,fun j k hj hk hjk=>?_⟩,?_,((KeepsOthers.of_grownBy hg1 (fun _ _ e=>by cases e)).trans (KeepsOthers.of_grownBy hg2 (zm q31))).trans (KeepsOthers.setCell _ _ _)⟩
 ·obtain⟨s1,s2,s3⟩:=r3 j hj;by_cases e:j=i
  ·subst e;refine⟨by rw[zC,Ng om];exact s1,?_,?_⟩
   ·rw[zC,Ps0 rfl,Ps0 om];simp
   ·simp only[Ps0];exact af ho2 Lm (.inr (dL ho2 vT Ah))
  ·refine⟨by rw[zC,Ng om];exact s1,?_,?_⟩
   ·rw[zC,Ng om];simp only[Ng e];exact s2
   ·simp only[Ng e];exact keep s3 (r4 j i hj hi e) Ah
 ·have hlt:∀j,j<n→∀r,ab (As j)=some r→r<W1.heap.size:=fun j hj r e=>jB (ae (r3 j hj).2.2 r e).2 hg1.size
  by_cases ej:j=i
  ·subst ej;have ek:¬k=j:=fun e=>hjk e.symm
   simp only[Ps0,Ng ek];rcases hat with e|e
   ·rw[e];exact r4 j k hj hk hjk
   ·rw[e];exact .inr (fun q=>by have:=hlt k hk _ q.symm;omega)
  ·by_cases ek:k=i
   ·subst ek;simp only[Ps0,Ng ej];rcases hat with e|e
    ·rw[e];exact r4 j k hj hk hjk
    ·rw[e];exact .inr (fun q=>by have:=hlt j hj _ q;omega)
   ·simp only[Ng ej,Ng ek];exact r4 j k hj hk hjk
 ·exact(iL.none hzb hg1).trans ((iL.grown (by have:=hg1.size;omega) hg2 (Lj q31 (by unfold zN;decide))).trans (iL.grown (by have:=hg1.size;have:=hg2.size;omega) Lm (Ll vT (by unfold zN;decide) hB)))
end
end
section
open Go.RowKit Go.Shelf
attribute [local go_sem] Oper.semAt_some
theorem Ny (A) (n c B) (l:Cs.gz) (w) (hv:gN w B A n c l) (hB:B≤w.heap.size) (hm:n≤1000000000):
  Calls prog 139 #[.slice A n c] w fun e w'=>∃A2 n2 c2 A3 c3,e= .returned (.slice A2 n2 c2)∧w'.ownsRow w.heap.size 55 1 (.slice A2 n2 c2) n2 ((List.range (Ck.oI n)).map (Ck.Fu A3 n))∧bF w' w.heap.size A3 n c3 l∧Below w.heap.size w w':=by
 have CL:=Aj (Jb A n c B l w hv hB om);clear hv;go_enter func139,ntmps139;go_wp2_with (first
  |(go_at_call 188;refine(Jc A3 n c3 w1).mono ?_;rintro e w2 ⟨rfl,rfl⟩)
  |(go_at_call 189;refine CL.1.mono ?_;rintro e w1 ⟨A3,c3,rfl,ho,hb⟩;have O1:=Aj ho;have B1:=Aj hb;clear ho hb CL))
 have hbx:Boxed ((w1.alloc (.cells #[.slice A3 n c3] 55)).alloc (.cells #[.int .i64 120] 3)) w1.heap.size 55 (.slice A3 n c3):=(Boxed.new w1 _ _).alloc _;have hbk:Boxed ((w1.alloc (.cells #[.slice A3 n c3] 55)).alloc (.cells #[.int .i64 120] 3)) (w1.heap.size+1) 3 (.int .i64 120):=by
  have:=Boxed.new (w1.alloc (.cells #[.slice A3 n c3] 55)) 3 (.int .i64 120);simpa using this
 have hb2:Below w1.heap.size w1 ((w1.alloc (.cells #[.slice A3 n c3] 55)).alloc (.cells #[.int .i64 120] 3)):=((Ae _ w1).alloc Ai _).alloc sm _;have hr2:=(O1.1.rd.below hb2).more hb2.size;have CO:=Aj (zq _ _ A3 n c3 l _ hbx hbk hr2 hm);have R2:=Aj hr2;have B2:=Aj hb2;clear hbx hbk hr2 hb2;go_wp2_with (go_at_call 187;refine CO.1.mono ?_;rintro e w4 ⟨A4,n4,c4,rfl,ho,hb⟩;have O4:=Aj ho;have B4:=Aj hb;clear ho hb CO);go_ret;have h1:=B1.1.size;have h2:=B2.1.size;have h3:=B4.1.size;refine⟨A4,n4,c4,A3,c3,rfl,qh O4.1 (Lt h1 h2),?_,B1.1.trans ((B2.1.mono B1.1.size).trans (B4.1.mono (Lt h1 h2)))⟩;have q1:bF _ w.heap.size A3 n c3 l:=aR O1.1 B2.1;exact aR q1 B4.1
def EnR (x:Nat×List UInt8) (args:Array Value) (W:World):Prop:=∃A n c,args= #[.int .i64 (x.1:Int),.slice A n c]∧aN W W.heap.size A n c x.2
theorem En.Vv (b:Bk.iP) {k} (hk:k<b.length) {j} (hj:j< (Ck.jm b[k].2).length):
  (En.all 0 (b.take k)++((Ck.jm b[k].2).take j).map (fun c=>(k,Ck.enc c)))++[(k,Ck.enc (Ck.jm b[k].2)[j])]=En.all 0 (b.take k)++((Ck.jm b[k].2).take (j+1)).map (fun c=>(k,Ck.enc c)):=by
 rw[Ts hj,dY,Af]
 rfl
theorem En.YS (b) {k} (hk:k<b.length) (j):En.all 0 (b.take k)++((Ck.jm b[k].2).take j).map (fun c=>(k,Ck.enc c))<+:En.all 0 b:=by
 refine List.IsPrefix.trans ?_ (En.UT b (k+1));rw[En.Fs b hk];obtain⟨t,ht⟩:=List.take_prefix j (Ck.jm b[k].2);refine⟨t.map fun c=>(k,Ck.enc c),?_⟩;rw[Af,←dY,ht]
theorem En.Vw:∀(k) (s:Cs.gz),s.length≤k→∀c∈Ck.jm s,1≤c.length∧c.length≤120∧∀p∈c,p∈s:=by
 intro k
 induction k with
 |zero=>
  intro s hs c hc;rw[vg (show s.length=0 from om),Ck.dN]at hc;cases hc
 |succ k ih=>
  intro s hs c hc;by_cases h0:s=[]
  ·rw[h0,Ck.dN]at hc;cases hc
  ·rw[Ck.jN h0]at hc;have hp:=oJ.2 h0;rcases iM.1 hc with rfl|hc
   ·rw[lQ];exact⟨om,om,fun p hp=>List.mem_of_mem_take hp⟩
   ·obtain⟨h1,h2,h3⟩:=ih (s.drop 120) (by rw[jX];omega) c hc;exact⟨h1,h2,fun p hp=>List.mem_of_mem_drop (h3 p hp)⟩
theorem wh (n bx B m c) (A) (b) (w w0) (X) (hw:Boxed w bx 24 (.slice A m c)) (hr:iE w B A m c b) (hB:B≤w.heap.size)
  (hin:∀s∈b,Cs.In s.2) (hsm:∀s∈b,s.2.length≤1000000000) (hG:Gl w0) (h0:w0.heap.size=B) (hw0:Below B w0 w) (hX:∀pre W,¬X pre W):
  JO n prog 138 #[.pointer (some ⟨bx,0,none⟩)] EnR (fun _=>False) (iL B) (En.all 0 b) w X:=by
 intro lp J Jx W hK hJ hJx NZ bz hj0;have hW:Boxed W bx 24 (.slice A m c):=hK.box hw (by unfold zN;simp);have hR:iE W B A m c b:=hr.below hK.1;have hBW:B≤W.heap.size:=Lt hB hK.1.size;have df:=Aj bz;have HX:Kept (∀pre W,¬Jx pre W):=⟨fun pre W h=>hX pre W (NZ pre W h)⟩
 have GG:Kept (∀W',iL B W W'→Gl W'):=⟨fun W' h=>hG.below (by rw[h0];exact hw0.trans (hK.1.trans h.1))⟩
 have hln:=Aj hr.len;obtain⟨hc1,hc2⟩:=hr.cap;unfold maxLen at hc2;have HJ:=Aj hJ;have HIN:=Aj hin;have HSM:=Aj hsm;have HR:=Aj hR;have hcb:=hW.cell;have HJ0:=Aj hj0;clear hw hK hB bz hJ hX NZ hr hJx hin hsm hG h0 hw0 hR hW hj0;refine Bd.2 ?_;go_enter func138,ntmps138;go_wp2;go_loopw [11] (fun i wr=>∃k:Nat,k≤m∧i= .int .i64 k∧iL B W wr∧Kept (J (En.all 0 (b.take k)) wr)) (fun i _=>m-(intOf i).toNat)
 case atStart=>exact⟨0,bE _,rfl,iL.refl _ _,HJ0⟩
 case round=>
  clear HJ0;obtain⟨k,hk,rfl,hK,hj⟩:=hrel;have HK:=Aj hK;have YT:=HR.1.below hK.1;have hBr:B≤wr.heap.size:=Lt hBW hK.1.size;by_cases hlt:k<m
  ·have hkl:k<b.length:=by rw[←hln.1];exact hlt
   obtain⟨b0,off,A1,n1,c1,A3,n3,c3,rfl,-,hM,hc⟩:=YT.cells hBr hkl;obtain⟨r0,r1⟩:=hc wr (Ae _ _);have hin:=HIN.1 b[k] (ic hkl);have hsm:=HSM.1 b[k] (ic hkl);have hal:=hK.trans (iL.below (W':=wr.alloc (.cells #[.slice A1 n1 c1,.slice A3 n3 c3] 57)) ((Ae _ wr).alloc Ai _) hBr);have SO:=Aj (Ny A3 n3 c3 B b[k].2 (wr.alloc (.cells #[.slice A1 n1 c1,.slice A3 n3 c3] 57)) (hM.below (((Ae _ wr).alloc Ai _).mono hBr)) (by simp;omega) (by rw[hM.len];exact hsm));have mo:=Aj hM.len;have PRE:=Aj (fun j (h:j< (Ck.jm b[k].2).length)=>En.Vv b hkl h);have PRL:=Aj (fun j=>En.YS b hkl j);have LAST:=Aj (En.Fs b hkl);have MEM:=Aj (fun c (h:c∈Ck.jm b[k].2)=>En.Vw _ b[k].2 Ai c h);have HIK:=Aj hin;have afq:=Aj hsm;have HAL:=Aj hal;have hj2:=Aj (HJ.1 _ _ _ none hj.1 (Ga wr (.cells #[.slice A1 n1 c1,.slice A3 n3 c3] 57) none) (fun r e=>by cases e));clear hK hj YT hc hM hin hsm hal;generalize b[k].2=l at*;go_wp2_with (go_at_call 139;refine SO.1.mono ?_;rintro e w2 ⟨A4,n4,c4,A5,c5,rfl,o4,o5,hb2⟩;have O4:=Aj o4;have O5:=Aj o5;have B2:=Aj hb2;clear o4 o5 hb2 SO);have hz2:=HAL.1.1.size;have hj3:=Aj (HJ.1 _ _ _ none hj2.1 (aD B2.1) (fun r e=>by cases e));have HK2:=Aj (HAL.1.trans (iL.below B2.1 (Lt hBW hz2)));have hcnt:Kept (n4=(Ck.jm l).length):=⟨by
    have:=(Rd.bP O4.1).2.2.1;rw[fu]at this;rw[Ck.ui,fu,←mo.1];omega⟩
   have hn4:n4≤1000000000:=by
    have:=(Rd.bP O4.1).2.2.1;rw[fu,Cq]at this;have h1:=mo.1;unfold Ck.oI at this;have:=afq.1;omega
   clear hj2 B2 HAL;go_loopw [20] (fun j wi=>∃jj:Nat,jj≤n4∧j= .int .i64 jj∧iL B W wi∧Kept (∃base,wi.ownsRow base 55 1 (.slice A4 n4 c4) n4 ((List.range (Ck.oI n3)).map (Ck.Fu A5 n3))∧bF wi base A5 n3 c5 l)∧
    Kept (J (En.all 0 (b.take k)++((Ck.jm l).take jj).map (fun c=>(k,Ck.enc c))) wi)) (fun j _=>n4-(intOf j).toNat)
   case atStart=>exact⟨0,bE _,rfl,HK2.1,⟨_,O4.1,O5.1⟩,⟨by simpa using hj3.1⟩⟩
   case round=>
    clear hj3 HK2 O4 O5 HK;obtain⟨jj,hjj,rfl,hKi,hown,hji⟩:=hrel;have HKi:=Aj hKi;by_cases hlj:jj<n4
    ·have hjl:jj< (Ck.jm l).length:=by rw[←hcnt.1];exact hlj
     obtain⟨base,ho1,ho2⟩:=hown.1;have hrr:=mY.chunks ho2.rd Ai (Rd.bP ho1);obtain⟨b1,rf,A6,n6,c6,rfl,-,hcell,hrd⟩:=hrr.at_ hjl;obtain⟨m1,m2,m3⟩:=MEM.1 _ (ic hjl);have rD:=hrd.len;have CE:=Aj (FV A6 n6 c6 wr.heap.size (Ck.jm l)[jj] wr hrd Ai (fun p hp=>HIK.1 p (m3 p hp)) om om (GG.1 wr hKi));have HP1:=Aj (PRE.1 jj hjl);have hpl:Kept (En.all 0 (b.take k)++((Ck.jm l).take jj).map (fun c=>(k,Ck.enc c))++[(k,Ck.enc (Ck.jm l)[jj])]<+:En.all 0 b):=⟨by rw[HP1.1];exact PRL.1 (jj+1)⟩
     have HOWN:=Aj (And.intro ho1 ho2);have hzi:B≤wr.heap.size:=Lt hBW hKi.1.size;clear hrr hrd m1 m2 m3 rD ho1 ho2 hown hKi;generalize Ck.enc (Ck.jm l)[jj]=ec at*;go_upto_region 7 with(go_at_call 140;refine CE.1.mono ?_;rintro e w3 ⟨A7,n7,c7,rfl,o7,hb3⟩;have O7:=Aj o7.rd;have B3:=Aj hb3;clear o7 hb3 CE)
     have hj3:=HJ.1 _ _ _ none hji.1 (aD B3.1) (fun r e=>by cases e);obtain⟨fn,tmps,assign,body,hy,qx⟩:=df.1 _ (k,ec) #[.int .i64 (k:Int),.slice A7 n7 c7] w3 hj3 ⟨A7,n7,c7,rfl,O7.1⟩ hpl.1;have HK3:=Aj (HKi.1.trans (iL.below B3.1 hzi));have HO3:=Aj (And.intro (aR HOWN.1.1 B3.1) (show bF w3 base A5 n3 c5 l from aR HOWN.1.2 B3.1));clear hj3 O7 B3 HOWN hji;refine(Bl (n:=n)).1 ?_
     gi_wp2
     refine⟨(fun h=>by simp[Fence.wide]at h),qx.mono ?_⟩;rintro e W' (⟨rfl,hj',hk'⟩|⟨rfl,rW⟩)
     ·have HK4:=Aj (HK3.1.trans hk');have HO4:Kept (∃base,W'.ownsRow base 55 1 (.slice (some ⟨b1,rf,none⟩) n4 c4) n4 ((List.range (Ck.oI n3)).map (Ck.Fu A5 n3))∧bF W' base A5 n3 c5 l):=⟨base,hk'.own HO3.1.1 (by unfold zN;simp),hk'.own HO3.1.2 (by unfold zN;simp)⟩
      have V3:=Aj hj';rw[HP1.1]at V3;clear hj' hk' qx hy HK3 HO3
      gi_wp2
      go_wp2;go_roundw
      case rel=>exact⟨jj+1,om,by go_num,HK4.1,HO4,V3⟩
      case measure=>simp[intOf];omega
     ·exact absurd rW (HX.1 _ _)
    ·have hjn:n4=jj:=by omega
     subst hjn;have YU:Kept (J (En.all 0 (b.take (k+1))) wr):=⟨by
      have:=hji.1;rw[show(Ck.jm l).take n4=Ck.jm l from jY (by rw[←hcnt.1];exact Nr _)]at this;rw[LAST.1];exact this⟩
     clear hji hown hKi;go_wp2;go_roundw
     case rel=>exact⟨k+1,om,by go_num,HKi.1,YU⟩
     case measure=>simp[intOf];omega
  ·obtain rfl:k=m:=by omega
   have YU:Kept (J (En.all 0 b) wr):=⟨by
    have:=hj.1;rwa[jY (by rw[←hln.1];exact Nr _)]at this⟩
   clear hj hK YT;go_wp2;go_end0;exact⟨⟨_,rfl⟩,.inl YU.1⟩
theorem FZ (A) (n c) (w):Calls prog 84 #[.slice A n c] w fun e w'=>
  e= .returned (.func (.func 138) #[] #[.pointer (some ⟨w.heap.size,0,none⟩)])∧w'=w.alloc (.cells #[.slice A n c] 24):=by
 have hmf:∀(fn:Fn) (first cap:Array Value) (w:World),(Instr.makeFunc fn first cap).run prog w= .ok (.func fn first cap) w:=fun _ _ _ _=>rfl
 go_enter func84,ntmps84;go_wp2;go_ret;exact⟨rfl,rfl⟩
end
section
section
open Go.RowKit
theorem YW (w) (a b):Quiet w ((w.drewN a).drewN b):=⟨a+b,by rw[World.drewN_drewN]⟩
theorem Jp (A1 A2) (n1 n2 c1 c2) (l1 l2) (w) (B1 B2) (h1:jv w B1 A1 n1 c1 l1) (h2:jv w B2 A2 n2 c2 l2):
  Calls prog 128 #[.slice A1 n1 c1,.slice A2 n2 c2] w fun e w'=>e= .returned (.bool (decide (l1=l2)))∧Quiet w w':=by
 have akx:=h1.1;have Pp:=h2.1;have hcm1:=h1.2.1;have hcm2:=h2.2.1;have hn1:=Aj h1.len;have hn2:=Aj h2.len;have H1:=hide h1;have H2:=hide h2;unfold maxLen at hcm1 hcm2;clear h1 h2;by_cases hnn:n1=n2
 ·subst hnn;have ht:((n1:Int) !=(n1:Int))=false:=sm;go_enter func128,ntmps128;go_wp2;go_loopw [13] (fun i wr=>∃k:Nat,k≤n1∧i= .int .i64 k∧Kept (l1.take k=l2.take k)∧Quiet w wr) (fun i _=>n1-(intOf i).toNat)
  case atStart=>exact⟨0,om,rfl,⟨rfl⟩,⟨0,rfl⟩⟩
  case round=>
   obtain⟨k,hk,rfl,hs,nq1,rfl⟩:=hrel;by_cases hlt:k<n1
   ·have nR:k<l1.length:=by rw[←hn1.out];exact hlt
    have vH:k<l2.length:=by rw[←hn2.out];exact hlt
    obtain⟨b1,rf,rfl,hb1,hc1⟩:=H1.out.at_ nR;obtain⟨b2,vD,rfl,hb2,hc2⟩:=H2.out.at_ vH;obtain⟨x,hx⟩:∃x,x=l1[k]:=⟨_,rfl⟩
    obtain⟨y,hy⟩:∃y,y=l2[k]:=⟨_,rfl⟩
    rw[←hx]at hc1;rw[←hy]at hc2;have Hx:=Aj hx;have Hy:=Aj hy;clear hx hy;by_cases hxy:x=y
    ·have ht2:(x !=y)=false:=by simp[hxy]
     have hs2:Kept (l1.take (k+1)=l2.take (k+1)):=⟨by
      rw[Ts nR,Ts vH,hs.out,←Hx.out,←Hy.out,hxy]⟩
     clear hxy;go_wp2;go_quiet (fail);go_wp2;go_roundw
     case rel=>exact⟨k+1,om,by go_num,hs2,⟨_,rfl⟩⟩
     case measure=>simp[intOf];omega
    ·have ht2:(x !=y)=true:=by simp[hxy]
     have hf:Kept (decide (l1=l2)=false):=⟨by
      rw[decide_eq_false_iff_not];intro e;subst e;exact hxy (Hx.out.trans Hy.out.symm)⟩
     clear hxy;go_wp2;go_quiet (fail);go_wp2;go_ret;exact⟨kF hf.out.symm,YW _ _ _⟩
   ·obtain rfl:k=n1:=by omega
    have hf:Kept (decide (l1=l2)=true):=⟨by
     rw[CU];have:=hs.out;rwa[jY (by rw[←hn1.out];omega),jY (by rw[←hn2.out];omega)]at this⟩
    go_wp2;go_ret;exact⟨kF hf.out.symm,⟨_,rfl⟩⟩
 ·have ht:((n1:Int) !=(n2:Int))=true:=by rw[bne_iff_ne];omega
  have hf:Kept (decide (l1=l2)=false):=⟨by
   rw[decide_eq_false_iff_not];intro e;subst e;exact hnn (hn1.out.trans hn2.out.symm)⟩
  clear hnn;go_enter func128,ntmps128;go_wp2;go_ret;exact⟨kF hf.out.symm,⟨0,rfl⟩⟩
end
end
section
section
open Go.RowKit
def qp (w:World) (B:Nat) (A:Option Addr) (n c:Nat) (LL:List (List Int)):Prop:=
 ∃vs:List Value,Rd w B 1 A n c vs∧vs.length=LL.length∧∀(i:Nat) (l:List Int),LL[i]? =some l→∃A' n' c',vs[i]? =some (.slice A' n' c')∧jv w B A' n' c' l
section
variable {w w':World} {B n c:Nat} {A:Option Addr} {LL:List (List Int)}
theorem qp.more {B'} (h:qp w B A n c LL) (hB:B≤B'):qp w B' A n c LL:=by
 obtain⟨vs,h1,h2,h3⟩:=h;refine⟨vs,h1.more hB,h2,fun i l hl=>?_⟩;obtain⟨A',n',c',e,hr⟩:=h3 i l hl;exact⟨A',n',c',e,hr.more hB⟩
theorem qp.len (h:qp w B A n c LL):n=LL.length:=by
 obtain⟨vs,h1,h2,_⟩:=h;have:=h1.2.2.1;omega
theorem qp.cap (h:qp w B A n c LL):n≤c∧c≤maxLen:=by
 obtain⟨vs,h1,_⟩:=h;exact⟨h1.1,h1.2.1⟩
theorem qp.at_ {k} (h:qp w B A n c LL) (hk:k<LL.length):
  ∃b off A' n' c',A=some ⟨b,off,none⟩∧b<B∧w.cell? ⟨b,off+k,none⟩=some (.slice A' n' c')∧jv w B A' n' c' LL[k]:=by
 have hn:=h.len;obtain⟨vs,h1,h2,h3⟩:=h;obtain⟨b,off,u,e,hb,hu,hc⟩:=h1.at_ (k:=k) om;obtain⟨A',n',c',e',hr⟩:=h3 k LL[k] (l8 hk);rw[hu]at e'
 injection e' with e'
 subst e';exact⟨b,off,A',n',c',e,hb,hc,hr⟩
end
def Ls.tot (LL:List (List Int)):Nat:=(LL.map List.length).sum
theorem Ls.kP {LL:List (List Int)} {k} (h:k<LL.length):Ls.tot (LL.take (k+1))=Ls.tot (LL.take k)+LL[k].length:=by
 unfold Ls.tot;rw[Ts h,dY,CY];simp
theorem Ls.lg (LL) (k):Ls.tot (LL.take k)≤Ls.tot LL:=by
 unfold Ls.tot
 conv=>rhs;rw[←jC k LL,dY,CY]
 omega
end
end
section
open Go.RowKit Go.Shelf
theorem eqL (x y:bf) (w):Sem.run prog (binOp .eql 59 (.agg #[.string x.n,.string x.v]) (.agg #[.string y.n,.string y.v])) w= .ok (.bool (decide (x=y))) w:=by
 have u3:=underlying9;have a3:=Tryz.isAgg9;have z3:=Tryz.sizeOf9;have hS:prog.underlying 59=some (.struct (prog.fieldsOf 59)):=kr;have hp:prog.stoodInHeld 59=false:=kr;rw[run_eql_struct,show(10000:Nat)=9999+1 from rfl,run_equalIn_agg w 9999 59 _ _ hS hp];simp only[Program.fieldsOf,underlying59];go_simp;by_cases h1:x.n=y.n
 ·by_cases h2:x.v=y.v
  ·rw[Ps0 (by rw[h1]),Ps0 (by rw[h2]),Bc (Lb.ext h1 h2)]
  ·rw[Ps0 (by rw[h1]),Ng (fun e=>h2 (St.yg e)),Az (fun e=>h2 (by rw[e]))]
 ·rw[Ng (fun e=>h1 (St.yg e)),Az (fun e=>h1 (by rw[e]))]
theorem YX:(prog.info? 62).map (fun i=>(i.zero,i.size,i.bytes))=some (some (.slice none 0 0),1,24):=kr
end
section
open Go.RowKit Go.Shelf
theorem Gr.quiet {a b c} (h:Gr a b) (q:Quiet b c):Gr a c:=by
 obtain⟨n,rfl⟩:=q;exact h.drewN n
theorem Nz (y z:bf) (s1 s2) (A1 A2) (n1 c1 n2 c2 B1 B2) (w) (h1:jv w B1 A1 n1 c1 s1) (h2:jv w B2 A2 n2 c2 s2) (hB1:B1≤w.heap.size) (hB2:B2≤w.heap.size):
  Calls prog 127 #[.agg #[.string y.n,.string y.v,.slice A1 n1 c1],.agg #[.string z.n,.string z.v,.slice A2 n2 c2]] w fun r w'=>r= .returned (.bool (decide ((y,s1)=(z,s2))))∧Gr w w':=by
 have EQ:=fun W=>eqL y z W
 have Hr:=Aj (show jv ((w.alloc (Obj.cells #[.string y.n,.string y.v,.slice A1 n1 c1] 163)).alloc (Obj.cells #[.string z.n,.string z.v,.slice A2 n2 c2] 163)) B1 A1 n1 c1 s1 from(h1.alloc hB1 _).alloc (by simp;omega) _);have Hs:=Aj (show jv ((w.alloc (Obj.cells #[.string y.n,.string y.v,.slice A1 n1 c1] 163)).alloc (Obj.cells #[.string z.n,.string z.v,.slice A2 n2 c2] 163)) B2 A2 n2 c2 s2 from(h2.alloc hB2 _).alloc (by simp;omega) _);clear h1 h2;by_cases Z9:y=z
 ·have hd:∀W,Sem.run prog (binOp .eql 59 (.agg #[.string y.n,.string y.v]) (.agg #[.string z.n,.string z.v])) W= .ok (.bool true) W:=fun W=>by rw[EQ W,Bc Z9]
  have Hd:Kept (decide ((y,s1)=(z,s2))=decide (s1=s2)):=⟨decide_eq_decide.2 (by rw[ay];simp[Z9])⟩
  clear EQ Z9;go_enter func127,ntmps127;go_wp2_with (go_at_call 128;refine(Jp A1 A2 n1 n2 c1 c2 s1 s2 _ B1 B2 Hr.1 Hs.1).mono ?_;rintro e w3 ⟨rfl,hq⟩;have Hq:=Aj hq;clear hq);go_ret;exact⟨by rw[Hd.1];rfl,(((Gr.refl w).alloc _).alloc _).quiet Hq.1⟩
 ·have hd:∀W,Sem.run prog (binOp .eql 59 (.agg #[.string y.n,.string y.v]) (.agg #[.string z.n,.string z.v])) W= .ok (.bool false) W:=fun W=>by rw[EQ W,Az Z9]
  have Hd:Kept (decide ((y,s1)=(z,s2))=false):=⟨Az (by rw[ay];simp[Z9])⟩
  clear EQ Z9;go_enter func127,ntmps127;go_wp2;go_ret;exact⟨by rw[Hd.1];rfl,((Gr.refl w).alloc _).alloc _⟩
end
section
open Go.RowKit Go.Shelf
theorem Vx (A1 A2) (n1 c1 n2 c2) (E1 E2) (w) (h1:fI w w.heap.size A1 n1 c1 E1) (h2:fI w w.heap.size A2 n2 c2 E2):
  Calls prog 126 #[.slice A1 n1 c1,.slice A2 n2 c2,.func (.func 127) #[] #[]] w fun r w'=>r= .returned (.bool (decide (E1=E2)))∧Gr w w':=by
 have hc1:=h1.cap;have hc2:=h2.cap;unfold maxLen at hc1 hc2;have N1:=Aj h1.len;have N2:=Aj h2.len;have V1:=Aj h1;have V2:=Aj h2;clear h1 h2;by_cases hl:n1=n2
 ·subst hl;go_enter func126,ntmps126;go_wp2;go_loopw [17] (fun i wr=>∃k:Nat,k≤n1∧i= .int .i64 k∧Kept (E1.take k=E2.take k)∧Kept (Gr w wr)) (fun i _=>n1-(intOf i).toNat)
  case atStart=>exact⟨0,om,rfl,⟨rfl⟩,⟨Gr.refl w⟩⟩
  case round=>
   obtain⟨k,hk,rfl,He,G⟩:=hrel;by_cases hlt:k<n1
   ·have k1:k<E1.length:=by rw[←N1.1];exact hlt
    have k2:k<E2.length:=by rw[←N2.1];exact hlt
    obtain⟨b1,o1,P1,m1,d1,rfl,hb1,hS1,hC1⟩:=V1.1.cells Ai k1;obtain⟨b2,o2,P2,m2,d2,rfl,hb2,hS2,hC2⟩:=V2.1.cells Ai k2;have T1:=Ts k1;have T2:=Ts k2;have F4:Kept (E1[k]≠E2[k]→E1≠E2):=⟨fun h e=>h (by subst e;rfl)⟩
    generalize E1[k]=x1 at hS1 hC1 T1 F4;generalize E2[k]=x2 at hS2 hC2 T2 F4;have HT:Kept (x1=x2→E1.take (k+1)=E2.take (k+1)):=⟨fun h=>by rw[T1,T2,He.1,h]⟩
    obtain⟨y,s1⟩:=x1;obtain⟨z,s2⟩:=x2;simp only[]at hS1 hC1 hS2 hC2;obtain⟨ca,cb,cc⟩:=hC1 wr G.1.below;have G1:Kept (Gr w (wr.alloc (Obj.cells #[.string y.n,.string y.v,.slice P1 m1 d1] 163))):=⟨G.1.alloc _⟩
    obtain⟨da,db,dc⟩:=hC2 _ G1.1.below;have G2:Kept (Gr w ((wr.alloc (Obj.cells #[.string y.n,.string y.v,.slice P1 m1 d1] 163)).alloc (Obj.cells #[.string z.n,.string z.v,.slice P2 m2 d2] 163))):=⟨G1.1.alloc _⟩
    have CL:=Aj (Nz y z s1 s2 P1 P2 m1 d1 m2 d2 _ _ _ (qa hS1 G2.1.below).rd (qa hS2 G2.1.below).rd Ai Ai);clear T1 T2 hS1 hS2 hC1 hC2 He k1 k2;by_cases hq:(y,s1)=(z,s2)
    ·have ht:=HT.1 hq;have HE:=Aj ht;have CL2:=CL;rw[Bc hq]at CL2;clear ht CL hq HT F4;go_wp2_with (go_at_call 127;refine CL2.1.mono ?_;rintro e w3 ⟨rfl,hg⟩;have Hg:=Aj (G2.1.trans hg);clear hg);go_roundw
     case rel=>exact⟨k+1,om,by go_num,HE,Hg⟩
     case measure=>simp[intOf];try omega
    ·have HE:=Aj (F4.1 hq);have CL2:=CL;rw[Az hq]at CL2;clear CL hq HT F4;go_wp2_with (go_at_call 127;refine CL2.1.mono ?_;rintro e w3 ⟨rfl,hg⟩;have Hg:=Aj (G2.1.trans hg);clear hg);go_ret;exact⟨by rw[Az HE.1];rfl,Hg.1⟩
   ·obtain rfl:k=n1:=by omega
    have HE:Kept (E1=E2):=⟨by have:=He.1;rwa[jY (Nat.le_of_eq N1.1.symm),jY (Nat.le_of_eq N2.1.symm)]at this⟩
    clear hlt hk;go_wp2;go_ret;exact⟨by rw[Bc HE.1];rfl,G.1⟩
 ·have HE:Kept (E1≠E2):=⟨fun e=>hl (by rw[N1.1,N2.1,e])⟩
  have hne:((n1:Int) !=(n2:Int))=true:=by simp;omega
  clear hl;go_enter func126,ntmps126;go_wp2;go_ret;exact⟨by rw[Az HE.1];rfl,Gr.refl w⟩
theorem mg (A1 A2) (n1 c1 n2 c2) (E1 E2) (w) (h1:fI w w.heap.size A1 n1 c1 E1) (h2:fI w w.heap.size A2 n2 c2 E2):
  Calls prog 75 #[.slice A1 n1 c1,.slice A2 n2 c2] w fun r w'=>r= .returned (.bool (decide (E1=E2)))∧Gr w w':=by
 have C:=Aj (Vx A1 A2 n1 c1 n2 c2 E1 E2 w h1 h2);clear h1 h2;generalize decide (E1=E2)=b at*;go_enter func75,ntmps75;go_wp2_with (go_at_call 126;refine C.1.mono ?_;rintro e w3 ⟨rfl,hg⟩);go_ret;exact⟨rfl,hg⟩
end
section
open Go.RowKit Go.Shelf
def Fl (e:Int):PanicEntry:={v:= .iface 211 (.agg #[.int .i64 e]),recovered:=false}
theorem jV (w):Calls prog 72 #[.int .i64 0] w fun r w'=>r= .returned (.tuple #[])∧w'=w:=by
 go_enter func72,ntmps72;go_wp2;go_end0;exact⟨rfl,rfl⟩
theorem fM (e) (he:e≠0) (w):Calls prog 72 #[.int .i64 e] w fun r w'=>r= .panicked [Fl e]∧w'=w:=by
 have h:(e !=0)=true:=by simp[he]
 go_enter func72,ntmps72;go_wp2;exact⟨rfl,rfl,rfl⟩
theorem uI (v) (w):Calls prog 67 #[v,.int .i64 0] w fun r w'=>r= .returned v∧w'=w:=by
 go_enter func67,ntmps67;go_wp2_with (go_at_call 72;refine(jV _).mono ?_;rintro e w1 ⟨rfl,rfl⟩);go_ret;exact⟨rfl,rfl⟩
theorem Jq (v) (e) (he:e≠0) (w):Calls prog 67 #[v,.int .i64 e] w fun r w'=>r= .panicked [Fl e]∧w'=w:=by
 have H:=Aj he;clear he;go_enter func67,ntmps67;go_wp2_with (go_at_call 72;refine(fM e H.1 _).mono ?_;rintro r w1 ⟨rfl,rfl⟩);exact⟨rfl,rfl,rfl⟩
theorem F7 (v) (w):Calls prog 69 #[v,.int .i64 0] w fun r w'=>r= .returned v∧w'=w:=by
 go_enter func69,ntmps69;go_wp2_with (go_at_call 72;refine(jV _).mono ?_;rintro e w1 ⟨rfl,rfl⟩);go_ret;exact⟨rfl,rfl⟩
theorem Jr (v) (e) (he:e≠0) (w):Calls prog 69 #[v,.int .i64 e] w fun r w'=>r= .panicked [Fl e]∧w'=w:=by
 have H:=Aj he;clear he;go_enter func69,ntmps69;go_wp2_with (go_at_call 72;refine(fM e H.1 _).mono ?_;rintro r w1 ⟨rfl,rfl⟩);exact⟨rfl,rfl,rfl⟩
theorem RG (v) (w):Calls prog 73 #[v,.int .i64 0] w fun r w'=>r= .returned v∧w'=w:=by
 go_enter func73,ntmps73;go_wp2_with (go_at_call 72;refine(jV _).mono ?_;rintro e w1 ⟨rfl,rfl⟩);go_ret;exact⟨rfl,rfl⟩
theorem Js (v) (e) (he:e≠0) (w):Calls prog 73 #[v,.int .i64 e] w fun r w'=>r= .panicked [Fl e]∧w'=w:=by
 have H:=Aj he;clear he;go_enter func73,ntmps73;go_wp2_with (go_at_call 72;refine(fM e H.1 _).mono ?_;rintro r w1 ⟨rfl,rfl⟩);exact⟨rfl,rfl,rfl⟩
theorem F8 (v) (w):Calls prog 76 #[v,.int .i64 0] w fun r w'=>r= .returned v∧w'=w:=by
 go_enter func76,ntmps76;go_wp2_with (go_at_call 72;refine(jV _).mono ?_;rintro e w1 ⟨rfl,rfl⟩);go_ret;exact⟨rfl,rfl⟩
theorem Jt (v) (e) (he:e≠0) (w):Calls prog 76 #[v,.int .i64 e] w fun r w'=>r= .panicked [Fl e]∧w'=w:=by
 have H:=Aj he;clear he;go_enter func76,ntmps76;go_wp2_with (go_at_call 72;refine(fM e H.1 _).mono ?_;rintro r w1 ⟨rfl,rfl⟩);exact⟨rfl,rfl,rfl⟩
theorem Ju (p q) (w):Calls prog 66 #[.nilIface,p,q] w fun r w'=>r= .returned (.tuple #[])∧w'=w:=by
 have hn:∀W:World,(binOp BinOp.eql 20 .nilIface .nilIface).run prog W= .ok (.bool true) W:=fun _=>kr
 go_enter func66,ntmps66;go_wp2
 first|go_end0|refine AQ (BI rfl _ _ _) rfl ?_
 exact⟨rfl,rfl⟩
def CaP (w:World) (b d:Nat) (e:Int) (B:Nat) (w':World):Prop:=
 Below B w w'∧w'.cell? ⟨b,0,none⟩=some (.slice none 0 0)∧w'.cell? ⟨d,0,none⟩=some (.int .i64 e)
theorem F9 (e) (b d B) (v1 v2) (w) (hB:B≤b) (hd:B≤d) (hne:b≠d) (hb1:w.cell? ⟨b,0,none⟩=some v1) (hd1:w.cell? ⟨d,0,none⟩=some v2) (fb:w.frozen? ⟨b,0,none⟩=false) (fd:w.frozen? ⟨d,0,none⟩=false):
  Calls prog 66 #[(Fl e).v,.pointer (some ⟨b,0,none⟩),.pointer (some ⟨d,0,none⟩)] w fun r w'=>r= .returned (.tuple #[])∧CaP w b d e B w':=by
 have hta:∀W:World,(Instr.typeAssert (.iface 211 (.agg #[.int .i64 e])) 20 211 true).run prog W= .ok (.tuple #[.agg #[.int .i64 e],.bool true]) W:=fun _=>kr
 have hnn:∀W:World,(binOp BinOp.eql 20 (.iface 211 (.agg #[.int .i64 e])) .nilIface).run prog W= .ok (.bool false) W:=fun _=>kr
 have lb:=AR w ⟨b,0,none⟩ hb1;have ld:=AR w ⟨d,0,none⟩ hd1;obtain⟨W,hW⟩:∃W,W=w.alloc (.cells #[.int .i64 e] 211):=⟨_,rfl⟩
 have k1:W.cell? ⟨b,0,none⟩=some v1:=by rw[hW];exact(AJ w _ ⟨b,0,none⟩ lb).trans hb1
 have k2:W.cell? ⟨d,0,none⟩=some v2:=by rw[hW];exact(AJ w _ ⟨d,0,none⟩ ld).trans hd1
 have hbW:Below w.heap.size w W:=by rw[hW];exact(Ae _ _).alloc Ai _
 have k3:W.frozen? ⟨b,0,none⟩=false:=(hbW.frozen (p:=⟨b,0,none⟩) lb).trans fb;have k4:W.frozen? ⟨d,0,none⟩=false:=(hbW.frozen (p:=⟨d,0,none⟩) ld).trans fd;have k5:W.cell? ⟨w.heap.size,0,none⟩=some (.int .i64 e):=by rw[hW];exact Au w _ _ _ 0
 unfold Fl;go_enter func66,ntmps66;go_wp2;rw[←hW];clear hW;go_region
 all_goals
  first|go_end0|refine AQ (BI rfl _ _ _) rfl ?_
  refine⟨rfl,?_,?_,?_⟩
  ·exact(((hbW.mono om).setCell (p:=⟨b,0,none⟩) hB _).setCell (p:=⟨d,0,none⟩) hd _).drew
  ·exact(Bh _ _ _ _ (by intro h;cases h;exact hne rfl)).trans (World.cell?_setCell_same _ _ _ k1)
  ·exact World.cell?_setCell_same _ _ _ ((Bh _ _ _ _ (by intro h;cases h;exact hne rfl)).trans k2)
theorem NA (p q) (w):
  CallsD prog 65 #[.pointer (some p),.pointer (some q)] .returning w fun e u' w'=>e= .returned (.tuple #[])∧u'= .returning∧w'=w:=by
 have C:=Aj (Ju (.pointer (some p)) (.pointer (some q)) w);refine callsD_of_wpS func65 rfl fun c₀ cs hu=>?_
 apply wpS_region;simp[wpOpsS,go_sem,recoverD,hu,ntmps65];refine C.1.mono ?_;rintro e w'' ⟨rfl,rfl⟩;cases c₀;simp_all [bodyPostS,results,Tryz.results65]
theorem NC (f) (b d B) (v1 v2) (older) (w) (hB:B≤b) (hd:B≤d) (hne:b≠d) (hb1:w.cell? ⟨b,0,none⟩=some v1) (hd1:w.cell? ⟨d,0,none⟩=some v2) (fb:w.frozen? ⟨b,0,none⟩=false) (fd:w.frozen? ⟨d,0,none⟩=false):
  CallsD prog 65 #[.pointer (some ⟨b,0,none⟩),.pointer (some ⟨d,0,none⟩)] (.panicking (Fl f::older)) w fun e u' w'=>e= .returned (.tuple #[])∧u'= .panicking ({v:=(Fl f).v,recovered:=true}::older)∧CaP w b d f B w':=by
 have C:=Aj (F9 f b d B v1 v2 w hB hd hne hb1 hd1 fb fd);clear hB hd hne hb1 hd1 fb fd;refine callsD_of_wpS func65 rfl fun c₀ cs hu=>?_
 unfold Fl at hu C;apply wpS_region;simp[wpOpsS,go_sem,recoverD,hu,ntmps65];refine C.1.mono ?_;rintro e w'' ⟨rfl,hca⟩;cases c₀;simp_all [bodyPostS,results,Tryz.results65,Fl]
end
end Go.Proofs.YtjcpmfphnodaaaaGreatDoor
