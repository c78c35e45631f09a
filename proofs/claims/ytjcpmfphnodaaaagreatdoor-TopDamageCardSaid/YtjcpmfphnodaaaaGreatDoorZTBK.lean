/- Part 37. -/
import Derived.Test.YtjcpmfphnodaaaaGreatDoorZTBI
import Derived.Test.YtjcpmfphnodaaaaGreatDoorCards
import Derived.Test.YtjcpmfphnodaaaaGreatDoorTie
namespace Go.Proofs.YtjcpmfphnodaaaaGreatDoor
set_option maxRecDepth 100000
set_option maxHeartbeats 0
open _root_.Go.Proofs.Tryz
section
open Go.RowKit Go.Shelf
theorem Bk.VX {L} (h:Ly.pe L≠0):Bk.dec L=([],Ly.pe L):=by
 unfold Bk.dec;rw[Ps0 h]
theorem Bk.xu.flip {b} {L} (h:Bk.xu b) (hc:Bk.bN b=0) (hi:∀s∈b,Cs.In s.2) (hf:Bk.File b L) (k p):8≤L.length∧L.length≤40000200∧(Ly.pe (aL.aX L k 32 p)=0↔L=aL.aX L k 32 p):=by
 obtain⟨T,E,ho,rfl⟩:=hf;have htot:=(h.ok hc hi).tot ho;have hle:=Ly.xI (Bk.D4 T E b) om;exact⟨by rw[Ly.rF];omega,om,Ly.TQ _ om k p⟩
theorem JJ (from_ n2:Nat) (h1:from_<65536) (h8:8≤n2) (hM:n2≤40000200):∃k:Nat,k≤1125899906842624∧((8*(n2:Int))==0)=false∧IntKind.i64.wrap (8*(n2:Int))=8*(n2:Int)∧(from_:Int).tmod (8*(n2:Int))=(k:Int)∧((n2:Int)==0)=false∧
  ¬8*(n2:Int)=0∧IntKind.i64.wrap (from_:Int)=(from_:Int)∧(from_:Int)% (8*(n2:Int))=(k:Int):=by
 refine⟨from_% (8*n2),by have:=Nat.mod_le from_ (8*n2);omega,by simp;omega,by rw[AV];omega,?_,by simp;omega,om,by rw[AV];omega,sm⟩;rw[Int.tmod_eq_emod_of_nonneg om];simp
theorem VY (l1 l2:List UInt8):(l1==l2)=decide (l1=l2):=by rw[Bool.eq_iff_iff];simp
theorem JK (A) (n c) (b) (from_ pat:Nat) (w) (hv:iE w w.heap.size A n c b) (hfi:∀s∈b,Lb.Fit s.1∧Cs.In s.2) (h1:from_<65536) (h2:pat<4294967296) (hG:Gl w):
  Calls prog 4 #[.slice A n c,.int .u16 (from_:Int),.int .u32 (pat:Int)] w fun e w'=>e= .returned (.bool true)∧Below w.heap.size w w':=by
 have HG:=Aj hG;have HV:=Aj hv;have HIN:=Aj (fun s hs=>(hfi s hs).2);have ST:=Aj (fun(W:World) (h:Below w.heap.size w W)=>uT W (hG.below h));have BL:=Aj (NN A n c w.heap.size b w hv Ai (fun s hs=>(hfi s hs).1));clear hG hv hfi;go_enter func4,ntmps4;have EN:=Aj (fun(w1:World) (hb:Below w.heap.size w w1) (hS:Bk.xu b) (hc:Bk.bN b=0)=>zH A n c b w1 ((HV.1.below hb).more hb.size) (hS.ok hc HIN.1) (HG.1.below hb));go_wp2_with (first
  |(go_at_call 8;refine(ST.1 w3 B3.1).mono ?_;rintro e w9 ⟨rfl,hb⟩;have B9:=Aj (B3.1.trans (hb.mono B3.1.size));clear hb)
  |(go_at_call 8;refine(ST.1 w1 B1.1).mono ?_;rintro e w9 ⟨rfl,hb⟩;have B9:=Aj (B1.1.trans (hb.mono B1.1.size));clear hb)
  |(go_at_call 18;refine(sD A2 A3 n2 n3 c2 c3 L C (decide (L=C)) w3 w2.heap.size w3.heap.size X3.1 Y3.1 (VY L C)).mono ?_;rintro e w4 ⟨rfl,rfl⟩;obtain⟨v2,hv2⟩:∃v2,v2=decide (L=C):=⟨_,rfl⟩;rw[←hv2];have HV2:=Aj hv2;clear hv2;cases v2)
  |(go_at_call 20;refine(Ou A2 n2 c2 L k pat w2 w2.heap.size X2.1 Ai om g1 h2).mono ?_;rintro e w3 ⟨A3,n3,c3,rfl,ho,hb⟩;have hpe:=PE.1 k;have hcl:(aL.aX L k 32 pat).length≤40000200:=(by rw[aL.jD];exact HLM.1);generalize aL.aX L k 32 pat=C at ho hpe hcl;have HCL:=Aj hcl;have Y3:=Aj ho.rd;have HPE:=Aj hpe;have B3:=Aj (B2.1.trans (hb.mono B2.1.size));have X3:=Aj (X2.1.below hb);clear ho hb hpe hcl)
  |(go_at_call 16;obtain⟨hS,hc⟩:=HB.1 trivial;refine(EN.1 w1 B1.1 hS hc).mono ?_;rintro e w2 ⟨A2,n2,c2,L,rfl,hf,ho,hb⟩;have PE0:=fun k=>hS.flip hc HIN.1 hf k pat;have hl:=ho.len;have q1:=(PE0 0).1;have q2:=(PE0 0).2.1;have q3:8≤n2:=om;have q4:n2≤40000200:=om;obtain⟨k,g1,g2,g3,g4,g5,g6,g7,g8⟩:=JJ from_ n2 h1 q3 q4;have PE:=Aj (fun k=>(PE0 k).2.2);have X2:=Aj ho.rd;have HL:=Aj hl;have HLM:=Aj q2;have B2:=Aj (B1.1.trans (hb.mono B1.1.size));clear hS hc hf ho hb PE0 hl q1 q2 EN)
  |(go_at_call 19;refine BL.1.mono ?_;rintro e w1 ⟨v,rfl,hv,hb⟩;have B1:=Aj hb;have HB:=Aj hv;clear hb hv BL;cases v))
 ·go_ret;exact⟨rfl,B9.1⟩
 ·have hne:Ly.pe C≠0:=fun h=>by
   have h3:=HPE.1.1 h;have h4:=HV2.1;rw[Bc h3]at h4;cases h4
  have mo:n3≤140737488353000:=by
   have:=Y3.1.len;have h4:=HCL.1;omega
  have hss:=uS hne;have hbad:=Bk.VX hne;have DE:=Aj (oz A3 n3 c3 C w3 Y3.1 mo hss (HG.1.below B3.1));have OE:=Aj (fun(W:World) (h:Below w3.heap.size w3 W) (hw:Below w.heap.size w W)=>Gm A3 n3 c3 C W ((Y3.1.below h).more h.size) mo hss (fun q=>absurd (by rw[hbad]at q;exact q) hne) (HG.1.below hw));have FE:=Aj (fun(W:World) (p:Nat) (h:Below w3.heap.size w3 W) (hw:Below w.heap.size w W) (hr:bu W p none 0 0 0 0 0 (Pc.st 0) false) (hp:w.heap.size≤p)=>Gp p A3 n3 c3 w3.heap.size C W hr (Y3.1.below h) h.size mo (fun W' g=>(HG.1.below (hw.grown g hw.size (fun r e=>by cases e;exact hp))).tab));have CE:=Aj (fun(W:World) (p:Nat) (A':Option Addr) (c':Nat) (at_ pt er:Int) (s:Value) (hw:Below w.heap.size w W) (hr:bu W p A' n3 c' at_ pt er s false) (hv:aN W W.heap.size A' n3 c' C) (hA:∀q,ab A'=some q→q≠p) (hp:w.heap.size≤p)=>xH p A' n3 c' at_ pt er s C W hr hv hA mo hss (fun W' g=>HG.1.below (hw.grown g hw.size (fun r e=>by cases e;exact hp))));have VC:=Aj (fun(W:World) (h:Below w3.heap.size w3 W) (hw:Below w.heap.size w W)=>JG A3 n3 c3 C W ((Y3.1.below h).more h.size) mo hss (by rw[hbad];exact hne) (HG.1.below hw));rw[hbad]at DE OE CE;clear hbad hss;obtain⟨f,hf⟩:∃f,f=Ly.pe C:=⟨_,rfl⟩
  rw[←hf]at DE OE CE hne;have hf1:(f !=0)=true:=by simpa using hne
  have HF:=Aj hne;clear hf hne;refine DE.1.mono ?_;rintro e w4 ⟨A4,n4,c4,rfl,-,hb⟩;have C4:=Aj hb;have B4:=Aj (B3.1.trans (hb.mono B3.1.size));clear hb DE;go_wp2_with (first
   |(go_at_call 21;refine(VC.1 w9 C9.1 B9.1).mono ?_;rintro e JW ⟨fp,rfl,hb⟩;have B10:=Aj (B9.1.trans (hb.mono B9.1.size));clear hb VC)
   |(go_at_call 8;refine(ST.1 w8 B8.1).mono ?_;rintro e w9 ⟨rfl,hb⟩;have B9:=Aj (B8.1.trans (hb.mono B8.1.size));have C9:=Aj (C8.1.trans (hb.mono C8.1.size));clear hb ST)
   |(go_at_call 14;refine(CE.1 w7 _ _ _ _ _ _ _ B7.1 R7.1 V7.1 N7.1 P6.1.1).mono ?_;rintro e w8 ⟨A8,n8,c8,rfl,-,hg⟩;have B8:=Aj (B7.1.grown hg B7.1.size (fun r e=>by cases e;exact P6.1.1));have C8:=Aj (C7.1.grown hg C7.1.size (fun r e=>by cases e;exact P6.1.2));clear hg CE)
   |(go_at_call 13;refine(FE.1 w6 _ C6.1 B6.1 R6.1 P6.1.1).mono ?_;rintro e w7 ⟨rfl,hg,A7,c7,at7,pt7,er7,s7,hr,hv,hA⟩;have R7:=Aj hr;have V7:=Aj hv;have N7:=Aj hA;have B7:=Aj (B6.1.grown hg B6.1.size (fun r e=>by cases e;exact P6.1.1));have C7:=Aj (C6.1.grown hg C6.1.size (fun r e=>by cases e;exact P6.1.2));clear hr hv hA hg FE)
   |(go_at_call 12;refine(uR w5).mono ?_;rintro e w6 ⟨rfl,hr,hb⟩;have R6:=Aj hr;have P6:Kept (w.heap.size≤w5.heap.size∧w3.heap.size≤w5.heap.size):=⟨⟨B5.1.size,C5.1.size⟩⟩;have B6:=Aj (B5.1.trans (hb.mono B5.1.size));have C6:=Aj (C5.1.trans (hb.mono C5.1.size));clear hr hb)
   |(go_at_call 11;refine(OE.1 w4 C4.1 B4.1).mono ?_;rintro e w5 ⟨hb,h5⟩;obtain⟨-,rfl⟩:=h5.resolve_right (fun q=>HF.1 q.1);have B5:=Aj (B4.1.trans (hb.mono B4.1.size));have C5:=Aj (C4.1.trans (hb.mono C4.1.size));clear hb h5 OE))
  go_ret;exact⟨rfl,B10.1⟩
 ·go_ret;exact⟨rfl,B9.1⟩
end
namespace topDamage
open Go
theorem k0:(Rows.topDamageRow.wf (OpenSpec.ofChange Rows.topDamageSpec))=true:=kr
theorem k1:(laidOutB prog)=true:=kr
theorem k2:(mapsRowed prog)=true:=kr
theorem k3:(Tryz.f4.params.all (prog.readableRec ·))=true:=kr
theorem k4:(namedTie prog Rows.topDamageRow.named Rows.topDamageSpec.vars)=true:=kr
theorem k5:((Rows.topDamageRow.stops==[]))=true:=kr
theorem k6:((prog.stops==[]))=true:=kr
theorem k7:((Rows.topDamageRow.knobs==[]))=true:=kr
theorem k8:((prog.stopKnobs==[]))=true:=kr
theorem k9:((Rows.topDamageRow.inPlace==prog.inPlace 4))=true:=kr
theorem k10:((Rows.topDamageRow.unfollowed==prog.unfollowed 4))=true:=kr
theorem k11:((Rows.topDamageRow.recurses==prog.recurses 4))=true:=kr
theorem k12:((Rows.topDamageRow.named==prog.varsNamed 4))=true:=kr
theorem k13:((Rows.topDamageRow.maps==(Tryz.f4.params.toList++Rows.topDamageSpec.plain.varTypes prog).any (prog.mapsRec ·)))=true:=kr
theorem k14:((Rows.topDamageRow.ifaces==(Tryz.f4.params.toList++Rows.topDamageSpec.plain.varTypes prog).any (prog.ifacesRec ·)))=true:=kr
theorem k15:((Rows.topDamageRow.mapsOut==prog.mapsAmong Tryz.f4.resultTypes.toList))=true:=kr
theorem k16:((Rows.topDamageRow.loops==(Tryz.f4.params.toList++Rows.topDamageSpec.plain.varTypes prog).any (prog.loopsFrom ·)))=true:=kr
theorem k17:((Rows.topDamageRow.wideKeys==(Tryz.f4.params.toList++Rows.topDamageSpec.plain.varTypes prog++Tryz.f4.resultTypes.toList).any (prog.wideKeysFrom ·)))=true:=kr
theorem k18:(Rows.topDamageSpec.vars.all (prog.varReadable ·))=true:=kr
theorem k19:(Tryz.f4.resultTypes.all (fun t=>prog.readableRec t&&decide (t<prog.types.size)))=true:=kr
theorem k20:((Rows.topDamageRow.ifacesOut==Tryz.f4.resultTypes.toList.any (prog.ifacesRec ·)))=true:=kr
theorem k21:((Rows.topDamageRow.loopsOut==Tryz.f4.resultTypes.toList.any (prog.loopsFrom ·)))=true:=kr
theorem k22:((Rows.topDamageRow.plainKeys==prog.plainKeys))=true:=kr
theorem k23:(Rows.topDamageRow.shortTexts.isNone)=true:=kr
theorem k24:(prog.stopsHeard)=true:=kr
theorem k25:(prog.mayEnter)=true:=kr
theorem k26:((Rows.topDamageRow.lifted==prog.liftsFinal))=true:=kr
theorem k27:((prog.make==some Rows.topDamageRow.make))=true:=kr
theorem k28:((Rows.topDamageRow.kinds==(if Rows.topDamageRow.domain.isEmpty then[]else Tryz.f4.params.toList.map fun t=>match prog.underlying t with|some (.int k)=>some k|_=>none)))=true:=kr
theorem k29:((Rows.topDamageRow.pinned==Rows.topDamageRow.pinnedBy))=true:=kr
theorem k30:((Rows.topDamageRow.veiled==(Tryz.f4.params.toList++Rows.topDamageSpec.plain.varTypes prog++Tryz.f4.resultTypes.toList).any (prog.veiledRec ·)))=true:=kr
theorem k31:(Rows.topDamageRow.veiledFits prog Tryz.f4.params.toList (Tryz.f4.params.toList++Rows.topDamageSpec.plain.varTypes prog++Tryz.f4.resultTypes.toList))=true:=kr
theorem aM {a b} (h:a=true) (g:b=true):(a&&b)=true:=by rw[h,g];rfl
theorem closed:joinedFacts prog 4 Tryz.f4 Rows.topDamageSpec Rows.topDamageRow=true:=by
 unfold joinedFacts;exact(aM (aM (aM (aM (aM (aM (aM (aM (aM (aM (aM (aM (aM (aM (aM (aM (aM (aM (aM (aM (aM (aM (aM (aM (aM (aM (aM (aM (aM (aM (aM k0 k1) k2) k3) k4) k5) k6) k7) k8) k9) k10) k11) k12) k13) k14) k15) k16) k17) k18) k19) k20) k21) k22) k23) k24) k25) k26) k27) k28) k29) k30) k31)
end topDamage
end Go.Proofs.YtjcpmfphnodaaaaGreatDoor
