/- Part 34. -/
import Derived.Test.YtjcpmfphnodaaaaGreatDoorZTBF
namespace Go.Proofs.YtjcpmfphnodaaaaGreatDoor
set_option maxRecDepth 100000
set_option maxHeartbeats 0
open _root_.Go.Proofs.Tryz
open Go.RowKit Go.Shelf
theorem NJ (TA A) (tn tc n c) (T) (rs) (w) (hT:bM w w.heap.size TA tn tc T) (hv:uX w w.heap.size A n c rs) (ho:VH T rs) (hu:Bk.used T rs=false):
  Calls prog 71 #[.slice TA tn tc,.slice A n c] w fun e w'=>(∃k:Nat,e= .returned (.int .i64 (k:Int)))∧Below w.heap.size w w':=by
 refine(uJ TA A tn tc n c w.heap.size T rs w hT hv Ai ho.cnt ho.Ji ho.szT).mono ?_;rintro e w' ⟨hb,h⟩;refine⟨?_,hb⟩;rcases h with⟨h,_⟩|⟨_,h⟩
 ·rw[hu]at h;cases h
 ·exact h
theorem JB (TA A) (tn tc n c) (T) (rs) (w) (hT:bM w w.heap.size TA tn tc T) (hv:uX w w.heap.size A n c rs) (ho:VH T rs) (hu:Bk.used T rs=true):
  Calls prog 71 #[.slice TA tn tc,.slice A n c] w fun e w'=>e= .returned (.int .i64 (-1))∧Below w.heap.size w w':=by
 refine(uJ TA A tn tc n c w.heap.size T rs w hT hv Ai ho.cnt ho.Ji ho.szT).mono ?_;rintro e w' ⟨hb,h⟩;refine⟨?_,hb⟩;rcases h with⟨_,h⟩|⟨h,_⟩
 ·exact h
 ·rw[hu]at h;cases h
def kE (w:World) (R:Bk.iP×Int) (e:Ending) (w':World):Prop:=
 ∃A n c,e= .returned (.tuple #[.slice A n c,.int .i64 R.2])∧iE w' w'.heap.size A n c R.1∧Below w.heap.size w w'
theorem kE.bad {w w'} {R:Bk.iP×Int} {f} (h:R=([],f)) (hb:Below w.heap.size w w'):kE w R (.returned (.tuple #[.slice none 0 0,.int .i64 f])) w':=by
 subst h;exact⟨none,0,0,rfl,(P7.nil w' 0).rd,hb⟩
theorem Sn (A0 A1 A2 A3) (n0 n1 n2 n3 c0 c1 c2 c3) (D) (w)
  (h0:aN w w.heap.size A0 n0 c0 (D 0)) (h1:aN w w.heap.size A1 n1 c1 (D 1)) (h2:aN w w.heap.size A2 n2 c2 (D 2)) (h3:aN w w.heap.size A3 n3 c3 (D 3))
  (b0:n0≤1000000) (b1:n1≤1000000) (b2:n2≤10000000) (b3:n3≤1000000) (hG:Gl w):
  Calls prog 35 #[.agg #[.slice A0 n0 c0,.slice A1 n1 c1,.slice A2 n2 c2,.slice A3 n3 c3]] w (kE w (Bk.kC D)):=by
 have hmf:∀(fn:Fn) (first cap:Array Value) (w:World),(Instr.makeFunc fn first cap).run prog w= .ok (.func fn first cap) w:=fun _ _ _ _=>rfl
 obtain⟨W,hW⟩:∃W,W=((w.alloc (.cells #[.slice A0 n0 c0,.slice A1 n1 c1,.slice A2 n2 c2,.slice A3 n3 c3] 76)).alloc (.cells #[.slice none 0 0] 24)).alloc (.cells #[.int .i64 0] 25):=⟨_,rfl⟩
 have Xh:Kept (Sx w W (fun i=>[A0,A1,A2,A3].getD i none) (fun i=>[n0,n1,n2,n3].getD i 0) (fun i=>[c0,c1,c2,c3].getD i 0) (.slice none 0 0)):=by
  have e0:=World.alloc_heap_new w (.cells #[.slice A0 n0 c0,.slice A1 n1 c1,.slice A2 n2 c2,.slice A3 n3 c3] 76);have e1:=World.alloc_heap_new (w.alloc (.cells #[.slice A0 n0 c0,.slice A1 n1 c1,.slice A2 n2 c2,.slice A3 n3 c3] 76)) (.cells #[.slice none 0 0] 24);have e2:=World.alloc_heap_new ((w.alloc (.cells #[.slice A0 n0 c0,.slice A1 n1 c1,.slice A2 n2 c2,.slice A3 n3 c3] 76)).alloc (.cells #[.slice none 0 0] 24)) (.cells #[.int .i64 0] 25);rw[show(w.alloc (.cells #[.slice A0 n0 c0,.slice A1 n1 c1,.slice A2 n2 c2,.slice A3 n3 c3] 76)).heap.size=w.heap.size+1 from sm]at e1;rw[show((w.alloc (.cells #[.slice A0 n0 c0,.slice A1 n1 c1,.slice A2 n2 c2,.slice A3 n3 c3] 76)).alloc (.cells #[.slice none 0 0] 24)).heap.size=w.heap.size+2 from sm]at e2;have f0:W.heap[w.heap.size]? =some (.cells #[.slice A0 n0 c0,.slice A1 n1 c1,.slice A2 n2 c2,.slice A3 n3 c3] 76 (0,0)):=by
   rw[hW,Aw _ _ _ (by simp;try omega),Aw _ _ _ sm];exact e0
  refine⟨by rw[hW];exact(((Ae _ _).alloc Ai _).alloc sm _).alloc (by simp;try omega) _,by rw[hW];simp;try omega,fun i hi=>?_,by rw[hW,Aw _ _ _ sm];exact e1,by rw[hW];exact e2⟩;rw[Co _ _ _ _ _ _ f0]
  match i,hi with
  |0,_=>rfl
  |1,_=>rfl
  |2,_=>rfl
  |3,_=>rfl
 have hbW:=Xh.1.aU;have HD0:=Aj ((h0.below hbW).more hbW.size);have H0:=Aj h0;have H1:=Aj h1;have H2:=Aj h2;have H3:=Aj h3;have HG:=Aj hG;have e0:Bk.kC D=if(Sy.dec (D 0)).2≠0 then([],(Sy.dec (D 0)).2)else Bk.MK (Sy.dec (D 0)).1 (D 1) (D 2) (D 3):=rfl;generalize hR:Bk.kC D=R at e0⊢;have HC0:=Aj (EO A0 n0 c0 (D 0) W HD0.1 om);generalize hQ0:Sy.dec (D 0)=Q0 at e0 HC0;have HQ0:=Aj hQ0;have HR:=Aj hR;have HW:=Aj hW.symm;obtain⟨T,eT⟩:=Q0;simp only[]at e0 HC0;clear h0 h1 h2 h3 hG hQ0 hR hW hbW;by_cases hT:eT=0
 ·rw[Ng (by simp[hT])]at e0;subst hT;have e1:Bk.MK T (D 1) (D 2) (D 3)=if(Rc.dec T (D 1)).2≠0 then([],(Rc.dec T (D 1)).2)else Bk.qV T (Rc.dec T (D 1)).1 (D 2) (D 3):=rfl;rw[e1]at e0;clear e1;have HC1:=Aj (fun(TA:Option Addr) (tn tc:Nat) (W1:World) (hT:bM W1 W1.heap.size TA tn tc T) (hb:Below W.heap.size W W1)=>Ig TA A1 tn tc n1 c1 T (D 1) W1 hT ((H1.1.below (Xh.1.aU.trans (hb.mono Xh.1.aU.size))).more (Lt Xh.1.aU.size hb.size)) om);generalize hQ1:Rc.dec T (D 1)=Q1 at e0 HC1;have HQ1:=Aj hQ1;obtain⟨rs,eR⟩:=Q1;simp only[]at e0 HC1;clear hQ1;by_cases hr:eR=0
  ·subst hr;rw[Ng sm]at e0;have HO:=Aj (ab4 (by rw[←H0.1.len];omega) (by rw[←H1.1.len];omega) HQ0.1 HQ1.1);have e1:Bk.qV T rs (D 2) (D 3)=if Bk.used T rs=false then([],15)else if(Bk.kU rs (D 2)).2≠0 then([],(Bk.kU rs (D 2)).2)else Bk.MI T ((rs.map (·.1)).zip (Bk.kU rs (D 2)).1) (D 3):=rfl;rw[e1]at e0;clear e1;cases hu:Bk.used T rs with
   |false=>
    rw[Ps0 hu]at e0;have HE:=Aj e0;have HU:=Aj hu;clear e0 hu;go_enter_defers func35,ntmps35;go_wp2_with first
    |(go_at_call 72;refine(fM 15 Ah _).mono ?_;rintro r w6 ⟨rfl,rfl⟩)
    |(go_at_call 71;refine(NJ TA RA tn tc rn rc T rs _ VP.1 HRd.1 HO.1 HU.1).mono ?_;rintro r w5 ⟨⟨k,rfl⟩,hb3⟩;have HS3:=Aj (HS2.1.on hb3);clear hb3)
    |(go_at_call 69;refine(F7 _ _).mono ?_;rintro r w4 ⟨rfl,rfl⟩)
    |(go_at_call 70;refine(HC1.1 TA tn tc w2 Zq.1 Hb1.1).mono ?_;rintro r w3 ⟨RA,rn,rc,rfl,hRd,hb2⟩;have HS2:=Aj (MQ.1.on hb2);have HRd:=Aj hRd;have Hb2:=Aj hb2;have VP:=Aj ((Zq.1.below hb2).more hb2.size);clear hRd hb2)
    |(go_at_call 67;refine(uI _ _).mono ?_;rintro r w2 ⟨rfl,rfl⟩)
    |(go_at_call 68;rw[HW.1];refine HC0.1.mono ?_;rintro r w1 ⟨TA,tn,tc,rfl,hT,hb1⟩;have Zq:=Aj hT;have MQ:=Aj (Xh.1.on hb1);have Hb1:=Aj hb1;have x1:w1.cell? ⟨w.heap.size,1,none⟩=some (.slice A1 n1 c1):=MQ.1.sec 1 om;clear hT hb1)
    exact HS3.1.door rfl rfl (fun w' hb=>kE.bad HE.1 hb)
   |true=>
    rw[Ng (by rw[hu];simp)]at e0;have HE:=Aj e0;have HU:=Aj hu;have HG':=HG;clear e0 hu;go_enter_defers func35,ntmps35;go_wp2_with first
    |(go_at_call 71;refine(JB TA RA tn tc rn rc T rs _ VP.1 HRd.1 HO.1 HU.1).mono ?_;rintro r w5 ⟨rfl,hb3⟩;have HS3:=Aj (HS2.1.on hb3);have Hb3:=Aj hb3;clear hb3)
    |(go_at_call 69;refine(F7 _ _).mono ?_;rintro r w4 ⟨rfl,rfl⟩)
    |(go_at_call 70;refine(HC1.1 TA tn tc w2 Zq.1 Hb1.1).mono ?_;rintro r w3 ⟨RA,rn,rc,rfl,hRd,hb2⟩;have HS2:=Aj (MQ.1.on hb2);have HRd:=Aj hRd;have Hb2:=Aj hb2;have VP:=Aj ((Zq.1.below hb2).more hb2.size);clear hRd hb2)
    |(go_at_call 67;refine(uI _ _).mono ?_;rintro r w2 ⟨rfl,rfl⟩)
    |(go_at_call 68;rw[HW.1];refine HC0.1.mono ?_;rintro r w1 ⟨TA,tn,tc,rfl,hT,hb1⟩;have Zq:=Aj hT;have MQ:=Aj (Xh.1.on hb1);have Hb1:=Aj hb1;have x1:w1.cell? ⟨w.heap.size,1,none⟩=some (.slice A1 n1 c1):=MQ.1.sec 1 om;clear hT hb1)
    obtain⟨hs,hr1,hr2,hr3⟩:=(HRd.1.below Hb3.1).more Hb3.1.size;have Hr1:=Aj hr1;have ZY:=Aj hr2;have ZZ:=Aj hr3;have hrn:rn=rs.length:=HRd.1.len;have Hrn:=Aj hrn;have hrb:rn≤1000000:=by rw[hrn];exact HO.1.len
    have ala:(rn:Int)≤1000000:=om;clear hr1 hr2 hr3 hrn;go_loopw [6,7,33] (fun l s i wr=>∃k LA lc SA sc,k≤rn∧i= .int .i64 (k:Nat)∧l= .slice LA k lc∧s= .slice SA k sc∧Kept (Lp w5.heap.size wr LA lc SA sc k hs)∧Kept (Below w5.heap.size w5 wr)) (fun _ _ i _=>rn-(intOf i).toNat)
    case atStart=>exact⟨0,none,0,none,0,om,rfl,rfl,rfl,⟨Lp.nil _ _ _⟩,⟨Ae _ _⟩⟩
    case round=>
     obtain⟨k,LA,lc,SA,sc,hk,rfl,rfl,rfl,HLp,VQ⟩:=hrel;by_cases hlt:k<rn
     ·have hkh:k<hs.length:=by rw[ZY.1,←Hrn.1];exact hlt
      have hkr:k<rs.length:=by rw[←Hrn.1];exact hlt
      obtain⟨L1,l1,d1,C1,m1,e1,he,hL,hC⟩:=ZZ.1 k hkh hkr;obtain⟨b,off,rfl,lX,hc⟩:=Hr1.1.2.2.2 om;obtain⟨g1,g2⟩:=fF hs k hkh;rw[he]at g1 g2;have ha0:=(VQ.1.cell (p:=⟨b,off+k*2,none⟩) (by show b<_;exact lX)).trans (hc _ _ g1);have ha1:=(VQ.1.cell (p:=⟨b,off+(k*2+1),none⟩) (by show b<_;exact lX)).trans (hc _ _ g2);rw[←gM]at ha1;have hT1:Kept ((hs.take (k+1)).map (·.1)=(hs.take k).map (·.1)++[.slice L1 l1 d1]):=⟨by rw[Ts hkh,dY,he];rfl⟩
      have wD:Kept ((hs.take (k+1)).map (·.2)=(hs.take k).map (·.2)++[.slice C1 m1 e1]):=⟨by rw[Ts hkh,dY,he];rfl⟩
      clear hc g1 g2 hL hC he hkh hkr;go_wp2_with fail;have hbx:=World.alloc_heap_new wr (.cells #[.slice L1 l1 d1,.slice C1 m1 e1] 146);have O3:=Aj (HLp.1.alloc (.cells #[.slice L1 l1 d1,.slice C1 m1 e1] 146));have acu:=VQ.1.alloc VQ.1.size (.cells #[.slice L1 l1 d1,.slice C1 m1 e1] 146);have B3:=Aj acu;have hs3:Kept (wr.heap.size< (wr.alloc (.cells #[.slice L1 l1 d1,.slice C1 m1 e1] 146)).heap.size):=⟨sm⟩
      have hlA:Kept (∀g,ab LA=some g→w5.heap.size≤g∧g<wr.heap.size):=⟨ae HLp.1.o1⟩
      have hlS:Kept (∀g,ab SA=some g→w5.heap.size≤g∧g<wr.heap.size):=⟨ae HLp.1.o2⟩
      obtain⟨gx,hgx⟩:∃g,g=wr.heap.size:=⟨_,rfl⟩
      rw[←hgx]at hbx hs3 hlA hlS;rw[←hgx];have Hgx:=Aj hgx;clear hgx;generalize wr.alloc (.cells #[.slice L1 l1 d1,.slice C1 m1 e1] 146)=W3 at*;have d0:W3.cell? ⟨gx,0,none⟩=some (.slice L1 l1 d1):=Co _ _ 0 _ _ _ hbx;have d1':W3.cell? ⟨gx,1,none⟩=some (.slice C1 m1 e1):=Co _ _ 1 _ _ _ hbx;have Hbx:=Aj hbx;have f1:∀o,(W3.alloc o).heap[gx]? =some (.cells #[.slice L1 l1 d1,.slice C1 m1 e1] 146 (0,0)):=fun o=>(Aw _ _ _ hs3.1).trans Hbx.1
      have f2:∀o o',((W3.alloc o).alloc o').heap[gx]? =some (.cells #[.slice L1 l1 d1,.slice C1 m1 e1] 146 (0,0)):=fun o o'=>(Aw _ _ _ (by have:=hs3.1;simp;omega)).trans (f1 o)
      have F1:=Aj f1;have F2:=Aj f2;have x0:=fun o=>Co _ _ 0 _ _ _ (F1.1 o)
      have x1':=fun o=>Co _ _ 1 _ _ _ (F1.1 o)
      have y0:=fun o o'=>Co _ _ 0 _ _ _ (F2.1 o o')
      have y1:=fun o o'=>Co _ _ 1 _ _ _ (F2.1 o o')
      have P1:Kept (∀o,(W3.alloc o).heap[W3.heap.size]? =some o):=⟨fun o=>World.alloc_heap_new W3 o⟩
      have P2:Kept (∀o o',((W3.alloc o).alloc o').heap[W3.heap.size]? =some o):=⟨fun o o'=>(Aw _ _ _ sm).trans (World.alloc_heap_new W3 o)⟩
      have P3:Kept (∀o o',((W3.alloc o).alloc o').heap[W3.heap.size+1]? =some o'):=⟨fun o o'=>by have:=World.alloc_heap_new (W3.alloc o) o';simpa using this⟩
      have LH:Kept (w5.heap.size≤W3.heap.size):=⟨B3.1.size⟩
      clear f1 f2 hbx acu;go_region_held3 (fun w'=>w'.cell? ⟨gx,0,none⟩=some (.slice L1 l1 d1)∧w'.cell? ⟨gx,1,none⟩=some (.slice C1 m1 e1)) (first|exact⟨d0,d1'⟩|exact⟨x0 _,x1' _⟩|exact⟨y0 _ _,y1 _ _⟩|exact k9|exact k10 _)
       (first
        |(refine xB ?g1 (.tmp 37) (.tmp 40) 144 62 ?g2 underlying144 YX w5.heap.size LA k lc ((hs.take k).map (·.2)) ?g3 ?g4 (.slice C1 m1 e1) ?g5 rfl ?g7 ?g8 ?_;(case g1=>rfl);(case g2=>rfl);(case g3=>rfl);(case g4=>first|exact(O3.1.alloc _).o1|exact((O3.1.alloc _).alloc _).o1);(case g5=>refine⟨_,rfl,?_⟩;first|exact(P1.1 _)|exact(P2.1 _ _)|exact(P3.1 _ _));(case g7=>omega);(case g8=>(have:=LH.1;simp;omega));intro L4 c4 w6 hown hgrow hat;have hp2:=(by first|exact(O3.1.alloc _).drew.Lr hgrow|exact((O3.1.alloc _).alloc _).drew.Lr hgrow|exact(O3.1.alloc _).Lr hgrow|exact((O3.1.alloc _).alloc _).Lr hgrow:w6.ownsRow w5.heap.size 54 1 (.slice SA k sc) k ((hs.take k).map (·.1)));have Q1:=Aj hown;have Q2:=Aj hp2;have HP:=Aj (fun(p:Nat) (o:Obj) (hp:gx≤p) (h:_=some o)=>(hgrow.block p ((Ge.1 h).1) (fun e=>by have:=(hlA.1 p e.symm).2;omega)).trans h);have hb6:=(by first|exact(B3.1.alloc LH.1 _).drew.grown hgrow (by have:=LH.1;show _≤(World.alloc _ _).heap.size;simp;omega) (fun g e=>(hlA.1 g e).1)|exact((B3.1.alloc LH.1 _).alloc (by have:=LH.1;simp;omega) _).drew.grown hgrow (by have:=LH.1;show _≤(World.alloc _ _).heap.size;simp;omega) (fun g e=>(hlA.1 g e).1)|exact(B3.1.alloc LH.1 _).grown hgrow (by have:=LH.1;show _≤(World.alloc _ _).heap.size;simp;omega) (fun g e=>(hlA.1 g e).1)|exact((B3.1.alloc LH.1 _).alloc (by have:=LH.1;simp;omega) _).grown hgrow (by have:=LH.1;show _≤(World.alloc _ _).heap.size;simp;omega) (fun g e=>(hlA.1 g e).1):Below w5.heap.size w5 w6);have B6:=Aj hb6;have S9:=Aj (HP.1 gx _ Ai (by first|exact F1.1 _|exact F2.1 _ _));have k9:w6.cell? ⟨gx,0,none⟩=some (.slice L1 l1 d1)∧w6.cell? ⟨gx,1,none⟩=some (.slice C1 m1 e1):=⟨Co _ _ 0 _ _ _ S9.1,Co _ _ 1 _ _ _ S9.1⟩;have k10:∀o,(w6.alloc o).cell? ⟨gx,0,none⟩=some (.slice L1 l1 d1)∧(w6.alloc o).cell? ⟨gx,1,none⟩=some (.slice C1 m1 e1):=fun o=>⟨Co _ _ 0 _ _ _ ((Aw _ _ _ ((Ge.1 S9.1).1)).trans S9.1),Co _ _ 1 _ _ _ ((Aw _ _ _ ((Ge.1 S9.1).1)).trans S9.1)⟩;clear hown hp2 hgrow hat hb6)
        |(refine xB ?q1 (.tmp 42) (.tmp 45) 81 54 ?q2 underlying81 I1 w5.heap.size SA k sc ((hs.take k).map (·.1)) ?q3 ?q4 (.slice L1 l1 d1) ?q5 rfl ?q7 ?q8 ?_;(case q1=>rfl);(case q2=>rfl);(case q3=>rfl);(case q4=>first|exact Q2.1|exact Oa Q2.1 _);(case q5=>refine⟨_,rfl,?_⟩;first|exact(World.alloc_heap_new w6 _)|exact(HP.1 _ _ (by have:=hs3.1;omega) (P3.1 _ _))|exact(HP.1 _ _ (by have:=hs3.1;omega) (P2.1 _ _)));(case q7=>omega);(case q8=>(have:=B6.1.size;first|exact this|(simp;omega)));intro S4 e4 w7 hown hgrow hat;have hp1:=(by first|exact Lu (w:=w6.drew) Q1.1 Q2.1 hgrow|exact Lu (w:=(w6.alloc _).drew) (Oa Q1.1 _) (Oa Q2.1 _) hgrow|exact Lu Q1.1 Q2.1 hgrow|exact Lu (Oa Q1.1 _) (Oa Q2.1 _) hgrow:w7.ownsRow w5.heap.size 62 1 (.slice L4 (k+1) c4) (k+1) _);have R1:=Aj hp1;have R2:=Aj hown;have Ma:=(by first|exact B6.1.grown hgrow B6.1.size (fun g e=>(hlS.1 g e).1)|exact B6.1.drew.grown hgrow B6.1.size (fun g e=>(hlS.1 g e).1)|exact(B6.1.alloc B6.1.size _).grown hgrow (by have:=B6.1.size;show _≤(World.alloc _ _).heap.size;simp;omega) (fun g e=>(hlS.1 g e).1)|exact(B6.1.alloc B6.1.size _).drew.grown hgrow (by have:=B6.1.size;show _≤(World.alloc _ _).heap.size;simp;omega) (fun g e=>(hlS.1 g e).1):Below w5.heap.size w5 w7);have B7:=Aj Ma;have HX7:=Aj (show w7.heap[gx]? =some (.cells #[.slice L1 l1 d1,.slice C1 m1 e1] 146 (0,0))from(hgrow.block gx (by have:=(Ge.1 S9.1).1;first|exact this|(show gx< (World.alloc _ _).heap.size;simp;omega)) (fun e=>DU _ (hlS.1 gx e.symm).2)).trans (by first|exact S9.1|exact(Aw _ _ _ ((Ge.1 S9.1).1)).trans S9.1));have k9:w7.cell? ⟨gx,0,none⟩=some (.slice L1 l1 d1)∧w7.cell? ⟨gx,1,none⟩=some (.slice C1 m1 e1):=⟨Co _ _ 0 _ _ _ HX7.1,Co _ _ 1 _ _ _ HX7.1⟩;clear hown hp1 hgrow hat Ma))
      all_goals
       go_wp2;go_roundw
       case rel=>exact⟨k+1,L4,c4,S4,e4,om,by go_num,rfl,rfl,⟨⟨by rw[wD.1];exact R1.1,by rw[hT1.1];exact R2.1⟩⟩,B7⟩
       case measure=>simp[intOf];try omega
     ·obtain rfl:k=rn:=by omega
      clear hlt hk;obtain⟨hI,hL⟩:=HLp.1.ints Hrn.1 ZY.1 ZZ.1 VQ.1 VQ.1.size;rw[HO.1.ofn]at hI;have Zr:=Aj (HS3.1.on VQ.1);have x2:=Zr.1.sec 2 om;have RX:=Aj (Jv LA A2 k lc n2 c2 wr.heap.size (rs.map Bk.ln) (D 2) wr hI ((H2.1.below Zr.1.aU).more Zr.1.aU.size) Ai (by rw[←HO.1.ofn];have:=HO.1.tot;omega) om om (HG.1.below Zr.1.aU));have HLL:=Aj hL;have afZ:=Aj ((VP.1.below (Hb3.1.trans (VQ.1.mono Hb3.1.size))).more (Lt Hb3.1.size VQ.1.size))
      change Kept (Calls _ _ _ _ (YY wr (Bk.kU rs (D 2))))at RX
      have e2:=HE.1;generalize hQ2:Bk.kU rs (D 2)=Q2 at e2 RX;have vZ:=Aj hQ2;obtain⟨ch,eC⟩:=Q2;simp only[]at e2;clear hI hL hQ2 HE;by_cases hc:eC=0
      ·subst hc;rw[Ng sm]at e2;have HE:=Aj e2;have hSA:Kept (∀p,ab SA=some p→p≠w.heap.size+1):=⟨fun p hp=>by have:=(ae HLp.1.o2 p hp).1;have:=HS3.1.Ji;omega⟩
       have Zt:=Sc vZ.1;clear e2;go_wp2_with first
        |(go_at_call 73;refine(RG _ _).mono ?_;rintro r w7 ⟨rfl,rfl⟩)
        |(go_at_call 74;refine RX.1.mono ?_;rintro r w6 ⟨CA,cn,cc,rfl,Zu,hb4,Zv⟩;have HS5:=Aj (Zr.1.on hb4);have acw:=Aj Zu;have Hb4:=Aj hb4;have af1:=Aj Zv;clear Zu hb4 Zv)
       have hCA:Kept (∀p,ab CA=some p→p≠w.heap.size+1):=⟨fun p hp=>by have:=af1.1 p hp;have:=Zr.1.Ji;omega⟩
       obtain⟨vs1,s1,s2,s3⟩:=(HLL.1.below Hb4.1).more Hb4.1.size;obtain⟨vs2,m1,m2,m3⟩:=acw.1;have hcn:cn=ch.length:=acw.1.len;have hck:cn=k:=by rw[hcn,Zt,Hrn.1]
       have Hcn:=Aj hcn;have acx:=Aj Zt;obtain rfl:=hck;have S1:=Aj s1;have S2:=Aj s2;have S3:=Aj s3;have M1:=Aj m1;have M2:=Aj m2;have M3:=Aj m3;have hg5:=Aj HS5.1.out;have hgz:Kept (w.heap.size+1<w7.heap.size):=⟨by have:=HS5.1.Ji;omega⟩
       clear s1 s2 s3 m1 m2 m3 hcn Zt;go_loopw [56] (fun i wr=>∃j BA bc,j≤cn∧i= .int .i64 (j:Nat)∧Kept (L2 w7 wr (w.heap.size+1) BA bc j (vs1.zip vs2))) (fun i _=>cn-(intOf i).toNat)
       case atStart=>exact⟨0,none,0,om,rfl,⟨L2.start hg5.1⟩⟩
       case round=>
        obtain⟨j,BA,bc,hj,rfl,HL2⟩:=hrel;by_cases hlt2:j<cn
        ·have hj1:j<vs1.length:=by rw[S2.1,fu,←Hrn.1];exact hlt2
         have hj2:j<vs2.length:=by rw[M2.1,←Hcn.1];exact hlt2
         have hjr:j< (rs.map (·.1)).length:=by rw[←S2.1];exact hj1
         have hjc:j<ch.length:=by rw[←M2.1];exact hj2
         obtain⟨L1,l1,d1,he1,-⟩:=S3.1 j _ (l8 hjr);obtain⟨C1,m1,e1,he2,-⟩:=M3.1 j _ (l8 hjc);obtain⟨b1,rf,rfl,acy,hc1⟩:=(Rd.off S1.1 Ai hSA.1 HL2.1.gr).2.2.2 om;obtain⟨b2,vD,rfl,ab0,hc2⟩:=(Rd.off M1.1 Ai hCA.1 HL2.1.gr).2.2.2 om;have y1:=hc1 j _ he1;have y2:=hc2 j _ he2;have acz:Kept ((vs1.zip vs2)[j]'(by simp;omega)=(.slice L1 l1 d1,.slice C1 m1 e1)):=⟨by
          rw[DT];obtain⟨_,q1⟩:=kH.1 he1;obtain⟨_,q2⟩:=kH.1 he2;rw[q1,q2]⟩
         have hzl:Kept (j< (vs1.zip vs2).length):=⟨by simp;omega⟩
         have z0:=Co _ _ 0 _ _ _ HL2.1.var;have hgw:Kept (w.heap.size+1<wr.heap.size):=⟨jB hgz.1 HL2.1.gr.size⟩
         have hbw:Kept (b1<wr.heap.size):=⟨jB acy HL2.1.gr.size⟩
         have z1:∀o,(wr.alloc o).cell? ⟨w.heap.size+1,0,none⟩=some (.slice BA j bc):=fun o=>(AJ _ _ ⟨w.heap.size+1,0,none⟩ hgw.1).trans (Co _ _ 0 _ _ _ HL2.1.var)
         have Y1:=Aj y1;have y3:∀o,(wr.alloc o).cell? ⟨b1,rf+j,none⟩=some (.slice L1 l1 d1):=fun o=>(AJ _ _ ⟨b1,rf+j,none⟩ hbw.1).trans Y1.1
         have Y3:=Aj y3;have hsz:Kept (w7.heap.size≤wr.heap.size):=⟨HL2.1.gr.size⟩
         have hjb:Kept (j≤1000000):=⟨om⟩
         have hlB:Kept (∀p,ab BA=some p→w7.heap.size≤p):=⟨fun p hp=>(ae HL2.1.own p hp).1⟩
         have acA:Kept (b1≠w.heap.size+1):=⟨hSA.1 b1 rfl⟩
         have Sm:Kept (b1<w7.heap.size):=⟨acy⟩
         clear hc1 hc2 he1 he2;go_wp2_with fail;refine wp_region_noPanic ?_;refine wp_region_held_drew (S:=fun w'=>w'.cell? ⟨b1,rf+j,none⟩=some (.slice L1 l1 d1)) kr y1 (fun hHeld=>?_);refine wpAnyH_take (i:=1) (oi:=⟨_,_,_,_,_,_⟩) (v:=?_) rfl kr kr kr (fun _ _ _ h=>h) (Or.inl ⟨rfl,?_⟩) (by assumption) ?_
         rotate_left
         ·intro w hSw;(try dsimp only at hSw);go_simp;(try with_reducible rfl)
         try simp only[Act.put,Al,Ap,Ao]
         refine wpAnyH_take (i:=2) (oi:=⟨_,_,_,_,_,_⟩) (v:=?_) rfl kr kr kr (fun _ _ _ h=>h) (Or.inl ⟨rfl,?_⟩) (by assumption) ?_
         rotate_left
         ·intro w hSw;(try dsimp only at hSw);go_simp;(try with_reducible rfl)
         try simp only[Act.put,Al,Ap,Ao]
         refine wpAnyH_take (i:=3) (oi:=⟨_,_,_,_,_,_⟩) (v:=?_) rfl kr kr kr (fun _ _ _ h=>h) (Or.inl ⟨rfl,?_⟩) (by assumption) ?_
         rotate_left
         ·intro w hSw;(try dsimp only at hSw);go_simp;(try with_reducible rfl)
         try simp only[Act.put,Al,Ap,Ao]
         refine wpAnyH_take (i:=4) (oi:=⟨_,_,_,_,_,_⟩) (v:=?_) rfl kr kr kr (fun _ _ _ h=>h) (Or.inl ⟨rfl,?_⟩) (by assumption) ?_
         rotate_left
         ·intro w hSw;(try dsimp only at hSw);go_simp;(try with_reducible rfl)
         try simp only[Act.put,Al,Ap,Ao]
         refine wpAnyH_take (i:=5) (oi:=⟨_,_,_,_,_,_⟩) (v:=?_) rfl kr kr kr (fun _ _ _ h=>h) (Or.inl ⟨rfl,?_⟩) (by assumption) ?_
         rotate_left
         ·intro w hSw;(try dsimp only at hSw);go_simp;(try with_reducible rfl)
         try simp only[Act.put,Al,Ap,Ao]
         refine wpAnyH_take (i:=6) (oi:=⟨_,_,_,_,_,_⟩) (v:=?_) rfl kr kr kr (fun _ _ _ h=>h) (Or.inl ⟨rfl,?_⟩) (by assumption) ?_
         rotate_left
         ·intro w hSw;(try dsimp only at hSw);go_simp;(try with_reducible rfl)
         try simp only[Act.put,Al,Ap,Ao]
         refine wpAnyH_ready (rs:=[0,7]) kr sm ?_;refine AllReadyH.cons (o:=⟨_,_,_,_,_,_⟩) rfl (fun K hK=>?_) (AllReadyH.cons (o:=⟨_,_,_,_,_,_⟩) rfl (fun K hK=>?_) AllReadyH.nil)
         ·go_simp;refine hK.out _ _ y1 (fun hHeld=>?_);clear hK K
          try simp only[Act.put,Al,Ap,Ao]
          refine wpAnyH_ready (rs:=[7]) kr sm ?_;refine AllReadyH.cons (o:=⟨_,_,_,_,_,_⟩) rfl (fun K hK=>?_) AllReadyH.nil;go_simp;refine hK.out _ _ (y3 _) (fun hHeld=>?_);clear hK K
          try simp only[Act.put,Al,Ap,Ao]
          refine wpAnyH_ready (rs:=[8]) kr sm ?_;refine AllReadyH.cons (o:=⟨_,_,_,_,_,_⟩) rfl (fun K hK=>?_) AllReadyH.nil
          (refine xC ?q1 (.tmp 61) (.tmp 68) ?q2 w7.heap.size BA j bc (bS ((vs1.zip vs2).take j)) ?q3 ?q4 (.slice L1 l1 d1) (.slice C1 m1 e1) ?q5 rfl rfl ?q7 ?q8 ?_;(case q1=>rfl);(case q2=>rfl);(case q3=>rfl);(case q4=>exact Oa HL2.1.own _);(case q5=>exact⟨_,rfl,World.alloc_heap_new wr _⟩);(case q7=>exact Lt hjb.1 Ah);(case q8=>(have:=hsz.1;show _≤(World.alloc _ _).heap.size;simp;omega));intro B4 c4 w8 hown hgrow hat;have Lm:=HL2.1.push hgz.1 hzl.1 acz.1 (W:=(wr.alloc (.cells #[.slice L1 l1 d1,.slice C1 m1 e1] 57)).drew) (fun i hi=>Aw wr _ i hi) (by show _≤(World.alloc _ _).heap.size;simp) rfl rfl rfl hgrow hown;have HP:=Aj Lm.1;have v8:=Lm.2.1;have f8:=Lm.2.2;have k9:w8.cell? ⟨b1,rf+j,none⟩=some (.slice L1 l1 d1):=(AL (a:=⟨b1,rf+j,none⟩) (hgrow.block b1 (by have:=hbw.1;show b1< (World.alloc _ _).heap.size;simp;omega) (fun e=>by have:=hlB.1 b1 e.symm;have:=Sm.1;omega))).trans (Y3.1 _);have k10:(w8.setCell ⟨w.heap.size+1,0,none⟩ (.slice B4 (j+1) c4)).cell? ⟨b1,rf+j,none⟩=some (.slice L1 l1 d1):=(Bh _ _ _ _ (by intro h;exact acA.1 (congrArg Addr.block h).symm)).trans k9;clear Lm hown hgrow hat)
          refine hK.out _ _ k9 (fun hHeld=>?_);clear hK K
          try simp only[Act.put,Al,Ap,Ao]
          refine wpAnyH_ready (rs:=[9]) kr sm ?_;refine AllReadyH.cons (o:=⟨_,_,_,_,_,_⟩) rfl (fun K hK=>?_) AllReadyH.nil;go_simp;refine hK.out _ _ k10 (fun hHeld=>?_);clear hK K
          try simp only[Act.put,Al,Ap,Ao]
          refine wpAnyH_done kr ?_ _;refine NoPanic.normal ?_;go_wp2;go_roundw
          case rel=>exact⟨j+1,B4,c4,om,by go_num,HP⟩
          case measure=>simp[intOf];try omega
         ·go_simp;refine hK.out _ _ (y3 _) (fun hHeld=>?_);clear hK K
          try simp only[Act.put,Al,Ap,Ao]
          refine wpAnyH_ready (rs:=[0]) kr sm ?_;refine AllReadyH.cons (o:=⟨_,_,_,_,_,_⟩) rfl (fun K hK=>?_) AllReadyH.nil;go_simp;refine hK.out _ _ (y3 _) (fun hHeld=>?_);clear hK K
          try simp only[Act.put,Al,Ap,Ao]
          refine wpAnyH_ready (rs:=[8]) kr sm ?_;refine AllReadyH.cons (o:=⟨_,_,_,_,_,_⟩) rfl (fun K hK=>?_) AllReadyH.nil
          (refine xC ?r1 (.tmp 61) (.tmp 68) ?r2 w7.heap.size BA j bc (bS ((vs1.zip vs2).take j)) ?r3 ?r4 (.slice L1 l1 d1) (.slice C1 m1 e1) ?r5 rfl rfl ?r7 ?r8 ?_;(case r1=>rfl);(case r2=>rfl);(case r3=>rfl);(case r4=>exact Oa HL2.1.own _);(case r5=>exact⟨_,rfl,World.alloc_heap_new wr _⟩);(case r7=>exact Lt hjb.1 Ah);(case r8=>(have:=hsz.1;show _≤(World.alloc _ _).heap.size;simp;omega));intro B4 c4 w8 hown hgrow hat;have Lm:=HL2.1.push hgz.1 hzl.1 acz.1 (W:=(wr.alloc (.cells #[.slice L1 l1 d1,.slice C1 m1 e1] 57)).drew) (fun i hi=>Aw wr _ i hi) (by show _≤(World.alloc _ _).heap.size;simp) rfl rfl rfl hgrow hown;have HP:=Aj Lm.1;have v8:=Lm.2.1;have f8:=Lm.2.2;have k9:w8.cell? ⟨b1,rf+j,none⟩=some (.slice L1 l1 d1):=(AL (a:=⟨b1,rf+j,none⟩) (hgrow.block b1 (by have:=hbw.1;show b1< (World.alloc _ _).heap.size;simp;omega) (fun e=>by have:=hlB.1 b1 e.symm;have:=Sm.1;omega))).trans (Y3.1 _);have k10:(w8.setCell ⟨w.heap.size+1,0,none⟩ (.slice B4 (j+1) c4)).cell? ⟨b1,rf+j,none⟩=some (.slice L1 l1 d1):=(Bh _ _ _ _ (by intro h;exact acA.1 (congrArg Addr.block h).symm)).trans k9;clear Lm hown hgrow hat)
          refine hK.out _ _ k9 (fun hHeld=>?_);clear hK K
          try simp only[Act.put,Al,Ap,Ao]
          refine wpAnyH_ready (rs:=[9]) kr sm ?_;refine AllReadyH.cons (o:=⟨_,_,_,_,_,_⟩) rfl (fun K hK=>?_) AllReadyH.nil;go_simp;refine hK.out _ _ k10 (fun hHeld=>?_);clear hK K
          try simp only[Act.put,Al,Ap,Ao]
          refine wpAnyH_done kr ?_ _;refine NoPanic.normal ?_;go_wp2;go_roundw
          case rel=>exact⟨j+1,B4,c4,om,by go_num,HP⟩
          case measure=>simp[intOf];try omega
        ·obtain rfl:j=cn:=by omega
         clear hlt2 hj;have LJ:=Aj (HS5.1.upd HL2.1);have l1:=S2.1;have l2:=M2.1;have l3:=acx.1;have l4:=Hcn.1;rw[fu]at l1;have hK:iE wr wr.heap.size BA j bc ((rs.map (·.1)).zip ch):=by
          refine HL2.1.rd (by rw[Dp];omega) (by rw[Dp,Dp,fu];omega) Ai hg5.1 (fun i h h'=>?_);have i1:i<vs1.length:=by rw[Dp]at h;omega
          have i2:i<vs2.length:=by rw[Dp]at h;omega
          have i3:i< (rs.map (·.1)).length:=by rw[fu];omega
          have i4:i<ch.length:=om;obtain⟨L1,l1,d1,he1,hr1⟩:=S3.1 i _ (l8 i3);obtain⟨C1,m1,e1,he2,hr2⟩:=M3.1 i _ (l8 i4);obtain⟨_,q1⟩:=kH.1 he1;obtain⟨_,q2⟩:=kH.1 he2;refine⟨L1,l1,d1,C1,m1,e1,?_,?_,?_⟩
          ·rw[DT,q1,q2]
          ·rw[DT];exact hr1
          ·rw[DT];exact hr2
         have HK:=Aj hK;have hfit:∀s∈(rs.map (·.1)).zip ch,Lb.Fit s.1:=fun s hs=>by
          obtain⟨r,hr,e⟩:=dM.1 (List.of_mem_zip hs).1;rw[←e];exact HO.1.fit r hr
         have HCk:=Aj (mK BA j bc wr.heap.size ((rs.map (·.1)).zip ch) wr hK Ai (Sb HO.1 vZ.1) hfit);have e3:=HE.1;have z0:=Co _ _ 0 _ _ _ HL2.1.var;have hbl:((rs.map (·.1)).zip ch).length=j:=by rw[Dp,fu];omega
         have Hbl:=Aj hbl;clear l1 l2 l3 l4 hK hfit hbl;generalize hbk:(rs.map (·.1)).zip ch=bk at*;have Hbk:=Aj hbk;clear hbk HE;unfold Bk.MI at e3;have HT6:=Aj (HL2.1.strs hg5.1 ((afZ.1.below Hb4.1).more Hb4.1.size));by_cases hcb:Bk.bN bk=0
         ·rw[Ng (by simp[hcb])]at e3;rw[hcb]at HCk;have Hcb:=Aj hcb;have HC6:=Aj (fun(W8:World) (g8:Gr wr W8)=>E9 TA A3 tn tc n3 c3 (j:Int) T (D 3) W8 ((HT6.1.below g8.below).more g8.size) ((H3.1.below (LJ.1.on g8.below).aU).more (LJ.1.on g8.below).aU.size) om om);rw[show(bk.length:Int)=(j:Int)by rw[Hbl.1]]at e3;generalize hQ3:Pe.dec T (j:Int) (D 3)=Q3 at e3 HC6;have Vr:=Aj hQ3;obtain⟨E3,eP⟩:=Q3;simp only[]at e3 HC6;clear hQ3 hcb;by_cases hep:eP=0
          ·subst hep;rw[Ng sm]at e3;have Gg:Bk.sets bk=rs.map (·.1):=by
            rw[←Hbk.1];unfold Bk.sets;exact List.map_fst_zip (by rw[fu,acx.1];exact Nr _)
           have Xi:Kept (Ps.Sets (rs.map (·.1))):=⟨by rw[←Gg];exact Bk.kV Hcb.1 (by rw[Gg];exact HO.1.wt)⟩
           have acD:Kept (jR wr wr.heap.size SA j sc (rs.map (·.1))):=⟨⟨vs1,Rd.more (Rd.off S1.1 Ai hSA.1 HL2.1.gr) HL2.1.gr.size,S2.1,fun i l hl=>by
            obtain⟨A',n',c',e,h⟩:=S3.1 i l hl;exact⟨A',n',c',e,fD.more (Rd.but h Ai hg5.1 (R9 _ _ _ _) HL2.1.gr) HL2.1.gr.size⟩⟩⟩
           have hie:¬Ps.uY (Ps.gB (rs.map (·.1)) 0) E3→Bk.vR bk E3=22:=fun h=>by unfold Bk.vR;rw[Gg,Ng h]
           have Zw:Ps.uY (Ps.gB (rs.map (·.1)) 0) E3→Bk.vR bk E3=0:=fun h=>by unfold Bk.vR;rw[Gg,Ps0 h]
           clear Gg;by_cases hidx:Ps.uY (Ps.gB (rs.map (·.1)) 0) E3
           ·rw[Zw hidx,Ng sm]at e3;have HE:=Aj e3;have HX:=Aj hidx;clear e3 hie Zw hidx;go_wp2_with first
             |(go_at_call 75;refine(mg PA EA pn pc en ec E3 E _ ((HPe.1.below JC.1 Ai).more JC.1.size) HEn.1).mono ?_;rintro r OX ⟨he,qR⟩;rw[Bc (Ps.uY.uniq HX.1 HIx.1)]at he;subst he;have wu:=Aj (HS9.1.on qR.below);have z3:=Co _ _ 0 _ _ _ wu.1.out;have z4:=Co _ _ 0 _ _ _ wu.1.err;have f3:=Fr _ _ 0 _ _ wu.1.out;have f4:=Fr _ _ 0 _ _ wu.1.err;have af6:=Aj qR;clear qR)
             |(go_at_call 37;refine(lK SA j sc (rs.map (·.1)) _ ((acD.1.below (JD.1.below.trans (Xj.1.mono JD.1.size))).more (Lt JD.1.size Xj.1.size)) Xi.1).mono ?_;rintro r OW ⟨EA,en,ec,E,rfl,hIx,hEn,JE⟩;have HIx:=Aj hIx;have HEn:=Aj hEn.rd;have JC:=Aj JE;have HS9:=Aj (HS8.1.on JE);clear hIx hEn JE)
             |(go_at_call 76;refine(F8 _ _).mono ?_;rintro r GN ⟨rfl,rfl⟩)
             |(go_at_call 77;refine(HC6.1 w9 JD.1).mono ?_;rintro r JW ⟨PA,pn,pc,rfl,hPe,zf⟩;have HS8:=Aj (NK.1.on zf);have HPe:=Aj hPe;have Xj:=Aj zf;clear zf hPe)
             |(go_at_call 72;refine(jV _).mono ?_;rintro r w9 ⟨rfl,rfl⟩)
             |(go_at_call 17;refine HCk.1.mono ?_;rintro r w8 ⟨rfl,oD⟩;have NK:=Aj (LJ.1.on oD.below);have z1:=Co _ _ 0 _ _ _ NK.1.out;have z2:=NK.1.sec 3 om;have JD:=Aj oD;clear oD)
            have q1:OX.setCell ⟨w.heap.size+1,0,none⟩ (.slice BA j bc)=OX:=uK wu.1.out;have q2:OX.setCell ⟨w.heap.size+1+1,0,none⟩ (.int .i64 0)=OX:=uK wu.1.err;rw[q1,q2];have hbz:Below wr.heap.size wr OX:=((JD.1.below.trans (Xj.1.mono JD.1.size)).trans (JC.1.mono (Lt JD.1.size Xj.1.size))).trans (af6.1.below.mono (Lt (Lt JD.1.size Xj.1.size) JC.1.size));have hrd:=(HK.1.below hbz).more hbz.size;refine wu.1.home rfl rfl ?_;rw[HE.1];exact⟨BA,j,bc,rfl,hrd,wu.1.aU⟩
           ·rw[hie hidx,Ps0 Ah]at e3;have HE:=Aj e3;have HX:=Aj hidx;clear e3 hie Zw hidx;go_wp2_with first
             |(go_at_call 72;refine(fM 22 Ah _).mono ?_;rintro r w14 ⟨rfl,rfl⟩)
             |(go_at_call 75;refine(mg PA EA pn pc en ec E3 E _ ((HPe.1.below JC.1 Ai).more JC.1.size) HEn.1).mono ?_;rintro r OX ⟨he,qR⟩;rw[Az (fun q=>HX.1 (by rw[q];exact HIx.1))]at he;subst he;have wu:=Aj (HS9.1.on qR.below))
             |(go_at_call 37;refine(lK SA j sc (rs.map (·.1)) _ ((acD.1.below (JD.1.below.trans (Xj.1.mono JD.1.size))).more (Lt JD.1.size Xj.1.size)) Xi.1).mono ?_;rintro r OW ⟨EA,en,ec,E,rfl,hIx,hEn,JE⟩;have HIx:=Aj hIx;have HEn:=Aj hEn.rd;have JC:=Aj JE;have HS9:=Aj (HS8.1.on JE);clear hIx hEn JE)
             |(go_at_call 76;refine(F8 _ _).mono ?_;rintro r GN ⟨rfl,rfl⟩)
             |(go_at_call 77;refine(HC6.1 w9 JD.1).mono ?_;rintro r JW ⟨PA,pn,pc,rfl,hPe,zf⟩;have HS8:=Aj (NK.1.on zf);have HPe:=Aj hPe;have Xj:=Aj zf;clear zf hPe)
             |(go_at_call 72;refine(jV _).mono ?_;rintro r w9 ⟨rfl,rfl⟩)
             |(go_at_call 17;refine HCk.1.mono ?_;rintro r w8 ⟨rfl,oD⟩;have NK:=Aj (LJ.1.on oD.below);have z1:=Co _ _ 0 _ _ _ NK.1.out;have z2:=NK.1.sec 3 om;have JD:=Aj oD;clear oD)
            exact wu.1.door rfl rfl (fun w' hb=>kE.bad HE.1 hb)
          ·rw[Ps0 hep]at e3;have HE:=Aj e3;have HT:=Aj hep;clear e3 hep;go_wp2_with first
            |(go_at_call 76;refine(Jt _ eP HT.1 _).mono ?_;rintro r GN ⟨rfl,rfl⟩)
            |(go_at_call 77;refine(HC6.1 w9 JD.1).mono ?_;rintro r JW ⟨PA,pn,pc,rfl,hPe,zf⟩;have HS8:=Aj (NK.1.on zf);clear zf)
            |(go_at_call 72;refine(jV _).mono ?_;rintro r w9 ⟨rfl,rfl⟩)
            |(go_at_call 17;refine HCk.1.mono ?_;rintro r w8 ⟨rfl,oD⟩;have NK:=Aj (LJ.1.on oD.below);have z1:=Co _ _ 0 _ _ _ NK.1.out;have z2:=NK.1.sec 3 om;have JD:=Aj oD;clear oD)
           exact HS8.1.door rfl rfl (fun w' hb=>kE.bad HE.1 hb)
         ·rw[Ps0 hcb]at e3;have HE:=Aj e3;have HT:=Aj hcb;generalize Bk.bN bk=ek at*;clear e3 hcb;go_wp2_with first
           |(go_at_call 72;refine(fM ek HT.1 _).mono ?_;rintro r w9 ⟨rfl,rfl⟩)
           |(go_at_call 17;refine HCk.1.mono ?_;rintro r w8 ⟨rfl,oD⟩;have NK:=Aj (LJ.1.on oD.below))
          exact NK.1.door rfl rfl (fun w' hb=>kE.bad HE.1 hb)
      ·rw[Ps0 hc]at e2;have HE:=Aj e2;have HT:=Aj hc;clear e2 hc;go_wp2_with first
        |(go_at_call 73;refine(Js _ eC HT.1 _).mono ?_;rintro r w7 ⟨rfl,rfl⟩)
        |(go_at_call 74;refine RX.1.mono ?_;rintro r w6 ⟨CA,cn,cc,rfl,Zu,hb4,Zv⟩;have HS5:=Aj (Zr.1.on hb4))
       exact HS5.1.door rfl rfl (fun w' hb=>kE.bad HE.1 hb)
  ·rw[Ps0 hr]at e0;have HE:=Aj e0;have HT:=Aj hr;clear e0 hr;go_enter_defers func35,ntmps35;go_wp2_with first
    |(go_at_call 69;refine(Jr _ eR HT.1 _).mono ?_;rintro r w3 ⟨rfl,rfl⟩)
    |(go_at_call 70;refine(HC1.1 TA tn tc w2 Zq.1 Hb1.1).mono ?_;rintro r w3 ⟨RA,rn,rc,rfl,hRd,hb2⟩;have HS2:=Aj (MQ.1.on hb2))
    |(go_at_call 67;refine(uI _ _).mono ?_;rintro r w2 ⟨rfl,rfl⟩)
    |(go_at_call 68;rw[HW.1];refine HC0.1.mono ?_;rintro r w1 ⟨TA,tn,tc,rfl,hT,hb1⟩;have Zq:=Aj hT;have MQ:=Aj (Xh.1.on hb1);have Hb1:=Aj hb1;have x1:w1.cell? ⟨w.heap.size,1,none⟩=some (.slice A1 n1 c1):=MQ.1.sec 1 om;clear hT hb1)
   exact HS2.1.door rfl rfl (fun w' hb=>kE.bad HE.1 hb)
 ·rw[Ps0 hT]at e0;have HE:=Aj e0;have HT:=Aj hT;clear e0 hT;go_enter_defers func35,ntmps35;go_wp2_with first
   |(go_at_call 67;refine(Jq _ eT HT.1 _).mono ?_;rintro r w2 ⟨rfl,rfl⟩)
   |(go_at_call 68;rw[HW.1];refine HC0.1.mono ?_;rintro r w1 ⟨TA,tn,tc,rfl,hT,hb1⟩)
  exact(Xh.1.on hb1).door rfl rfl (fun w' hb=>kE.bad HE.1 hb)
theorem kE.after {w w2 w3} {R} {e} (hb:Below w.heap.size w w2) (h:kE w2 R e w3):kE w R e w3:=by
 obtain⟨A,n,c,h1,h2,h3⟩:=h;exact⟨A,n,c,h1,h2,hb.trans (h3.mono hb.size)⟩
def jW (l:List UInt8):Prop:=∀i,i<4→(Ly.gH l i).length≤if i=2 then 10000000 else 1000000
theorem Xk (V) (D) (w) (h:∀i,i<4→∃A n c,V i= .slice A n c∧aN w w.heap.size A n c (D i)∧n≤(if i=2 then 10000000 else 1000000)) (hG:Gl w):
  Calls prog 35 #[.agg (Ly.jd V)] w (kE w (Bk.kC D)):=by
 obtain⟨A0,n0,c0,e0,r0,l0⟩:=h 0 om;obtain⟨A1,n1,c1,e1,r1,l1⟩:=h 1 om;obtain⟨A2,n2,c2,e2,r2,l2⟩:=h 2 om;obtain⟨A3,n3,c3,e3,r3,l3⟩:=h 3 om;unfold Ly.jd;rw[e0,e1,e2,e3];exact Sn A0 A1 A2 A3 n0 n1 n2 n3 c0 c1 c2 c3 D w r0 r1 r2 r3 (by simpa using l0) (by simpa using l1) (by simpa using l2) (by simpa using l3) hG
theorem VR (V) (l) (w w2) (o) (hf:aV w2 w.heap.size V (Ly.gH l)) (hb:Below w.heap.size w w2) (hs:jW l) (hG:Gl w):
  Calls prog 35 #[.agg (Ly.jd V)] (w2.alloc o) (kE w (Bk.kC (Ly.gH l))):=by
 have hbx:=hb.alloc hb.size o;refine(Xk V (Ly.gH l) (w2.alloc o) (fun i hi=>?_) (hG.below hbx)).mono fun e w3 h=>kE.after hbx h
 obtain⟨A,n,c,h1,h2⟩:=hf.below ((Ae _ w2).alloc Ai o) i hi;exact⟨A,n,c,h1,h2.rd,by rw[h2.len];exact hs i hi⟩
theorem oz (A) (n c) (l) (w) (hv:aN w w.heap.size A n c l) (hn:n≤140737488353000) (hs:jW l) (hG:Gl w):
  Calls prog 9 #[.slice A n c] w (kE w (Bk.dec l)):=by
 have LP:=Aj (mD A n c l w hv hn hG.tab);have SA:=Aj (fun V w2 o hf hb=>VR V l w w2 o hf hb hs hG);have hd:Bk.dec l=if Ly.pe l≠0 then([],Ly.pe l)else Bk.kC (Ly.gH l):=rfl;generalize Ly.pe l=f at*;generalize Bk.dec l=R at*;clear hv hG hs;by_cases hf:f=0
 ·subst hf;rw[Ng sm]at hd;subst hd;go_enter func9,ntmps9;go_wp2_with (first
   |(go_at_call 35;refine SC.1.mono ?_;rintro e w3 h3;obtain⟨A9,n9,c9,rfl,h4,h5⟩:=h3;have H4:=Aj h4;have H5:=Aj h5;clear h4 h5)
   |(go_at_call 34;refine LP.1.mono ?_;rintro r w2 ⟨V,rfl,hf,hb⟩;obtain⟨Aa,na,ca,Ab,nb,cb,Ac,nc,cc,Ad,nd,cd,hV⟩:=hf.lit;have SC:=Aj (SA.1 V w2 (.cells (Ly.jd V) 76) hf hb);rw[hV]at SC⊢;clear hf hb hV LP SA))
  go_ret2;exact⟨A9,n9,c9,rfl,H4.1,H5.1⟩
 ·rw[Ps0 hf]at hd;have hf1:(f !=0)=true:=by simpa using hf
  have HD:=Aj hd;clear hd hf SA;go_enter func9,ntmps9;go_wp2_with (go_at_call 34;refine LP.1.mono ?_;rintro r w2 ⟨V,rfl,hf,hb⟩;obtain⟨Aa,na,ca,Ab,nb,cb,Ac,nc,cc,Ad,nd,cd,hV⟩:=hf.lit;rw[hV];have B2:=Aj hb;clear hf hb hV LP);go_ret2;exact kE.bad HD.1 (B2.1.alloc B2.1.size _)
theorem Gh (f) (w):Calls prog 36 #[.iface 25 (.int .i64 f)] w fun e w'=>∃c:Int,e= .returned (.int .i64 c)∧(c≠0∧(f=3→c=1))∧w=w':=by
 have hta:∀W,(Instr.typeAssert (.iface 25 (.int .i64 f)) 50 25 true).run prog W= .ok (.tuple #[.int .i64 f,.bool true]) W:=fun _=>kr
 by_cases h3:f=3
 ·subst h3;go_enter func36,ntmps36;go_wp2;go_ret;exact⟨1,rfl,⟨Ah,fun _=>rfl⟩,rfl⟩
 ·have e3:(f==3)=false:=by simpa using h3
  by_cases h12:f=12
  ·subst h12;go_enter func36,ntmps36;go_wp2;go_ret;exact⟨3,rfl,⟨Ah,fun h=>absurd h Ah⟩,rfl⟩
  ·have e12:(f==12)=false:=by simpa using h12
   have hk:=Aj h3;clear h3 h12;go_enter func36,ntmps36;go_wp2;go_ret;exact⟨2,rfl,⟨Ah,fun h=>absurd h hk.1⟩,rfl⟩
def Zx (w:World) (g:Nat) (a0 a1 a2 a3 a4 a5 a6 a7:Value):World:=(((((((w.setCell ⟨g,0,none⟩ a0).setCell ⟨g,1,none⟩ a1).setCell ⟨g,2,none⟩ a2).setCell ⟨g,3,none⟩ a3).setCell ⟨g,4,none⟩ a4).setCell ⟨g,5,none⟩ a5).setCell ⟨g,6,none⟩ a6).setCell ⟨g,7,none⟩ a7
theorem uM (w) (g) (a0 a1 a2 a3 a4 a5 a6 a7 c0 c1 c2 c3 c4 c5 c6 c7) {t} (h:w.heap[g]? =some (.cells #[c0,c1,c2,c3,c4,c5,c6,c7] t (0,0))):(Zx w g a0 a1 a2 a3 a4 a5 a6 a7).heap[g]? =some (.cells #[a0,a1,a2,a3,a4,a5,a6,a7] t (0,0)):=by
 unfold Zx;have h0:=Ag w g 0 _ t a0 h;rw[Al]at h0;simp only[Ao,Ap]at h0;have h1:=Ag _ g 1 _ t a1 h0;rw[Al]at h1;simp only[Ao,Ap]at h1;have h2:=Ag _ g 2 _ t a2 h1;rw[Al]at h2;simp only[Ao,Ap]at h2;have h3:=Ag _ g 3 _ t a3 h2;rw[Al]at h3;simp only[Ao,Ap]at h3;have h4:=Ag _ g 4 _ t a4 h3;rw[Al]at h4;simp only[Ao,Ap]at h4;have h5:=Ag _ g 5 _ t a5 h4;rw[Al]at h5;simp only[Ao,Ap]at h5;have h6:=Ag _ g 6 _ t a6 h5;rw[Al]at h6;simp only[Ao,Ap]at h6;have h7:=Ag _ g 7 _ t a7 h6;rw[Al]at h7;simp only[Ao,Ap]at h7;exact h7
theorem ni (w:World) (g) (a0 a1 a2 a3 a4 a5 a6 a7):w.grownBy (Zx w g a0 a1 a2 a3 a4 a5 a6 a7) (some g):=
 (((((((ag w ⟨g,0,none⟩ a0).trans (ag _ ⟨g,1,none⟩ a1)).trans (ag _ ⟨g,2,none⟩ a2)).trans (ag _ ⟨g,3,none⟩ a3)).trans (ag _ ⟨g,4,none⟩ a4)).trans (ag _ ⟨g,5,none⟩ a5)).trans (ag _ ⟨g,6,none⟩ a6)).trans (ag _ ⟨g,7,none⟩ a7)
theorem aV.VS {w w'} {base g} {V} {D} {cs} {t} {fr} (h:aV w base V D) (hg:w.grownBy w' (some g)) (hr:w.heap[g]? =some (.cells cs t fr)) (ht:t≠5):aV w' base V D:=fun i hi=>by
 obtain⟨A,n,c,h1,h2⟩:=h i hi;exact⟨A,n,c,h1,af h2 hg (.inr (mV h2 hr ht))⟩
abbrev iV:TypeId:=30
def acG (w:World) (f r:Int) (e:Ending) (w':World):Prop:=
 ∃c z0 z1 z2 z3 s1 s2:Int,e= .returned (.agg #[.int .i64 c,.int .i64 r,.int .i64 z0,.int .i64 z1,.int .i64 z2,.int .i64 z3,.int .i64 s1,.int .i64 s2])∧(c=0↔r=0)∧(f=3→c=1)∧Below w.heap.size w w'
def Zy (w:World) (l:List UInt8) (e:Ending) (w':World):Prop:=acG w (Ly.pe l) (Bk.dec l).2 e w'
theorem xF (A) (n c) (l) (w) (hv:aN w w.heap.size A n c l) (hn:n≤140737488353000) (hG:Gl w) (hf0:Ly.pe l≠0):
  Calls prog 10 #[.slice A n c] w (acG w (Ly.pe l) (Ly.pe l)):=by
 obtain⟨W0,hW0⟩:∃W0,W0=w.alloc (.cells #[.int .i64 0,.int .i64 0,.int .i64 0,.int .i64 0,.int .i64 0,.int .i64 0,.int .i64 0,.int .i64 0] iV):=⟨_,rfl⟩
 have hb0:Below w.heap.size w W0:=by rw[hW0];exact(Ae _ w).alloc Ai _
 have hz0:W0.heap.size=w.heap.size+1:=by rw[hW0];simp
 have hg0:W0.heap[w.heap.size]? =some (.cells #[.int .i64 0,.int .i64 0,.int .i64 0,.int .i64 0,.int .i64 0,.int .i64 0,.int .i64 0,.int .i64 0] iV (0,0)):=by rw[hW0];exact Av w _
 have HW0:=Aj hW0.symm;have LP:=Aj (mD A n c l W0 ((hv.below hb0).more om) hn (hG.below hb0).tab);have B0:=Aj hb0;have G0:=Aj hg0;have Z0:=Aj hz0;have HG:=Aj hG;obtain⟨f,hf⟩:∃f,f=Ly.pe l:=⟨_,rfl⟩
 rw[←hf]at LP hf0⊢;clear hf hv hG hW0 hb0 hz0 hg0;have hf1:(f !=0)=true:=by simpa using hf0
 have SV:=Aj hf0;have CL:=Aj (fun W=>Gh f W);clear hf0;go_enter func10,ntmps10;go_upto_region 1 with fail;rw[HW0.1];go_upto_region 3 with(go_at_call 34;refine LP.1.mono ?_;rintro r w2 ⟨V,rfl,hf,hb⟩;obtain⟨Aa,na,ca,Ab,nb,cb,Ac,nc,cc,Ad,nd,cd,hV⟩:=hf.lit;rw[hV];have B2:=Aj hb;clear hf hb hV LP)
 have hb3:Below w.heap.size w (w2.alloc (.cells #[.slice Aa na ca,.slice Ab nb cb,.slice Ac nc cc,.slice Ad nd cd] 76)):=B0.1.trans ((B2.1.alloc B2.1.size _).mono (by have:=Z0.1;omega));have hr3:(w2.alloc (.cells #[.slice Aa na ca,.slice Ab nb cb,.slice Ac nc cc,.slice Ad nd cd] 76)).heap[w.heap.size]? =some (.cells #[.int .i64 0,.int .i64 0,.int .i64 0,.int .i64 0,.int .i64 0,.int .i64 0,.int .i64 0,.int .i64 0] iV (0,0)):=((B2.1.alloc B2.1.size _).block _ (by have:=Z0.1;omega)).trans G0.1;generalize w2.alloc (.cells #[.slice Aa na ca,.slice Ab nb cb,.slice Ac nc cc,.slice Ad nd cd] 76)=W3 at*;have fz:=fun k=>Fr W3 w.heap.size k _ _ hr3
 have y0:=Co W3 w.heap.size 0 _ _ _ hr3;have y1:=Co W3 w.heap.size 1 _ _ _ hr3;have y2:=Co W3 w.heap.size 2 _ _ _ hr3;have y3:=Co W3 w.heap.size 3 _ _ _ hr3;have y4:=Co W3 w.heap.size 4 _ _ _ hr3;have y5:=Co W3 w.heap.size 5 _ _ _ hr3;have y6:=Co W3 w.heap.size 6 _ _ _ hr3;have y7:=Co W3 w.heap.size 7 _ _ _ hr3;simp at y0 y1 y2 y3 y4 y5 y6 y7;have B3:=Aj hb3;have R3:=Aj hr3;clear hb3 hr3 B2;go_wp2_with (go_at_call 36;refine(CL.1 _).mono ?_;rintro e w4 ⟨c4,rfl,hc4,rfl⟩;have RX:=Aj hc4;clear hc4);refine AQ (v:= .agg #[.int .i64 c4,.int .i64 f,.int .i64 0,.int .i64 0,.int .i64 0,.int .i64 0,.int .i64 0,.int .i64 0]) ?_ rfl ⟨c4,_,_,_,_,_,_,rfl,⟨fun h=>absurd h RX.1.1,fun h=>absurd h SV.1⟩,RX.1.2,?_⟩
 ·exact aP (fn:=Tryz.f10) (a:=2) (T1:=30) rfl _ _ w.heap.size _ _ _ _ rfl (uM _ w.heap.size _ _ _ _ _ _ _ _ _ _ _ _ _ _ _ _ R3.1) underlying30 rfl kr
 ·exact B3.1.grown (ni _ w.heap.size _ _ _ _ _ _ _ _) B3.1.size (fun r e=>by cases e;exact Nr _)
end Go.Proofs.YtjcpmfphnodaaaaGreatDoor
