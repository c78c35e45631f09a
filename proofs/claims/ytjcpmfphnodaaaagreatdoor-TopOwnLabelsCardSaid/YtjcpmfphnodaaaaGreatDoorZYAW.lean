/- Part 23. -/
import Derived.Test.YtjcpmfphnodaaaaGreatDoorZYAV
namespace Go.Proofs.YtjcpmfphnodaaaaGreatDoor
set_option maxRecDepth 100000
set_option maxHeartbeats 0
open _root_.Go.Proofs.Tryz
open Go.RowKit Go.Shelf
section
open Go.Sort
theorem Sv.re {w wr b o d0 d d1} (h:Sv w b o d0 d wr) (e:d=d1):Sv w b o d0 d1 wr:=e▸h
theorem NG:∀(N b o c x y lim n:Nat) (d) (w),y-x<N→d.size=n→Holds eU w b o d→b<w.heap.size→x≤y→y≤n→n<4611686018427387904→lim<4611686018427387904→Sort.Below ltInt x y d→
  Calls prog 296 #[.slice (some ⟨b,o,none⟩) n c,.int .i64 x,.int .i64 y,.int .i64 lim] w fun e w'=>e= .returned (.tuple #[])∧Sv w b o d (Sort.pdq ltInt d x y lim true true) w':=by
 intro N
 induction N with
 |zero=>intro _ _ _ _ _ _ _ _ _ h;exact absurd h (Nat.not_lt_zero _)
 |succ N ih=>
  intro b o c x0 y0 Zy n d w hN hn hH hw afw hy0 hsz ah4 hB0;subst hn;have IH:=Aj ih;have S0:=Aj (Sv.refl hH hw);clear ih hH;obtain⟨P,hP⟩:∃P,Sort.pdq ltInt d x0 y0 Zy true true=P:=⟨_,rfl⟩
  rw[hP];have HP0:=Aj hP;clear hP;go_enter func296,ntmps296;go_wp2;go_loopw [1,2,3,8,9] (fun v1 v2 v3 v8 v9 wr=>∃(x y lim:Nat) (wb wp:Bool) (dk:Array Int),v1= .int .i64 (x:Int)∧v2= .int .i64 (y:Int)∧v3= .int .i64 (lim:Int)∧v8= .bool wb∧v9= .bool wp∧x≤y∧y≤d.size∧y-x≤y0-x0∧lim≤Zy∧Sort.Below ltInt x y dk∧Sv w b o d dk wr∧Kept (Sort.pdq ltInt dk x y lim wb wp=P)) (fun v1 v2 _ _ _ _=>(intOf v2-intOf v1).toNat)
  case atStart=>exact⟨x0,y0,Zy,true,true,d,rfl,rfl,rfl,rfl,rfl,afw,hy0,Nr _,Nr _,hB0,S0.1,HP0⟩
  case round=>
   clear S0 HP0 hB0;obtain⟨x,y,lim,wb,wp,dk,rfl,rfl,rfl,rfl,rfl,hxy,hy,hkN,hlim,hBel,hs,HO⟩:=hrel;have HS:=Aj hs;have hsz2:=hs.sz;by_cases h12:y-x≤12
   ·have h12z:(y:Int)-(x:Int)≤12:=by omega
    have hc:=Aj (qZ b o c x y dk wr hs.holds.1 hs.holds.2 hxy om om);rw[hsz2]at hc;have hp:=Aj (show P=Sort.insertionSort ltInt dk x y by rw[←HO.1,pdq_small h12]);clear hs hBel hsz2;go_wp2_with (go_at_call 301;refine hc.1.mono ?_;rintro e w1 ⟨rfl,h1⟩;have H1:=Aj h1;clear h1)
    (try simp only[Exit.inBlock,Exit.then]);refine Bh (CJ rfl _ _ _) rfl ?_
    exact⟨rfl,(HS.1.step H1.1).re hp.1.symm⟩
   ·have h12z:¬((y:Int)-(x:Int)≤12):=by omega
    by_cases hl0:lim=0
    ·subst hl0;have hc:=Aj (JC b o c x y dk wr hs.holds.1 hs.holds.2 hxy om om);rw[hsz2]at hc;have hp:=Aj (show P=Sort.heapSort ltInt dk x y by rw[←HO.1,pdq_heap h12 rfl]);clear hs hBel hsz2;go_wp2_with (go_at_call 302;refine hc.1.mono ?_;rintro e w1 ⟨rfl,h1⟩;have H1:=Aj h1;clear h1)
     (try simp only[Exit.inBlock,Exit.then]);refine Bh (CJ rfl _ _ _) rfl ?_
     exact⟨rfl,(HS.1.step H1.1).re hp.1.symm⟩
    ·have hl0z:¬((lim:Int)=0):=by omega
     obtain⟨s1,B1,hc1,s2,B2,hpv,s3,B3⟩:=rd_facts (limit:=lim) (wb:=wb) (wp:=wp) swo_ltInt partialInsertionSort_holds reverseRange_holds (show x<y from om) (show y≤dk.size from om) hBel;have hrl:=rd_lim_le (lt:=ltInt) (d:=dk) (a:=x) (b:=y) (limit:=lim) (wb:=wb) (wp:=wp);have acj:=Aj (pdq_done (lt:=ltInt) (d:=dk) (wb:=wb) (wp:=wp) h12 hl0);have HEq:=Aj (pdq_eq (lt:=ltInt) (d:=dk) (wb:=wb) (wp:=wp) h12 hl0);have ack:=Aj (pdq_left (lt:=ltInt) (d:=dk) (wb:=wb) (wp:=wp) h12 hl0);have Zz:=Aj (pdq_right (lt:=ltInt) (d:=dk) (wb:=wb) (wp:=wp) h12 hl0);have RC:=Aj (rd_c (lt:=ltInt) (d:=dk) (a:=x) (b:=y) (limit:=lim) (wb:=wb) (wp:=wp));have RD:=Aj (rd_dec (lt:=ltInt) (d:=dk) (a:=x) (b:=y) (limit:=lim) (wb:=wb) (wp:=wp));have RN:=Aj (rd_not (lt:=ltInt) (d:=dk) (a:=x) (b:=y) (limit:=lim) (wb:=wb) (wp:=wp));have RY:=Aj (rd_pi_yes (lt:=ltInt) (d:=dk) (a:=x) (b:=y) (limit:=lim) (wb:=wb) (wp:=wp));have RO:=Aj (rd_pi_no (lt:=ltInt) (d:=dk) (a:=x) (b:=y) (limit:=lim) (wb:=wb) (wp:=wp));have R1:(wb=false→(rd ltInt dk x y lim wb wp).d1=Sort.breakPatterns dk x y∧(rd ltInt dk x y lim wb wp).lim=lim-1)∧(wb=true→(rd ltInt dk x y lim wb wp).d1=dk∧(rd ltInt dk x y lim wb wp).lim=lim):=⟨fun h=>by subst h;exact rd_false,fun h=>by subst h;exact rd_true⟩
     generalize rd ltInt dk x y lim wb wp=R at*;have hz1:R.d1.size=d.size:=s1.trans hsz2;have hz2:R.d2.size=d.size:=s2.trans hsz2;have hz3:R.pi.1.size=d.size:=s3.trans hsz2;have HR1:=Aj R1;have ZA:=Aj B1;have Ud:=Aj B2;have KB3:=Aj B3;clear R1 B1 B2 B3 s1 s2 s3 hBel hs;go_upto_if 35 with fail;go_cut [3]from 19 (fun v wc=>v= .int .i64 (R.lim:Int)∧Sv w b o d R.d1 wc)
     case first=>
      cases wb
      ·have hc:=Aj (rf b o c x y d.size dk wr hsz2 HS.1.holds.1 HS.1.holds.2 hxy om hsz);have hr:=Aj (HR1.1.1 rfl);go_wp2_with (go_at_call 303;refine hc.1.mono ?_;rintro e w1 ⟨rfl,h1⟩;have H1:=Aj h1;clear h1);go_meet
       case rel=>exact⟨by rw[hr.1.2];congr 1;omega,(HS.1.step H1.1).re hr.1.1.symm⟩
      ·have hr:=Aj (HR1.1.2 rfl);go_wp2_with fail;go_meet
       case rel=>exact⟨by rw[hr.1.2],HS.1.re hr.1.1.symm⟩
     case rest=>
      obtain⟨rfl,hs⟩:=hcut;clear HS;have HS:=Aj hs;have hc:=Aj (vY b o c x y d.size R.d1 wc hz1 hs.holds.1 hs.holds.2 om hy hsz);rw[←RC.1]at hc;clear hs;go_upto_if 50 with(go_at_call 304;refine hc.1.mono ?_;rintro e w1 ⟨rfl,h1⟩;have H1:=Aj (HS.1.step h1);clear h1)
      clear HS hc;go_cut [11,12]from 19 (fun v11 v12 wc=>v11= .int .i64 (R.pivot:Int)∧v12= .int .i64 (hintCode R.hint)∧Sv w b o d R.d2 wc)
      case first=>
       by_cases hh:R.c.2= .decreasing
       ·have hcode:hintCode R.c.2=2:=by rw[hh];rfl
        have hr:=Aj (RD.1 hh);have hc:=Aj (uz b o c x y R.d1 w1 H1.1.holds.1 H1.1.holds.2 hxy om om);rw[hz1]at hc;go_wp2_with (go_at_call 305;refine hc.1.mono ?_;rintro e w2 ⟨rfl,h2⟩;have H2:=Aj (H1.1.step h2);clear h2);go_meet
        case rel=>exact⟨by rw[hr.1.2.1];congr 1;omega,by rw[hr.1.2.2];rfl,H2.1.re hr.1.1.symm⟩
       ·have hcode:¬hintCode R.c.2=2:=fun h=>hh (hintCode_two h)
        have hr:=Aj (RN.1 hh);go_wp2_with fail;go_meet
        case rel=>exact⟨by rw[hr.1.2.1],by rw[hr.1.2.2],H1.1.re hr.1.1.symm⟩
      case rest=>
       obtain⟨rfl,rfl,hs⟩:=hcut;clear H1;have HS:=Aj hs;clear hs;go_upto_region 15 with fail;go_cut [12,68]from 19 (fun v12 v68 wx=>v12= .int .i64 (hintCode R.hint)∧v68= .bool (wb&&wp&&decide (R.hint= .increasing))∧wx=wc)
       case first=>
        cases wb<;>cases wp<;>cases hh3:R.hint<;>
         (have hcode3:=congrArg hintCode hh3
          simp only[hintCode]at hcode3;go_wp2_with fail;go_meet;exact⟨by simp[hh3,hintCode],by simp[hh3,hintCode],rfl⟩)
       case rest=>
        obtain⟨rfl,rfl,rfl⟩:=hcut;go_upto_if 68 with fail;go_cut []from 19 (fun wx=>R.pi.2=false∧Sv w b o d R.pi.1 wx)
        case first=>
         cases h68:(wb&&wp&&decide (R.hint= .increasing))
         ·have epi:=Aj (RO.1 h68);go_wp2_with fail;go_meet
          case rel=>exact⟨by rw[epi.1],HS.1.re (by rw[epi.1])⟩
         ·have epi:=RY.1 h68;have hc:=zo b o c x y d.size R.d2 wc hz2 HS.1.holds.1 HS.1.holds.2 om hy hsz;rw[←epi]at hc;obtain⟨q,hq⟩:∃q,R.pi.2=q:=⟨_,rfl⟩
          rw[hq]at hc;have HC:=Aj hc;have HQ:=Aj hq;clear hc epi hq;cases q
          ·go_wp2_with (go_at_call 306;refine HC.1.mono ?_;rintro e w4 ⟨rfl,h4⟩;have H4:=Aj (HS.1.step h4);clear h4);go_meet
           case rel=>exact⟨HQ.1,H4.1⟩
          ·have hp:=Aj (show P=R.pi.1 by rw[←HO.1,acj.1 HQ.1]);go_wp2_with (go_at_call 306;refine HC.1.mono ?_;rintro e w4 ⟨rfl,h4⟩;have H4:=Aj (HS.1.step h4);clear h4)
           (try simp only[Exit.inBlock,Exit.then]);refine Bh (CJ rfl _ _ _) rfl ?_
           exact⟨rfl,H4.1.re hp.1.symm⟩
        case rest=>
         obtain⟨hp2,hs⟩:=hcut;clear HS;have HP2:=Aj hp2;have HS:=Aj hs;clear hp2;have hf:=hs.iI;obtain⟨G,hG⟩:∃G:Nat→Int,∀t,G t=R.pi.1[t]!:=⟨fun t=>R.pi.1[t]!,fun _=>rfl⟩
         have hc:∀t,t<d.size→wc.cell? ⟨b,o+t,none⟩=some (.int .u64 (G t)):=fun t ht=>by rw[hG];exact hs.cell t ht
         have HG:=Aj hG;clear hs hG;go_upto_region 17 with fail;go_cut [87]from 19 (fun v wx=>v= .bool (decide (x>0)&&!ltInt (G (x-1)) (G R.pivot))∧Sv w b o d R.pi.1 wx)
         case first=>
          rcases l5 x with hx0|hx0
          ·have hx1:decide ((x:Int)>0)=false:=AF om;go_quiet (first|(go_at_call 283;refine Ay (aD _ _ _)));go_wp2_with fail;go_meet
           case rel=>exact⟨by simp[hx0],HS.1.drewN _⟩
          ·have hx1:(x:Int)>0:=by omega
           go_quiet (first|(go_at_call 283;refine Ay (aD _ _ _)));go_wp2_with fail;go_meet
           case rel=>exact⟨by simp[hx0],HS.1.drewN _⟩
         case rest=>
          obtain⟨rfl,hs⟩:=hcut;clear HS hc hf;have HS:=Aj hs;cases h87:(decide (x>0)&&!ltInt (G (x-1)) (G R.pivot))
          ·have NH:(decide (x>0)&&!ltInt R.pi.1[x-1]! R.pi.1[R.pivot]!)=false:=by rw[←HG.1,←HG.1];exact h87
           obtain⟨T,hT⟩:∃T,Sort.partition ltInt R.pi.1 x y R.pivot=T:=⟨_,rfl⟩
           have hc:=Gc b o c x y R.pivot d.size R.pi.1 wc hz3 hs.holds.1 hs.holds.2 hpv.1 hpv.2 hy hsz;obtain⟨r1,r2,r3,r4,r5,r6,r7⟩:=round_part swo_ltInt (partition_holds ltInt) hpv.1 hpv.2 (show y≤R.pi.1.size from om) KB3.1 (mid:=T.1) (ap:=T.2.1) (d4:=T.2.2) hT;have HL:=ack.1 HP2.1 NH;have HRt:=Zz.1 HP2.1 NH;rw[hT]at hc HL HRt;obtain⟨mid,ap,d4⟩:=T;simp only[]at hc r1 r2 r3 r4 r5 r6 r7 HL HRt;have HC:=Aj hc;have HL:=Aj (HL ⟨r1,r2⟩);have HRt:=Aj (HRt ⟨r1,r2⟩);have hz4:d4.size=d.size:=r3.trans hz3;have K6:=Aj r6;have K7:=Aj r7;have K4:=Aj r4;have K5:=Aj r5;clear hc hs hT r4 r5 r6 r7;go_upto_if 113 with(go_at_call 308;refine HC.1.mono ?_;rintro e w7 ⟨rfl,h7⟩;have H7:=Aj (HS.1.step h7);clear h7)
           by_cases h4:mid-x<y-mid
           ·have h4z:(mid:Int)-(x:Int)< (y:Int)-(mid:Int):=by omega
            have hih:=Aj (IH.1 b o c x mid R.lim d.size d4 w7 om hz4 H7.1.holds.1 H7.1.holds.2 r1 om hsz om K4.1);obtain⟨pL,sL⟩:=pdq_sorts ltInt swo_ltInt d4 x mid R.lim true true r1 om K4.1;have hB:=Aj (K6.1 _ pL sL).1;have hO2:=Aj (HL.1 h4);have he:=Aj (eighth r1 (show x≤y from hxy) (p:=mid));clear pL sL;go_wp2_with (go_at_call 296;refine hih.1.mono ?_;rintro e w8 ⟨rfl,h8⟩;have H8:=Aj (H7.1.step h8);clear h8);go_roundw
            case rel=>exact⟨mid+1,y,R.lim,decide (mid-x≥(y-x)/8),ap,_,by go_num,rfl,rfl,congrArg Value.bool he.1,rfl,om,hy,om,om,hB.1,H8.1,⟨by rw[←HO.1,hO2.1]⟩⟩
            case measure=>simp[intOf];omega
           ·have h4z:¬((mid:Int)-(x:Int)< (y:Int)-(mid:Int)):=by omega
            have hih:=Aj (IH.1 b o c (mid+1) y R.lim d.size d4 w7 om hz4 H7.1.holds.1 H7.1.holds.2 om hy hsz om K5.1);rw[show((mid+1:Nat):Int)=(mid:Int)+1 from om]at hih;obtain⟨pL,sL⟩:=pdq_sorts ltInt swo_ltInt d4 (mid+1) y R.lim true true om om K5.1;have hB:=Aj (K7.1 _ pL sL).1;have hO2:=Aj (HRt.1 h4);have he:=Aj (eighth (show mid≤y from om) (show x≤y from hxy) (p:=y) (q:=mid));clear pL sL;go_wp2_with (go_at_call 296;refine hih.1.mono ?_;rintro e w8 ⟨rfl,h8⟩;have H8:=Aj (H7.1.step h8);clear h8);go_roundw
            case rel=>exact⟨x,mid,R.lim,decide (y-mid≥(y-x)/8),ap,_,rfl,rfl,rfl,congrArg Value.bool he.1,rfl,r1,om,om,om,hB.1,H8.1,⟨by rw[←HO.1,hO2.1]⟩⟩
            case measure=>simp[intOf];omega
          ·have NH:(decide (x>0)&&!ltInt R.pi.1[x-1]! R.pi.1[R.pivot]!)=true:=by rw[←HG.1,←HG.1];exact h87
           have VX:=NH;simp only[CV,Cg,Bool.not_eq_true']at VX;obtain⟨T,hT⟩:∃T,Sort.partitionEqual ltInt R.pi.1 x y R.pivot=T:=⟨_,rfl⟩
           have hc:=pX b o c x y R.pivot d.size R.pi.1 wc hz3 hs.holds.1 hs.holds.2 hpv.1 hpv.2 hy hsz;obtain⟨r1,r2,r3,r4,_⟩:=round_eq swo_ltInt (partitionEqual_holds ltInt) VX.1 hpv.1 hpv.2 (show y≤R.pi.1.size from om) KB3.1 VX.2 (mid:=T.1) (d4:=T.2) hT;have HE:=HEq.1 HP2.1 NH;rw[hT]at hc HE;obtain⟨mid,d4⟩:=T;simp only[]at hc r1 r2 r3 r4 HE;have HC:=Aj hc;have HE:=Aj (HE ⟨r1,r2⟩);have K4:=Aj r4;clear hc hs hT r4 NH VX;go_wp2_with (go_at_call 307;refine HC.1.mono ?_;rintro e w7 ⟨rfl,h7⟩;have H7:=Aj (HS.1.step h7);clear h7);go_roundw
           case rel=>exact⟨mid,y,R.lim,wb,wp,d4,rfl,rfl,rfl,rfl,rfl,r2,hy,om,om,K4.1,H7.1,⟨by rw[←HO.1,HE.1]⟩⟩
           case measure=>simp[intOf];omega
theorem ZB (b o c n d w) (hn:d.size=n) (hH:Holds eU w b o d) (hw:b<w.heap.size) (hsz:n<4611686018427387904):
  Calls prog 282 #[.slice (some ⟨b,o,none⟩) n c] w fun e w'=>e= .returned (.tuple #[])∧Sv w b o d (Sort.sort ltInt d) w':=by
 subst hn;have PD:=Aj (NG (d.size+1) b o c 0 d.size (bitsLen d.size) d.size d w om rfl hH hw (bE _) Ai hsz (El ((bitsLen_le_iff d.size 62).2 om) Ah) (.inl rfl));have BL:=Aj (fun w=>RS d.size om w);clear hH;go_enter func282,ntmps282;go_wp2_with (first
  |(go_at_call 296;refine PD.1.mono ?_;rintro e w1 ⟨rfl,h1⟩;have H1:=Aj h1;clear h1)
  |(go_at_call 185;refine(BL.1 _).mono ?_;rintro e w1 ⟨rfl,rfl⟩))
 go_end0;exact⟨rfl,H1.1⟩
end
section
open Go.Sort
def ia (l:List Nat):Array Int:=(l.map Int.ofNat).toArray
theorem lW (l):(ia l).size=l.length:=by simp[ia]
theorem RZ (l) {j} (hj:j<l.length):(ia l)[j]! =((l[j]:Nat):Int):=by
 rw[getElem!_pos _ j (by rw[lW];exact hj)];simp[ia]
theorem aI.holds {w base g n c l} (h:aI w base (some ⟨g,0,none⟩) n c l):Holds eU w g 0 (ia l):=fun j hj=>by
 rw[lW]at hj;obtain⟨h1,h2⟩:=h.at_ hj;rw[RZ l hj,bZ];exact⟨h1,h2⟩
theorem Sv.grown {w wr b o d0 d} (h:Sv w b o d0 d wr):w.grownBy wr (some b):=by
 obtain⟨n,os,rfl⟩:=h.at_;refine⟨rfl,rfl,rfl,sm,fun k hk hne=>?_⟩;rw[heap_grow_old _ _ (by simpa using hk)];have:¬b=k:=fun e=>hne (by rw[e])
 simp[putRow,mapBlock,DI,this]
theorem aI.acn {w wr base g n c l l'} (h:aI w base (some ⟨g,0,none⟩) n c l) (hs:Sv w g 0 (ia l) (ia l') wr):aI wr base (some ⟨g,0,none⟩) n c l':=by
 have hlen:l'.length=l.length:=by have:=hs.sz;rwa[lW,lW]at this
 obtain⟨hx,hrest⟩:=h;refine⟨by rw[jJ]at hx⊢;omega,?_⟩;rcases hrest with⟨h1,_⟩|⟨g2,cap,cur,hv,hb,hg,hn,hc,hz,ht⟩
 ·cases h1
 ·injection hv with hv1 hv2 hv3
  injection hv1 with hv1
  injection hv1 with hv1
  subst hv1;subst hv3;obtain⟨m,os,rfl⟩:=hs.at_;rw[C8]at hx hz ht;rw[jJ]at hx;refine .inr ⟨g,c,putCells eU 0 (ia l') cur,rfl,hb,?_,hn,hc,by simp[putCells,hz],?_⟩
  ·rw[heap_grow_old _ _ (by simpa using hs.lt)];show((putRow eU (Sort.ahead w m) g 0 (ia l')).heap[g]?)=_;simp[putRow,mapBlock,DI,hg,onCells]
  ·apply List.ext_getElem?;intro k;rw[C8,List.getElem?_take];by_cases hk:k<n
   ·rw[Ps0 hk];have hk2:k<l'.length:=om;have hcz:k<cur.size:=om;have e:(vo l')[k]? =some (.int .u64 ((l'[k]:Nat):Int)):=by unfold vo;rw[BQ,kK hk2];rfl
    rw[e,DL,putCells,Array.getElem?_mapIdx,DR hcz];simp only[BZ,bE,true_and,bZ,Nat.sub_zero];rw[Ps0 (by rw[lW];exact hk2),RZ l' hk2]
   ·rw[Ng hk];exact(BM (by rw[jJ];omega)).symm
theorem VY (l):∃l',Sort.sort ltInt (ia l)=ia l'∧l'.Perm l∧l'.Pairwise (· ≤ ·):=by
 have h:=sortInt (l.map Int.ofNat);have hp:(List.mergeSort (l.map Int.ofNat) (fun x y=>decide (x≤y))).Perm (l.map Int.ofNat):=List.mergeSort_perm _ _;have hs:(List.mergeSort (l.map Int.ofNat) (fun x y=>decide (x≤y))).Pairwise (fun x y=>x≤y):=by
  have:=List.pairwise_mergeSort (le:=fun x y:Int=>decide (x≤y)) (fun a b c h1 h2=>by simp at*;omega) (fun a b=>by simp;omega) (l.map Int.ofNat);simpa using this
 generalize List.mergeSort (l.map Int.ofNat) (fun x y=>decide (x≤y))=q at*;have hq:q=(q.map Int.toNat).map Int.ofNat:=by
  have:∀z∈q,Int.ofNat z.toNat=z:=fun z hz=>by
   obtain⟨k,_,rfl⟩:=bQ.1 (hp.mem_iff.1 hz)
   rfl
  rw[BV];exact(List.map_id q).symm.trans (Dy fun z hz=>(this z hz).symm)
 refine⟨q.map Int.toNat,?_,?_,?_⟩
 ·apply Array.toList_inj.1;unfold ia;rw[←hq];exact h
 ·have:=hp.map Int.toNat;rw[BV]at this;have e:l.map (Int.toNat∘Int.ofNat)=l:=by
   conv=>rhs;rw[←List.map_id l]
   exact Dy fun z _=>rfl
  rwa[e]at this
 ·exact List.Pairwise.map Int.toNat (fun a b (hab:a≤b)=>Int.toNat_le_toNat hab) hs
theorem NI (base g n c l w) (h:aI w base (some ⟨g,0,none⟩) n c l) (hn:n<4611686018427387904):
  Calls prog 282 #[.slice (some ⟨g,0,none⟩) n c] w fun e w'=>e= .returned (.tuple #[])∧∃l',l'.Perm l∧l'.Pairwise (· ≤ ·)∧aI w' base (some ⟨g,0,none⟩) n c l'∧w.grownBy w' (some g):=by
 have hlen:=h.len;have hg:g<w.heap.size:=(ae h g rfl).2;refine(ZB g 0 c n (ia l) w (by rw[lW];exact hlen.symm) h.holds hg hn).mono ?_;rintro e w' ⟨rfl,hs⟩;obtain⟨l',he,hp,hu⟩:=VY l;rw[he]at hs;exact⟨rfl,l',hp,hu,h.acn hs,hs.grown⟩
end
theorem wh (w):Calls prog 190 #[] w fun e w'=>e= .returned (.pointer (some ⟨w.heap.size,0,none⟩))∧fC w' w.heap.size w.heap.size []∧Below w.heap.size w w':=by
 go_enter func190,ntmps190;go_wp2;go_ret;exact⟨rfl,⟨none,0,0,[],Av w _,⟨rfl,.inl ⟨rfl,rfl⟩⟩,Bt.Wr.nil,Nr _⟩,(Ae _ w).alloc Ai _⟩
theorem JE (base p bs w) (h:fC w base p bs) (hl:bs.length≤1000000000):
  Calls prog 193 #[.pointer (some ⟨p,0,none⟩)] w fun e w'=>∃A n c,e= .returned (.slice A n c)∧ah w' w.heap.size A n c (Ck.pk bs)∧Below w.heap.size w w':=by
 obtain⟨A,n,c,L,h1,ho,hw,hp⟩:=h;have c0:w.cell? ⟨p,0,none⟩=some (.slice A n c):=Co _ _ 0 _ _ _ h1;obtain rfl:=hw.inj (Ck.KJ bs);have hn:n≤1000000000:=by have h1:=ho.len;have h2:=hw.len;omega
 have R:=Aj ho.rd;clear ho h1;go_enter func193,ntmps193;go_wp2_with (go_at_call 164;refine(fI A n c w.heap.size _ w R.1 Ai om).mono ?_;rintro e w1 ⟨A1,c1,rfl,ho,hb⟩);go_ret;exact⟨A1,n,c1,rfl,ho,hb⟩
def Br (w:World) (p:Nat) (r:List Bool):Prop:=
 ∃A n c L at_,w.heap[p]? =some (.cells #[.slice A n c,.int .i64 ((at_:Nat):Int)] 329 (0,0))∧aZ w p A n c L∧n≤100000000∧at_≤8*n∧r=(Bt.bits L).drop at_
theorem Br.lt {w p r} (h:Br w p r):p<w.heap.size:=by
 obtain⟨A,n,c,L,at_,h1,-⟩:=h;exact(Ge.1 h1).1
theorem Br.below {w w' p B r} (h:Br w p r) (hb:Below B w w') (hB:p<B):Br w' p r:=by
 obtain⟨A,n,c,L,at_,h1,h2,h3,h4,h5⟩:=h;exact⟨A,n,c,L,at_,(hb.block p hB).trans h1,aZ.below h2 (hb.mono om),h3,h4,h5⟩
theorem Br.drewN {w p r} (h:Br w p r) (k):Br (w.drewN k) p r:=h
theorem Br.parts {w p r} (h:Br w p r):∃A n c L at_,w.cell? ⟨p,0,none⟩=some (.slice A n c)∧w.cell? ⟨p,1,none⟩=some (.int .i64 ((at_:Nat):Int))∧w.frozen? ⟨p,1,none⟩=false∧
  aZ w p A n c L∧n≤100000000∧r.length=8*n-at_∧at_≤8*n∧(∀(k) (hk:k<r.length),r[k]=Bt.bit L (at_+k))∧
  ∀k,k≤r.length→Br (w.setCell ⟨p,1,none⟩ (.int .i64 ((at_+k:Nat):Int))) p (r.drop k):=by
 obtain⟨A,n,c,L,at_,h1,h2,h3,h4,rfl⟩:=h;have hn:=h2.len;have hl:((Bt.bits L).drop at_).length=8*n-at_:=by rw[lZ,Bt.iw,hn]
 refine⟨A,n,c,L,at_,Co _ _ 0 _ _ _ h1,Co _ _ 1 _ _ _ h1,Fr _ _ 1 _ _ h1,h2,h3,hl,h4,fun k hk=>?_,fun k hk=>?_⟩
 ·rw[DZ,Bt.jv]
 ·rw[hl]at hk;exact⟨A,n,c,L,at_+k,by rw[Ag w p 1 _ _ _ h1];rfl,h2.setCell (p:=⟨p,1,none⟩) Ai _,h3,om,by rw[List.drop_drop]⟩
theorem Gd (A n c B L w) (hv:aZ w B A n c L) (hB:B≤w.heap.size) (hn:n≤100000000):
  Calls prog 177 #[.slice A n c] w fun r w'=>∃p,r= .returned (.pointer (some ⟨p,0,none⟩))∧w.heap.size≤p∧Br w' p (Bt.bits L)∧Below w.heap.size w w':=by
 have Hv:=Aj hv;have hlc:=hv.1;clear hv;go_enter func177,ntmps177;go_wp2_with (go_at_call 164;refine(fI _ _ _ B L _ Hv.1 hB om).mono ?_;rintro e w1 ⟨A1,c1,rfl,ho,hb⟩);go_ret;have hz:=hb.size;exact⟨w1.heap.size,rfl,hz,⟨A1,n,c1,L,0,Av w1 _,ho.rd.alloc Ai _,hn,bE _,rfl⟩,hb.alloc hz _⟩
theorem xA (p r w) (h:Br w p r):
  Calls prog 224 #[.pointer (some ⟨p,0,none⟩)] w fun e w'=>e= .returned (.int .i64 (r.length:Int))∧∃q,w'=w.drewN q:=by
 obtain⟨A,n,c,L,at_,c0,c1,f1,h2,h3,hl,h4,hb,hm⟩:=h.parts;have hl':Kept ((r.length:Int)=8*(n:Int)-(at_:Int)):=⟨om⟩
 have h4':(at_:Int)≤8*(n:Int):=om;have h3':(n:Int)≤100000000:=om;rw[hl'.1];clear h h2 hl hb hm h4 h3;go_enter func224,ntmps224;go_wp2;go_quiet (fail);go_wp2;go_ret;exact⟨rfl,_,rfl⟩
theorem VZ (c:UInt8) (j):bits .and .u64 ((c.toNat:Int)/2^j) 1=(((c.toNat.testBit j).toNat:Nat):Int):=by
 have hc:=c.toNat_lt;have e1:(c.toNat:Int)/2^j=((c.toNat/2^j:Nat):Int):=sm;have hd:c.toNat/2^j<256:=El (Nat.div_le_self _ _) hc;rw[e1,DD];generalize c.toNat/2^j=q at*;rw[and_one_u64 _ om om];rcases Dh q with h|h
 ·simp[h];omega
 ·simp[h];omega
theorem LQ (p at_ A n c L w) (c0:w.cell? ⟨p,0,none⟩=some (.slice A n c)) (h2:aZ w p A n c L) (h3:n≤100000000) (h4:at_<8*n):
  Calls prog 225 #[.pointer (some ⟨p,0,none⟩),.int .i64 (at_:Int)] w fun e w'=>e= .returned (.int .u64 (((Bt.bit L at_).toNat:Nat):Int))∧w=w':=by
 have hn:=h2.len;have hlt:at_/8<L.length:=om;obtain⟨b,off,rfl,hb,hc⟩:=h2.at_ hlt;have hB:Kept (Bt.bit L at_=L[at_/8].toNat.testBit (7-at_%8)):=⟨by unfold Bt.bit;rw[jw,kK hlt];rfl⟩
 have hS:=Aj (VZ L[at_/8] (7-at_%8));have hch:=L[at_/8].toNat_lt;rw[hB.1];obtain⟨ch,aco⟩:∃ch,ch=L[at_/8]:=⟨_,rfl⟩
 rw[←aco]at hc hS hch⊢;have hi1:(at_:Int)/8< (n:Int):=om;have hi0:(0:Int)≤(at_:Int)/8:=om;have hi2:((at_:Int)/8).toNat=at_/8:=om;have w6:(7-(at_:Int)%8).toNat=7-at_%8:=om;have w7:¬7-(at_:Int)%8<0:=om;have hw:Kept (IntKind.u64.wrap ((ch.toNat:Int)/2^ (7-at_%8))=(ch.toNat:Int)/2^ (7-at_%8)):=⟨by
  have e1:(ch.toNat:Int)/2^ (7-at_%8)=((ch.toNat/2^ (7-at_%8):Nat):Int):=sm;have:=Nat.div_le_self ch.toNat (2^ (7-at_%8));rw[e1,Bv];generalize ch.toNat/2^ (7-at_%8)=q at*;omega⟩
 clear hB h2 hlt aco hn;go_enter func225,ntmps225;go_wp2;go_ret;exact⟨by show Ending.returned (.int .u64 (bits .and .u64 (IntKind.u64.wrap ((ch.toNat:Int)/2^ (7-at_%8))) 1))=_;rw[hw.1,hS.1],rfl⟩
theorem R8 (l b) (h:l.length<64):
  bits .or .u64 (IntKind.u64.wrap ((Bt.oC l:Int)*2)) ((b.toNat:Nat):Int)=((Bt.oC (l++[b]):Nat):Int):=by
 have h1:=Bt.yu l;have h2:2^l.length≤2^63:=kP Ah om;have hb:b.toNat≤1:=by cases b<;>simp
 have e1:IntKind.u64.wrap ((Bt.oC l:Int)*2)=((2*Bt.oC l:Nat):Int):=by
  rw[Bv];omega
 rw[e1,bits_or_u64_nat _ _ om om,Bt.Qk]
 congr 1
 have h3:=Nat.shiftLeft_add_eq_or_of_lt (i:=1) (b:=b.toNat) om (Bt.oC l);rw[Cc,Ej]at h3;exact h3.symm
theorem dG (p n:Nat) (r w) (h:Br w p r) (hn:n≤64):
  Calls prog 213 #[.pointer (some ⟨p,0,none⟩),.int .i64 (n:Int)] w fun e w'=>e= .returned (.tuple #[.int .u64 ((Tm.rd n r).1:Int),.int .i64 (Tm.rd n r).2.2])∧Br w' p (Tm.rd n r).2.1∧w.grownBy w' (some p):=by
 have H:=Aj h;have LF:=Aj (xA p r w h);clear h;have hn0:¬(n:Int)<0:=om;have hn1:¬(64:Int)< (n:Int):=om;by_cases hlt:r.length<n
 ·have hr:Tm.rd n r=(0,r,3):=by unfold Tm.rd;rw[Ps0 hlt]
  rw[hr];have hlt':(r.length:Int)< (n:Int):=om;clear hr hlt;go_enter func213,ntmps213;go_wp2_with (go_at_call 224;refine LF.1.mono ?_;rintro e w1 ⟨rfl,q,rfl⟩);go_ret2;exact⟨rfl,H.1.drewN q,rfl,rfl,rfl,Nr _,fun _ _ _=>rfl⟩
 ·have hr:Tm.rd n r=(Bt.oC (r.take n),r.drop n,0):=by unfold Tm.rd;rw[Ng hlt]
  rw[hr];have akC:¬(r.length:Int)< (n:Int):=om;clear hr;go_enter func213,ntmps213;go_wp2_with (go_at_call 224;refine LF.1.mono ?_;rintro e w1 ⟨rfl,q,rfl⟩);go_loopw [6,23] (fun x i wr=>∃k:Nat,k≤n∧i= .int .i64 k∧x= .int .u64 ((Bt.oC (r.take k):Nat):Int)∧Br wr p (r.drop k)∧w.grownBy wr (some p)) (fun _ i _=>n-(intOf i).toNat)
  case atStart=>exact⟨0,om,rfl,rfl,H.1.drewN q,rfl,rfl,rfl,Nr _,fun _ _ _=>rfl⟩
  case round=>
   obtain⟨k,hk,rfl,rfl,hB,hG⟩:=hrel;by_cases hkn:k<n
   ·have hkn':(k:Int)< (n:Int):=by omega
    obtain⟨A,m,c,L,at_,c0,c1,f1,h2,h3,hl,h4,hb,hm⟩:=hB.parts;rw[lZ]at hl;have BT:=Aj (fun j:Nat=>LQ p at_ A m c L (wr.drewN j) c0 (h2.drewN j) h3 om);have HM:=Aj (hm 1 (by rw[lZ];omega));have hb0:=hb 0 (by rw[lZ];omega);have aci:(at_:Int)≤800000000:=om;have HG:=Aj hG;have U:=Aj (R8 (r.take k) (Bt.bit L at_) (by rw[oF];omega));have HU:Kept (r.take k++[Bt.bit L at_]=r.take (k+1)):=⟨by
     rw[DZ]at hb0;have hb1:r[k]=Bt.bit L at_:=hb0;rw[Ts om,hb1]⟩
    rw[HU.1]at U;clear hB hb hm hb0 h2 hl h4 h3 hG;obtain⟨x,hx⟩:∃x,x=Bt.oC (r.take k):=⟨_,rfl⟩
    rw[←hx]at U⊢;clear hx;go_wp2;go_quiet ((go_at_call 225;exact(BT.1 _).mono fun _ _ q=>⟨q.1,_,q.2.symm⟩));go_wp2;go_roundw
    case rel=>
     rw[List.drop_drop]at HM;exact⟨k+1,om,by go_num,by rw[U.1],HM.1,HG.1.trans (((⟨rfl,rfl,rfl,Nr _,fun _ _ _=>rfl⟩:wr.grownBy (wr.drewN nq) (some p))).trans (au _ ⟨p,1,none⟩ _))⟩
    case measure=>simp[intOf];omega
   ·obtain rfl:k=n:=by omega
    have HG:=Aj hG;have HB:=Aj hB;clear hG hB;go_wp2;go_ret2;exact⟨rfl,HB.1,HG.1⟩
theorem jE (w:World) (a b):(w.drewN a).drewN b=w.drewN (a+b):=by
 unfold World.drewN;simp[fE]
theorem Gf (p r w) (h:Br w p r):
  Calls prog 180 #[.pointer (some ⟨p,0,none⟩)] w fun e w'=>e= .returned (.int .i64 (Ck.fin r))∧∃q,w'=w.drewN q:=by
 have H:=Aj h;have LF:=Aj (xA p r w h);by_cases h8:8≤r.length
 ·have hf:Ck.fin r=4:=by unfold Ck.fin;rw[Ps0 (.inl h8)]
  rw[hf];have h8':(8:Int)≤(r.length:Int):=om;clear h hf;go_enter func180,ntmps180;go_wp2_with (go_at_call 224;refine LF.1.mono ?_;rintro e w1 ⟨rfl,q,rfl⟩);go_ret;exact⟨rfl,_,rfl⟩
 ·have akD:(r.length:Int)<8:=by omega
  obtain⟨A,m,c,L,at_,c0,c1,f1,h2,h3,hl,h4,hb,hm⟩:=h.parts;have BT:=Aj (fun(j k:Nat) (hk:k<r.length)=>LQ p (at_+k) A m c L (w.drewN j) c0 (h2.drewN j) h3 om);have HB:=Aj hb;have aci:(at_:Int)≤800000000:=om;have HL:=Aj hl;clear h hb hm h2 h4 h3 hl;go_enter func180,ntmps180;go_wp2_with (go_at_call 224;refine LF.1.mono ?_;rintro e w1 ⟨rfl,q,rfl⟩);go_loopw [12] (fun i wr=>∃k q:Nat,k≤r.length∧i= .int .i64 k∧wr=w.drewN q∧Kept (∀(j:Nat) (hj:j<r.length),j<k→r[j]=false)) (fun i _=>r.length-(intOf i).toNat)
  case atStart=>exact⟨0,q,om,rfl,rfl,⟨fun j _ h=>om⟩⟩
  case round=>
   obtain⟨k,q2,hk,rfl,rfl,hz⟩:=hrel;by_cases hkn:k<r.length
   ·have hkn':(k:Int)< (r.length:Int):=by omega
    have BK:=Aj (fun j:Nat=>BT.1 j k hkn);have hbk:Kept (r[k]=Bt.bit L (at_+k)):=⟨HB.1 k hkn⟩
    have eak:((at_+k:Nat):Int)=(at_:Int)+(k:Int):=om;rw[eak]at BK;cases hbit:Bt.bit L (at_+k)with
    |true=>
     rw[hbit]at BK hbk;have hf:Kept (Ck.fin r=4):=⟨by unfold Ck.fin;rw[Ps0 (.inr (by rw[←hbk.1];exact gP hkn))]⟩
     simp only[Bool.toNat_true]at BK;go_wp2;go_quiet ((go_at_call 225;exact(BK.1 _).mono fun _ _ q=>⟨q.1,_,q.2.symm⟩));go_wp2;go_ret;exact⟨by rw[hf.1];rfl,_,by first|rfl|exact jE _ _ _⟩
    |false=>
     rw[hbit]at BK hbk;simp only[Bool.toNat_false]at BK;have hz':Kept (∀(j:Nat) (hj:j<r.length),j<k+1→r[j]=false):=⟨fun j hj hjk=>by
      rcases Nat.lt_or_eq_of_le (Nat.le_of_lt_succ hjk)with h|h
      ·exact hz.1 j hj h
      ·subst h;exact hbk.1⟩
     clear hz hbk;go_wp2;go_quiet ((go_at_call 225;exact(BK.1 _).mono fun _ _ q=>⟨q.1,_,q.2.symm⟩));go_wp2;go_roundw
     case rel=>exact⟨k+1,_,om,by go_num,by first|rfl|exact jE _ _ _,hz'⟩
     case measure=>simp[intOf];omega
   ·obtain rfl:k=r.length:=by omega
    have hf:Kept (Ck.fin r=0):=⟨by
     unfold Ck.fin;rw[Ng];rintro(h|h)
     ·omega
     ·obtain⟨j,hj,hj2⟩:=jK.1 h;rw[hz.1 j hj hj]at hj2;cases hj2⟩
    clear hz;go_wp2;go_ret;exact⟨by rw[hf.1];rfl,_,rfl⟩
def Tm.cells:List Value:=[.int .u64 0,.int .i64 1,.int .i64 0,.int .u64 2,.int .i64 2,.int .i64 7,.int .u64 6,.int .i64 3,.int .i64 12,.int .u64 14,.int .i64 4,.int .i64 32,.int .u64 15,.int .i64 4,.int .i64 64]
def pY (w:World):Prop:=∀(i:Nat) (v:Value),Tm.cells[i]? =some v→w.cell? ⟨0,i,none⟩=some v
theorem pY.lt {w} (h:pY w):0<w.heap.size:=Bc w _ (h 0 _ rfl)
theorem pY.below {w w'} (h:pY w) (hb:Below w.heap.size w w'):pY w':=fun i v hi=>(hb.cell (p:=⟨_,i,none⟩) h.lt).trans (h i v hi)
theorem pY.gr {w w'} (h:pY w) (hg:Gr w w'):pY w':=fun i v hi=>(hg.cell _ i h.lt).trans (h i v hi)
theorem Tm.ex7 (x:Nat):wrap64 (IntKind.u64.wrap ((x:Int)*144115188075855872))/144115188075855872=Tm.ex x 7:=by
 rw[Bv];unfold Tm.ex wrap64;rw[Ng Ah];split<;>omega
theorem Tm.afy (x:Nat):wrap64 (IntKind.u64.wrap ((x:Int)*4503599627370496))/4503599627370496=Tm.ex x 12:=by
 rw[Bv];unfold Tm.ex wrap64;rw[Ng Ah];split<;>omega
theorem Tm.afz (x:Nat):wrap64 (IntKind.u64.wrap ((x:Int)*4294967296))/4294967296=Tm.ex x 32:=by
 rw[Bv];unfold Tm.ex wrap64;rw[Ng Ah];split<;>omega
theorem Tm.afA (x:Nat):wrap64 (IntKind.u64.wrap (x:Int))=Tm.ex x 64:=by
 rw[Bv];unfold Tm.ex wrap64;rw[Ng Ah];split<;>omega
theorem Tm.NJ {x} (hx:Tm.In x) {i} (hi:i≤4):Tm.ex (Tm.wd x) (Tm.fw i)=x↔Tm.fm x≤i:=by
 unfold Tm.In at hx;rcases(by omega:i=0∨i=1∨i=2∨i=3∨i=4)with rfl|rfl|rfl|rfl|rfl
 ·simp only[Tm.fw];unfold Tm.ex Tm.fm;rw[Ps0 rfl];split<;>(try split)<;>(try split)<;>(try split)<;>omega
 all_goals
  simp only[Tm.fw];unfold Tm.ex Tm.fm Tm.wd;rw[Ng Ah];split<;>split<;>(try split)<;>(try split)<;>(try split)<;>omega
theorem Tm.zq (x):IntKind.u64.wrap x=(Tm.wd x:Int):=by
 rw[Bv];unfold Tm.wd;omega
theorem uG (x i:Nat) (w) (hx:x<18446744073709551616) (hi:i≤4):
  Calls prog 252 #[.int .u64 (x:Int),.int .i64 ((Tm.fw i:Nat):Int)] w fun e w'=>e= .returned (.int .i64 (Tm.ex x (Tm.fw i)))∧w=w':=by
 have Hx:=Aj hx;clear hx;rcases(by omega:i=0∨i=1∨i=2∨i=3∨i=4)with rfl|rfl|rfl|rfl|rfl
 ·go_enter func252,ntmps252;simp only[Tm.fw];go_wp2;go_ret;exact⟨rfl,rfl⟩
 all_goals
  go_enter func252,ntmps252;simp only[Tm.fw];go_wp2;go_ret
  first|exact⟨by rw[←Tm.ex7];rfl,rfl⟩|exact⟨by rw[←Tm.afy];rfl,rfl⟩|exact⟨by rw[←Tm.afz];rfl,rfl⟩|exact⟨by rw[←Tm.afA];rfl,rfl⟩
theorem Tm.idx (k:Nat) (hk:k<5) (w):(Instr.index 356 (.agg Tm.cells.toArray) (.int .i64 (k:Int))).run prog w= .ok (.agg #[.int .u64 ((Tm.fb k:Nat):Int),.int .i64 ((Tm.fl k:Nat):Int),.int .i64 ((Tm.fw k:Nat):Int)]) w:=by
 rcases(by omega:k=0∨k=1∨k=2∨k=3∨k=4)with rfl|rfl|rfl|rfl|rfl
 all_goals kernel_rfl
theorem uH (x w) (hx:Tm.In x) (hF:pY w):
  Calls prog 242 #[.int .i64 x] w fun e w'=>e= .returned (.int .i64 ((Tm.fm x:Nat):Int))∧Gr w w':=by
 have h0:=hF 0 _ rfl;have h1:=hF 1 _ rfl;have h2:=hF 2 _ rfl;have h3:=hF 3 _ rfl;have h4:=hF 4 _ rfl;have h5:=hF 5 _ rfl;have h6:=hF 6 _ rfl;have h7:=hF 7 _ rfl;have h8:=hF 8 _ rfl;have h9:=hF 9 _ rfl;have h10:=hF 10 _ rfl;have h11:=hF 11 _ rfl;have h12:=hF 12 _ rfl;have h13:=hF 13 _ rfl;have h14:=hF 14 _ rfl;have hwd:=Tm.zq x;have hwl:=Tm.KE x;have HFI:=Aj (fun i (hi:i≤4)=>Tm.NJ hx (i:=i) hi);have HLE:=Aj (Tm.EW x);clear hx;go_enter func242,ntmps242;go_wp2;clear h0 h1 h2 h3 h4 h5 h6 h7 h8 h9 h10 h11 h12 h13 h14;go_loopw [6] (fun i wr=>∃k:Nat,k≤4∧i= .int .i64 k∧Kept (k≤Tm.fm x)∧Gr w wr) (fun i _=>5-(intOf i).toNat)
 case atStart=>exact⟨0,om,rfl,⟨om⟩,Gr.refl w⟩
 case round=>
  obtain⟨k,hk,rfl,hj,hG⟩:=hrel;have hk5:(k:Int)<5:=om;have hix:=fun w=>Tm.idx k om w
  simp only[Tm.cells]at hix;have EX:=Aj (fun w=>uG (Tm.wd x) k w hwl hk);have HG:=Aj hG;clear hG;by_cases he:Tm.ex (Tm.wd x) (Tm.fw k)=x
  ·have hfm:Kept (Tm.fm x=k):=⟨by have:=(HFI.1 k hk).1 he;have:=hj.1;omega⟩
   have HE:=Aj he;clear he;go_wp2_with (go_at_call 252;refine(EX.1 _).mono ?_;rintro e w1 ⟨rfl,hw⟩;obtain rfl:=hw;rw[HE.1]);go_ret;exact⟨by rw[hfm.1];rfl,HG.1.alloc _⟩
  ·have hfm:Kept (k<Tm.fm x):=⟨by have h1:=(HFI.1 k hk).2;have:=hj.1;rcases Nat.lt_or_eq_of_le hj.1 with h|h;exact h;exact absurd (h1 om) he⟩
   have hk4:=hfm.1;have hle:=HLE.1;have HE:=Aj he;obtain⟨y,hy⟩:∃y,y=Tm.ex (Tm.wd x) (Tm.fw k):=⟨_,rfl⟩
   rw[←hy]at HE;have HY:=Aj hy;have hyx:(y==x)=false:=by have:=HE.1;simpa using this
   clear he hy;go_wp2_with (go_at_call 252;refine(EX.1 _).mono ?_;rintro e w1 ⟨rfl,hw⟩;obtain rfl:=hw;rw[←HY.1]);go_roundw
   case rel=>exact⟨k+1,om,by go_num,⟨hk4⟩,HG.1.alloc _⟩
   case measure=>simp[intOf];omega
section
attribute [local go_sem] Oper.semAt_some
theorem Tm.zt (x):wrap64 x=Tm.sw x:=by unfold wrap64 Tm.sw;omega
def Tm.uI:List Int→List Int
 |[]=>[]
 |t::l=>Tm.yx t 0 l
theorem Tm.R9:∀(l) (t d),∀x∈Tm.yx t d l,Tm.In x
 |[],_,_,x,h=>by simp[Tm.yx]at h
 |u::l,t,d,x,h=>by
  rw[Tm.yx]at h;rcases dV.1 h with rfl|h
  ·exact Tm.qC _
  ·exact Tm.R9 l _ _ x h
theorem Tm.V3 (l):∀x∈Tm.uI l,Tm.In x:=by
 cases l with
 |nil=>simp[Tm.uI]
 |cons t l=>exact Tm.R9 l t 0
def V7 (x:Int):Array Value:= #[.int .i64 x]
theorem uJ (n bx B N m c A l w X) (hw:Boxed w bx 281 (.slice A m c)) (hr:vK w B A m c l) (hN:N≤w.heap.size)
  (hX:∀pre W,¬X pre W):
  rC n prog 270 #[.pointer (some ⟨bx,0,none⟩)] V7 (fun _=>False) (zP B bx) (Tm.uI l) w X:=by
 intro lp J Jx W hK hJ hJx Po aU h0;have hW:Boxed W bx 281 (.slice A m c):=hK.2.trans hw;have hR:vK W B A m c l:=hr.below hK.1;have Xx:N≤W.heap.size:=Lt hN hK.1.size;have bJ:=Aj aU;have HX:Kept (∀pre W,¬Jx pre W):=⟨fun pre W h=>hX pre W (Po pre W h)⟩
 have hln:=Aj hr.len;have hc1:=hr.1;have hc2:=hr.2.1;unfold maxLen at hc2;have HJ:=Aj hJ;clear hw hK hN aU hJ hX Po hr hJx;refine Bj.2 ?_;go_enter func270,ntmps270;go_wp2;go_loopw [3,4] (fun d i wr=>∃(pre:List Int) (k:Nat) (dd:Int),i= .int .i64 k∧d= .int .i64 dd∧Boxed wr bx 281 (.slice A m c)∧vK wr B A m c l∧N≤wr.heap.size∧1≤k∧(k≤m∨k=1)∧
  Kept (Tm.uI l=pre++Tm.yx (l.getD (k-1) 0) dd (l.drop k))∧Kept (J pre wr)) (fun _ i _=>m+1-(intOf i).toNat)
 case atStart=>
  refine⟨[],1,0,rfl,rfl,hW,hR,Xx,om,.inr rfl,⟨?_⟩,⟨h0⟩⟩;cases l with
  |nil=>rfl
  |cons t l=>rfl
 case round=>
  clear hW hR h0 Xx;obtain⟨pre,k,dd,rfl,rfl,hb,hr,hNr,hk1,hk,hm1,hj⟩:=hrel;have hc:=hb.cell;have Hb:=Aj hb;have Hr:=Aj hr;clear hb hr;by_cases hlt:k<m
  ·have hlt':(k:Int)< (m:Int):=by omega
   have hkl:k<l.length:=by have:=hln.1;omega
   obtain⟨b,off,rfl,jT,hck⟩:=Hr.1.at_ hkl;obtain⟨b',off',e,_,acp⟩:=Hr.1.at_ (k:=k-1) om;simp only[gK,Ce,BI]at e;obtain⟨rfl,rfl⟩:=e;have i1:(0:Int)≤(k:Int)-1:=om;have i2:((k:Int)-1).toNat=k-1:=om;have i3:(k:Int)-1< (m:Int):=om;obtain⟨u,hu⟩:∃u,u=l[k]:=⟨_,rfl⟩
   obtain⟨t,ht⟩:∃t,t=l[k-1]:=⟨_,rfl⟩
   have hm2:Kept (Tm.uI l=pre++[Tm.sw (Tm.sw (u-t)-dd)]++Tm.yx (l.getD (k+1-1) 0) (Tm.sw (u-t)) (l.drop (k+1))):=⟨by
    rw[hm1.1,oJ hkl,Tm.yx];have e1:l.getD (k-1) 0=t:=by rw[ht,jw,kK om];rfl
    have e2:l.getD (k+1-1) 0=u:=by rw[hu,Bz,jw,kK hkl];rfl
    rw[e1,e2,←hu];simp⟩
   rw[←hu]at hck;rw[←ht]at acp;clear hu ht hkl;go_wp2;go_quiet (fail);obtain⟨w2,hw2⟩:∃w2,w2=wr.drewN nq:=⟨_,rfl⟩
   have hgd:wr.grownBy w2 none:=by rw[hw2];exact⟨rfl,rfl,rfl,Nr _,fun _ _ _=>rfl⟩
   have hj2:=Aj (HJ.1 _ _ _ none hj.1 hgd (fun r e=>by cases e));have Hb2:=Aj (show Boxed w2 bx 281 _ from by rw[hw2];exact Hb.1);have V8:=Aj (show vK w2 B _ m c l from by rw[hw2];exact Hr.1.drewN nq);have hN2:N≤w2.heap.size:=by rw[hw2];exact hNr
   rw[←hw2];clear hw2 hgd hc hck acp hj Hb Hr hNr;obtain⟨fn,tmps,assign,body,hy,ow⟩:=bJ.1 pre (Tm.sw (Tm.sw (u-t)-dd)) w2 hj2.1 ⟨_,hm2.1.symm⟩;unfold V7 at hy;simp only[←Tm.zt]at hy ow hm2;go_upto_region 5 with(fail)
   refine(Bu (n:=n)).1 ?_
   gi_wp2
   refine⟨(fun h=>by simp[Fence.wide]at h),ow.mono ?_⟩;rintro e W' (⟨rfl,hj',hb'⟩|⟨rfl,qQ⟩)
   ·have Hb3:=Aj (show Boxed W' bx 281 _ from hb'.2.trans Hb2.1);have Hr3:=Aj (V8.1.below hb'.1);have hz:=hb'.1.size;have Xy:=Aj hj';clear hj' hb' ow hy
    gi_wp2
    go_wp2;go_roundw
    case rel=>exact⟨pre++[wrap64 (wrap64 (u-t)-dd)],k+1,wrap64 (u-t),by go_num,rfl,Hb3.1,Hr3.1,om,om,om,⟨hm2.1⟩,Xy⟩
    case measure=>simp[intOf];omega
   ·exact absurd qQ (HX.1 _ _)
  ·have hm2:Kept (Tm.uI l=pre):=⟨by
    rw[hm1.1,qR (by have:=hln.1;omega),Tm.yx,Bg]⟩
   have hge':(m:Int)≤(k:Int):=om;go_wp2;go_end0;exact⟨⟨_,rfl⟩,.inl (by rw[hm2.1];exact hj.1)⟩
theorem Gg (A n c w):Calls prog 241 #[.slice A n c] w fun e w'=>
  e= .returned (.func (.func 270) #[] #[.pointer (some ⟨w.heap.size,0,none⟩)])∧w'=w.alloc (.cells #[.slice A n c] 281):=by
 go_enter func241,ntmps241;go_wp2;go_ret;exact⟨rfl,rfl⟩
end
theorem Gr.grown {w w'} (h:Gr w w') (row):w.grownBy w' row:=by
 have hb:=h.below;exact⟨hb.os,hb.tape,hb.output,hb.size,fun k hk _=>hb.block k hk⟩
theorem pY.grown {w w' p} (h:pY w) (hg:w.grownBy w' (some p)) (hp:0<p):pY w':=fun i v hi=>
 (AR (hg.block _ h.lt (fun e=>by have h1:0=p:=Oj e;omega))).trans (h i v hi)
theorem Br.gr {w w' p r} (h:Br w p r) (hg:Gr w w'):Br w' p r:=h.below hg.below h.lt
theorem Br.grown {w w' p r} (h:Br w p r) {row} (hg:w.grownBy w' row) (hr:∀g,row=some g→p<g):Br w' p r:=by
 have hp:=h.lt;obtain⟨A,n,c,L,at_,h1,h2,h3,h4,h5⟩:=h;exact⟨A,n,c,L,at_,(hg.block p hp (fun e=>by have:=hr _ e.symm;omega)).trans h1,h2.grown hg om (fun g e=>by have:=hr _ e;omega),h3,h4,h5⟩
theorem pY.past {w w'} (h:pY w) {row} (hg:w.grownBy w' row) (hr:∀g,row=some g→0<g):pY w':=fun i v hi=>
 (AR (hg.block _ h.lt (fun e=>by have:=hr _ e.symm;exact absurd this (Eu _)))).trans (h i v hi)
theorem Tm.jF (n r):(Tm.rd n r).1<2^n:=by
 unfold Tm.rd;split
 ·exact Nat.pow_pos Ah
 ·have h:=Bt.yu (r.take n);have:(r.take n).length=n:=by rw[oF];omega
  rwa[this]at h
theorem Tm.p8 (n r):(Tm.rd n r).2.2=0∨(Tm.rd n r).2.2=3:=by unfold Tm.rd;split<;>simp
theorem Gh (p r w) (h:Br w p r):
  Calls prog 251 #[.pointer (some ⟨p,0,none⟩)] w fun e w'=>e= .returned (.tuple #[.int .i64 (((Tm.gf 4 0 r).1:Nat):Int),.int .i64 (Tm.gf 4 0 r).2.2])∧Br w' p (Tm.gf 4 0 r).2.1∧w.grownBy w' (some p):=by
 obtain⟨Q,hQ⟩:∃Q,Tm.gf 4 0 r=Q:=⟨_,rfl⟩
 rw[hQ];have H:=Aj h;have HQ:=Aj hQ;clear h hQ;go_enter func251,ntmps251;go_wp2;go_loopw [7] (fun i wr=>∃(k:Nat) (r2:List Bool),k≤4∧i= .int .i64 k∧Kept (Br wr p r2)∧Kept (Tm.gf (4-k) k r2=Q)∧w.grownBy wr (some p)) (fun i _=>4-(intOf i).toNat)
 case atStart=>exact⟨0,r,om,rfl,H,HQ,Dn _ _⟩
 case round=>
  obtain⟨k,r2,hk,rfl,hB,hq,hG⟩:=hrel;have HG:=Aj hG;clear hG;by_cases hlt:k<4
  ·have hlt':(k:Int)<4:=by omega
   have BT:=Aj (dG p 1 r2 wr hB.1 om);have hstep:Kept ((if(Tm.rd 1 r2).2.2≠0∨(Tm.rd 1 r2).1=0 then(k,(Tm.rd 1 r2).2)else Tm.gf (4-(k+1)) (k+1) (Tm.rd 1 r2).2.1)=Q):=⟨by
    have:=hq.1;rw[show 4-k=(4-(k+1))+1 from om,Tm.gf]at this;exact this⟩
   obtain⟨X,hX⟩:∃X,X=Tm.rd 1 r2:=⟨_,rfl⟩
   rw[←hX]at BT hstep;clear hX hq;obtain⟨x,r3,e⟩:=X;simp only[]at BT hstep;by_cases he:e≠0∨x=0
   ·have hs2:Kept ((k,r3,e)=Q):=⟨by have:=hstep.1;rwa[Ps0 he]at this⟩
    have hor:((e !=0)||((x:Int)==0))=true:=by rcases he with h|h<;>simp[h]
    by_cases he0:e=0
    ·subst he0;obtain rfl:x=0:=by simpa using he
     clear hstep he;go_wp2_with (go_at_call 213;refine BT.1.mono ?_;rintro e w1 ⟨rfl,hb1,hg1⟩;have B1:=Aj hb1;have G1:=Aj hg1;clear hb1 hg1);go_ret2;exact⟨by rw[←hs2.1];rfl,by rw[←hs2.1];exact B1.1,HG.1.trans G1.1⟩
    ·have hne:(e !=0)=true:=by simpa using he0
     clear hstep he he0;go_wp2_with (go_at_call 213;refine BT.1.mono ?_;rintro e w1 ⟨rfl,hb1,hg1⟩;have B1:=Aj hb1;have G1:=Aj hg1;clear hb1 hg1);go_ret2;exact⟨by rw[←hs2.1];rfl,by rw[←hs2.1];exact B1.1,HG.1.trans G1.1⟩
   ·have hs2:Kept (Tm.gf (4-(k+1)) (k+1) r3=Q):=⟨by have:=hstep.1;rwa[Ng he]at this⟩
    have he0:e=0:=by
     by_cases h:e=0
     ·exact h
     ·exact absurd (.inl h) he
    subst he0;have hx0:((x:Int)==0)=false:=by simp;intro h;exact he (.inr h)
    clear hstep he;go_wp2_with (go_at_call 213;refine BT.1.mono ?_;rintro e w1 ⟨rfl,hb1,hg1⟩;have B1:=Aj hb1;have G1:=Aj hg1;clear hb1 hg1);go_roundw
    case rel=>exact⟨k+1,r3,om,by go_num,B1,hs2,HG.1.trans G1.1⟩
    case measure=>simp[intOf];omega
  ·obtain rfl:k=4:=by omega
   have hs2:Kept ((4,r2,0)=Q):=⟨hq.1⟩
   go_wp2;go_ret2;exact⟨by rw[←hs2.1];rfl,by rw[←hs2.1];exact hB.1,HG.1⟩
theorem Tm.acr (k i r):i≤(Tm.gf k i r).1∧(Tm.gf k i r).1≤i+k:=by
 induction k generalizing i r with
 |zero=>simp[Tm.gf]
 |succ k ih=>
  rw[Tm.gf];split
  ·simp
  ·have:=ih (i+1) (Tm.rd 1 r).2.1;omega
theorem Tm.Yj (i):Tm.fw i≤64:=by unfold Tm.fw;split<;>omega
theorem wu (p r w) (h:Br w p r) (hF:pY w) (hp:0<p):
  Calls prog 214 #[.pointer (some ⟨p,0,none⟩)] w fun e w'=>e= .returned (.tuple #[.int .i64 (Tm.gc r).1,.int .i64 (Tm.gc r).2.2])∧Br w' p (Tm.gc r).2.1∧w.grownBy w' (some p):=by
 have GF:=Aj (Gh p r w h);have HF:=Aj hF;have hle:=Tm.acr 4 0 r;have hgc:Kept (Tm.gc r=if(Tm.gf 4 0 r).2.2≠0 then(0,(Tm.gf 4 0 r).2)else(Tm.ex (Tm.rd (Tm.fw (Tm.gf 4 0 r).1) (Tm.gf 4 0 r).2.1).1 (Tm.fw (Tm.gf 4 0 r).1),(Tm.rd (Tm.fw (Tm.gf 4 0 r).1) (Tm.gf 4 0 r).2.1).2.1,
  if(Tm.rd (Tm.fw (Tm.gf 4 0 r).1) (Tm.gf 4 0 r).2.1).2.2≠0 then(Tm.rd (Tm.fw (Tm.gf 4 0 r).1) (Tm.gf 4 0 r).2.1).2.2 else if Tm.fm (Tm.ex (Tm.rd (Tm.fw (Tm.gf 4 0 r).1) (Tm.gf 4 0 r).2.1).1 (Tm.fw (Tm.gf 4 0 r).1))≠(Tm.gf 4 0 r).1 then 8 else 0)):=⟨rfl⟩
 obtain⟨Q,hQ⟩:∃Q,Tm.gf 4 0 r=Q:=⟨_,rfl⟩
 rw[hQ]at GF hle hgc;clear h hF hQ;obtain⟨i,r1,e1⟩:=Q;simp only[]at GF hle hgc;obtain⟨G,hG⟩:∃G,Tm.gc r=G:=⟨_,rfl⟩
 rw[hG]at hgc⊢;clear hG;by_cases he1:e1=0
 ·subst he1;rw[Ng sm]at hgc;have hw64:=Tm.Yj i;have RB:=Aj (fun(w1:World) (hb:Br w1 p r1)=>dG p (Tm.fw i) r1 w1 hb hw64);have hul:=Aj (ku (Tm.jF (Tm.fw i) r1) (kP Ah hw64));have her:=Tm.p8 (Tm.fw i) r1;have hi4:i≤4:=om;have hi5:(i:Int)<5:=om;have hcell:Kept (∀w1,pY w1→w1.cell? ⟨0,i*3+2,none⟩=some (.int .i64 ((Tm.fw i:Nat):Int))):=⟨fun w1 h1=>by
   rcases(by omega:i=0∨i=1∨i=2∨i=3∨i=4)with rfl|rfl|rfl|rfl|rfl
   ·exact h1 2 _ rfl
   ·exact h1 5 _ rfl
   ·exact h1 8 _ rfl
   ·exact h1 11 _ rfl
   ·exact h1 14 _ rfl⟩
  obtain⟨X,hX⟩:∃X,X=Tm.rd (Tm.fw i) r1:=⟨_,rfl⟩
  rw[←hX]at RB hul her hgc;obtain⟨u,r2,e2⟩:=X;simp only[]at RB hul her hgc;have EX:=Aj (fun w=>uG u i w hul.1 hi4);have FO:=Aj (fun(w1:World) (h1:pY w1)=>uH (Tm.ex u (Tm.fw i)) w1 (Tm.XJ hw64) h1);obtain⟨y,hy⟩:∃y,y=Tm.ex u (Tm.fw i):=⟨_,rfl⟩
  rw[←hy]at EX FO hgc;clear hy hX;rcases her with he2|he2
  ·subst he2;rw[Ng sm]at hgc;by_cases hfi:Tm.fm y=i;rw[Ng (by simpa using hfi)]at hgc;have hb:(((Tm.fm y:Nat):Int)==(i:Int))=true:=by simp;omega
   rotate_left
   rw[Ps0 hfi]at hgc;have hb:(((Tm.fm y:Nat):Int)==(i:Int))=false:=by simp;omega
   rotate_left
   all_goals
    have Yk:=hgc;clear hgc hfi;go_enter func214,ntmps214;go_wp2_with (first
    |(go_at_call 242;refine(FO.1 w2 F2.1).mono ?_;rintro e w3 ⟨rfl,hg3⟩;have B3:=Aj (B2.1.gr hg3);have G3:=Aj (G2.1.trans (hg3.grown _));clear hg3)
    |(go_at_call 252;refine(EX.1 _).mono ?_;rintro e w3 ⟨rfl,hw⟩;obtain rfl:=hw)
    |(go_at_call 213;refine(RB.1 w1 B1.1).mono ?_;rintro e w2 ⟨rfl,hb2,hg2⟩;have B2:=Aj hb2;have G2:=Aj (G1.1.trans hg2);have F2:=Aj (F1.1.grown hg2 hp);have c2:=hcell.1 _ F2.1;clear hb2 hg2)
    |(go_at_call 251;refine GF.1.mono ?_;rintro e w1 ⟨rfl,hb1,hg1⟩;have B1:=Aj hb1;have G1:=Aj hg1;have F1:=Aj (HF.1.grown hg1 hp);have c1:=hcell.1 _ F1.1;clear hb1 hg1))
    go_ret2;exact⟨by rw[Yk.1];rfl,by rw[Yk.1];exact B3.1,G3.1⟩
  ·subst he2;rw[Ps0 sm]at hgc;have Yk:=hgc;clear hgc;go_enter func214,ntmps214;go_wp2_with (first
    |(go_at_call 242;refine(FO.1 w2 F2.1).mono ?_;rintro e w3 ⟨rfl,hg3⟩;have B3:=Aj (B2.1.gr hg3);have G3:=Aj (G2.1.trans (hg3.grown _));clear hg3)
    |(go_at_call 252;refine(EX.1 _).mono ?_;rintro e w3 ⟨rfl,hw⟩;obtain rfl:=hw)
    |(go_at_call 213;refine(RB.1 w1 B1.1).mono ?_;rintro e w2 ⟨rfl,hb2,hg2⟩;have B2:=Aj hb2;have G2:=Aj (G1.1.trans hg2);have F2:=Aj (F1.1.grown hg2 hp);have c2:=hcell.1 _ F2.1;clear hb2 hg2)
    |(go_at_call 251;refine GF.1.mono ?_;rintro e w1 ⟨rfl,hb1,hg1⟩;have B1:=Aj hb1;have G1:=Aj hg1;have F1:=Aj (HF.1.grown hg1 hp);have c1:=hcell.1 _ F1.1;clear hb1 hg1))
   go_ret2;exact⟨by rw[Yk.1];rfl,by rw[Yk.1];exact B2.1,G2.1⟩
 ·rw[Ps0 he1]at hgc;have Yk:=hgc;have hne:(e1 !=0)=true:=by simpa using he1
  clear hgc he1;go_enter func214,ntmps214;go_wp2_with (go_at_call 251;refine GF.1.mono ?_;rintro e w1 ⟨rfl,hb1,hg1⟩;have B1:=Aj hb1;have G1:=Aj hg1;clear hb1 hg1);go_ret2;exact⟨by rw[Yk.1];rfl,by rw[Yk.1];exact B1.1,G1.1⟩
theorem JF {w:World} {b1 b2 sz n c A xs e} (h:w.ownsRow b1 e sz (.slice A n c) n xs) (hb:b2≤b1):w.ownsRow b2 e sz (.slice A n c) n xs:=
 ⟨h.1,h.2.imp id fun⟨g,cap,cur,h1,h2,h3⟩=>⟨g,cap,cur,h1,om,h3⟩⟩
theorem lg {w w':World} {base n c sz p A xs e} (h:w.ownsRow base e sz (.slice A n c) n xs) (hg:w.grownBy w' (some p)) (hp:p<base):w'.ownsRow base e sz (.slice A n c) n xs:=
 ag h hg (by
  rcases hA:ab A with _|g
  ·exact .inl rfl
  ·refine .inr fun e=>?_
   have:=(ae h g hA).1;have:=Oj e;omega)
theorem eX.YA (w:World) (x):eX (w.alloc (.cells #[.int .i64 x] 2)) w.heap.size (some ⟨w.heap.size,0,none⟩) 1 1 [x]:=
 ⟨rfl,.inr ⟨w.heap.size,1,#[.int .i64 x],rfl,Nr _,Av w _,Nr _,by unfold maxLen;omega,rfl,rfl⟩⟩
theorem Sa (p n:Nat) (r w) (h:Br w p r) (hF:pY w) (hp:0<p) (hn:n≤1000000):
  Calls prog 178 #[.pointer (some ⟨p,0,none⟩),.int .i64 (n:Int)] w fun e w'=>∃A2 n2 c2,e= .returned (.tuple #[.slice A2 n2 c2,.int .i64 (Tm.dec n r).2.2])∧eX w' w.heap.size A2 n2 c2 (Tm.dec n r).1∧Br w' p (Tm.dec n r).2.1∧w.grownBy w' (some p):=by
 have l9:=h.lt;by_cases hn0:n=0
 ·subst hn0;have hd:Tm.dec 0 r=([],r,0):=by unfold Tm.dec;rw[Ps0 rfl]
  rw[hd];go_enter func178,ntmps178;go_wp2;go_ret2;exact⟨none,0,0,rfl,⟨rfl,.inl ⟨rfl,rfl⟩⟩,h,Dn _ _⟩
 ·have hdec:Kept (Tm.dec n r=if(Tm.rd 64 r).2.2≠0 then([],(Tm.rd 64 r).2)else Tm.gt (n-1) (Tm.sw (Tm.rd 64 r).1) 0 [Tm.sw (Tm.rd 64 r).1] (Tm.rd 64 r).2.1):=⟨by unfold Tm.dec;rw[Ng hn0]⟩
  have RB:=Aj (dG p 64 r w h om);have her:=Tm.p8 64 r;have HF:=Aj hF;obtain⟨X,hX⟩:∃X,X=Tm.rd 64 r:=⟨_,rfl⟩
  rw[←hX]at RB her hdec;clear hX h hF;obtain⟨u,r1,e1⟩:=X;simp only[]at RB her hdec;obtain⟨D,hD⟩:∃D,D=Tm.dec n r:=⟨_,rfl⟩
  rw[←hD]at hdec⊢;clear hD;have hn1:¬(n:Int)<0:=om;have hn2:((n:Int)==0)=false:=by simp;omega
  rcases her with rfl|rfl
  ·rw[Ng sm]at hdec;go_enter func178,ntmps178;go_wp2_with (go_at_call 213;refine RB.1.mono ?_;rintro e w1 ⟨rfl,hb1,hg1⟩;have B1:=Aj hb1;have G1:=Aj hg1;have F1:=Aj (HF.1.grown hg1 hp);clear hb1 hg1);have hz1:w.heap.size≤w1.heap.size:=G1.1.size;go_loopw [8,9,10,36] (fun t d v i wr=>∃(k:Nat) (tt dd:Int) (acc:List Int) (r2:List Bool) (A2:Option Addr) (c2:Nat),k≤n-1∧i= .int .i64 k∧t= .int .i64 tt∧d= .int .i64 dd∧v= .slice A2 (k+1) c2∧
    Kept (Tm.gt (n-1-k) tt dd acc r2=D)∧eX wr w.heap.size A2 (k+1) c2 acc∧Kept (Br wr p r2)∧Kept (pY wr)∧w.grownBy wr (some p)) (fun _ _ _ i _=>n-(intOf i).toNat)
   case atStart=>
    refine⟨0,wrap64 u,0,[wrap64 u],r1,_,1,om,rfl,rfl,rfl,rfl,⟨by rw[Tm.zt,Nat.sub_zero];exact hdec.1.symm⟩,?_,⟨?_⟩,⟨?_⟩,?_⟩
    ·exact JF (eX.YA w1 _) hz1
    ·exact B1.1.below ((Ae _ w1).alloc Ai _) B1.1.lt
    ·exact F1.1.below ((Ae _ w1).alloc Ai _)
    ·exact G1.1.trans (Ga _ _ _)
   case round=>
    obtain⟨k,tt,dd,acc,r2,A2,c2,hk,rfl,rfl,rfl,rfl,hq,ho,hB,hF2,hG⟩:=hrel;have HG:=Aj hG;have HO:=Aj ho;clear hG ho;by_cases hlt:k<n-1
    ·have hlt':(k:Int)< (n:Int)-1:=by omega
     have hstep:Kept ((if(Tm.gc r2).2.2≠0 then([],(Tm.gc r2).2)else Tm.gt (n-1-(k+1)) (Tm.sw (tt+Tm.sw (dd+(Tm.gc r2).1))) (Tm.sw (dd+(Tm.gc r2).1)) (acc++[Tm.sw (tt+Tm.sw (dd+(Tm.gc r2).1))]) (Tm.gc r2).2.1)=D):=⟨by
      have:=hq.1;rw[show n-1-k=(n-1-(k+1))+1 from om,Tm.gt]at this;exact this⟩
     have GC:=Aj (wu p r2 wr hB.1 hF2.1 hp);obtain⟨X,hX⟩:∃X,X=Tm.gc r2:=⟨_,rfl⟩
     rw[←hX]at GC hstep;clear hX hq;obtain⟨x,r3,e⟩:=X;simp only[]at GC hstep;by_cases he:e=0
     ·subst he;rw[Ng sm]at hstep;go_wp2_with (first
       |(at_builtin;refine EK rfl (.tmp 52) (.tmp 54) rfl w.heap.size A2 (k+1) c2 acc rfl (Oa O2.1 _) _ _ _ _ _ rfl (vK.one w2 _) om afC ?_;intro A4 c4 w5 av af cu;have O4:=Aj av;have G4:=Aj af;clear av af)
       |(go_at_call 214;refine GC.1.mono ?_;rintro e w2 ⟨rfl,hb2,hg2⟩;have B2:=Aj hb2;have G2:=Aj (HG.1.trans hg2);have F2:=Aj (hF2.1.grown hg2 hp);have O2:=Aj (lg HO.1 hg2 l9);have afC:w.heap.size≤(w2.alloc (.cells #[.int .i64 (wrap64 (tt+wrap64 (dd+x)))] 2)).heap.size:=(by have:=G2.1.size;simp;omega);clear hb2 hg2))
      go_roundw
      case rel=>
       have hbp:∀g,ab A2=some g→w.heap.size≤g:=fun g e=>(ae O2.1 g e).1
       have hgz:=pY.lt HF.1;have ga:=Ga w2 (.cells #[.int .i64 (wrap64 (tt+wrap64 (dd+x)))] 2) none;simp only[←Tm.zt]at hstep;refine⟨k+1,_,_,_,r3,A4,c4,om,by go_num,rfl,rfl,rfl,hstep,O4.1,⟨?_⟩,⟨?_⟩,?_⟩
       ·exact(B2.1.grown ga (fun g e=>by cases e)).grown G4.1 (fun g e=>by have:=hbp g e;omega)
       ·exact(F2.1.past ga (fun g e=>by cases e)).past G4.1 (fun g e=>by have:=hbp g e;omega)
       ·exact((G2.1.trans (Ga w2 _ _)).andThen G4.1 (fun j hj=> .inl (by have:=hbp j hj;omega)))
      case measure=>simp[intOf];omega
     ·rw[Ps0 he]at hstep;have hne:(e !=0)=true:=by simpa using he
      clear he;go_wp2_with (go_at_call 214;refine GC.1.mono ?_;rintro e w2 ⟨rfl,hb2,hg2⟩;have B2:=Aj hb2;have G2:=Aj (HG.1.trans hg2);clear hb2 hg2);go_ret2;rw[←hstep.1];exact⟨none,0,0,rfl,⟨rfl,.inl ⟨rfl,rfl⟩⟩,B2.1,G2.1⟩
    ·obtain rfl:k=n-1:=by omega
     have hs2:Kept ((acc,r2,0)=D):=⟨by have:=hq.1;rwa[Dz]at this⟩
     have hge:(n:Int)-1≤((n-1:Nat):Int):=om;go_wp2;go_ret2;rw[←hs2.1];exact⟨A2,_,c2,rfl,HO.1,hB.1,HG.1⟩
  ·rw[Ps0 sm]at hdec;go_enter func178,ntmps178;go_wp2_with (go_at_call 213;refine RB.1.mono ?_;rintro e w1 ⟨rfl,hb1,hg1⟩;have B1:=Aj hb1;have G1:=Aj hg1;clear hb1 hg1);go_ret2;rw[hdec.1];exact⟨none,0,0,rfl,⟨rfl,.inl ⟨rfl,rfl⟩⟩,B1.1,G1.1⟩
end Go.Proofs.YtjcpmfphnodaaaaGreatDoor
