/- Part 14. -/
import Derived.Test.YtongopommlghgaaGreatDoorZVAM
import Derived.Test.YtongopommlghgaaGreatDoorZVAG
namespace Go.Proofs.YtongopommlghgaaGreatDoor
set_option maxRecDepth 100000
set_option maxHeartbeats 0
open _root_.Go.Proofs.Tryz
open Go.RowKit Go.Shelf
section
open Go.Sort
section
variable {w wr w2:World} {b o:Nat} {d0 d d':Array Int}
theorem Sv.alloc (h:Sv w b o d0 d wr) (ob):Sv w b o d0 d (wr.alloc ob):=by
 obtain⟨n,os,hw⟩:=h.at_;exact⟨h.h0,h.lt,h.sz,n,os++ #[ob],by rw[hw,alloc_eq_grow,grow_grow]⟩
theorem Sv.fresh (h:Sv w b o d0 d wr) {g} (hg:w.heap.size≤g) (k v):Sv w b o d0 d (wr.setCell ⟨g,k,none⟩ v):=by
 obtain⟨n,os,hw⟩:=h.at_;refine⟨h.h0,h.lt,h.sz,n,os.modify (g-w.heap.size) (onCells (·.setIfInBounds k v)),?_⟩;rw[hw,setCell_eq,mapBlock_grow_new _ _ _ _ (by simpa using hg)];simp
end
theorem aau (g X) (hX:X<18446744073709551616) (w) (hc:w.cell? ⟨g,0,none⟩=some (.int .u64 X)) (hf:w.frozen? ⟨g,0,none⟩=false):
  Calls prog 267 #[.pointer (some ⟨g,0,none⟩)] w fun e w'=>e= .returned (.int .u64 (xorNextN X:Nat))∧w'=(w.setCell ⟨g,0,none⟩ (.int .u64 (xorNextN X:Nat))).drewN 3:=
 AnyF.xorshift_Next {Tryz.sortL with} g 0 X hX w hc hf
theorem aav (n:Nat) (hn:n<4611686018427387904) (w):
  Calls prog 266 #[.int .i64 n] w fun e w'=>e= .returned (.int .u64 ((1<<<bitsLen n:Nat):Int))∧w'=w:=
 AnyF.nextPowerOfTwo {Tryz.sortL with} n hn w
theorem Tu (n:Nat) (hn:n<18446744073709551616) (w):
  Calls prog 185 #[.int .u64 (n:Int)] w fun e w'=>e= .returned (.int .i64 (bitsLen n:Nat))∧w'=w:=by
 have h:=Any.bits_Len (P:=prog) (ρ:=Tryz.sortS_ren) {Tryz.sortS with} (n:Int) w om om;rw[kz,bitLen_eq _ hn]at h;exact h
theorem rF (b o c x y n d w) (hn:d.size=n) (hH:Holds eU w b o d) (hw:b<w.heap.size) (hxy:x≤y) (hy:y≤n) (hsz:n<4611686018427387904):
  Calls prog 303 #[.slice (some ⟨b,o,none⟩) n c,.int .i64 x,.int .i64 y] w fun e w'=>e= .returned (.tuple #[])∧Sv w b o d (Sort.breakPatterns d x y) w':=by
 subst hn;obtain⟨L,hL⟩:∃L,y=x+L:=⟨y-x,om⟩
 have hLi:(y:Int)-(x:Int)=(L:Int):=om;have hxL:x+L≤d.size:=om;by_cases h8:8≤L
 ·have h8':(8:Int)≤(L:Int):=by omega
  have hbp:Sort.breakPatterns d x y=bpRest x L (1<<<bitsLen L) (x+L/4*2-1) 3 0 (UInt64.ofNat L,d):=by rw[hL];exact breakPatterns_eq d x L h8
  rw[hbp];clear hbp;obtain⟨M,hM⟩:∃M:Nat,M=1<<<bitsLen L:=⟨_,rfl⟩
  have hM1:1≤M:=by rw[hM,Nat.one_shiftLeft];exact Nat.two_pow_pos _
  have hM2:M≤2*L:=by rw[hM,Nat.one_shiftLeft];exact two_pow_bitsLen_le om
  have NP:=Aj (aav L om);rw[←hM]at NP⊢;have hS0:Sv w b o d d (w.alloc (.cells #[.int .u64 (L:Int)] 388)):=(Sv.refl hH hw).alloc _;have hl0:(UInt64.ofNat L).toNat=L:=by simp;omega
  have hR0:(w.alloc (.cells #[.int .u64 (L:Int)] 388)).heap[w.heap.size]? =some (.cells #[.int .u64 (((UInt64.ofNat L).toNat:Nat):Int)] 388 (0,0)):=by rw[hl0];exact Av w _
  have S0:=Aj hS0;have R0:=Aj hR0;obtain⟨I0,hI0⟩:∃I0,I0=x+L/4*2-1:=⟨_,rfl⟩
  have hI1:(x:Int)+(L:Int)/4*2-1=(I0:Int):=om;have hI2:(x:Int)+(L:Int)/4*2+1=(I0:Int)+2:=om;have hI3:x≤I0:=om;have hI4:I0+2<x+L:=om;rw[←hI0];clear hM hI0 hS0 hR0 hl0 hL hH;go_enter func303,ntmps303;go_wp2_with (go_at_call 266;refine(NP.1 _).mono ?_;rintro e w' ⟨rfl,rfl⟩);go_loopw [9] (fun vi wr=>∃(t:Nat) (r:UInt64) (dk:Array Int),vi= .int .i64 ((I0+t:Nat):Int)∧t≤3∧Sv w b o d dk wr∧Kept (wr.heap[w.heap.size]? =some (.cells #[.int .u64 (r.toNat:Int)] 388 (0,0)))∧
   Kept (bpRest x L M I0 (3-t) t (r,dk)=bpRest x L M I0 3 0 (UInt64.ofNat L,d))) (fun vi _=>I0+4-(intOf vi).toNat)
  case atStart=>exact⟨0,UInt64.ofNat L,d,rfl,om,S0.1,R0,⟨rfl⟩⟩
  case round=>
   obtain⟨t,r,dk,rfl,ht,hs,HR,HO⟩:=hrel;clear S0 R0;by_cases ht3:t=3
   ·subst ht3;have hg:¬(((I0+3:Nat):Int)≤(I0:Int)+2):=om;have HS:=Aj hs;clear hs;go_wp2;go_end0;refine⟨rfl,?_⟩;rw[←HO.1];exact HS.1
   ·have hg:(((I0+t:Nat):Int)≤(I0:Int)+2):=by omega
    have hgs:w.heap.size≠b:=om;obtain⟨i,hi⟩:∃i,i=I0+t:=⟨_,rfl⟩
    obtain⟨R,hRr⟩:∃R:Nat,R=r.toNat:=⟨_,rfl⟩
    have lR:R<18446744073709551616:=by rw[hRr];exact r.toNat_lt
    obtain⟨R',hR'⟩:∃R':Nat,R'=xorNextN R:=⟨_,rfl⟩
    have lR':R'<18446744073709551616:=by rw[hR'];exact xorNextN_lt R lR
    obtain⟨O,hO⟩:∃O:Nat,O=R'&&& (M-1):=⟨_,rfl⟩
    have lO:O≤M-1:=by rw[hO];exact Nat.and_le_right
    have eAnd:bits .and .u64 (R':Int) ((M:Int)-1)=(O:Int):=by
     rw[show((M:Int)-1)=((M-1:Nat):Int)from om,bits_and_u64_nat _ _ lR' om,hO]
    have hrow:=HR.1;rw[←hRr]at hrow;have k0:=Co _ _ 0 _ _ _ hrow;have f0:=Fr _ _ 0 _ _ hrow;have HN:=Aj (aau w.heap.size R lR wr k0 f0);rw[←hR']at HN;have hrx:R'=(xorNext r).toNat:=by rw[hR',hRr,xorNext_toNat]
    obtain⟨G,hG⟩:∃G:Nat→Int,∀t,G t=dk[t]!:=⟨fun t=>dk[t]!,fun _=>rfl⟩
    have hs1:=(hs.fresh Ai 0 (.int .u64 (R':Int))).drewN 3;have Tv:((wr.setCell ⟨w.heap.size,0,none⟩ (.int .u64 (R':Int))).drewN 3).heap[w.heap.size]? =some (.cells #[.int .u64 (((xorNext r).toNat:Nat):Int)] 388 (0,0)):=by
     rw[←hrx];exact Ag _ _ _ _ _ _ hrow
    have hf:∀t,t<d.size→((wr.setCell ⟨w.heap.size,0,none⟩ (.int .u64 (R':Int))).drewN 3).frozen? ⟨b,o+t,none⟩=false:=hs1.iJ;have hc:∀t,t<d.size→((wr.setCell ⟨w.heap.size,0,none⟩ (.int .u64 (R':Int))).drewN 3).cell? ⟨b,o+t,none⟩=some (.int .u64 (G t)):=fun t ht=>by rw[hG];exact hs1.cell t ht
    obtain⟨W1,hW1⟩:∃W1,W1=(wr.setCell ⟨w.heap.size,0,none⟩ (.int .u64 (R':Int))).drewN 3:=⟨_,rfl⟩
    rw[←hW1]at hs1 Tv hf hc HN;have OG:=Aj hs1;have HR1:=Aj Tv;have HG:=Aj hG;have HX:=Aj hrx;have HOO:=Aj hO;rw[←hi];have HI:=Aj hi;have hii:(i:Int)=((I0+t:Nat):Int):=om;rw[←hii]at hg;have hi5:x≤i∧i<x+L:=om;clear hs hs1 hrow Tv hG hW1 hrx hO hR' hRr k0 f0 hi hii HR;obtain⟨P,hP⟩:∃P,P=if O≥L then O-L else O:=⟨_,rfl⟩
    have hPL:P<L:=by rw[hP];split<;>omega
    have HST:=Aj (fun h3:t<3=>bp_step x L M I0 t r dk P h3 (by rw[←HX.1,←HOO.1,hP]));have hcs:(L≤O∧P=O-L)∨(¬L≤O∧P=O):=by rw[hP];split<;>omega
    clear hP;have ha:i=x+P∨i≠x+P:=Decidable.em _;rcases hcs with⟨hLO,hPO⟩|⟨hLO,hPO⟩
    all_goals
     have alM:decide ((L:Int)≤(O:Int))=decide (L≤O):=sm;have ags:(if L≤O then(O:Int)-(L:Int)else(O:Int))=(P:Int):=by split<;>omega
     simp only[hLO,if_true,Eg]at ags;clear hPO;rcases ha with ha|ha
     all_goals
      go_wp2_with (go_at_call 267;refine HN.1.mono ?_;rintro e w' ⟨rfl,rfl⟩);have HS2:=Aj ((OG.1.swp (i:=i) (j:=x+P) om om).drewN 1);have HR2:=Aj (((au _ ⟨b,o+(x+P),none⟩ (.int .u64 dk[i]!)).block _ (Ge.1 (((au _ ⟨b,o+i,none⟩ (.int .u64 dk[x+P]!)).block _ (Ge.1 HR1.1).1 (fun e=>hgs (Oj e))).trans HR1.1)).1 (fun e=>hgs (Oj e))).trans (((au _ ⟨b,o+i,none⟩ (.int .u64 dk[x+P]!)).block _ (Ge.1 HR1.1).1 (fun e=>hgs (Oj e))).trans HR1.1));have hm:Kept (i=I0+t∧t<3):=⟨HI.1,om⟩
      go_region
      all_goals go_wp2
      go_roundw
      case rel=>
       refine⟨t+1,xorNext r,Sort.swp dk i (x+P),?_,om,?_,⟨?_⟩,⟨?_⟩⟩
       ·have:=hm.1.1;congr 1;omega
       ·(try rw[←ha]);simp only[HG.1];(first|exact HS2.1|(rw[ha]at HS2;exact HS2.1)|(rw[←ha]at HS2;exact HS2.1))
       ·(try rw[←ha]);simp only[HG.1];(first|exact HR2.1|(rw[ha]at HR2;exact HR2.1)|(rw[←ha]at HR2;exact HR2.1))
       ·rw[←HO.1,HST.1 hm.1.2,hm.1.1]
      case measure=>have:=hm.1.1;simp[intOf];omega
 ·have h8':¬(8:Int)≤(L:Int):=by omega
  have hv:Sort.breakPatterns d x y=d:=by rw[hL];unfold Sort.breakPatterns;simp only[Nat.add_sub_cancel_left];rw[Ng h8]
  rw[hv];have HS:=Aj (Sv.refl hH hw);clear hH hv hL;go_enter func303,ntmps303;go_wp2;go_end0;exact⟨rfl,HS.1⟩
end
section
open Go.Sort
theorem Sv.re {w wr b o d0 d d1} (h:Sv w b o d0 d wr) (e:d=d1):Sv w b o d0 d1 wr:=e▸h
theorem OH:∀(N b o c x y lim n:Nat) (d) (w),y-x<N→d.size=n→Holds eU w b o d→b<w.heap.size→x≤y→y≤n→n<4611686018427387904→lim<4611686018427387904→Sort.Below ltInt x y d→
  Calls prog 296 #[.slice (some ⟨b,o,none⟩) n c,.int .i64 x,.int .i64 y,.int .i64 lim] w fun e w'=>e= .returned (.tuple #[])∧Sv w b o d (Sort.pdq ltInt d x y lim true true) w':=by
 intro N
 induction N with
 |zero=>intro _ _ _ _ _ _ _ _ _ h;exact absurd h (Nat.not_lt_zero _)
 |succ N ih=>
  intro b o c x0 y0 aaw n d w hN hn hH hw agt hy0 hsz ai6 hB0;subst hn;have IH:=Aj ih;have S0:=Aj (Sv.refl hH hw);clear ih hH;obtain⟨P,hP⟩:∃P,Sort.pdq ltInt d x0 y0 aaw true true=P:=⟨_,rfl⟩
  rw[hP];have HP0:=Aj hP;clear hP;go_enter func296,ntmps296;go_wp2;go_loopw [1,2,3,8,9] (fun v1 v2 v3 v8 v9 wr=>∃(x y lim:Nat) (wb wp:Bool) (dk:Array Int),v1= .int .i64 (x:Int)∧v2= .int .i64 (y:Int)∧v3= .int .i64 (lim:Int)∧v8= .bool wb∧v9= .bool wp∧x≤y∧y≤d.size∧y-x≤y0-x0∧lim≤aaw∧Sort.Below ltInt x y dk∧Sv w b o d dk wr∧Kept (Sort.pdq ltInt dk x y lim wb wp=P)) (fun v1 v2 _ _ _ _=>(intOf v2-intOf v1).toNat)
  case atStart=>exact⟨x0,y0,aaw,true,true,d,rfl,rfl,rfl,rfl,rfl,agt,hy0,Nr _,Nr _,hB0,S0.1,HP0⟩
  case round=>
   clear S0 HP0 hB0;obtain⟨x,y,lim,wb,wp,dk,rfl,rfl,rfl,rfl,rfl,hxy,hy,hkN,hlim,hBel,hs,HO⟩:=hrel;have HS:=Aj hs;have hsz2:=hs.sz;by_cases h12:y-x≤12
   ·have h12z:(y:Int)-(x:Int)≤12:=by omega
    have hc:=Aj (rE b o c x y dk wr hs.holds.1 hs.holds.2 hxy om om);rw[hsz2]at hc;have hp:=Aj (show P=Sort.insertionSort ltInt dk x y by rw[←HO.1,pdq_small h12]);clear hs hBel hsz2;go_wp2_with (go_at_call 301;refine hc.1.mono ?_;rintro e w1 ⟨rfl,h1⟩;have H1:=Aj h1;clear h1)
    (try simp only[Exit.inBlock,Exit.then]);refine Bi (CQ rfl _ _ _) rfl ?_
    exact⟨rfl,(HS.1.step H1.1).re hp.1.symm⟩
   ·have h12z:¬((y:Int)-(x:Int)≤12):=by omega
    by_cases hl0:lim=0
    ·subst hl0;have hc:=Aj (Kb b o c x y dk wr hs.holds.1 hs.holds.2 hxy om om);rw[hsz2]at hc;have hp:=Aj (show P=Sort.heapSort ltInt dk x y by rw[←HO.1,pdq_heap h12 rfl]);clear hs hBel hsz2;go_wp2_with (go_at_call 302;refine hc.1.mono ?_;rintro e w1 ⟨rfl,h1⟩;have H1:=Aj h1;clear h1)
     (try simp only[Exit.inBlock,Exit.then]);refine Bi (CQ rfl _ _ _) rfl ?_
     exact⟨rfl,(HS.1.step H1.1).re hp.1.symm⟩
    ·have hl0z:¬((lim:Int)=0):=by omega
     obtain⟨s1,B1,hc1,s2,B2,hpv,s3,B3⟩:=rd_facts (limit:=lim) (wb:=wb) (wp:=wp) swo_ltInt partialInsertionSort_holds reverseRange_holds (show x<y from om) (show y≤dk.size from om) hBel;have hrl:=rd_lim_le (lt:=ltInt) (d:=dk) (a:=x) (b:=y) (limit:=lim) (wb:=wb) (wp:=wp);have adb:=Aj (pdq_done (lt:=ltInt) (d:=dk) (wb:=wb) (wp:=wp) h12 hl0);have HEq:=Aj (pdq_eq (lt:=ltInt) (d:=dk) (wb:=wb) (wp:=wp) h12 hl0);have ade:=Aj (pdq_left (lt:=ltInt) (d:=dk) (wb:=wb) (wp:=wp) h12 hl0);have aax:=Aj (pdq_right (lt:=ltInt) (d:=dk) (wb:=wb) (wp:=wp) h12 hl0);have RC:=Aj (rd_c (lt:=ltInt) (d:=dk) (a:=x) (b:=y) (limit:=lim) (wb:=wb) (wp:=wp));have RD:=Aj (rd_dec (lt:=ltInt) (d:=dk) (a:=x) (b:=y) (limit:=lim) (wb:=wb) (wp:=wp));have RN:=Aj (rd_not (lt:=ltInt) (d:=dk) (a:=x) (b:=y) (limit:=lim) (wb:=wb) (wp:=wp));have RY:=Aj (rd_pi_yes (lt:=ltInt) (d:=dk) (a:=x) (b:=y) (limit:=lim) (wb:=wb) (wp:=wp));have RO:=Aj (rd_pi_no (lt:=ltInt) (d:=dk) (a:=x) (b:=y) (limit:=lim) (wb:=wb) (wp:=wp));have R1:(wb=false→(rd ltInt dk x y lim wb wp).d1=Sort.breakPatterns dk x y∧(rd ltInt dk x y lim wb wp).lim=lim-1)∧(wb=true→(rd ltInt dk x y lim wb wp).d1=dk∧(rd ltInt dk x y lim wb wp).lim=lim):=⟨fun h=>by subst h;exact rd_false,fun h=>by subst h;exact rd_true⟩
     generalize rd ltInt dk x y lim wb wp=R at*;have hz1:R.d1.size=d.size:=s1.trans hsz2;have hz2:R.d2.size=d.size:=s2.trans hsz2;have hz3:R.pi.1.size=d.size:=s3.trans hsz2;have HR1:=Aj R1;have KB1:=Aj B1;have U9:=Aj B2;have KB3:=Aj B3;clear R1 B1 B2 B3 s1 s2 s3 hBel hs;go_upto_if 35 with fail;go_cut [3]from 19 (fun v wc=>v= .int .i64 (R.lim:Int)∧Sv w b o d R.d1 wc)
     case first=>
      cases wb
      ·have hc:=Aj (rF b o c x y d.size dk wr hsz2 HS.1.holds.1 HS.1.holds.2 hxy om hsz);have hr:=Aj (HR1.1.1 rfl);go_wp2_with (go_at_call 303;refine hc.1.mono ?_;rintro e w1 ⟨rfl,h1⟩;have H1:=Aj h1;clear h1);go_meet
       case rel=>exact⟨by rw[hr.1.2];congr 1;omega,(HS.1.step H1.1).re hr.1.1.symm⟩
      ·have hr:=Aj (HR1.1.2 rfl);go_wp2_with fail;go_meet
       case rel=>exact⟨by rw[hr.1.2],HS.1.re hr.1.1.symm⟩
     case rest=>
      obtain⟨rfl,hs⟩:=hcut;clear HS;have HS:=Aj hs;have hc:=Aj (wL b o c x y d.size R.d1 wc hz1 hs.holds.1 hs.holds.2 om hy hsz);rw[←RC.1]at hc;clear hs;go_upto_if 50 with(go_at_call 304;refine hc.1.mono ?_;rintro e w1 ⟨rfl,h1⟩;have H1:=Aj (HS.1.step h1);clear h1)
      clear HS hc;go_cut [11,12]from 19 (fun v11 v12 wc=>v11= .int .i64 (R.pivot:Int)∧v12= .int .i64 (hintCode R.hint)∧Sv w b o d R.d2 wc)
      case first=>
       by_cases hh:R.c.2= .decreasing
       ·have hcode:hintCode R.c.2=2:=by rw[hh];rfl
        have hr:=Aj (RD.1 hh);have hc:=Aj (uJ b o c x y R.d1 w1 H1.1.holds.1 H1.1.holds.2 hxy om om);rw[hz1]at hc;go_wp2_with (go_at_call 305;refine hc.1.mono ?_;rintro e w2 ⟨rfl,h2⟩;have H2:=Aj (H1.1.step h2);clear h2);go_meet
        case rel=>exact⟨by rw[hr.1.2.1];congr 1;omega,by rw[hr.1.2.2];rfl,H2.1.re hr.1.1.symm⟩
       ·have hcode:¬hintCode R.c.2=2:=fun h=>hh (hintCode_two h)
        have hr:=Aj (RN.1 hh);go_wp2_with fail;go_meet
        case rel=>exact⟨by rw[hr.1.2.1],by rw[hr.1.2.2],H1.1.re hr.1.1.symm⟩
      case rest=>
       obtain⟨rfl,rfl,hs⟩:=hcut;clear H1;have HS:=Aj hs;clear hs;go_upto_region 15 with fail;go_cut [12,68]from 19 (fun v12 v68 wx=>v12= .int .i64 (hintCode R.hint)∧v68= .bool (wb&&wp&&decide (R.hint= .increasing))∧wx=wc)
       case first=>
        cases wb<;>cases wp<;>cases hh3:R.hint<;>
         (have hcode3:=congrArg hintCode hh3
          simp only[hintCode]at hcode3;go_wp2_with fail;go_meet;exact⟨by simp[hh3,hintCode],by simp[hh3,hintCode],rfl⟩)
       case rest=>
        obtain⟨rfl,rfl,rfl⟩:=hcut;go_upto_if 68 with fail;go_cut []from 19 (fun wx=>R.pi.2=false∧Sv w b o d R.pi.1 wx)
        case first=>
         cases h68:(wb&&wp&&decide (R.hint= .increasing))
         ·have epi:=Aj (RO.1 h68);go_wp2_with fail;go_meet
          case rel=>exact⟨by rw[epi.1],HS.1.re (by rw[epi.1])⟩
         ·have epi:=RY.1 h68;have hc:=zL b o c x y d.size R.d2 wc hz2 HS.1.holds.1 HS.1.holds.2 om hy hsz;rw[←epi]at hc;obtain⟨q,hq⟩:∃q,R.pi.2=q:=⟨_,rfl⟩
          rw[hq]at hc;have HC:=Aj hc;have HQ:=Aj hq;clear hc epi hq;cases q
          ·go_wp2_with (go_at_call 306;refine HC.1.mono ?_;rintro e w4 ⟨rfl,h4⟩;have H4:=Aj (HS.1.step h4);clear h4);go_meet
           case rel=>exact⟨HQ.1,H4.1⟩
          ·have hp:=Aj (show P=R.pi.1 by rw[←HO.1,adb.1 HQ.1]);go_wp2_with (go_at_call 306;refine HC.1.mono ?_;rintro e w4 ⟨rfl,h4⟩;have H4:=Aj (HS.1.step h4);clear h4)
           (try simp only[Exit.inBlock,Exit.then]);refine Bi (CQ rfl _ _ _) rfl ?_
           exact⟨rfl,H4.1.re hp.1.symm⟩
        case rest=>
         obtain⟨hp2,hs⟩:=hcut;clear HS;have HP2:=Aj hp2;have HS:=Aj hs;clear hp2;have hf:=hs.iJ;obtain⟨G,hG⟩:∃G:Nat→Int,∀t,G t=R.pi.1[t]!:=⟨fun t=>R.pi.1[t]!,fun _=>rfl⟩
         have hc:∀t,t<d.size→wc.cell? ⟨b,o+t,none⟩=some (.int .u64 (G t)):=fun t ht=>by rw[hG];exact hs.cell t ht
         have HG:=Aj hG;clear hs hG;go_upto_region 17 with fail;go_cut [87]from 19 (fun v wx=>v= .bool (decide (x>0)&&!ltInt (G (x-1)) (G R.pivot))∧Sv w b o d R.pi.1 wx)
         case first=>
          rcases mM x with hx0|hx0
          ·have hx1:decide ((x:Int)>0)=false:=AF om;go_quiet (first|(go_at_call 283;refine Ay (aD _ _ _)));go_wp2_with fail;go_meet
           case rel=>exact⟨by simp[hx0],HS.1.drewN _⟩
          ·have hx1:(x:Int)>0:=by omega
           go_quiet (first|(go_at_call 283;refine Ay (aD _ _ _)));go_wp2_with fail;go_meet
           case rel=>exact⟨by simp[hx0],HS.1.drewN _⟩
         case rest=>
          obtain⟨rfl,hs⟩:=hcut;clear HS hc hf;have HS:=Aj hs;cases h87:(decide (x>0)&&!ltInt (G (x-1)) (G R.pivot))
          ·have OI:(decide (x>0)&&!ltInt R.pi.1[x-1]! R.pi.1[R.pivot]!)=false:=by rw[←HG.1,←HG.1];exact h87
           obtain⟨T,hT⟩:∃T,Sort.partition ltInt R.pi.1 x y R.pivot=T:=⟨_,rfl⟩
           have hc:=GM b o c x y R.pivot d.size R.pi.1 wc hz3 hs.holds.1 hs.holds.2 hpv.1 hpv.2 hy hsz;obtain⟨r1,r2,r3,r4,r5,r6,r7⟩:=round_part swo_ltInt (partition_holds ltInt) hpv.1 hpv.2 (show y≤R.pi.1.size from om) KB3.1 (mid:=T.1) (ap:=T.2.1) (d4:=T.2.2) hT;have HL:=ade.1 HP2.1 OI;have HRt:=aax.1 HP2.1 OI;rw[hT]at hc HL HRt;obtain⟨mid,ap,d4⟩:=T;simp only[]at hc r1 r2 r3 r4 r5 r6 r7 HL HRt;have HC:=Aj hc;have HL:=Aj (HL ⟨r1,r2⟩);have HRt:=Aj (HRt ⟨r1,r2⟩);have IU:d4.size=d.size:=r3.trans hz3;have K6:=Aj r6;have K7:=Aj r7;have K4:=Aj r4;have K5:=Aj r5;clear hc hs hT r4 r5 r6 r7;go_upto_if 113 with(go_at_call 308;refine HC.1.mono ?_;rintro e w7 ⟨rfl,h7⟩;have H7:=Aj (HS.1.step h7);clear h7)
           by_cases h4:mid-x<y-mid
           ·have h4z:(mid:Int)-(x:Int)< (y:Int)-(mid:Int):=by omega
            have hih:=Aj (IH.1 b o c x mid R.lim d.size d4 w7 om IU H7.1.holds.1 H7.1.holds.2 r1 om hsz om K4.1);obtain⟨pL,sL⟩:=pdq_sorts ltInt swo_ltInt d4 x mid R.lim true true r1 om K4.1;have hB:=Aj (K6.1 _ pL sL).1;have hO2:=Aj (HL.1 h4);have he:=Aj (eighth r1 (show x≤y from hxy) (p:=mid));clear pL sL;go_wp2_with (go_at_call 296;refine hih.1.mono ?_;rintro e w8 ⟨rfl,h8⟩;have H8:=Aj (H7.1.step h8);clear h8);go_roundw
            case rel=>exact⟨mid+1,y,R.lim,decide (mid-x≥(y-x)/8),ap,_,by go_num,rfl,rfl,congrArg Value.bool he.1,rfl,om,hy,om,om,hB.1,H8.1,⟨by rw[←HO.1,hO2.1]⟩⟩
            case measure=>simp[intOf];omega
           ·have h4z:¬((mid:Int)-(x:Int)< (y:Int)-(mid:Int)):=by omega
            have hih:=Aj (IH.1 b o c (mid+1) y R.lim d.size d4 w7 om IU H7.1.holds.1 H7.1.holds.2 om hy hsz om K5.1);rw[show((mid+1:Nat):Int)=(mid:Int)+1 from om]at hih;obtain⟨pL,sL⟩:=pdq_sorts ltInt swo_ltInt d4 (mid+1) y R.lim true true om om K5.1;have hB:=Aj (K7.1 _ pL sL).1;have hO2:=Aj (HRt.1 h4);have he:=Aj (eighth (show mid≤y from om) (show x≤y from hxy) (p:=y) (q:=mid));clear pL sL;go_wp2_with (go_at_call 296;refine hih.1.mono ?_;rintro e w8 ⟨rfl,h8⟩;have H8:=Aj (H7.1.step h8);clear h8);go_roundw
            case rel=>exact⟨x,mid,R.lim,decide (y-mid≥(y-x)/8),ap,_,rfl,rfl,rfl,congrArg Value.bool he.1,rfl,r1,om,om,om,hB.1,H8.1,⟨by rw[←HO.1,hO2.1]⟩⟩
            case measure=>simp[intOf];omega
          ·have OI:(decide (x>0)&&!ltInt R.pi.1[x-1]! R.pi.1[R.pivot]!)=true:=by rw[←HG.1,←HG.1];exact h87
           have Xc:=OI;simp only[CW,Ch,Bool.not_eq_true']at Xc;obtain⟨T,hT⟩:∃T,Sort.partitionEqual ltInt R.pi.1 x y R.pivot=T:=⟨_,rfl⟩
           have hc:=qg b o c x y R.pivot d.size R.pi.1 wc hz3 hs.holds.1 hs.holds.2 hpv.1 hpv.2 hy hsz;obtain⟨r1,r2,r3,r4,_⟩:=round_eq swo_ltInt (partitionEqual_holds ltInt) Xc.1 hpv.1 hpv.2 (show y≤R.pi.1.size from om) KB3.1 Xc.2 (mid:=T.1) (d4:=T.2) hT;have HE:=HEq.1 HP2.1 OI;rw[hT]at hc HE;obtain⟨mid,d4⟩:=T;simp only[]at hc r1 r2 r3 r4 HE;have HC:=Aj hc;have HE:=Aj (HE ⟨r1,r2⟩);have K4:=Aj r4;clear hc hs hT r4 OI Xc;go_wp2_with (go_at_call 307;refine HC.1.mono ?_;rintro e w7 ⟨rfl,h7⟩;have H7:=Aj (HS.1.step h7);clear h7);go_roundw
           case rel=>exact⟨mid,y,R.lim,wb,wp,d4,rfl,rfl,rfl,rfl,rfl,r2,hy,om,om,K4.1,H7.1,⟨by rw[←HO.1,HE.1]⟩⟩
           case measure=>simp[intOf];omega
theorem aaz (b o c n d w) (hn:d.size=n) (hH:Holds eU w b o d) (hw:b<w.heap.size) (hsz:n<4611686018427387904):
  Calls prog 282 #[.slice (some ⟨b,o,none⟩) n c] w fun e w'=>e= .returned (.tuple #[])∧Sv w b o d (Sort.sort ltInt d) w':=by
 subst hn;have PD:=Aj (OH (d.size+1) b o c 0 d.size (bitsLen d.size) d.size d w om rfl hH hw (bH _) Ai hsz (Em ((bitsLen_le_iff d.size 62).2 om) Ah) (.inl rfl));have BL:=Aj (fun w=>Tu d.size om w);clear hH;go_enter func282,ntmps282;go_wp2_with (first
  |(go_at_call 296;refine PD.1.mono ?_;rintro e w1 ⟨rfl,h1⟩;have H1:=Aj h1;clear h1)
  |(go_at_call 185;refine(BL.1 _).mono ?_;rintro e w1 ⟨rfl,rfl⟩))
 go_end0;exact⟨rfl,H1.1⟩
end
section
open Go.Sort
def ia (l:List Nat):Array Int:=(l.map Int.ofNat).toArray
theorem l9 (l):(ia l).size=l.length:=by simp[ia]
theorem Tw (l) {j} (hj:j<l.length):(ia l)[j]! =((l[j]:Nat):Int):=by
 rw[getElem!_pos _ j (by rw[l9];exact hj)];simp[ia]
theorem aJ.holds {w base g n c l} (h:aJ w base (some ⟨g,0,none⟩) n c l):Holds eU w g 0 (ia l):=fun j hj=>by
 rw[l9]at hj;obtain⟨h1,h2⟩:=h.at_ hj;rw[Tw l hj,cK];exact⟨h1,h2⟩
theorem Sv.grown {w wr b o d0 d} (h:Sv w b o d0 d wr):w.grownBy wr (some b):=by
 obtain⟨n,os,rfl⟩:=h.at_;refine⟨rfl,rfl,rfl,sm,fun k hk hne=>?_⟩;rw[heap_grow_old _ _ (by simpa using hk)];have:¬b=k:=fun e=>hne (by rw[e])
 simp[putRow,mapBlock,DK,this]
theorem aJ.adg {w wr base g n c l l'} (h:aJ w base (some ⟨g,0,none⟩) n c l) (hs:Sv w g 0 (ia l) (ia l') wr):aJ wr base (some ⟨g,0,none⟩) n c l':=by
 have hlen:l'.length=l.length:=by have:=hs.sz;rwa[l9,l9]at this
 obtain⟨hx,hrest⟩:=h;refine⟨by rw[jL]at hx⊢;omega,?_⟩;rcases hrest with⟨h1,_⟩|⟨g2,cap,cur,hv,hb,hg,hn,hc,hz,ht⟩
 ·cases h1
 ·injection hv with hv1 hv2 hv3
  injection hv1 with hv1
  injection hv1 with hv1
  subst hv1;subst hv3;obtain⟨m,os,rfl⟩:=hs.at_;rw[C8]at hx hz ht;rw[jL]at hx;refine .inr ⟨g,c,putCells eU 0 (ia l') cur,rfl,hb,?_,hn,hc,by simp[putCells,hz],?_⟩
  ·rw[heap_grow_old _ _ (by simpa using hs.lt)];show((putRow eU (Sort.ahead w m) g 0 (ia l')).heap[g]?)=_;simp[putRow,mapBlock,DK,hg,onCells]
  ·apply List.ext_getElem?;intro k;rw[C8,List.getElem?_take];by_cases hk:k<n
   ·rw[Ps0 hk];have hk2:k<l'.length:=om;have hcz:k<cur.size:=om;have e:(vK l')[k]? =some (.int .u64 ((l'[k]:Nat):Int)):=by unfold vK;rw[BV,ja hk2];rfl
    rw[e,DR,putCells,Array.getElem?_mapIdx,DT hcz];simp only[Cb,bH,true_and,cK,Nat.sub_zero];rw[Ps0 (by rw[l9];exact hk2),Tw l' hk2]
   ·rw[Ng hk];exact(BN (by rw[jL];omega)).symm
theorem Xd (l):∃l',Sort.sort ltInt (ia l)=ia l'∧l'.Perm l∧l'.Pairwise (· ≤ ·):=by
 have h:=sortInt (l.map Int.ofNat);have hp:(List.mergeSort (l.map Int.ofNat) (fun x y=>decide (x≤y))).Perm (l.map Int.ofNat):=List.mergeSort_perm _ _;have hs:(List.mergeSort (l.map Int.ofNat) (fun x y=>decide (x≤y))).Pairwise (fun x y=>x≤y):=by
  have:=List.pairwise_mergeSort (le:=fun x y:Int=>decide (x≤y)) (fun a b c h1 h2=>by simp at*;omega) (fun a b=>by simp;omega) (l.map Int.ofNat);simpa using this
 generalize List.mergeSort (l.map Int.ofNat) (fun x y=>decide (x≤y))=q at*;have hq:q=(q.map Int.toNat).map Int.ofNat:=by
  have:∀z∈q,Int.ofNat z.toNat=z:=fun z hz=>by
   obtain⟨k,_,rfl⟩:=bY.1 (hp.mem_iff.1 hz)
   rfl
  rw[Ca];exact(List.map_id q).symm.trans (Dx fun z hz=>(this z hz).symm)
 refine⟨q.map Int.toNat,?_,?_,?_⟩
 ·apply Array.toList_inj.1;unfold ia;rw[←hq];exact h
 ·have:=hp.map Int.toNat;rw[Ca]at this;have e:l.map (Int.toNat∘Int.ofNat)=l:=by
   conv=>rhs;rw[←List.map_id l]
   exact Dx fun z _=>rfl
  rwa[e]at this
 ·exact List.Pairwise.map Int.toNat (fun a b (hab:a≤b)=>Int.toNat_le_toNat hab) hs
theorem OJ (base g n c l w) (h:aJ w base (some ⟨g,0,none⟩) n c l) (hn:n<4611686018427387904):
  Calls prog 282 #[.slice (some ⟨g,0,none⟩) n c] w fun e w'=>e= .returned (.tuple #[])∧∃l',l'.Perm l∧l'.Pairwise (· ≤ ·)∧aJ w' base (some ⟨g,0,none⟩) n c l'∧w.grownBy w' (some g):=by
 have hlen:=h.len;have hg:g<w.heap.size:=(ae h g rfl).2;refine(aaz g 0 c n (ia l) w (by rw[l9];exact hlen.symm) h.holds hg hn).mono ?_;rintro e w' ⟨rfl,hs⟩;obtain⟨l',he,hp,hu⟩:=Xd l;rw[he]at hs;exact⟨rfl,l',hp,hu,h.adg hs,hs.grown⟩
end
theorem wN (w):Calls prog 190 #[] w fun e w'=>e= .returned (.pointer (some ⟨w.heap.size,0,none⟩))∧fJ w' w.heap.size w.heap.size []∧Below w.heap.size w w':=by
 go_enter func190,ntmps190;go_wp2;go_ret;exact⟨rfl,⟨none,0,0,[],Av w _,⟨rfl,.inl ⟨rfl,rfl⟩⟩,Bt.Wr.nil,Nr _⟩,(Ae _ w).alloc Ai _⟩
theorem Ke (base p bs w) (h:fJ w base p bs) (hl:bs.length≤1000000000):
  Calls prog 193 #[.pointer (some ⟨p,0,none⟩)] w fun e w'=>∃A n c,e= .returned (.slice A n c)∧ah w' w.heap.size A n c (Ck.pk bs)∧Below w.heap.size w w':=by
 obtain⟨A,n,c,L,h1,ho,hw,hp⟩:=h;have c0:w.cell? ⟨p,0,none⟩=some (.slice A n c):=Co _ _ 0 _ _ _ h1;obtain rfl:=hw.inj (Ck.LU bs);have hn:n≤1000000000:=by have h1:=ho.len;have h2:=hw.len;omega
 have R:=Aj ho.rd;clear ho h1;go_enter func193,ntmps193;go_wp2_with (go_at_call 164;refine(fQ A n c w.heap.size _ w R.1 Ai om).mono ?_;rintro e w1 ⟨A1,c1,rfl,ho,hb⟩);go_ret;exact⟨A1,n,c1,rfl,ho,hb⟩
def Br (w:World) (p:Nat) (r:List Bool):Prop:=
 ∃A n c L at_,w.heap[p]? =some (.cells #[.slice A n c,.int .i64 ((at_:Nat):Int)] 329 (0,0))∧bf w p A n c L∧n≤100000000∧at_≤8*n∧r=(Bt.bits L).drop at_
theorem Br.lt {w p r} (h:Br w p r):p<w.heap.size:=by
 obtain⟨A,n,c,L,at_,h1,-⟩:=h;exact(Ge.1 h1).1
theorem Br.below {w w' p B r} (h:Br w p r) (hb:Below B w w') (hB:p<B):Br w' p r:=by
 obtain⟨A,n,c,L,at_,h1,h2,h3,h4,h5⟩:=h;exact⟨A,n,c,L,at_,(hb.block p hB).trans h1,bf.below h2 (hb.mono om),h3,h4,h5⟩
theorem Br.drewN {w p r} (h:Br w p r) (k):Br (w.drewN k) p r:=h
theorem Br.parts {w p r} (h:Br w p r):∃A n c L at_,w.cell? ⟨p,0,none⟩=some (.slice A n c)∧w.cell? ⟨p,1,none⟩=some (.int .i64 ((at_:Nat):Int))∧w.frozen? ⟨p,1,none⟩=false∧
  bf w p A n c L∧n≤100000000∧r.length=8*n-at_∧at_≤8*n∧(∀(k) (hk:k<r.length),r[k]=Bt.bit L (at_+k))∧
  ∀k,k≤r.length→Br (w.setCell ⟨p,1,none⟩ (.int .i64 ((at_+k:Nat):Int))) p (r.drop k):=by
 obtain⟨A,n,c,L,at_,h1,h2,h3,h4,rfl⟩:=h;have hn:=h2.len;have hl:((Bt.bits L).drop at_).length=8*n-at_:=by rw[mg,Bt.iB,hn]
 refine⟨A,n,c,L,at_,Co _ _ 0 _ _ _ h1,Co _ _ 1 _ _ _ h1,Fr _ _ 1 _ _ h1,h2,h3,hl,h4,fun k hk=>?_,fun k hk=>?_⟩
 ·rw[DZ,Bt.jA]
 ·rw[hl]at hk;exact⟨A,n,c,L,at_+k,by rw[Ag w p 1 _ _ _ h1];rfl,h2.setCell (p:=⟨p,1,none⟩) Ai _,h3,om,by rw[List.drop_drop]⟩
theorem GN (A n c B L w) (hv:bf w B A n c L) (hB:B≤w.heap.size) (hn:n≤100000000):
  Calls prog 177 #[.slice A n c] w fun r w'=>∃p,r= .returned (.pointer (some ⟨p,0,none⟩))∧w.heap.size≤p∧Br w' p (Bt.bits L)∧Below w.heap.size w w':=by
 have Hv:=Aj hv;have hlc:=hv.1;clear hv;go_enter func177,ntmps177;go_wp2_with (go_at_call 164;refine(fQ _ _ _ B L _ Hv.1 hB om).mono ?_;rintro e w1 ⟨A1,c1,rfl,ho,hb⟩);go_ret;have hz:=hb.size;exact⟨w1.heap.size,rfl,hz,⟨A1,n,c1,L,0,Av w1 _,ho.rd.alloc Ai _,hn,bH _,rfl⟩,hb.alloc hz _⟩
theorem xP (p r w) (h:Br w p r):
  Calls prog 224 #[.pointer (some ⟨p,0,none⟩)] w fun e w'=>e= .returned (.int .i64 (r.length:Int))∧∃q,w'=w.drewN q:=by
 obtain⟨A,n,c,L,at_,c0,c1,f1,h2,h3,hl,h4,hb,hm⟩:=h.parts;have hl':Kept ((r.length:Int)=8*(n:Int)-(at_:Int)):=⟨om⟩
 have h4':(at_:Int)≤8*(n:Int):=om;have h3':(n:Int)≤100000000:=om;rw[hl'.1];clear h h2 hl hb hm h4 h3;go_enter func224,ntmps224;go_wp2;go_quiet (fail);go_wp2;go_ret;exact⟨rfl,_,rfl⟩
theorem Xe (c:UInt8) (j):bits .and .u64 ((c.toNat:Int)/2^j) 1=(((c.toNat.testBit j).toNat:Nat):Int):=by
 have hc:=c.toNat_lt;have e1:(c.toNat:Int)/2^j=((c.toNat/2^j:Nat):Int):=sm;have hd:c.toNat/2^j<256:=Em (Nat.div_le_self _ _) hc;rw[e1,DC];generalize c.toNat/2^j=q at*;rw[and_one_u64 _ om om];rcases Df q with h|h
 ·simp[h];omega
 ·simp[h];omega
theorem MG (p at_ A n c L w) (c0:w.cell? ⟨p,0,none⟩=some (.slice A n c)) (h2:bf w p A n c L) (h3:n≤100000000) (h4:at_<8*n):
  Calls prog 225 #[.pointer (some ⟨p,0,none⟩),.int .i64 (at_:Int)] w fun e w'=>e= .returned (.int .u64 (((Bt.bit L at_).toNat:Nat):Int))∧w=w':=by
 have hn:=h2.len;have hlt:at_/8<L.length:=om;obtain⟨b,off,rfl,hb,hc⟩:=h2.at_ hlt;have hB:Kept (Bt.bit L at_=L[at_/8].toNat.testBit (7-at_%8)):=⟨by unfold Bt.bit;rw[fZ,ja hlt];rfl⟩
 have hS:=Aj (Xe L[at_/8] (7-at_%8));have hch:=L[at_/8].toNat_lt;rw[hB.1];obtain⟨ch,adh⟩:∃ch,ch=L[at_/8]:=⟨_,rfl⟩
 rw[←adh]at hc hS hch⊢;have hi1:(at_:Int)/8< (n:Int):=om;have hi0:(0:Int)≤(at_:Int)/8:=om;have hi2:((at_:Int)/8).toNat=at_/8:=om;have w6:(7-(at_:Int)%8).toNat=7-at_%8:=om;have w7:¬7-(at_:Int)%8<0:=om;have hw:Kept (IntKind.u64.wrap ((ch.toNat:Int)/2^ (7-at_%8))=(ch.toNat:Int)/2^ (7-at_%8)):=⟨by
  have e1:(ch.toNat:Int)/2^ (7-at_%8)=((ch.toNat/2^ (7-at_%8):Nat):Int):=sm;have:=Nat.div_le_self ch.toNat (2^ (7-at_%8));rw[e1,Bv];generalize ch.toNat/2^ (7-at_%8)=q at*;omega⟩
 clear hB h2 hlt adh hn;go_enter func225,ntmps225;go_wp2;go_ret;exact⟨by show Ending.returned (.int .u64 (bits .and .u64 (IntKind.u64.wrap ((ch.toNat:Int)/2^ (7-at_%8))) 1))=_;rw[hw.1,hS.1],rfl⟩
theorem Tx (l b) (h:l.length<64):
  bits .or .u64 (IntKind.u64.wrap ((Bt.oP l:Int)*2)) ((b.toNat:Nat):Int)=((Bt.oP (l++[b]):Nat):Int):=by
 have h1:=Bt.yO l;have h2:2^l.length≤2^63:=kR Ah om;have hb:b.toNat≤1:=by cases b<;>simp
 have e1:IntKind.u64.wrap ((Bt.oP l:Int)*2)=((2*Bt.oP l:Nat):Int):=by
  rw[Bv];omega
 rw[e1,bits_or_u64_nat _ _ om om,Bt.Q4]
 congr 1
 have h3:=Nat.shiftLeft_add_eq_or_of_lt (i:=1) (b:=b.toNat) om (Bt.oP l);rw[Ce,El]at h3;exact h3.symm
theorem dL (p n:Nat) (r w) (h:Br w p r) (hn:n≤64):
  Calls prog 213 #[.pointer (some ⟨p,0,none⟩),.int .i64 (n:Int)] w fun e w'=>e= .returned (.tuple #[.int .u64 ((Tm.rd n r).1:Int),.int .i64 (Tm.rd n r).2.2])∧Br w' p (Tm.rd n r).2.1∧w.grownBy w' (some p):=by
 have H:=Aj h;have LF:=Aj (xP p r w h);clear h;have hn0:¬(n:Int)<0:=om;have hn1:¬(64:Int)< (n:Int):=om;by_cases hlt:r.length<n
 ·have hr:Tm.rd n r=(0,r,3):=by unfold Tm.rd;rw[Ps0 hlt]
  rw[hr];have hlt':(r.length:Int)< (n:Int):=om;clear hr hlt;go_enter func213,ntmps213;go_wp2_with (go_at_call 224;refine LF.1.mono ?_;rintro e w1 ⟨rfl,q,rfl⟩);go_ret2;exact⟨rfl,H.1.drewN q,rfl,rfl,rfl,Nr _,fun _ _ _=>rfl⟩
 ·have hr:Tm.rd n r=(Bt.oP (r.take n),r.drop n,0):=by unfold Tm.rd;rw[Ng hlt]
  rw[hr];have alN:¬(r.length:Int)< (n:Int):=om;clear hr;go_enter func213,ntmps213;go_wp2_with (go_at_call 224;refine LF.1.mono ?_;rintro e w1 ⟨rfl,q,rfl⟩);go_loopw [6,23] (fun x i wr=>∃k:Nat,k≤n∧i= .int .i64 k∧x= .int .u64 ((Bt.oP (r.take k):Nat):Int)∧Br wr p (r.drop k)∧w.grownBy wr (some p)) (fun _ i _=>n-(intOf i).toNat)
  case atStart=>exact⟨0,om,rfl,rfl,H.1.drewN q,rfl,rfl,rfl,Nr _,fun _ _ _=>rfl⟩
  case round=>
   obtain⟨k,hk,rfl,rfl,hB,hG⟩:=hrel;by_cases hkn:k<n
   ·have hkn':(k:Int)< (n:Int):=by omega
    obtain⟨A,m,c,L,at_,c0,c1,f1,h2,h3,hl,h4,hb,hm⟩:=hB.parts;rw[mg]at hl;have BT:=Aj (fun j:Nat=>MG p at_ A m c L (wr.drewN j) c0 (h2.drewN j) h3 om);have HM:=Aj (hm 1 (by rw[mg];omega));have hb0:=hb 0 (by rw[mg];omega);have ada:(at_:Int)≤800000000:=om;have HG:=Aj hG;have U:=Aj (Tx (r.take k) (Bt.bit L at_) (by rw[oV];omega));have HU:Kept (r.take k++[Bt.bit L at_]=r.take (k+1)):=⟨by
     rw[DZ]at hb0;have hb1:r[k]=Bt.bit L at_:=hb0;rw[Ts om,hb1]⟩
    rw[HU.1]at U;clear hB hb hm hb0 h2 hl h4 h3 hG;obtain⟨x,hx⟩:∃x,x=Bt.oP (r.take k):=⟨_,rfl⟩
    rw[←hx]at U⊢;clear hx;go_wp2;go_quiet ((go_at_call 225;exact(BT.1 _).mono fun _ _ q=>⟨q.1,_,q.2.symm⟩));go_wp2;go_roundw
    case rel=>
     rw[List.drop_drop]at HM;exact⟨k+1,om,by go_num,by rw[U.1],HM.1,HG.1.trans (((⟨rfl,rfl,rfl,Nr _,fun _ _ _=>rfl⟩:wr.grownBy (wr.drewN nq) (some p))).trans (au _ ⟨p,1,none⟩ _))⟩
    case measure=>simp[intOf];omega
   ·obtain rfl:k=n:=by omega
    have HG:=Aj hG;have HB:=Aj hB;clear hG hB;go_wp2;go_ret2;exact⟨rfl,HB.1,HG.1⟩
theorem jG (w:World) (a b):(w.drewN a).drewN b=w.drewN (a+b):=by
 unfold World.drewN;simp[fA]
theorem GQ (p r w) (h:Br w p r):
  Calls prog 180 #[.pointer (some ⟨p,0,none⟩)] w fun e w'=>e= .returned (.int .i64 (Ck.fin r))∧∃q,w'=w.drewN q:=by
 have H:=Aj h;have LF:=Aj (xP p r w h);by_cases h8:8≤r.length
 ·have hf:Ck.fin r=4:=by unfold Ck.fin;rw[Ps0 (.inl h8)]
  rw[hf];have h8':(8:Int)≤(r.length:Int):=om;clear h hf;go_enter func180,ntmps180;go_wp2_with (go_at_call 224;refine LF.1.mono ?_;rintro e w1 ⟨rfl,q,rfl⟩);go_ret;exact⟨rfl,_,rfl⟩
 ·have alO:(r.length:Int)<8:=by omega
  obtain⟨A,m,c,L,at_,c0,c1,f1,h2,h3,hl,h4,hb,hm⟩:=h.parts;have BT:=Aj (fun(j k:Nat) (hk:k<r.length)=>MG p (at_+k) A m c L (w.drewN j) c0 (h2.drewN j) h3 om);have HB:=Aj hb;have ada:(at_:Int)≤800000000:=om;have HL:=Aj hl;clear h hb hm h2 h4 h3 hl;go_enter func180,ntmps180;go_wp2_with (go_at_call 224;refine LF.1.mono ?_;rintro e w1 ⟨rfl,q,rfl⟩);go_loopw [12] (fun i wr=>∃k q:Nat,k≤r.length∧i= .int .i64 k∧wr=w.drewN q∧Kept (∀(j:Nat) (hj:j<r.length),j<k→r[j]=false)) (fun i _=>r.length-(intOf i).toNat)
  case atStart=>exact⟨0,q,om,rfl,rfl,⟨fun j _ h=>om⟩⟩
  case round=>
   obtain⟨k,q2,hk,rfl,rfl,hz⟩:=hrel;by_cases hkn:k<r.length
   ·have hkn':(k:Int)< (r.length:Int):=by omega
    have BK:=Aj (fun j:Nat=>BT.1 j k hkn);have hbk:Kept (r[k]=Bt.bit L (at_+k)):=⟨HB.1 k hkn⟩
    have eak:((at_+k:Nat):Int)=(at_:Int)+(k:Int):=om;rw[eak]at BK;cases hbit:Bt.bit L (at_+k)with
    |true=>
     rw[hbit]at BK hbk;have hf:Kept (Ck.fin r=4):=⟨by unfold Ck.fin;rw[Ps0 (.inr (by rw[←hbk.1];exact gG hkn))]⟩
     simp only[Bool.toNat_true]at BK;go_wp2;go_quiet ((go_at_call 225;exact(BK.1 _).mono fun _ _ q=>⟨q.1,_,q.2.symm⟩));go_wp2;go_ret;exact⟨by rw[hf.1];rfl,_,by first|rfl|exact jG _ _ _⟩
    |false=>
     rw[hbit]at BK hbk;simp only[Bool.toNat_false]at BK;have hz':Kept (∀(j:Nat) (hj:j<r.length),j<k+1→r[j]=false):=⟨fun j hj hjk=>by
      rcases Nat.lt_or_eq_of_le (Nat.le_of_lt_succ hjk)with h|h
      ·exact hz.1 j hj h
      ·subst h;exact hbk.1⟩
     clear hz hbk;go_wp2;go_quiet ((go_at_call 225;exact(BK.1 _).mono fun _ _ q=>⟨q.1,_,q.2.symm⟩));go_wp2;go_roundw
     case rel=>exact⟨k+1,_,om,by go_num,by first|rfl|exact jG _ _ _,hz'⟩
     case measure=>simp[intOf];omega
   ·obtain rfl:k=r.length:=by omega
    have hf:Kept (Ck.fin r=0):=⟨by
     unfold Ck.fin;rw[Ng];rintro(h|h)
     ·omega
     ·obtain⟨j,hj,hj2⟩:=jw.1 h;rw[hz.1 j hj hj]at hj2;cases hj2⟩
    clear hz;go_wp2;go_ret;exact⟨by rw[hf.1];rfl,_,rfl⟩
def Tm.cells:List Value:=[.int .u64 0,.int .i64 1,.int .i64 0,.int .u64 2,.int .i64 2,.int .i64 7,.int .u64 6,.int .i64 3,.int .i64 12,.int .u64 14,.int .i64 4,.int .i64 32,.int .u64 15,.int .i64 4,.int .i64 64]
def qh (w:World):Prop:=∀(i:Nat) (v:Value),Tm.cells[i]? =some v→w.cell? ⟨0,i,none⟩=some v
theorem qh.lt {w} (h:qh w):0<w.heap.size:=Bc w _ (h 0 _ rfl)
theorem qh.below {w w'} (h:qh w) (hb:Below w.heap.size w w'):qh w':=fun i v hi=>(hb.cell (p:=⟨_,i,none⟩) h.lt).trans (h i v hi)
theorem qh.gr {w w'} (h:qh w) (hg:Gr w w'):qh w':=fun i v hi=>(hg.cell _ i h.lt).trans (h i v hi)
theorem Tm.ex7 (x:Nat):wrap64 (IntKind.u64.wrap ((x:Int)*144115188075855872))/144115188075855872=Tm.ex x 7:=by
 rw[Bv];unfold Tm.ex wrap64;rw[Ng Ah];split<;>omega
theorem Tm.agv (x:Nat):wrap64 (IntKind.u64.wrap ((x:Int)*4503599627370496))/4503599627370496=Tm.ex x 12:=by
 rw[Bv];unfold Tm.ex wrap64;rw[Ng Ah];split<;>omega
theorem Tm.agw (x:Nat):wrap64 (IntKind.u64.wrap ((x:Int)*4294967296))/4294967296=Tm.ex x 32:=by
 rw[Bv];unfold Tm.ex wrap64;rw[Ng Ah];split<;>omega
theorem Tm.agx (x:Nat):wrap64 (IntKind.u64.wrap (x:Int))=Tm.ex x 64:=by
 rw[Bv];unfold Tm.ex wrap64;rw[Ng Ah];split<;>omega
theorem Tm.OP {x} (hx:Tm.In x) {i} (hi:i≤4):Tm.ex (Tm.wd x) (Tm.fw i)=x↔Tm.fm x≤i:=by
 unfold Tm.In at hx;rcases(by omega:i=0∨i=1∨i=2∨i=3∨i=4)with rfl|rfl|rfl|rfl|rfl
 ·simp only[Tm.fw];unfold Tm.ex Tm.fm;rw[Ps0 rfl];split<;>(try split)<;>(try split)<;>(try split)<;>omega
 all_goals
  simp only[Tm.fw];unfold Tm.ex Tm.fm Tm.wd;rw[Ng Ah];split<;>split<;>(try split)<;>(try split)<;>(try split)<;>omega
theorem Tm.zM (x):IntKind.u64.wrap x=(Tm.wd x:Int):=by
 rw[Bv];unfold Tm.wd;omega
theorem uR (x i:Nat) (w) (hx:x<18446744073709551616) (hi:i≤4):
  Calls prog 252 #[.int .u64 (x:Int),.int .i64 ((Tm.fw i:Nat):Int)] w fun e w'=>e= .returned (.int .i64 (Tm.ex x (Tm.fw i)))∧w=w':=by
 have Hx:=Aj hx;clear hx;rcases(by omega:i=0∨i=1∨i=2∨i=3∨i=4)with rfl|rfl|rfl|rfl|rfl
 ·go_enter func252,ntmps252;simp only[Tm.fw];go_wp2;go_ret;exact⟨rfl,rfl⟩
 all_goals
  go_enter func252,ntmps252;simp only[Tm.fw];go_wp2;go_ret
  first|exact⟨by rw[←Tm.ex7];rfl,rfl⟩|exact⟨by rw[←Tm.agv];rfl,rfl⟩|exact⟨by rw[←Tm.agw];rfl,rfl⟩|exact⟨by rw[←Tm.agx];rfl,rfl⟩
theorem Tm.idx (k:Nat) (hk:k<5) (w):(Instr.index 356 (.agg Tm.cells.toArray) (.int .i64 (k:Int))).run prog w= .ok (.agg #[.int .u64 ((Tm.fb k:Nat):Int),.int .i64 ((Tm.fl k:Nat):Int),.int .i64 ((Tm.fw k:Nat):Int)]) w:=by
 rcases(by omega:k=0∨k=1∨k=2∨k=3∨k=4)with rfl|rfl|rfl|rfl|rfl
 all_goals kernel_rfl
theorem uS (x w) (hx:Tm.In x) (hF:qh w):
  Calls prog 242 #[.int .i64 x] w fun e w'=>e= .returned (.int .i64 ((Tm.fm x:Nat):Int))∧Gr w w':=by
 have h0:=hF 0 _ rfl;have h1:=hF 1 _ rfl;have h2:=hF 2 _ rfl;have h3:=hF 3 _ rfl;have h4:=hF 4 _ rfl;have h5:=hF 5 _ rfl;have h6:=hF 6 _ rfl;have h7:=hF 7 _ rfl;have h8:=hF 8 _ rfl;have h9:=hF 9 _ rfl;have h10:=hF 10 _ rfl;have h11:=hF 11 _ rfl;have h12:=hF 12 _ rfl;have h13:=hF 13 _ rfl;have h14:=hF 14 _ rfl;have hwd:=Tm.zM x;have hwl:=Tm.LK x;have HFI:=Aj (fun i (hi:i≤4)=>Tm.OP hx (i:=i) hi);have HLE:=Aj (Tm.FH x);clear hx;go_enter func242,ntmps242;go_wp2;clear h0 h1 h2 h3 h4 h5 h6 h7 h8 h9 h10 h11 h12 h13 h14;go_loopw [6] (fun i wr=>∃k:Nat,k≤4∧i= .int .i64 k∧Kept (k≤Tm.fm x)∧Gr w wr) (fun i _=>5-(intOf i).toNat)
 case atStart=>exact⟨0,om,rfl,⟨om⟩,Gr.refl w⟩
 case round=>
  obtain⟨k,hk,rfl,hj,hG⟩:=hrel;have hk5:(k:Int)<5:=om;have hix:=fun w=>Tm.idx k om w
  simp only[Tm.cells]at hix;have EX:=Aj (fun w=>uR (Tm.wd x) k w hwl hk);have HG:=Aj hG;clear hG;by_cases he:Tm.ex (Tm.wd x) (Tm.fw k)=x
  ·have hfm:Kept (Tm.fm x=k):=⟨by have:=(HFI.1 k hk).1 he;have:=hj.1;omega⟩
   have HE:=Aj he;clear he;go_wp2_with (go_at_call 252;refine(EX.1 _).mono ?_;rintro e w1 ⟨rfl,hw⟩;obtain rfl:=hw;rw[HE.1]);go_ret;exact⟨by rw[hfm.1];rfl,HG.1.alloc _⟩
  ·have hfm:Kept (k<Tm.fm x):=⟨by have h1:=(HFI.1 k hk).2;have:=hj.1;rcases Nat.lt_or_eq_of_le hj.1 with h|h;exact h;exact absurd (h1 om) he⟩
   have hk4:=hfm.1;have hle:=HLE.1;have HE:=Aj he;obtain⟨y,hy⟩:∃y,y=Tm.ex (Tm.wd x) (Tm.fw k):=⟨_,rfl⟩
   rw[←hy]at HE;have HY:=Aj hy;have hyx:(y==x)=false:=by have:=HE.1;simpa using this
   clear he hy;go_wp2_with (go_at_call 252;refine(EX.1 _).mono ?_;rintro e w1 ⟨rfl,hw⟩;obtain rfl:=hw;rw[←HY.1]);go_roundw
   case rel=>exact⟨k+1,om,by go_num,⟨hk4⟩,HG.1.alloc _⟩
   case measure=>simp[intOf];omega
section
attribute [local go_sem] Oper.semAt_some
theorem Tm.zN (x):wrap64 x=Tm.sw x:=by unfold wrap64 Tm.sw;omega
def Tm.uT:List Int→List Int
 |[]=>[]
 |t::l=>Tm.yQ t 0 l
theorem Tm.Ty:∀(l) (t d),∀x∈Tm.yQ t d l,Tm.In x
 |[],_,_,x,h=>by simp[Tm.yQ]at h
 |u::l,t,d,x,h=>by
  rw[Tm.yQ]at h;rcases eH.1 h with rfl|h
  ·exact Tm.qJ _
  ·exact Tm.Ty l _ _ x h
theorem Tm.Xf (l):∀x∈Tm.uT l,Tm.In x:=by
 cases l with
 |nil=>simp[Tm.uT]
 |cons t l=>exact Tm.Ty l t 0
def Xg (x:Int):Array Value:= #[.int .i64 x]
theorem uU (n bx B N m c A l w X) (hw:Boxed w bx 281 (.slice A m c)) (hr:vX w B A m c l) (hN:N≤w.heap.size)
  (hX:∀pre W,¬X pre W):
  rO n prog 270 #[.pointer (some ⟨bx,0,none⟩)] Xg (fun _=>False) (EO B bx) (Tm.uT l) w X:=by
 intro lp J Jx W hK hJ hJx Ql aW h0;have hW:Boxed W bx 281 (.slice A m c):=hK.2.trans hw;have hR:vX W B A m c l:=hr.below hK.1;have Yt:N≤W.heap.size:=Lt hN hK.1.size;have bL:=Aj aW;have HX:Kept (∀pre W,¬Jx pre W):=⟨fun pre W h=>hX pre W (Ql pre W h)⟩
 have hln:=Aj hr.len;have hc1:=hr.1;have hc2:=hr.2.1;unfold maxLen at hc2;have HJ:=Aj hJ;clear hw hK hN aW hJ hX Ql hr hJx;refine Bl.2 ?_;go_enter func270,ntmps270;go_wp2;go_loopw [3,4] (fun d i wr=>∃(pre:List Int) (k:Nat) (dd:Int),i= .int .i64 k∧d= .int .i64 dd∧Boxed wr bx 281 (.slice A m c)∧vX wr B A m c l∧N≤wr.heap.size∧1≤k∧(k≤m∨k=1)∧
  Kept (Tm.uT l=pre++Tm.yQ (l.getD (k-1) 0) dd (l.drop k))∧Kept (J pre wr)) (fun _ i _=>m+1-(intOf i).toNat)
 case atStart=>
  refine⟨[],1,0,rfl,rfl,hW,hR,Yt,om,.inr rfl,⟨?_⟩,⟨h0⟩⟩;cases l with
  |nil=>rfl
  |cons t l=>rfl
 case round=>
  clear hW hR h0 Yt;obtain⟨pre,k,dd,rfl,rfl,hb,hr,hNr,hk1,hk,hm1,hj⟩:=hrel;have hc:=hb.cell;have Hb:=Aj hb;have Hr:=Aj hr;clear hb hr;by_cases hlt:k<m
  ·have hlt':(k:Int)< (m:Int):=by omega
   have hkl:k<l.length:=by have:=hln.1;omega
   obtain⟨b,off,rfl,kK,hck⟩:=Hr.1.at_ hkl;obtain⟨b',off',e,_,adi⟩:=Hr.1.at_ (k:=k-1) om;simp only[gT,Cf,BJ]at e;obtain⟨rfl,rfl⟩:=e;have i1:(0:Int)≤(k:Int)-1:=om;have i2:((k:Int)-1).toNat=k-1:=om;have i3:(k:Int)-1< (m:Int):=om;obtain⟨u,hu⟩:∃u,u=l[k]:=⟨_,rfl⟩
   obtain⟨t,ht⟩:∃t,t=l[k-1]:=⟨_,rfl⟩
   have hm2:Kept (Tm.uT l=pre++[Tm.sw (Tm.sw (u-t)-dd)]++Tm.yQ (l.getD (k+1-1) 0) (Tm.sw (u-t)) (l.drop (k+1))):=⟨by
    rw[hm1.1,o9 hkl,Tm.yQ];have e1:l.getD (k-1) 0=t:=by rw[ht,fZ,ja om];rfl
    have e2:l.getD (k+1-1) 0=u:=by rw[hu,Bz,fZ,ja hkl];rfl
    rw[e1,e2,←hu];simp⟩
   rw[←hu]at hck;rw[←ht]at adi;clear hu ht hkl;go_wp2;go_quiet (fail);obtain⟨w2,hw2⟩:∃w2,w2=wr.drewN nq:=⟨_,rfl⟩
   have hgd:wr.grownBy w2 none:=by rw[hw2];exact⟨rfl,rfl,rfl,Nr _,fun _ _ _=>rfl⟩
   have hj2:=Aj (HJ.1 _ _ _ none hj.1 hgd (fun r e=>by cases e));have Hb2:=Aj (show Boxed w2 bx 281 _ from by rw[hw2];exact Hb.1);have Xh:=Aj (show vX w2 B _ m c l from by rw[hw2];exact Hr.1.drewN nq);have hN2:N≤w2.heap.size:=by rw[hw2];exact hNr
   rw[←hw2];clear hw2 hgd hc hck adi hj Hb Hr hNr;obtain⟨fn,tmps,assign,body,hy,oN⟩:=bL.1 pre (Tm.sw (Tm.sw (u-t)-dd)) w2 hj2.1 ⟨_,hm2.1.symm⟩;unfold Xg at hy;simp only[←Tm.zN]at hy oN hm2;go_upto_region 5 with(fail)
   refine(Bu (n:=n)).1 ?_
   gi_wp2
   refine⟨(fun h=>by simp[Fence.wide]at h),oN.mono ?_⟩;rintro e W' (⟨rfl,hj',hb'⟩|⟨rfl,rf⟩)
   ·have Hb3:=Aj (show Boxed W' bx 281 _ from hb'.2.trans Hb2.1);have Hr3:=Aj (Xh.1.below hb'.1);have hz:=hb'.1.size;have Yu:=Aj hj';clear hj' hb' oN hy
    gi_wp2
    go_wp2;go_roundw
    case rel=>exact⟨pre++[wrap64 (wrap64 (u-t)-dd)],k+1,wrap64 (u-t),by go_num,rfl,Hb3.1,Hr3.1,om,om,om,⟨hm2.1⟩,Yu⟩
    case measure=>simp[intOf];omega
   ·exact absurd rf (HX.1 _ _)
  ·have hm2:Kept (Tm.uT l=pre):=⟨by
    rw[hm1.1,ru (by have:=hln.1;omega),Tm.yQ,Bh]⟩
   have hge':(m:Int)≤(k:Int):=om;go_wp2;go_end0;exact⟨⟨_,rfl⟩,.inl (by rw[hm2.1];exact hj.1)⟩
theorem GU (A n c w):Calls prog 241 #[.slice A n c] w fun e w'=>
  e= .returned (.func (.func 270) #[] #[.pointer (some ⟨w.heap.size,0,none⟩)])∧w'=w.alloc (.cells #[.slice A n c] 281):=by
 go_enter func241,ntmps241;go_wp2;go_ret;exact⟨rfl,rfl⟩
end
theorem Gr.grown {w w'} (h:Gr w w') (row):w.grownBy w' row:=by
 have hb:=h.below;exact⟨hb.os,hb.tape,hb.output,hb.size,fun k hk _=>hb.block k hk⟩
theorem qh.grown {w w' p} (h:qh w) (hg:w.grownBy w' (some p)) (hp:0<p):qh w':=fun i v hi=>
 (AR (hg.block _ h.lt (fun e=>by have h1:0=p:=Oj e;omega))).trans (h i v hi)
theorem Br.gr {w w' p r} (h:Br w p r) (hg:Gr w w'):Br w' p r:=h.below hg.below h.lt
theorem Br.grown {w w' p r} (h:Br w p r) {row} (hg:w.grownBy w' row) (hr:∀g,row=some g→p<g):Br w' p r:=by
 have hp:=h.lt;obtain⟨A,n,c,L,at_,h1,h2,h3,h4,h5⟩:=h;exact⟨A,n,c,L,at_,(hg.block p hp (fun e=>by have:=hr _ e.symm;omega)).trans h1,h2.grown hg om (fun g e=>by have:=hr _ e;omega),h3,h4,h5⟩
theorem qh.past {w w'} (h:qh w) {row} (hg:w.grownBy w' row) (hr:∀g,row=some g→0<g):qh w':=fun i v hi=>
 (AR (hg.block _ h.lt (fun e=>by have:=hr _ e.symm;exact absurd this (Ez _)))).trans (h i v hi)
theorem Tm.jH (n r):(Tm.rd n r).1<2^n:=by
 unfold Tm.rd;split
 ·exact Nat.pow_pos Ah
 ·have h:=Bt.yO (r.take n);have:(r.take n).length=n:=by rw[oV];omega
  rwa[this]at h
theorem Tm.qi (n r):(Tm.rd n r).2.2=0∨(Tm.rd n r).2.2=3:=by unfold Tm.rd;split<;>simp
theorem GV (p r w) (h:Br w p r):
  Calls prog 251 #[.pointer (some ⟨p,0,none⟩)] w fun e w'=>e= .returned (.tuple #[.int .i64 (((Tm.gf 4 0 r).1:Nat):Int),.int .i64 (Tm.gf 4 0 r).2.2])∧Br w' p (Tm.gf 4 0 r).2.1∧w.grownBy w' (some p):=by
 obtain⟨Q,hQ⟩:∃Q,Tm.gf 4 0 r=Q:=⟨_,rfl⟩
 rw[hQ];have H:=Aj h;have HQ:=Aj hQ;clear h hQ;go_enter func251,ntmps251;go_wp2;go_loopw [7] (fun i wr=>∃(k:Nat) (r2:List Bool),k≤4∧i= .int .i64 k∧Kept (Br wr p r2)∧Kept (Tm.gf (4-k) k r2=Q)∧w.grownBy wr (some p)) (fun i _=>4-(intOf i).toNat)
 case atStart=>exact⟨0,r,om,rfl,H,HQ,Dn _ _⟩
 case round=>
  obtain⟨k,r2,hk,rfl,hB,hq,hG⟩:=hrel;have HG:=Aj hG;clear hG;by_cases hlt:k<4
  ·have hlt':(k:Int)<4:=by omega
   have BT:=Aj (dL p 1 r2 wr hB.1 om);have hstep:Kept ((if(Tm.rd 1 r2).2.2≠0∨(Tm.rd 1 r2).1=0 then(k,(Tm.rd 1 r2).2)else Tm.gf (4-(k+1)) (k+1) (Tm.rd 1 r2).2.1)=Q):=⟨by
    have:=hq.1;rw[show 4-k=(4-(k+1))+1 from om,Tm.gf]at this;exact this⟩
   obtain⟨X,hX⟩:∃X,X=Tm.rd 1 r2:=⟨_,rfl⟩
   rw[←hX]at BT hstep;clear hX hq;obtain⟨x,r3,e⟩:=X;simp only[]at BT hstep;by_cases he:e≠0∨x=0
   ·have hs2:Kept ((k,r3,e)=Q):=⟨by have:=hstep.1;rwa[Ps0 he]at this⟩
    have hor:((e !=0)||((x:Int)==0))=true:=by rcases he with h|h<;>simp[h]
    by_cases he0:e=0
    ·subst he0;obtain rfl:x=0:=by simpa using he
     clear hstep he;go_wp2_with (go_at_call 213;refine BT.1.mono ?_;rintro e w1 ⟨rfl,hb1,hg1⟩;have B1:=Aj hb1;have G1:=Aj hg1;clear hb1 hg1);go_ret2;exact⟨by rw[←hs2.1];rfl,by rw[←hs2.1];exact B1.1,HG.1.trans G1.1⟩
    ·have hne:(e !=0)=true:=by simpa using he0
     clear hstep he he0;go_wp2_with (go_at_call 213;refine BT.1.mono ?_;rintro e w1 ⟨rfl,hb1,hg1⟩;have B1:=Aj hb1;have G1:=Aj hg1;clear hb1 hg1);go_ret2;exact⟨by rw[←hs2.1];rfl,by rw[←hs2.1];exact B1.1,HG.1.trans G1.1⟩
   ·have hs2:Kept (Tm.gf (4-(k+1)) (k+1) r3=Q):=⟨by have:=hstep.1;rwa[Ng he]at this⟩
    have he0:e=0:=by
     by_cases h:e=0
     ·exact h
     ·exact absurd (.inl h) he
    subst he0;have hx0:((x:Int)==0)=false:=by simp;intro h;exact he (.inr h)
    clear hstep he;go_wp2_with (go_at_call 213;refine BT.1.mono ?_;rintro e w1 ⟨rfl,hb1,hg1⟩;have B1:=Aj hb1;have G1:=Aj hg1;clear hb1 hg1);go_roundw
    case rel=>exact⟨k+1,r3,om,by go_num,B1,hs2,HG.1.trans G1.1⟩
    case measure=>simp[intOf];omega
  ·obtain rfl:k=4:=by omega
   have hs2:Kept ((4,r2,0)=Q):=⟨hq.1⟩
   go_wp2;go_ret2;exact⟨by rw[←hs2.1];rfl,by rw[←hs2.1];exact hB.1,HG.1⟩
theorem Tm.adj (k i r):i≤(Tm.gf k i r).1∧(Tm.gf k i r).1≤i+k:=by
 induction k generalizing i r with
 |zero=>simp[Tm.gf]
 |succ k ih=>
  rw[Tm.gf];split
  ·simp
  ·have:=ih (i+1) (Tm.rd 1 r).2.1;omega
theorem Tm.Y8 (i):Tm.fw i≤64:=by unfold Tm.fw;split<;>omega
theorem wO (p r w) (h:Br w p r) (hF:qh w) (hp:0<p):
  Calls prog 214 #[.pointer (some ⟨p,0,none⟩)] w fun e w'=>e= .returned (.tuple #[.int .i64 (Tm.gc r).1,.int .i64 (Tm.gc r).2.2])∧Br w' p (Tm.gc r).2.1∧w.grownBy w' (some p):=by
 have GF:=Aj (GV p r w h);have HF:=Aj hF;have hle:=Tm.adj 4 0 r;have hgc:Kept (Tm.gc r=if(Tm.gf 4 0 r).2.2≠0 then(0,(Tm.gf 4 0 r).2)else(Tm.ex (Tm.rd (Tm.fw (Tm.gf 4 0 r).1) (Tm.gf 4 0 r).2.1).1 (Tm.fw (Tm.gf 4 0 r).1),(Tm.rd (Tm.fw (Tm.gf 4 0 r).1) (Tm.gf 4 0 r).2.1).2.1,
  if(Tm.rd (Tm.fw (Tm.gf 4 0 r).1) (Tm.gf 4 0 r).2.1).2.2≠0 then(Tm.rd (Tm.fw (Tm.gf 4 0 r).1) (Tm.gf 4 0 r).2.1).2.2 else if Tm.fm (Tm.ex (Tm.rd (Tm.fw (Tm.gf 4 0 r).1) (Tm.gf 4 0 r).2.1).1 (Tm.fw (Tm.gf 4 0 r).1))≠(Tm.gf 4 0 r).1 then 8 else 0)):=⟨rfl⟩
 obtain⟨Q,hQ⟩:∃Q,Tm.gf 4 0 r=Q:=⟨_,rfl⟩
 rw[hQ]at GF hle hgc;clear h hF hQ;obtain⟨i,r1,e1⟩:=Q;simp only[]at GF hle hgc;obtain⟨G,hG⟩:∃G,Tm.gc r=G:=⟨_,rfl⟩
 rw[hG]at hgc⊢;clear hG;by_cases he1:e1=0
 ·subst he1;rw[Ng sm]at hgc;have hw64:=Tm.Y8 i;have RB:=Aj (fun(w1:World) (hb:Br w1 p r1)=>dL p (Tm.fw i) r1 w1 hb hw64);have hul:=Aj (j6 (Tm.jH (Tm.fw i) r1) (kR Ah hw64));have her:=Tm.qi (Tm.fw i) r1;have hi4:i≤4:=om;have hi5:(i:Int)<5:=om;have hcell:Kept (∀w1,qh w1→w1.cell? ⟨0,i*3+2,none⟩=some (.int .i64 ((Tm.fw i:Nat):Int))):=⟨fun w1 h1=>by
   rcases(by omega:i=0∨i=1∨i=2∨i=3∨i=4)with rfl|rfl|rfl|rfl|rfl
   ·exact h1 2 _ rfl
   ·exact h1 5 _ rfl
   ·exact h1 8 _ rfl
   ·exact h1 11 _ rfl
   ·exact h1 14 _ rfl⟩
  obtain⟨X,hX⟩:∃X,X=Tm.rd (Tm.fw i) r1:=⟨_,rfl⟩
  rw[←hX]at RB hul her hgc;obtain⟨u,r2,e2⟩:=X;simp only[]at RB hul her hgc;have EX:=Aj (fun w=>uR u i w hul.1 hi4);have FO:=Aj (fun(w1:World) (h1:qh w1)=>uS (Tm.ex u (Tm.fw i)) w1 (Tm.YC hw64) h1);obtain⟨y,hy⟩:∃y,y=Tm.ex u (Tm.fw i):=⟨_,rfl⟩
  rw[←hy]at EX FO hgc;clear hy hX;rcases her with he2|he2
  ·subst he2;rw[Ng sm]at hgc;by_cases hfi:Tm.fm y=i;rw[Ng (by simpa using hfi)]at hgc;have hb:(((Tm.fm y:Nat):Int)==(i:Int))=true:=by simp;omega
   rotate_left
   rw[Ps0 hfi]at hgc;have hb:(((Tm.fm y:Nat):Int)==(i:Int))=false:=by simp;omega
   rotate_left
   all_goals
    have Y9:=hgc;clear hgc hfi;go_enter func214,ntmps214;go_wp2_with (first
    |(go_at_call 242;refine(FO.1 w2 F2.1).mono ?_;rintro e w3 ⟨rfl,hg3⟩;have B3:=Aj (B2.1.gr hg3);have G3:=Aj (G2.1.trans (hg3.grown _));clear hg3)
    |(go_at_call 252;refine(EX.1 _).mono ?_;rintro e w3 ⟨rfl,hw⟩;obtain rfl:=hw)
    |(go_at_call 213;refine(RB.1 w1 B1.1).mono ?_;rintro e w2 ⟨rfl,hb2,hg2⟩;have B2:=Aj hb2;have G2:=Aj (G1.1.trans hg2);have F2:=Aj (F1.1.grown hg2 hp);have c2:=hcell.1 _ F2.1;clear hb2 hg2)
    |(go_at_call 251;refine GF.1.mono ?_;rintro e w1 ⟨rfl,hb1,hg1⟩;have B1:=Aj hb1;have G1:=Aj hg1;have F1:=Aj (HF.1.grown hg1 hp);have c1:=hcell.1 _ F1.1;clear hb1 hg1))
    go_ret2;exact⟨by rw[Y9.1];rfl,by rw[Y9.1];exact B3.1,G3.1⟩
  ·subst he2;rw[Ps0 sm]at hgc;have Y9:=hgc;clear hgc;go_enter func214,ntmps214;go_wp2_with (first
    |(go_at_call 242;refine(FO.1 w2 F2.1).mono ?_;rintro e w3 ⟨rfl,hg3⟩;have B3:=Aj (B2.1.gr hg3);have G3:=Aj (G2.1.trans (hg3.grown _));clear hg3)
    |(go_at_call 252;refine(EX.1 _).mono ?_;rintro e w3 ⟨rfl,hw⟩;obtain rfl:=hw)
    |(go_at_call 213;refine(RB.1 w1 B1.1).mono ?_;rintro e w2 ⟨rfl,hb2,hg2⟩;have B2:=Aj hb2;have G2:=Aj (G1.1.trans hg2);have F2:=Aj (F1.1.grown hg2 hp);have c2:=hcell.1 _ F2.1;clear hb2 hg2)
    |(go_at_call 251;refine GF.1.mono ?_;rintro e w1 ⟨rfl,hb1,hg1⟩;have B1:=Aj hb1;have G1:=Aj hg1;have F1:=Aj (HF.1.grown hg1 hp);have c1:=hcell.1 _ F1.1;clear hb1 hg1))
   go_ret2;exact⟨by rw[Y9.1];rfl,by rw[Y9.1];exact B2.1,G2.1⟩
 ·rw[Ps0 he1]at hgc;have Y9:=hgc;have hne:(e1 !=0)=true:=by simpa using he1
  clear hgc he1;go_enter func214,ntmps214;go_wp2_with (go_at_call 251;refine GF.1.mono ?_;rintro e w1 ⟨rfl,hb1,hg1⟩;have B1:=Aj hb1;have G1:=Aj hg1;clear hb1 hg1);go_ret2;exact⟨by rw[Y9.1];rfl,by rw[Y9.1];exact B1.1,G1.1⟩
theorem Kg {w:World} {b1 b2 sz n c A xs e} (h:w.ownsRow b1 e sz (.slice A n c) n xs) (hb:b2≤b1):w.ownsRow b2 e sz (.slice A n c) n xs:=
 ⟨h.1,h.2.imp id fun⟨g,cap,cur,h1,h2,h3⟩=>⟨g,cap,cur,h1,om,h3⟩⟩
theorem lu {w w':World} {base n c sz p A xs e} (h:w.ownsRow base e sz (.slice A n c) n xs) (hg:w.grownBy w' (some p)) (hp:p<base):w'.ownsRow base e sz (.slice A n c) n xs:=
 ag h hg (by
  rcases hA:ab A with _|g
  ·exact .inl rfl
  ·refine .inr fun e=>?_
   have:=(ae h g hA).1;have:=Oj e;omega)
theorem fB.Zu (w:World) (x):fB (w.alloc (.cells #[.int .i64 x] 2)) w.heap.size (some ⟨w.heap.size,0,none⟩) 1 1 [x]:=
 ⟨rfl,.inr ⟨w.heap.size,1,#[.int .i64 x],rfl,Nr _,Av w _,Nr _,by unfold maxLen;omega,rfl,rfl⟩⟩
theorem Tz (p n:Nat) (r w) (h:Br w p r) (hF:qh w) (hp:0<p) (hn:n≤1000000):
  Calls prog 178 #[.pointer (some ⟨p,0,none⟩),.int .i64 (n:Int)] w fun e w'=>∃A2 n2 c2,e= .returned (.tuple #[.slice A2 n2 c2,.int .i64 (Tm.dec n r).2.2])∧fB w' w.heap.size A2 n2 c2 (Tm.dec n r).1∧Br w' p (Tm.dec n r).2.1∧w.grownBy w' (some p):=by
 have mq:=h.lt;by_cases hn0:n=0
 ·subst hn0;have hd:Tm.dec 0 r=([],r,0):=by unfold Tm.dec;rw[Ps0 rfl]
  rw[hd];go_enter func178,ntmps178;go_wp2;go_ret2;exact⟨none,0,0,rfl,⟨rfl,.inl ⟨rfl,rfl⟩⟩,h,Dn _ _⟩
 ·have hdec:Kept (Tm.dec n r=if(Tm.rd 64 r).2.2≠0 then([],(Tm.rd 64 r).2)else Tm.gt (n-1) (Tm.sw (Tm.rd 64 r).1) 0 [Tm.sw (Tm.rd 64 r).1] (Tm.rd 64 r).2.1):=⟨by unfold Tm.dec;rw[Ng hn0]⟩
  have RB:=Aj (dL p 64 r w h om);have her:=Tm.qi 64 r;have HF:=Aj hF;obtain⟨X,hX⟩:∃X,X=Tm.rd 64 r:=⟨_,rfl⟩
  rw[←hX]at RB her hdec;clear hX h hF;obtain⟨u,r1,e1⟩:=X;simp only[]at RB her hdec;obtain⟨D,hD⟩:∃D,D=Tm.dec n r:=⟨_,rfl⟩
  rw[←hD]at hdec⊢;clear hD;have hn1:¬(n:Int)<0:=om;have hn2:((n:Int)==0)=false:=by simp;omega
  rcases her with rfl|rfl
  ·rw[Ng sm]at hdec;go_enter func178,ntmps178;go_wp2_with (go_at_call 213;refine RB.1.mono ?_;rintro e w1 ⟨rfl,hb1,hg1⟩;have B1:=Aj hb1;have G1:=Aj hg1;have F1:=Aj (HF.1.grown hg1 hp);clear hb1 hg1);have hz1:w.heap.size≤w1.heap.size:=G1.1.size;go_loopw [8,9,10,36] (fun t d v i wr=>∃(k:Nat) (tt dd:Int) (acc:List Int) (r2:List Bool) (A2:Option Addr) (c2:Nat),k≤n-1∧i= .int .i64 k∧t= .int .i64 tt∧d= .int .i64 dd∧v= .slice A2 (k+1) c2∧
    Kept (Tm.gt (n-1-k) tt dd acc r2=D)∧fB wr w.heap.size A2 (k+1) c2 acc∧Kept (Br wr p r2)∧Kept (qh wr)∧w.grownBy wr (some p)) (fun _ _ _ i _=>n-(intOf i).toNat)
   case atStart=>
    refine⟨0,wrap64 u,0,[wrap64 u],r1,_,1,om,rfl,rfl,rfl,rfl,⟨by rw[Tm.zN,Nat.sub_zero];exact hdec.1.symm⟩,?_,⟨?_⟩,⟨?_⟩,?_⟩
    ·exact Kg (fB.Zu w1 _) hz1
    ·exact B1.1.below ((Ae _ w1).alloc Ai _) B1.1.lt
    ·exact F1.1.below ((Ae _ w1).alloc Ai _)
    ·exact G1.1.trans (Ga _ _ _)
   case round=>
    obtain⟨k,tt,dd,acc,r2,A2,c2,hk,rfl,rfl,rfl,rfl,hq,ho,hB,hF2,hG⟩:=hrel;have HG:=Aj hG;have HO:=Aj ho;clear hG ho;by_cases hlt:k<n-1
    ·have hlt':(k:Int)< (n:Int)-1:=by omega
     have hstep:Kept ((if(Tm.gc r2).2.2≠0 then([],(Tm.gc r2).2)else Tm.gt (n-1-(k+1)) (Tm.sw (tt+Tm.sw (dd+(Tm.gc r2).1))) (Tm.sw (dd+(Tm.gc r2).1)) (acc++[Tm.sw (tt+Tm.sw (dd+(Tm.gc r2).1))]) (Tm.gc r2).2.1)=D):=⟨by
      have:=hq.1;rw[show n-1-k=(n-1-(k+1))+1 from om,Tm.gt]at this;exact this⟩
     have GC:=Aj (wO p r2 wr hB.1 hF2.1 hp);obtain⟨X,hX⟩:∃X,X=Tm.gc r2:=⟨_,rfl⟩
     rw[←hX]at GC hstep;clear hX hq;obtain⟨x,r3,e⟩:=X;simp only[]at GC hstep;by_cases he:e=0
     ·subst he;rw[Ng sm]at hstep;go_wp2_with (first
       |(at_builtin;refine Fv rfl (.tmp 52) (.tmp 54) rfl w.heap.size A2 (k+1) c2 acc rfl (Oa O2.1 _) _ _ _ _ _ rfl (vX.one w2 _) om agz ?_;intro A4 c4 w5 av af cO;have O4:=Aj av;have G4:=Aj af;clear av af)
       |(go_at_call 214;refine GC.1.mono ?_;rintro e w2 ⟨rfl,hb2,hg2⟩;have B2:=Aj hb2;have G2:=Aj (HG.1.trans hg2);have F2:=Aj (hF2.1.grown hg2 hp);have O2:=Aj (lu HO.1 hg2 mq);have agz:w.heap.size≤(w2.alloc (.cells #[.int .i64 (wrap64 (tt+wrap64 (dd+x)))] 2)).heap.size:=(by have:=G2.1.size;simp;omega);clear hb2 hg2))
      go_roundw
      case rel=>
       have hbp:∀g,ab A2=some g→w.heap.size≤g:=fun g e=>(ae O2.1 g e).1
       have hgz:=qh.lt HF.1;have ga:=Ga w2 (.cells #[.int .i64 (wrap64 (tt+wrap64 (dd+x)))] 2) none;simp only[←Tm.zN]at hstep;refine⟨k+1,_,_,_,r3,A4,c4,om,by go_num,rfl,rfl,rfl,hstep,O4.1,⟨?_⟩,⟨?_⟩,?_⟩
       ·exact(B2.1.grown ga (fun g e=>by cases e)).grown G4.1 (fun g e=>by have:=hbp g e;omega)
       ·exact(F2.1.past ga (fun g e=>by cases e)).past G4.1 (fun g e=>by have:=hbp g e;omega)
       ·exact((G2.1.trans (Ga w2 _ _)).andThen G4.1 (fun j hj=> .inl (by have:=hbp j hj;omega)))
      case measure=>simp[intOf];omega
     ·rw[Ps0 he]at hstep;have hne:(e !=0)=true:=by simpa using he
      clear he;go_wp2_with (go_at_call 214;refine GC.1.mono ?_;rintro e w2 ⟨rfl,hb2,hg2⟩;have B2:=Aj hb2;have G2:=Aj (HG.1.trans hg2);clear hb2 hg2);go_ret2;rw[←hstep.1];exact⟨none,0,0,rfl,⟨rfl,.inl ⟨rfl,rfl⟩⟩,B2.1,G2.1⟩
    ·obtain rfl:k=n-1:=by omega
     have hs2:Kept ((acc,r2,0)=D):=⟨by have:=hq.1;rwa[Dy]at this⟩
     have hge:(n:Int)-1≤((n-1:Nat):Int):=om;go_wp2;go_ret2;rw[←hs2.1];exact⟨A2,_,c2,rfl,HO.1,hB.1,HG.1⟩
  ·rw[Ps0 sm]at hdec;go_enter func178,ntmps178;go_wp2_with (go_at_call 213;refine RB.1.mono ?_;rintro e w1 ⟨rfl,hb1,hg1⟩;have B1:=Aj hb1;have G1:=Aj hg1;clear hb1 hg1);go_ret2;rw[hdec.1];exact⟨none,0,0,rfl,⟨rfl,.inl ⟨rfl,rfl⟩⟩,B1.1,G1.1⟩
section
open Go.Maps (Keyed)
theorem Xi:Keyed prog 125:=Go.Maps.int_keyed underlying125
def kl (x:Nat):Lit:= .int .u64 (x:Int)
theorem TC {x y} (h:kl x=kl y):x=y:=by unfold kl at h;injection h with _ h;exact Int.ofNat.inj h
theorem TD {x:Nat} (h:x<2^64):keyOf prog 125 (.int .u64 (x:Int))=some (kl x):=
 Go.Maps.keyOf_int_mk underlying125 (by
  have h1:IntKind.u64.min=0:=rfl;have h2:IntKind.u64.max=18446744073709551615:=rfl;simp only[Lit.wf,h1,h2,CW,Ch];omega)
theorem nE {H P e} (he:P.underlying e=some .bool) {v} {z:DataW H×List MemPlace} (h:plainElem P e v=some z):∃x,v= .bool x∧z=(.lit (.bool x),[]):=by
 unfold plainElem at h;rw[he]at h;split at h
 ·cases h;exact⟨_,rfl,rfl⟩
 ·rename_i h1;cases h1
 ·rename_i h1;cases h1
 ·cases h
def Km (w:World) (b n:Nat) (D:DataW Unit) (ks:List Nat):Prop:=
 w.ownsMap prog 125 (plainElem prog 4) b n D∧∃E:List (Lit×DataW Unit),D= .map E∧(E.map (·.1)).Perm (ks.map kl)∧ks.Nodup
theorem Km.made (w:World):Km (w.alloc (.map #[] 0)) w.heap.size 0 (.map []) []:=⟨World.ownsMap_made _ _ _ _,[],rfl,List.Perm.nil,List.nodup_nil⟩
theorem Km.size {w b n D ks} (h:Km w b n D ks):Go.Maps.size D=ks.length:=by
 obtain⟨_,E,rfl,hp,_⟩:=h;have:=hp.length_eq;simpa[Go.Maps.size]using this
theorem Km.kept {w w' b n D ks row} (h:Km w b n D ks) (hg:w.grownBy w' row) (hne:some b≠row):Km w' b n D ks:=⟨h.1.kept hg hne,h.2⟩
theorem Km.put {w w' b n D d ks} (h:Km w b n D ks) (x) (ho:w'.ownsMap prog 125 (plainElem prog 4) b (n+1) (D.put (kl x) d)):
  Km w' b (n+1) (D.put (kl x) d) (x::ks.filter (· ≠x)):=by
 obtain⟨_,E,rfl,hp,hn⟩:=h;refine⟨ho,ChangeMaps.putKey (kl x) d E,rfl,?_,?_⟩
 ·unfold ChangeMaps.putKey;refine((WideShapes.insert_perm (kl x,d) _).map (·.1)).trans ?_;rw[Az,Az];refine List.Perm.cons _ ?_;have e1:(E.filter (ChangeMaps.notKey (kl x))).map (·.1)=(E.map (·.1)).filter (fun l=>!l.sameKey (kl x)):=by
   rw[List.filter_map];rfl
  have e2:(ks.filter (· ≠x)).map kl=(ks.map kl).filter (fun l=>!l.sameKey (kl x)):=by
   rw[List.filter_map]
   congr 1
   apply List.filter_congr;intro z _;simp only[Function.comp,kl,Lit.sameKey];by_cases hz:z=x
   ·subst hz;simp
   ·have:¬(z:Int)=(x:Int):=by omega
    simp[hz,this]
  rw[e1,e2];exact hp.filter _
 ·refine List.nodup_cons.2 ⟨sm,hn.filter _⟩
theorem Km.has {w b n D ks} (h:Km w b n D ks) (l):Go.Maps.has D l=true↔∃x∈ks,kl x=l:=by
 obtain⟨_,E,rfl,hp,_⟩:=h;rw[Go.Maps.has_eq,Da];constructor
 ·rintro⟨p,hpE,hs⟩;have e:=WideAt.sameKey_eq hs;have hm:p.1∈ks.map kl:=hp.mem_iff.1 (bY.2 ⟨p,hpE,rfl⟩);obtain⟨x,hx,hk⟩:=bY.1 hm;exact⟨x,hx,hk.trans e⟩
 ·rintro⟨x,hx,rfl⟩;have hm:kl x∈E.map (·.1):=hp.mem_iff.2 (bY.2 ⟨x,hx,rfl⟩);obtain⟨p,hpE,he⟩:=bY.1 hm;exact⟨p,hpE,by rw[he];exact WideAt.sameKey_self (by unfold kl;trivial)⟩
def Kh (D:DataW Unit) (acc:List Nat) (l:Lit):Bool:=Go.Maps.has D l&&!(acc.any fun x=>(kl x).sameKey l)
theorem Kh.nil (D):Kh D []=Go.Maps.has D:=by funext l;simp[Kh]
theorem zO (a b:Lit):a.sameKey b=b.sameKey a:=by
 cases a<;>cases b<;>simp[Lit.sameKey,Bool.beq_comm,eq_comm]
theorem Kh.snoc (D acc x):Kh D (acc++[x])=fun z=>Kh D acc z&&!z.sameKey (kl x):=by
 funext z
 simp only[Kh,List.any_append,List.any_cons,List.any_nil,Bool.or_false,Bool.not_or];rw[zO (kl x) z,Bool.and_assoc]
theorem adk {l m} (h1:l.Pairwise (· ≤ ·)) (h2:l.Nodup) (h3:∀z,z∈l↔z∈m):l=Di.fe m:=by
 refine Di.Q9 ?_ (Di.pO m) (fun z=>(h3 z).trans (Di.fE m z).symm);exact(h1.and h2).imp fun⟨a,b⟩=>om
theorem Ki (n):Go.Sort.bitsLen n=Di.bl n:=rfl
theorem qj (k:Nat) (hk:k<4611686018427387904) (w):
  Calls prog 262 #[.int .i64 (k:Int)] w fun e w'=>e= .returned (.int .i64 ((Di.ng k:Nat):Int))∧w'=w:=by
 unfold Di.ng;by_cases h0:k<1
 ·obtain rfl:k=0:=by omega
  go_enter func262,ntmps262;go_wp2;go_ret;exact⟨rfl,rfl⟩
 ·have h0':¬(k:Int)<1:=by omega
  have hb:=Aj (Tu (k-1) om w);rw[show((k-1:Nat):Int)=(k:Int)-1 from om]at hb;rw[Ki]at hb;go_enter func262,ntmps262;go_wp2_with (go_at_call 185;refine hb.1.mono ?_;rintro e w1 ⟨rfl,rfl⟩);go_ret;exact⟨rfl,rfl⟩
end
section
open Go.Maps (Keyed)
theorem mJ {w:World} {base n c sz A xs e} (h:w.ownsRow base e sz (.slice A n c) n xs) {g} (hg:ab A=some g):∃cs fr,w.heap[g]? =some (.cells cs e fr):=by
 rcases h.2 with⟨hv,_⟩|⟨g2,cap,cur,hv,_,hb,_⟩
 ·injection hv with hv1;rw[hv1]at hg;cases hg
 ·injection hv with hv1
  rw[hv1]at hg;obtain rfl:g2=g:=by simpa[ab]using hg
  exact⟨_,_,hb⟩
theorem GX {w:World} {base n c sz b m A xs e k P} {R:Value→Option (DataW Unit×List MemPlace)} {D} (h:w.ownsRow base e sz (.slice A n c) n xs) (hm:w.ownsMap P k R b m D):some b≠ab A:=fun e=>by
 obtain⟨cs,fr,hg⟩:=mJ h e.symm;obtain⟨es,cl,hb,_⟩:=hm;rw[hg]at hb;cases hb
theorem jX {w:World} {base n c sz b r m cnt A xs e k P} {R:Value→Option (DataW Unit×List MemPlace)} {D left} (h:w.ownsRow base e sz (.slice A n c) n xs) (hm:w.ranges P k R b r m D left cnt):some r≠ab A:=fun e=>by
 obtain⟨cs,fr,hg⟩:=mJ h e.symm;obtain⟨es,cl,si,se,c0,h1,h2,h3,h4,h5,_⟩:=hm;rw[hg]at h5;cases h5
structure DcI (w:World) (l:List Nat) (D:DataW Unit) (r n:Nat) (A:Option Addr) (c:Nat) (W:World) (acc:List Nat) (cnt:Nat):Prop where
 rg:W.ranges prog 125 (plainElem prog 4) w.heap.size r n D (Kh D acc) cnt
 own:aJ W w.heap.size A acc.length c acc
 nd:acc.Nodup
 sub:∀z∈acc,z∈l
 aZ:Below w.heap.size w W
theorem iK:∀{l m:List Nat},l.Nodup→(∀x∈l,x∈m)→l.length≤m.length
 |[],m,_,_=>bH _
 |x::l,m,h,hs=>by
  obtain⟨h1,h2⟩:=List.nodup_cons.1 h;have hx:=hs x jQ;have:=iK (m:=m.erase x) h2 (fun y hy=>(List.mem_erase_of_ne (fun e=>h1 (by rw[←e];exact hy))).2 (hs y (kH _ hy)));rw[List.length_erase_of_mem hx]at this;have:=List.length_pos_of_mem hx;simp only[Lc];omega
theorem TE {w base n c A xs} (h:aJ w base A n c xs) (hA:ab A≠none):∃g,A=some ⟨g,0,none⟩:=by
 rcases h.2 with⟨hv,_⟩|⟨g2,cap,cur,hv,_⟩
 ·injection hv with hv1;rw[hv1]at hA;exact absurd rfl hA
 ·injection hv with hv1;exact⟨g2,hv1⟩
theorem DcI.done {w W l D r n c cnt k m A acc ks wm} (I:DcI w l D r n A c W acc cnt) (hl:∀z,Kh D acc z=false) (hm:Km wm k m D ks) (hk:∀z,z∈ks↔z∈l):∀z,z∈acc↔z∈l:=fun z=>by
 refine⟨I.sub z,fun hz=>?_⟩;have h1:=hl (kl z);have h2:Go.Maps.has D (kl z)=true:=(hm.has _).2 ⟨z,(hk z).2 hz,rfl⟩;unfold Kh at h1;rw[h2,Bool.true_and,Bool.not_eq_false']at h1;obtain⟨x,hx,he⟩:=Da.1 h1;rw[←TC (WideAt.sameKey_eq he)];exact hx
theorem DcI.next {w W w1 w5 l D r n c cnt k m x cnt1 c4 A A4 acc ks wm} (I:DcI w l D r n A c W acc cnt) (hm:Km wm k m D ks) (hk:∀z,z∈ks↔z∈l) (hwr:w.heap.size≤r)
  (hlx:Kh D acc (kl x)=true) (hrg:w1.ranges prog 125 (plainElem prog 4) w.heap.size r n D (fun z=>Kh D acc z&&!z.sameKey (kl x)) cnt1) (hg1:W.grownBy w1 (some r)) (o)
  (h5:aJ w5 w.heap.size A4 (acc.length+1) c4 (acc++[x])) (hg5:(w1.alloc o).grownBy w5 (ab A)):DcI w l D r n A4 c4 w5 (acc++[x]) cnt1:=by
 have Xj:=hlx;unfold Kh at Xj;rw[CW,Bool.not_eq_true']at Xj;obtain⟨y,hy,he⟩:=(hm.has _).1 Xj.1;have hyx:=TC he;subst hyx;have hnx:y∉acc:=fun h=>by
  have:=List.any_eq_false.1 Xj.2 y h;exact this (WideAt.sameKey_self (by unfold kl;trivial))
 have hown1:aJ w1 w.heap.size A acc.length c acc:=ag I.own hg1 (.inr (fun e=>jX I.own I.rg e.symm));have hra:=hrg.alloc o;have hb:=I.aZ;have hz:=hb.size;have hlA:∀g,ab A=some g→w.heap.size≤g:=fun g e=>(ae I.own g e).1
 refine⟨?_,by simpa using h5,?_,?_,?_⟩
 ·rw[Kh.snoc];exact hra.kept hg5 (fun e=>GX hown1 hrg.owns e) (fun e=>jX hown1 hrg e)
 ·exact List.nodup_append.2 ⟨I.nd,sm,fun a ha b hb'=>by obtain rfl:=gJ.1 hb';exact fun e=>hnx (e▸ha)⟩
 ·intro z hz2;rcases je.1 hz2 with h|h
  ·exact I.sub z h
  ·rw[gJ.1 h];exact(hk y).1 hy
 ·have b1:=hb.grown hg1 hz (fun g e=>by cases e;exact hwr);exact(b1.alloc b1.size o).grown hg5 (by simp;have:=b1.size;omega) hlA
theorem GY (A n c B l w) (hr:kF w B A n c l) (hB:B≤w.heap.size) (hx:∀x∈l,x<2^64) (hn:n≤1000000):
  Calls prog 261 #[.slice A n c] w fun e w'=>∃A2 c2,e= .returned (.slice A2 (Di.fe l).length c2)∧aJ w' w.heap.size A2 (Di.fe l).length c2 (Di.fe l)∧Below w.heap.size w w':=by
 have hln:=Aj hr.len;have hlc:=hr.1;have hcm:=hr.2.1;unfold maxLen at hcm;have R0:=Aj hr;have HX:=Aj hx;clear hr hx;have hmm:= @run_makeMap prog;go_enter func261,ntmps261;go_wp2;go_loopw [11] (fun i wr=>∃(k:Nat) (D:DataW Unit) (ks:List Nat),k≤n∧i= .int .i64 (k:Int)∧Km wr w.heap.size k D ks∧Kept (∀z,z∈ks↔z∈l.take k)∧Below w.heap.size w wr) (fun i _=>n-(intOf i).toNat)
 case atStart=>exact⟨0,.map [],[],om,rfl,Km.made w,⟨sm⟩,(Ae _ _).alloc Ai _⟩
 case round=>
  obtain⟨k,D,ks,hk,rfl,hm,HK,hb⟩:=hrel;by_cases hlt:k<n
  ·have hlt':(k:Int)< (n:Int):=by omega
   have hkl:k<l.length:=by have:=hln.1;omega
   obtain⟨bb,off,rfl,kK,hc0⟩:=((R0.1.below (hb.mono hB))).at_ hkl;have hxk:=HX.1 _ (gG hkl);obtain⟨x,hq⟩:∃x,x=l[k]:=⟨_,rfl⟩
   rw[←hq]at hc0 hxk;have HQ:=Aj hq;have MP:=Aj hm;have HB:=Aj hb;have HKY:=Aj (TD hxk);have hz:=hb.size;clear hm hb hq;go_wp2_with (at_mapUpdate;refine wpList_mapUpdate_own _ rfl _ _ _ 386 rfl 125 4 Xi underlying386 _ w.heap.size k _ rfl MP.1.1 (by unfold maxLen;omega) _ _ _ rfl rfl HKY.1 _ [] (plainElem_bool underlying4 true) ?_;intro w1 hown1 hgrow1;have M1:=Aj (MP.1.put x hown1);have B1:=Aj (HB.1.grown hgrow1 hz (fun g e=>by cases e;exact Nr _));clear hown1 hgrow1);go_roundw
   case rel=>
    refine⟨k+1,_,_,om,by go_num,M1.1,⟨fun z=>?_⟩,B1.1⟩;rw[Ts hkl,←HQ.1,je,eH,BP,HK.1 z];by_cases hzx:z=x<;>simp[hzx]
   case measure=>simp[intOf];omega
  ·obtain rfl:k=n:=by omega
   have hall:∀z,z∈ks↔z∈l:=fun z=>by rw[HK.1 z,iM (by have:=hln.1;omega)]
   have hsl:ks.length≤1000000:=Lt (iK hm.2.choose_spec.2.2 (fun x h=>(hall x).1 h)) (by have:=hln.1;omega);have HA:=Aj hall;have MP:=Aj hm;have HB:=Aj hb;have hsz:=Aj hm.size;have hz:=hb.size;clear hm hb HK;have hlen:=MP.1.1.len underlying386 3;rw[hsz.1]at hlen;have alU:(ks.length:Int)≤1000000:=om;obtain⟨i0,hi0,hz0,hz1,hz2⟩:=AV Yy;obtain⟨wm,hmk,hown0,Xk⟩:=run_make_own wr w.heap.size 284 125 i0 _ 1 underlying284 hi0 hz0 hz1 .i64 .i64 ks.length (by rw[hz2];omega) (by unfold maxLen;omega) hz;have MPm:=Aj (MP.1.kept Xk sm);have HBm:=Aj (HB.1.grown Xk hz (fun g e=>by cases e));have HO0:=Aj hown0;have hzm:=Xk.size;clear hi0 hz0 hz1 hz2 hown0 Xk;go_wp2_with (at_range;refine wpList_range_own _ rfl _ 386 rfl 125 4 Xi underlying386 _ w.heap.size k _ rfl MPm.1.1 ?_;intro w0 hrg0 hg0 hs0;have RG0:=Aj hrg0;have G0:=Aj hg0;have hzz:=Nat.le_of_eq hs0.symm;clear hrg0 hg0 hs0);obtain⟨r,hrr⟩:∃r,r=wm.heap.size:=⟨_,rfl⟩
   rw[←hrr]at RG0⊢;have hrm:Kept (r=wm.heap.size):=⟨hrr⟩
   have hwr:w.heap.size≤r:=om;clear hrr hmk hlen MP HB;have I0:DcI w l D r k (some ⟨wr.heap.size,0,none⟩) ks.length w0 [] (Go.Maps.size D):=
    ⟨by rw[Kh.nil];exact RG0.1,ag HO0.1 G0.1 (.inr (by simp[ab])),List.nodup_nil,sm,HBm.1.grown G0.1 om (fun g e=>by cases e)⟩
   go_frame;go_loopw [6] (fun v W=>∃(A2:Option Addr) (c2:Nat) (acc:List Nat) (cnt:Nat),v= .slice A2 acc.length c2∧DcI w l D r k A2 c2 W acc cnt∧ab A2≠none) (fun _ W=>W.rangeLeft w.heap.size r)
   case atStart=>exact⟨_,_,[],_,rfl,I0,by simp[ab]⟩
   case round=>
    clear RG0 G0 HBm HO0 I0;obtain⟨A2,c2,acc,cnt,rfl,I,hA2⟩:=hrel;have HI:=Aj I;have vJ:=Aj I.rg.left_eq;clear I;go_wp2_with (at_next;refine wpList_next_ranges (α:=Nat) (β:=Bool) _ rfl _ rfl 125 Xi _ (fun x=> .int .u64 (x:Int)) Value.bool ?_ ?_ w.heap.size r k _ _ _ rfl HI.1.rg ?_ ?_)
    ·intro key l0 h;obtain⟨z,rfl,_,hw⟩:=Go.Maps.keyOf_int_inv underlying125 h;have h1:IntKind.u64.min=0:=rfl;have h0:0≤z:=by
      simp only[Lit.wf,h1,CW,Ch]at hw;exact hw.1
     exact⟨z.toNat,by rw[Int.toNat_of_nonneg h0]⟩
    ·intro v y h;obtain⟨z,rfl,_⟩:=nE underlying4 h;exact⟨z,rfl⟩
    ·intro hc0 hl0;obtain⟨g,rfl⟩:=TE HI.1.own hA2;have hmem:=HI.1.done hl0 MPm.1 HA.1;have hal:acc.length≤1000000:=Lt (iK HI.1.nd HI.1.sub) (by have:=hln.1;omega);have SO:=Aj (OJ w.heap.size g acc.length c2 acc wr HI.1.own om);have HM:=Aj hmem;have HNd:=Aj HI.1.nd;have HB2:=Aj HI.1.aZ;have hgl:=(ae HI.1.own g rfl).1;clear hmem hall;go_wp2_with (go_at_call 282;refine SO.1.mono ?_;rintro e w9 ⟨rfl,l',hp,hu,ho,hg⟩;have HP:=Aj hp;have HU:=Aj hu;have HO9:=Aj ho;have HG9:=Aj hg;clear hp hu ho hg);go_ret;have el:l'=Di.fe l:=adk HU.1 (HP.1.nodup_iff.2 HNd.1) (fun z=>HP.1.mem_iff.trans (HM.1 z));have ell:acc.length=(Di.fe l).length:=by rw[←el];exact HP.1.length_eq.symm
     have ho:=HO9.1;rw[el,ell]at ho;exact⟨_,c2,by rw[ell];rfl,ho,HB2.1.grown HG9.1 HB2.1.size (fun j e=>by cases e;exact hgl)⟩
    ·intro x;refine⟨?_,?_⟩
     all_goals
      intro l0 a0 b0 w1 cnt1 hkey hlx hRv hat hrg1 hlt1 hg1 hs1 hen;have hl0:l0=kl x:=by
       obtain⟨z,e,rfl,_⟩:=Go.Maps.keyOf_int_inv underlying125 hkey
       injection e with _ e
       rw[←e];rfl
      subst hl0;have NX:=Aj (fun(o:Obj) (w5:World) (A4:Option Addr) (c4:Nat)=>HI.1.next (w5:=w5) (A4:=A4) (c4:=c4) MPm.1 HA.1 hwr hlx hrg1 hg1 o);have O1:=Aj (show aJ w1 w.heap.size A2 acc.length c2 acc from ag HI.1.own hg1 (.inr (fun e=>jX HI.1.own HI.1.rg e.symm)));have hal:acc.length≤1000000:=Lt (iK HI.1.nd HI.1.sub) (by have:=hln.1;omega);have hz1:w.heap.size≤w1.heap.size:=by rw[hs1];exact HI.1.aZ.size
      have hzb:w.heap.size≤(w1.alloc (.cells #[.int .u64 (x:Int)] 125)).heap.size:=by simp;omega
      have hmr:=vJ.1;clear hkey hlx hRv hat hrg1 hg1 hs1 hall;go_wp2_with (at_builtin;refine dJ rfl (.tmp 27) (.tmp 29) rfl w.heap.size A2 acc.length c2 _ rfl (Oa O1.1 _) _ _ _ _ _ rfl (kF.one w1 x) om hzb ?_;intro A4 c4 w5 av af cO;have O4:=Aj av;have G4:=Aj af;have AT:=Aj cO;clear av af cO);have IX:=NX.1 _ _ _ _ O4.1 G4.1;go_roundw
      case rel=>exact⟨A4,c4,acc++[x],cnt1,sm,IX,by rcases AT.1 with h|h<;>rw[h]<;>simp[hA2]⟩
      case measure=>rw[IX.rg.left_eq,hmr];exact hlt1
end
theorem Di.TH {d} (h:Di.Up d) {i j} (hi:i<d.length) (hj:j<d.length):d[i]<d[j]↔i<j:=by
 have P:=BC.1 h;constructor
 ·intro hd;rcases Ea i j with q|q|q
  ·exact q
  ·subst q;omega
  ·have:=P _ _ hj hi q;omega
 ·intro q;exact P _ _ hi hj q
theorem GZ (A n c B q x d w) (hr:kF w B A n c d) (_hB:B≤w.heap.size) (hq:q<d.length) (hx:x=d[q]) (hu:Di.Up d) (hn:n≤1000000):
  Calls prog 263 #[.slice A n c,.int .u64 (x:Int)] w fun e w'=>e= .returned (.tuple #[.int .i64 (q:Int),.bool true])∧∃m,w'=w.drewN m:=by
 have hln:=Aj hr.len;have hlc:=hr.1;have hcm:=hr.2.1;unfold maxLen at hcm;have hqn:q<n:=by rw[hr.len];exact hq
 obtain⟨bb,off,rfl,kK,-⟩:=hr.at_ hq;have hcell:∀t,t<n→∃v,w.cell? ⟨bb,off+t,none⟩=some (.int .u64 (v:Nat))∧(v<x↔t<q)∧(t=q→v=x):=fun t ht=>by
  have htl:t<d.length:=by have:=hln.1;omega
  obtain⟨b2,o2,e2,_,h2⟩:=hr.at_ htl;simp only[gT,Cf]at e2;obtain⟨rfl,rfl,-⟩:=e2;exact⟨d[t],h2,by rw[hx];exact Di.TH hu htl hq,fun e=>by subst e;exact hx.symm⟩
 have HC:=Aj hcell;clear hr hcell hx hq;go_enter func263,ntmps263;go_wp2;go_loopw [7,8] (fun vi vj wr=>∃i j m:Nat,vi= .int .i64 (i:Int)∧vj= .int .i64 (j:Int)∧i≤q∧q≤j∧j≤n∧i≤j∧wr=w.drewN m) (fun vi vj _=>(intOf vj-intOf vi).toNat)
 case atStart=>exact⟨0,n,0,rfl,rfl,om,om,Nr _,om,rfl⟩
 case round=>
  obtain⟨i,j,m,rfl,rfl,hi,hj,hjn,hij,rfl⟩:=hrel;by_cases hlt:i<j
  ·have hlt':(i:Int)< (j:Int):=by omega
   obtain⟨h,hh⟩:∃h,h=(i+j)/2:=⟨_,rfl⟩
   have hh1:((i:Int)+(j:Int))/2=(h:Int):=om;have hhn:h<n:=om;have hh2:i≤h∧h<j:=om;obtain⟨v,hc,hv,-⟩:=HC.1 h hhn;have hcd:(w.drewN m).cell? ⟨bb,off+h,none⟩=some (.int .u64 (v:Nat)):=hc;clear hh hc;by_cases hvx:v<x
   ·have hl:Sort.ltInt (v:Int) (x:Int)=true:=by simp[Sort.ltInt];omega
    have hhq:=hv.1 hvx;have L:=Aj (aD (v:Int) (x:Int) (w.drewN m));rw[hl]at L;go_wp2_with (go_at_call 283;refine L.1.mono ?_;rintro e w1 ⟨rfl,rfl⟩);go_roundw
    case rel=>exact⟨h+1,j,m,by go_num,rfl,om,hj,hjn,om,rfl⟩
    case measure=>simp[intOf];omega
   ·have hl:Sort.ltInt (v:Int) (x:Int)=false:=by simp[Sort.ltInt];omega
    have hhq:¬h<q:=fun e=>hvx (hv.2 e)
    have L:=Aj (aD (v:Int) (x:Int) (w.drewN m));rw[hl]at L;go_wp2_with (go_at_call 283;refine L.1.mono ?_;rintro e w1 ⟨rfl,rfl⟩);go_roundw
    case rel=>exact⟨i,h,m,rfl,rfl,hi,om,om,om,rfl⟩
    case measure=>simp[intOf];omega
  ·obtain rfl:i=q:=by omega
   have hji:j=i:=om;subst hji;obtain⟨v,hc,-,hv⟩:=HC.1 _ hqn;obtain rfl:=hv rfl;have hcd:(w.drewN m).cell? ⟨bb,off+j,none⟩=some (.int .u64 (v:Nat)):=hc;have al0:(j:Int)< (n:Int):=om;clear hc hv;go_wp2_with fail;go_ret2;exact⟨rfl,m,rfl⟩
theorem w64 {z} (h0:0≤z) (h1:z≤10000000000):wrap64 z=z:=by unfold wrap64;omega
theorem OQ {z} (h0:0≤z) (h1:z≤10000000000):IntKind.i64.wrap z=z:=by
 have h:=w64 h0 h1;unfold wrap64 at h;rw[Bq];exact h
def Di.Kj (l:List Nat):Int:=if 128< (Di.fe l).length then-1 else if(Di.fe l).length=0 then 0 else 7+(Di.fe l).length*64+l.length*Di.ng (Di.fe l).length
theorem Di.Kk {k} (h:k≤128):Di.ng k≤7:=by
 have:=(Go.Sort.bitsLen_le_iff (k-1) 7).2 om;exact this
theorem OW (A n c B l w) (hr:kF w B A n c l) (hB:B≤w.heap.size) (hx:∀x∈l,x<2^64) (hn:n≤1000000):
  Calls prog 221 #[.slice A n c] w fun e w'=>e= .returned (.int .i64 (Di.Kj l))∧Below w.heap.size w w':=by
 have D0:=Aj (GY A n c B l w hr hB hx hn);have hln:=Aj hr.len;have hkl:(Di.fe l).length≤1000000:=Lt (iK ((Di.pO l).imp fun h=>Nat.ne_of_lt h) (fun x h=>(Di.fE l x).1 h)) (by have:=hln.1;omega);unfold Di.Kj;generalize Di.fe l=d at*;obtain⟨k,hk⟩:∃k,d.length=k:=⟨_,rfl⟩
 rw[hk]at D0 hkl⊢;have hnl:Kept ((l.length:Int)=(n:Int)):=⟨by have:=hln.1;omega⟩
 rw[hnl.1];clear hr hk hx;have vZ:k<4611686018427387904:=om;have W0:=Aj (fun w=>qj k vZ w);have hw7:k≤128→Di.ng k≤7:=Di.Kk;generalize Di.ng k=v at*;by_cases h1:128<k
 ·rw[Ps0 h1];have h1':(128:Int)< (k:Int):=om;go_enter func221,ntmps221;go_wp2_with (go_at_call 261;refine D0.1.mono ?_;rintro e w1 ⟨A2,c2,rfl,ho,hb⟩;have B1:=Aj hb;clear ho hb);go_ret;exact⟨rfl,B1.1⟩
 ·have h1':¬(128:Int)< (k:Int):=by omega
  rw[Ng h1];by_cases h2:k=0
  ·subst h2;rw[Ps0 rfl];go_enter func221,ntmps221;go_wp2_with (go_at_call 261;refine D0.1.mono ?_;rintro e w1 ⟨A2,c2,rfl,ho,hb⟩;have B1:=Aj hb;clear ho hb);go_ret;exact⟨rfl,B1.1⟩
  ·rw[Ng h2];have h2':¬(k:Int)=0:=om;have hv:=hw7 om;have hnv:n*v≤7000000:=Nat.mul_le_mul hn hv;have adl:(n:Int)*(v:Int)=((n*v:Nat):Int):=by rw[Int.natCast_mul]
   have e0:0≤(n:Int)*(v:Int)∧(n:Int)*(v:Int)≤7000000:=by rw[adl];omega
   have e1:IntKind.i64.wrap ((k:Int)*64)=(k:Int)*64:=OQ om om;have e2:IntKind.i64.wrap ((n:Int)*(v:Int))=(n:Int)*(v:Int):=OQ e0.1 om;have e3:wrap64 ((n:Int)*(v:Int))=(n:Int)*(v:Int):=w64 e0.1 om;have e4:wrap64 (7+(k:Int)*64+(n:Int)*(v:Int))=7+(k:Int)*64+(n:Int)*(v:Int):=w64 om om;have e5:IntKind.i64.wrap (7+(k:Int)*64+(n:Int)*(v:Int))=7+(k:Int)*64+(n:Int)*(v:Int):=OQ om om;clear adl;go_enter func221,ntmps221;go_wp2_with (first
    |(go_at_call 262;refine(W0.1 _).mono ?_;rintro e w1 ⟨rfl,rfl⟩)
    |(go_at_call 261;refine D0.1.mono ?_;rintro e w1 ⟨A2,c2,rfl,ho,hb⟩;have B1:=Aj hb;clear ho hb))
   go_ret;exact⟨rfl,B1.1⟩
end Go.Proofs.YtongopommlghgaaGreatDoor
