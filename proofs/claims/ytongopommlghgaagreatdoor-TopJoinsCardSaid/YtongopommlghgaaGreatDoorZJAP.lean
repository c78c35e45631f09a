/- Part 16. -/
import Derived.Test.YtongopommlghgaaGreatDoorZJAO
namespace Go.Proofs.YtongopommlghgaaGreatDoor
set_option maxRecDepth 100000
set_option maxHeartbeats 0
theorem Bi:type_of% @Go.wpAnyH_take:= @Go.wpAnyH_take
theorem BV:type_of% @Go.AllReadyH.cons:= @Go.AllReadyH.cons
theorem Cu:type_of% @Go.AllReadyH.nil:= @Go.AllReadyH.nil
theorem CU:type_of% @Go.wpAnyH_ready:= @Go.wpAnyH_ready
open _root_.Go.Proofs.Tryz
open Go.RowKit Go.Shelf
theorem aG.wk {w w' base p b2 n c A l} (h:aG w b2 A n c l) (hk:Wk base p w w') (hp:p<b2):aG w' b2 A n c l:=by
 refine⟨h.1,h.2.imp id ?_⟩;rintro⟨g,cap,cur,hv,hb,hg,rest⟩;exact⟨g,cap,cur,hv,hb,hk.kept hg om Ai,rest⟩
theorem Wk.dr {base p w w1} (h:Wk base p w w1) (m):Wk base p w (w1.drewN m):=⟨⟨h.aX.os,h.aX.tape,h.aX.output,h.aX.size,h.aX.block⟩,h.rest⟩
theorem fG.aX {w w' base p bs} (h:fG w base p bs) (hb:Below w.heap.size w w'):fG w' base p bs:=by
 obtain⟨A,n,c,L,h1,h2,h3,h4⟩:=h;have hp:=(Ge.1 h1).1;exact⟨A,n,c,L,(hb.block p hp).trans h1,own_below h2 hb (fun g e=>(ae h2 g e).2),h3,h4⟩
theorem Wk.of {base p w w'} (h:Below w.heap.size w w') (hb:base≤w.heap.size):Wk base p w w':=⟨h.mono hb,fun k hk _ _=>h.block k hk⟩
theorem Mr (k) (d:List Nat):(d.flatMap (Bt.bw k)).length=k*d.length:=by
 induction d with
 |nil=>rfl
 |cons x d ih=>rw[Av,La,ih,Bt.aj,Lc,Nat.mul_add];omega
theorem Tv (k) (f:Nat→Nat) (d:List Nat):(d.flatMap fun x=>Bt.bw k (f x)).length=k*d.length:=by
 induction d with
 |nil=>rfl
 |cons x d ih=>rw[Av,La,ih,Bt.aj,Lc,Nat.mul_add];omega
theorem Tw (base p B bs A n c l w) (h:fG w base p bs) (hr:j6 w B A n c l) (hB:B≤base) (hx:∀x∈l,x<2^64) (hk:(Di.eQ l).length≤128)
  (hn:n≤1000000) (hl:bs.length≤100000000):
  Calls prog 222 #[.pointer (some ⟨p,0,none⟩),.slice A n c] w fun e w'=>e= .returned (.int .i64 0)∧fG w' base p (bs++Di.enc l)∧Wk base p w w':=by
 have hln:=Al hr.len;have hlc:=hr.1;have hcm:=hr.2.1;unfold maxLen at hcm;obtain⟨l9,hbp⟩:=h.lt;have D0:=Al (GM A n c B l w hr om hx hn);have R0:=Al hr;have H0:=Al h;have hup:=Al (Di.pG l);have hmem:=Al (Di.fA l);have Na:Kept (∀x∈Di.eQ l,x<2^64):=⟨fun x h=>hx x ((Di.fA l x).1 h)⟩
 by_cases hl0:l=[]
 ·subst hl0;obtain rfl:n=0:=hln.1;have he:Kept (Di.enc []=[]):=⟨rfl⟩
  have D1:Kept ((Di.eQ []).length=0):=⟨rfl⟩
  rw[D1.1]at D0;clear h hr hx hk;go_enter func222,ntmps222;go_wp2_with (go_at_call 261;refine D0.1.mono ?_;rintro e w1 ⟨A2,c2,rfl,ho,hb⟩;have B1:=Al hb;clear ho hb);go_ret;rw[he.1,Bh];exact⟨rfl,H0.1.aX B1.1,Wk.of B1.1 om⟩
 ·have hlp:0<l.length:=mH.2 hl0;have hd0:0< (Di.eQ l).length:=by
   rcases lY (Di.eQ l).length with e|e
   ·exfalso;obtain⟨x,hx⟩:=List.exists_mem_of_ne_nil l hl0;have:=(Di.fA l x).2 hx;rw[qU e]at this;simp at this
   ·exact e
  have he:Kept (Di.enc l=Bt.bw 7 ((Di.eQ l).length-1)++((Di.eQ l).flatMap (Bt.bw 64)++l.flatMap fun x=>Bt.bw (Di.mU (Di.eQ l).length) ((Di.eQ l).idxOf x))):=⟨by unfold Di.enc;rw[Ng hl0]⟩
  have hn0:¬(n:Int)=0:=by have:=hln.1;omega
  rw[he.1];clear he hl0;generalize Di.eQ l=d at*;obtain⟨K,hK⟩:∃K,d.length=K:=⟨_,rfl⟩
  rw[hK]at D0 hk hd0⊢;have HK:=Al hK;obtain⟨K1,hK1⟩:∃K1,K1=K-1:=⟨_,rfl⟩
  rw[←hK1];have hki:(K:Int)-1=(K1:Int):=om;have hku:IntKind.u64.wrap (K1:Int)=(K1:Int):=by rw[Bw];omega
  have aiR:¬(128:Int)< (K:Int):=om;have W0:=Al (fun w=>qd K om w);have hv7:Di.mU K≤7:=Di.J3 hk;generalize Di.mU K=v at*;have WB1:=Al (fun(w1:World) (h1:fG w1 base p bs)=>cB base p K1 7 bs w1 h1 om om om);clear h hr hx hK hK1;go_enter func222,ntmps222;go_wp2_with (first
   |(go_at_call 191;refine(WB1.1 w1 H1.1).mono ?_;rintro e w2 ⟨rfl,h2,k2⟩;have H2:=Al h2;have K2:=Al ((Wk.of B1.1 om).trans k2);have O2:=Al (O1.1.wk k2 l9);clear h2 k2)
   |(go_at_call 261;refine D0.1.mono ?_;rintro e w1 ⟨A2,c2,rfl,ho,hb⟩;have B1:=Al hb;have O1:=Al ho;have H1:=Al (H0.1.aX hb);clear ho hb))
  clear H0 H1 O1 B1 D0 WB1;have Nv:=O2.1.rd.1;have hcm2:=O2.1.rd.2.1;unfold maxLen at hcm2;go_loopw [33] (fun i wr=>∃k:Nat,k≤K∧i= .int .i64 (k:Int)∧fG wr base p (bs++Bt.bw 7 K1++(d.take k).flatMap (Bt.bw 64))∧Wk base p w wr∧aG wr w.heap.size A2 K c2 d) (fun i _=>K-(intOf i).toNat)
  case atStart=>exact⟨0,bf _,rfl,by simpa using H2.1,K2.1,O2.1⟩
  case round=>
   clear H2 K2 O2;obtain⟨k,hkK,rfl,h3,k3,o3⟩:=hrel;by_cases hlt:k<K
   ·have hlt':(k:Int)< (K:Int):=by omega
    have hkd:k<d.length:=by have:=HK.1;omega
    obtain⟨bb,off,rfl,ni,hc0⟩:=o3.rd.at_ hkd;have hxk:=Na.1 _ (dR hkd);have hbl:(bs++Bt.bw 7 K1++(d.take k).flatMap (Bt.bw 64)).length≤1000000000:=by
     rw[La,La,Bt.aj,Mr,jD];omega
    have WB:=Al (cB base p d[k] 64 _ wr h3 hxk om hbl);have HKx:=Al k3;have HO3:=Al o3;have htk:Kept ((d.take (k+1)).flatMap (Bt.bw 64)=(d.take k).flatMap (Bt.bw 64)++Bt.bw 64 d[k]):=⟨by rw[Ts hkd,nH];simp⟩
    generalize d[k]=x at*;clear h3 k3 o3 hbl;go_wp2_with (go_at_call 191;refine WB.1.mono ?_;rintro e w4 ⟨rfl,h4,k4⟩;have H4:=Al h4;have K4:=Al (HKx.1.trans k4);have O4:=Al (HO3.1.wk k4 l9);clear h4 k4);go_roundw
    case rel=>exact⟨k+1,om,by go_num,by rw[htk.1,←Af];exact H4.1,K4.1,O4.1⟩
    case measure=>simp[intOf];omega
   ·obtain rfl:k=K:=by omega
    have htk:d.take k=d:=jc (by rw[HK.1];exact Nr _);rw[htk]at h3;have H3:=Al h3;have K3:=Al k3;have O3:=Al o3;clear h3 k3 o3 htk;go_wp2;go_loopw [43] (fun i wr=>∃j:Nat,j≤n∧i= .int .i64 (j:Int)∧fG wr base p (bs++Bt.bw 7 K1++d.flatMap (Bt.bw 64)++(l.take j).flatMap fun x=>Bt.bw v (d.idxOf x))∧Wk base p w wr∧aG wr w.heap.size A2 k c2 d) (fun i _=>n-(intOf i).toNat)
    case atStart=>exact⟨0,bf _,rfl,by simpa using H3.1,K3.1,O3.1⟩
    case round=>
     clear H3 K3 O3;obtain⟨j,hjn,rfl,h5,k5,o5⟩:=hrel;by_cases hjl:j<n
     ·have agr:(j:Int)< (n:Int):=by omega
      have hjd:j<l.length:=by have:=hln.1;omega
      obtain⟨bb,off,rfl,ni,hc0⟩:=(R0.1.below (k5.aX.mono hB)).at_ hjd;have hq:d.idxOf l[j]<d.length:=List.idxOf_lt_length_of_mem ((hmem.1 _).2 (dR hjd));have YN:l[j]=d[d.idxOf l[j]]:=(List.getElem_idxOf hq).symm;have BS:=Al (GN A2 k c2 wr.heap.size (d.idxOf l[j]) l[j] d wr o5.rd Aj hq YN hup.1 om);have hbl:(bs++Bt.bw 7 K1++d.flatMap (Bt.bw 64)++(l.take j).flatMap fun x=>Bt.bw v (d.idxOf x)).length≤1000000000:=by
       rw[La,La,La,Bt.aj,Mr,Tv,jD,HK.1];have:v*min j l.length≤7*1000000:=Nat.mul_le_mul hv7 om;omega
      have hqK:d.idxOf l[j]<k:=by rw[←HK.1];exact hq
      have WB:=Al (fun m=>cB base p (d.idxOf l[j]) v _ (wr.drewN m) (show fG (wr.drewN m) base p _ from h5) om om hbl);have K5:=Al k5;have O5:=Al o5;have htk:Kept (((l.take (j+1)).flatMap fun x=>Bt.bw v (d.idxOf x))=((l.take j).flatMap fun x=>Bt.bw v (d.idxOf x))++Bt.bw v (d.idxOf l[j])):=⟨by rw[Ts hjd,nH];simp⟩
      clear YN hq hbl h5 k5 o5;generalize d.idxOf l[j]=q at*;generalize l[j]=x at*;have hqu:IntKind.u64.wrap (q:Int)=(q:Int):=by rw[Bw];omega
      go_wp2_with (first
       |(go_at_call 263;refine BS.1.mono ?_;rintro e w6 ⟨rfl,m,rfl⟩)
       |(go_at_call 262;refine(W0.1 _).mono ?_;rintro e w6 ⟨rfl,rfl⟩)
       |(go_at_call 191;refine(WB.1 _).mono ?_;rintro e w7 ⟨rfl,h7,k7⟩;have H7:=Al h7;have K7:=Al ((K5.1.dr m).trans k7);have O7:=Al (aG.wk (show aG (wr.drewN m) _ _ _ _ _ from O5.1) k7 l9);clear h7 k7))
      go_roundw
      case rel=>exact⟨j+1,om,by go_num,by rw[htk.1,←Af];exact H7.1,K7.1,O7.1⟩
      case measure=>simp[intOf];omega
     ·obtain rfl:j=n:=by omega
      have htl:l.take j=l:=jc (by have:=hln.1;omega);rw[htl]at h5;have H5:=Al h5;have K5:=Al k5;clear h5 k5 o5 htl;go_wp2;go_ret;exact⟨rfl,by rw[←Af,←Af];exact H5.1,K5.1⟩
theorem Tx:(prog.info? 2).map (fun i=>(i.zero,i.size,i.bytes))=some (some (.int .i64 0),1,8):=kr
theorem Ty:(prog.info? 125).map (fun i=>(i.zero,i.size,i.bytes))=some (some (.int .u64 0),1,8):=kr
theorem Ms (n:Nat) (hn:n≤1000000) (w):(Instr.makeSlice 281 (.int .i64 n) (.int .i64 n)).run prog w= .ok (.slice (some ⟨w.heap.size,0,none⟩) n n) (w.alloc (.cells (madeCells #[.int .i64 0] n) 2)):=by
 obtain⟨i0,hi0,hz0,hz1,hz2⟩:=AY Tx;have:=Eb (P:=prog) w 281 2 i0 (.int .i64 0) underlying281 hi0 hz0 .i64 .i64 (n:Int) (n:Int) om om (by rw[hz1];simp;omega) (by rw[hz2];omega) om;rw[hz1]at this;simpa[Value.cells]using this
theorem Mt (n:Nat) (hn:n≤1000000) (w):(Instr.makeSlice 284 (.int .i64 n) (.int .i64 n)).run prog w= .ok (.slice (some ⟨w.heap.size,0,none⟩) n n) (w.alloc (.cells (madeCells #[.int .u64 0] n) 125)):=by
 obtain⟨i0,hi0,hz0,hz1,hz2⟩:=AY Ty;have:=Eb (P:=prog) w 284 125 i0 (.int .u64 0) underlying284 hi0 hz0 .i64 .i64 (n:Int) (n:Int) om om (by rw[hz1];simp;omega) (by rw[hz2];omega) om;rw[hz1]at this;simpa[Value.cells]using this
theorem eZ.zeros (w:World) (n base) (hn:n≤1000000) (hb:base≤w.heap.size):eZ (w.alloc (.cells (madeCells #[.int .i64 0] n) 2)) base (some ⟨w.heap.size,0,none⟩) n n (List.replicate n 0):=by
 obtain⟨i0,hi0,hz0,hz1,hz2⟩:=AY Tx;obtain⟨w',h1,h2,-⟩:=run_make_full (P:=prog) w base 281 2 i0 (.int .i64 0) 1 underlying281 hi0 hz0 hz1 .i64 .i64 n (by rw[hz2];omega) (by unfold maxLen;omega) hb;rw[Ms n hn w]at h1
 injection h1 with _ h1
 subst h1;rw[Dp,show(Value.int .i64 0).cells= #[Value.int .i64 0]from rfl,toList_madeCells_one]at h2;have e:yB (List.replicate n 0)=List.replicate n (Value.int .i64 0):=by simp[yB,tv]
 unfold eZ;rw[e];exact h2
theorem aG.zeros (w:World) (n base) (hn:n≤1000000) (hb:base≤w.heap.size):aG (w.alloc (.cells (madeCells #[.int .u64 0] n) 125)) base (some ⟨w.heap.size,0,none⟩) n n (List.replicate n 0):=by
 obtain⟨i0,hi0,hz0,hz1,hz2⟩:=AY Ty;obtain⟨w',h1,h2,-⟩:=run_make_full (P:=prog) w base 284 125 i0 (.int .u64 0) 1 underlying284 hi0 hz0 hz1 .i64 .i64 n (by rw[hz2];omega) (by unfold maxLen;omega) hb;rw[Mt n hn w]at h1
 injection h1 with _ h1
 subst h1;rw[Dp,show(Value.int .u64 0).cells= #[Value.int .u64 0]from rfl,toList_madeCells_one]at h2;have e:vB (List.replicate n 0)=List.replicate n (Value.int .u64 0):=by simp[vB,uv]
 unfold aG;rw[e];exact h2
def wJ {X:Type} (xs:List X) (d:X) (k n:Nat):List X:=xs.take k++List.replicate (n-k) d
theorem uT {X} (xs:List X) (d n):wJ xs d 0 n=List.replicate n d:=by simp[wJ]
theorem Mv {X} (xs:List X) (d n) (h:n=xs.length):wJ xs d n n=xs:=by subst h;simp[wJ]
theorem zI {X:Type} (xs:List X) (d:X) (k n:Nat) (hk:k<n) (h:n=xs.length):(wJ xs d k n).set k (xs[k]'om)=wJ xs d (k+1) n:=by
 unfold wJ;rw[List.set_append_right _ _ (by rw[jD];omega),jD,Nat.min_eq_left om,Dz];obtain⟨m,hm⟩:∃m,n-k=m+1:=⟨n-k-1,om⟩
 rw[hm,List.replicate_succ,Au,Ts (show k<xs.length from om),show n-(k+1)=m from om,Af]
 rfl
theorem fO.agD {w B n c k A l} (h:fO w B A n c l) (hB:B≤w.heap.size) (hk:k<l.length):
  ∃b off,A=some ⟨b,off,none⟩∧∀W,Below w.heap.size w W→W.cell? ⟨b,off+k*2,none⟩=some (.int .i64 l[k].1)∧W.cell? ⟨b,off+k*2+1,none⟩=some (.int .u64 (l[k].2:Int)):=by
 obtain⟨b,off,e,hb,h1,h2⟩:=h.at_ hk;exact⟨b,off,e,fun W hW=>⟨(hW.cell (p:=⟨b,_,none⟩) (by show b<_;omega)).trans h1,(hW.cell (p:=⟨b,_,none⟩) (by show b<_;omega)).trans (by rw[iw];exact h2)⟩⟩
theorem Tz (a b c w):(Instr.field 290 (.agg #[a,b,c]) 1).run prog w= .ok b w:=kr
theorem adg (a b c w):(Instr.field 290 (.agg #[a,b,c]) 2).run prog w= .ok c w:=kr
theorem zJ {w:World} {b1 b2 sz n c A xs e} (h:w.ownsRow b1 e sz (.slice A n c) n xs) (hb:b2≤b1):w.ownsRow b2 e sz (.slice A n c) n xs:=
 ⟨h.1,h.2.imp id fun⟨g,cap,cur,h1,h2,h3⟩=>⟨g,cap,cur,h1,om,h3⟩⟩
structure Gl (w:World):Prop where
 frm:qb w
 dbj:wH w
 tab:gH w
 dlt:2<w.heap.size
theorem Gl.below {w w'} (h:Gl w) (hb:Below w.heap.size w w'):Gl w':=⟨h.frm.below hb,h.dbj.aX hb h.dlt,h.tab.below hb,jE h.dlt hb.size⟩
theorem Ha (A n c B) (l:Cs.fI) (w) (hv:fO w B A n c l) (hB:B≤w.heap.size) (hin:Cs.In l) (h1:1≤n) (h2:n≤120) (hG:Gl w):
  Calls prog 140 #[.slice A n c] w fun e w'=>∃A2 n2 c2,e= .returned (.tuple #[.slice A2 n2 c2,.int .i64 0])∧ah w' w.heap.size A2 n2 c2 (Ck.enc l)∧Below w.heap.size w w':=by
 have hlc:=hv.1;have hcm:=hv.2.1;unfold maxLen at hcm;have Hv:=Al hv;have hn:=Al hv.len;have HI:=Al hin;have HG:=Al hG;have m1:=fun W=>Ms n om W
 have m2:=fun W=>Mt n om W
 have z1:((n:Int)==0)=false:=by simp;omega
 have z2:¬(120:Int)< (n:Int):=om;clear hv hin hG;go_enter func140,ntmps140;go_upto_region 6 with fail;go_cut [5,6] (fun t v W=>∃gt gv:Nat,t= .slice (some ⟨gt,0,none⟩) n n∧v= .slice (some ⟨gv,0,none⟩) n n∧gt≠gv∧eZ W w.heap.size (some ⟨gt,0,none⟩) n n (List.replicate n 0)∧aG W w.heap.size (some ⟨gv,0,none⟩) n n (List.replicate n 0)∧Below w.heap.size w W)
 case first=>
  go_region
  ·go_wp2_with fail;go_meet;refine⟨w.heap.size,w.heap.size+1,rfl,rfl,om,Oa (eZ.zeros w n _ om Aj) _,?_,(((Ae _ w).alloc Aj _).alloc Ah _).drew⟩;have:=aG.zeros (w.alloc (.cells (madeCells #[.int .i64 0] n) 2)) n w.heap.size om Ah;have Hl:=this;rw[show(w.alloc (.cells (madeCells #[Value.int .i64 0] n) 2)).heap.size=w.heap.size+1 from Ah]at Hl;exact Hl
  ·go_wp2_with fail;go_meet;refine⟨w.heap.size+1,w.heap.size,rfl,rfl,om,?_,Oa (aG.zeros w n _ om Aj) _,(((Ae _ w).alloc Aj _).alloc Ah _).drew⟩;have:=eZ.zeros (w.alloc (.cells (madeCells #[.int .u64 0] n) 125)) n w.heap.size om Ah;have Hl:=this;rw[show(w.alloc (.cells (madeCells #[Value.int .u64 0] n) 125)).heap.size=w.heap.size+1 from Ah]at Hl;exact Hl
 case rest=>
  rename World=>wc
  obtain⟨gt,gv,rfl,rfl,hne,oT,oU,hb⟩:=hcut;have OT:=Al oT;have OU:=Al oU;have HB:=Al hb;clear m1 m2 oT oU hb z1 z2;go_wp2;go_loopw [27] (fun i wr=>∃k:Nat,k≤n∧i= .int .i64 k∧eZ wr w.heap.size (some ⟨gt,0,none⟩) n n (wJ (l.map (·.1)) 0 k n)∧aG wr w.heap.size (some ⟨gv,0,none⟩) n n (wJ (l.map (·.2)) 0 k n)∧Below w.heap.size w wr) (fun i _=>n-(intOf i).toNat)
  case atStart=>exact⟨0,om,rfl,by rw[uT];exact OT.1,by rw[uT];exact OU.1,HB.1⟩
  case round=>
   clear OT OU HB;obtain⟨k,hk,rfl,oT,oU,hb⟩:=hrel;by_cases hlt:k<n
   ·have hkl:k<l.length:=by rw[←hn.1];exact hlt
    obtain⟨b,off,rfl,hc⟩:=fO.agD Hv.1 hB hkl;obtain⟨c0,c1⟩:=hc wr hb;have fT:=zI (l.map (·.1)) 0 k n hlt (by rw[fM];exact hn.1);have fU:=zI (l.map (·.2)) 0 k n hlt (by rw[fM];exact hn.1);rw[DL]at fT fU;have lT:k< (wJ (l.map (·.1)) 0 k n).length:=by rw[←oT.len];exact hlt
    have lU:k< (wJ (l.map (·.2)) 0 k n).length:=by rw[←oU.len];exact hlt
    have FT:=Al fT;have FU:=Al fU;have ni:=Al hb;have gtl:=(ae oT gt rfl).2;have gvl:=(ae oU gv rfl).2;have hz:=hb.size;have OT:=Al oT;have OU:=Al oU;have ZS:=Al (by decide:True);clear hc fT fU;generalize l[k]=x at*;go_upto_region 10 with fail;have oT1:eZ (wr.alloc (.cells #[.int .i64 x.1,.int .u64 (x.2:Int)] 127)) w.heap.size (some ⟨gt,0,none⟩) n n (wJ (l.map (·.1)) 0 k n):=Oa oT _;have oU1:aG (wr.alloc (.cells #[.int .i64 x.1,.int .u64 (x.2:Int)] 127)) w.heap.size (some ⟨gv,0,none⟩) n n (wJ (l.map (·.2)) 0 k n):=Oa oU _;have hb1:=hb.alloc hz (.cells #[.int .i64 x.1,.int .u64 (x.2:Int)] 127);have hrow:=Aw wr (.cells #[.int .i64 x.1,.int .u64 (x.2:Int)] 127);have t0:=Co _ _ 0 _ _ _ hrow;have t1:=Co _ _ 1 _ _ _ hrow;have gbl:gt≠wr.heap.size∧gv≠wr.heap.size:=⟨om,om⟩
    clear oT oU hb c0 c1 hrow;generalize wr.alloc (.cells #[.int .i64 x.1,.int .u64 (x.2:Int)] 127)=wa at*;generalize wr.heap.size=gb at*;obtain⟨a0,a1⟩:=oT1.at_ lT;obtain⟨b0,b1⟩:=oU1.at_ lU;have OT1:=Al oT1;have OU1:=Al oU1;have HB1:=Al hb1;generalize (wJ (l.map (·.1)) 0 k n)[k]=va at a0;generalize (wJ (l.map (·.2)) 0 k n)[k]=vb at b0;clear oT1 oU1 hb1 lT lU;go_region;have adj:=av wa ⟨gt,k,none⟩ (.int .i64 x.1);have TC:=av (wa.setCell ⟨gt,k,none⟩ (.int .i64 x.1)) ⟨gv,k,none⟩ (.int .u64 (x.2:Int));have TF:eZ ((wa.setCell ⟨gt,k,none⟩ (.int .i64 x.1)).setCell ⟨gv,k,none⟩ (.int .u64 (x.2:Int))) w.heap.size (some ⟨gt,0,none⟩) n n (wJ (l.map (·.1)) 0 (k+1) n):=by
     have h1:=OT1.1.set k x.1;rw[FT.1]at h1;exact ag h1 TC (.inr (fun e=>hne (Oj e)))
    have UF:aG ((wa.setCell ⟨gt,k,none⟩ (.int .i64 x.1)).setCell ⟨gv,k,none⟩ (.int .u64 (x.2:Int))) w.heap.size (some ⟨gv,0,none⟩) n n (wJ (l.map (·.2)) 0 (k+1) n):=by
     have h1:aG (wa.setCell ⟨gt,k,none⟩ (.int .i64 x.1)) w.heap.size (some ⟨gv,0,none⟩) n n (wJ (l.map (·.2)) 0 k n):=ag OU1.1 adj (.inr (fun e=>hne (Oj e).symm));have h2:=h1.set k x.2;rw[FU.1]at h2;exact h2
    have BF:Below w.heap.size w ((wa.setCell ⟨gt,k,none⟩ (.int .i64 x.1)).setCell ⟨gv,k,none⟩ (.int .u64 (x.2:Int))):=(HB1.1.setCell (ae OT1.1 gt rfl).1 _).setCell (ae OU1.1 gv rfl).1 _;have KTF:=Al TF;have KUF:=Al UF;have KBF:=Al BF;clear adj TC TF UF BF;go_wp2;go_roundw
    case rel=>exact⟨k+1,om,by go_num,KTF.1,KUF.1,KBF.1.drew⟩
    case measure=>simp[intOf];omega
   ·obtain rfl:k=n:=by omega
    rw[Mv _ _ k (by rw[fM];exact hn.1)]at oT oU;have RT:=Al oT.rd;have RU:=Al oU.rd;have HB2:=Al hb;have rf:=hb.size;have GW:Gl wr:=by
     have h1:=hb.mono Aj;exact HG.1.below h1
    have hxs:∀y∈l.map (·.2),y<2^64:=fun y hy=>by
     obtain⟨q,hq,rfl⟩:=dV.1 hy;exact(HI.1 q hq).2
    have hts:∀y∈l.map (·.1),Tm.In y:=fun y hy=>by
     obtain⟨q,hq,rfl⟩:=dV.1 hy;exact(HI.1 q hq).1
    have hdk:(Di.eQ (l.map (·.2))).length≤128:=by
     have h1:=Ck.Jm (l.map (·.2));have h2:=hn.1;rw[fM]at h1;omega
    have CH:=uS (some ⟨gv,0,none⟩) k k wr.heap.size (l.map (·.2)) wr RU.1 Aj hxs om GW.dbj GW.dlt;have htr:=Ck.tJ (l.map (·.2));have hcb:Kept (Ck.enc l=Ck.pk ((((([]:List Bool)++Bt.bw 8 (Ck.choose (l.map (·.2))))++Bt.bw 8 (k-1))++Tm.enc (l.map (·.1)))++Ck.vals (Ck.choose (l.map (·.2))) (l.map (·.2)))):=⟨by
     unfold Ck.enc Ck.cb;rw[←hn.1];simp only[AB,Af]⟩
    have hlT:(Tm.enc (l.map (·.1))).length≤100000:=by
     have h1:=Ck.Ym (l.map (·.1));have h2:=hn.1;rw[fM]at h1;omega
    have PT:Kept (∀(w1:World) (bs:List Bool) (W:World),Below wr.heap.size wr w1→bs.length≤1000→fG W w1.heap.size w1.heap.size bs→Below w1.heap.size w1 W→Calls prog 192 #[.pointer (some ⟨w1.heap.size,0,none⟩),.slice (some ⟨gt,0,none⟩) k k] W fun e w'=>e= .returned (.int .i64 0)∧fG w' w1.heap.size w1.heap.size (bs++Tm.enc (l.map (·.1)))∧Below w1.heap.size w1 w'):=⟨fun w1 bs W hb1 hl hw hbW=>by
     have hc:=hb1.trans (hbW.mono hb1.size);exact(Tf _ _ wr.heap.size bs _ k k (l.map (·.1)) W hw (RT.1.below hc) hb1.size (GW.below hc).frm (jE GW.frm.lt hb1.size) hts om om).mono fun _ _ q=>⟨q.1,q.2.1,hbW.trans q.2.2.aX⟩⟩
    have PV:Kept (∀(w1:World) (bs:List Bool) (W:World),Below wr.heap.size wr w1→bs.length≤200000→fG W w1.heap.size w1.heap.size bs→Below w1.heap.size w1 W→Calls prog (if Ck.choose (l.map (·.2))=1 then 216 else if Ck.choose (l.map (·.2))=2 then 219 else 222) #[.pointer (some ⟨w1.heap.size,0,none⟩),.slice (some ⟨gv,0,none⟩) k k] W fun e w'=>e= .returned (.int .i64 0)∧fG w' w1.heap.size w1.heap.size (bs++Ck.vals (Ck.choose (l.map (·.2))) (l.map (·.2)))∧Below w1.heap.size w1 w'):=⟨fun w1 bs W hb1 hl hw hbW=>by
     have hc:=hb1.trans (hbW.mono hb1.size);unfold Ck.vals;split
     ·exact(Tt _ _ wr.heap.size bs _ k k _ W hw (RU.1.below hc) hb1.size hxs om om (GW.below hc).dbj (jE GW.dlt hb1.size)).mono fun _ _ q=>⟨q.1,q.2.1,hbW.trans q.2.2.aX⟩
     ·split
      ·exact(Tg _ _ wr.heap.size bs _ k k _ W hw (RU.1.below hc) hb1.size hxs om om).mono fun _ _ q=>⟨q.1,q.2.1,hbW.trans q.2.2.aX⟩
      ·exact(Tw _ _ wr.heap.size bs _ k k _ W hw (RU.1.below hc) hb1.size hxs hdk om om).mono fun _ _ q=>⟨q.1,q.2.1,hbW.trans q.2.2.aX⟩⟩
    have hvl:(Ck.vals (Ck.choose (l.map (·.2))) (l.map (·.2))).length≤100000:=by
     have h1:=Ck.Lf (l.map (·.2));have h2:=Ck.Yn (l.map (·.2));have h3:=hn.1;rw[fM]at h2;omega
    have BW:Kept (∀(w1:World) (x:Nat) (bs:List Bool) (W:World),x<1000→bs.length≤1000→fG W w1.heap.size w1.heap.size bs→Below w1.heap.size w1 W→Calls prog 191 #[.pointer (some ⟨w1.heap.size,0,none⟩),.int .u64 (x:Int),.int .i64 8] W fun e w'=>e= .returned (.int .i64 0)∧fG w' w1.heap.size w1.heap.size (bs++Bt.bw 8 x)∧Below w1.heap.size w1 w'):=⟨fun w1 x bs W hx hl hw hbW=>(cB _ _ x 8 bs W hw om om om).mono fun _ _ q=>⟨q.1,q.2.1,hbW.trans q.2.2.aX⟩⟩
    have KCH:=Al CH;have hkm:(k:Int)-1=((k-1:Nat):Int):=om;have hkw:IntKind.u64.wrap ((k-1:Nat):Int)=((k-1:Nat):Int):=by rw[Bw];omega
    have EC:=Al (fun W=>jb W);unfold Tu Ox at EC;generalize Ck.choose (l.map (·.2))=tag at*;generalize Ck.vals tag (l.map (·.2))=vb at*;generalize Tm.enc (l.map (·.1))=tb at*;clear CH GW hxs hts hdk oT oU hb;have h3:tag=1∨tag=2∨tag=3:=om;rcases h3 with rfl|rfl|rfl
    have CH1:Kept (Calls prog 181 #[.slice (some ⟨gv,0,none⟩) k k] wr fun r w'=>r= .returned (.int .i64 1)∧Below wr.heap.size wr w'):=⟨KCH.1⟩
    have BW1:Kept (∀(w1 W:World),fG W w1.heap.size w1.heap.size []→Below w1.heap.size w1 W→Calls prog 191 #[.pointer (some ⟨w1.heap.size,0,none⟩),.int .u64 1,.int .i64 8] W fun e w'=>e= .returned (.int .i64 0)∧fG w' w1.heap.size w1.heap.size ([]++Bt.bw 8 1)∧Below w1.heap.size w1 w'):=⟨fun w1 W h1 h2=>BW.1 w1 1 [] W om Ah h1 h2⟩
    have PV1:Kept (∀(w1:World) (bs:List Bool) (W:World),Below wr.heap.size wr w1→bs.length≤200000→fG W w1.heap.size w1.heap.size bs→Below w1.heap.size w1 W→Calls prog 216 #[.pointer (some ⟨w1.heap.size,0,none⟩),.slice (some ⟨gv,0,none⟩) k k] W fun e w'=>e= .returned (.int .i64 0)∧fG w' w1.heap.size w1.heap.size (bs++vb)∧Below w1.heap.size w1 w'):=⟨PV.1⟩
    have ix:=fun W=>aat W
    have fl:=fun W=>Tz (.func (.func 215) #[] #[]) (.func (.func 216) #[] #[]) (.func (.func 217) #[] #[]) W
    rotate_left
    have CH1:Kept (Calls prog 181 #[.slice (some ⟨gv,0,none⟩) k k] wr fun r w'=>r= .returned (.int .i64 2)∧Below wr.heap.size wr w'):=⟨KCH.1⟩
    have BW1:Kept (∀(w1 W:World),fG W w1.heap.size w1.heap.size []→Below w1.heap.size w1 W→Calls prog 191 #[.pointer (some ⟨w1.heap.size,0,none⟩),.int .u64 2,.int .i64 8] W fun e w'=>e= .returned (.int .i64 0)∧fG w' w1.heap.size w1.heap.size ([]++Bt.bw 8 2)∧Below w1.heap.size w1 w'):=⟨fun w1 W h1 h2=>BW.1 w1 2 [] W om Ah h1 h2⟩
    have PV1:Kept (∀(w1:World) (bs:List Bool) (W:World),Below wr.heap.size wr w1→bs.length≤200000→fG W w1.heap.size w1.heap.size bs→Below w1.heap.size w1 W→Calls prog 219 #[.pointer (some ⟨w1.heap.size,0,none⟩),.slice (some ⟨gv,0,none⟩) k k] W fun e w'=>e= .returned (.int .i64 0)∧fG w' w1.heap.size w1.heap.size (bs++vb)∧Below w1.heap.size w1 w'):=⟨PV.1⟩
    have ix:=fun W=>aau W
    have fl:=fun W=>Tz (.func (.func 218) #[] #[]) (.func (.func 219) #[] #[]) (.func (.func 220) #[] #[]) W
    rotate_left
    have CH1:Kept (Calls prog 181 #[.slice (some ⟨gv,0,none⟩) k k] wr fun r w'=>r= .returned (.int .i64 3)∧Below wr.heap.size wr w'):=⟨KCH.1⟩
    have BW1:Kept (∀(w1 W:World),fG W w1.heap.size w1.heap.size []→Below w1.heap.size w1 W→Calls prog 191 #[.pointer (some ⟨w1.heap.size,0,none⟩),.int .u64 3,.int .i64 8] W fun e w'=>e= .returned (.int .i64 0)∧fG w' w1.heap.size w1.heap.size ([]++Bt.bw 8 3)∧Below w1.heap.size w1 w'):=⟨fun w1 W h1 h2=>BW.1 w1 3 [] W om Ah h1 h2⟩
    have PV1:Kept (∀(w1:World) (bs:List Bool) (W:World),Below wr.heap.size wr w1→bs.length≤200000→fG W w1.heap.size w1.heap.size bs→Below w1.heap.size w1 W→Calls prog 222 #[.pointer (some ⟨w1.heap.size,0,none⟩),.slice (some ⟨gv,0,none⟩) k k] W fun e w'=>e= .returned (.int .i64 0)∧fG w' w1.heap.size w1.heap.size (bs++vb)∧Below w1.heap.size w1 w'):=⟨PV.1⟩
    have ix:=fun W=>aav W
    have fl:=fun W=>Tz (.func (.func 221) #[] #[]) (.func (.func 222) #[] #[]) (.func (.func 223) #[] #[]) W
    rotate_left
    all_goals
     clear KCH PV;go_wp2_with (first
      |(go_at_call 193;refine(JV _ _ _ w7 S7.1 (by have:=hvl;have:=hlT;simp only[La,Bt.aj,Ba];omega)).mono ?_;rintro e w8 ⟨A8,n8,c8,rfl,h1,h2⟩;have O8:=Al h1;have B8:=Al h2;clear h1 h2)
      |((first|go_at_call 216|go_at_call 219|go_at_call 222);refine(PV1.1 w1 _ w6 B1.1 (by have:=hlT;simp only[La,Bt.aj,Ba];omega) (S5.1.aX B6.1) (B5.1.trans (B6.1.mono B5.1.size))).mono ?_;rintro e w7 ⟨rfl,h1,h2⟩;have S7:=Al h1;have B7:=Al h2;clear h1 h2)
      |(go_at_call 179;refine(EC.1 w5).mono ?_;rintro e w6 ⟨rfl,h1⟩;have B6:=Al h1;clear h1)
      |(go_at_call 192;refine(PT.1 w1 _ w4 B1.1 (by simp only[La,Bt.aj,Ba];omega) S4.1 B4.1).mono ?_;rintro e w5 ⟨rfl,h1,h2⟩;have S5:=Al h1;have B5:=Al h2;clear h1 h2)
      |(go_at_call 191;refine(BW.1 w1 (k-1) _ w3 om (by simp only[La,Bt.aj,Ba];omega) S3.1 B3.1).mono ?_;rintro e w4 ⟨rfl,h1,h2⟩;have S4:=Al h1;have B4:=Al h2;clear h1 h2)
      |(go_at_call 191;refine(BW1.1 w1 w2 S2.1 B2.1).mono ?_;rintro e w3 ⟨rfl,h1,h2⟩;have S3:=Al h1;have B3:=Al h2;clear h1 h2)
      |(go_at_call 190;refine(wD w1).mono ?_;rintro e w2 ⟨rfl,h1,h2⟩;have S2:=Al h1;have B2:=Al h2;clear h1 h2)
      |(go_at_call 181;refine CH1.1.mono ?_;rintro e w1 ⟨rfl,h1⟩;have B1:=Al h1;clear h1 CH1))
     go_ret2;have z1:=HB2.1.size;have z2:=B1.1.size;have z3:=B7.1.size;refine⟨A8,n8,c8,rfl,?_,((HB2.1.trans (B1.1.mono z1)).trans (B7.1.mono om)).trans (B8.1.mono om)⟩;rw[hcb.1];exact zJ O8.1 om
def OG (p d:Nat) (w:World) (Q:(Nat×(Nat×Nat))×List Bool×Int) (e:Ending) (w':World):Prop:=
 ∃(v last':Nat) (c':Nat×Nat) (r':List Bool),e= .returned (.int .u64 (v:Int))∧De w' d p last' c' Q.2.2∧Br w' p r'∧Wd p d w w'∧(Q.2.2=0→v=Q.1.1∧last'=Q.1.1∧c'=Q.1.2∧r'=Q.2.1)
theorem wH.wd {p d w w'} (h:wH w) (hw:Wd p d w w') (h1:2<p) (h2:p<d) (hp:p<w.heap.size):wH w':=fun j hj=>by
 have:=hw.block 2 om om om;exact(AU (a:=⟨2,j,none⟩) this).trans (h j hj)
theorem Xo.eO (n r):Xo.bL n 0 r=Tm.rd n r:=by unfold Xo.bL;rw[Ng Ah]
theorem Xo.TD (n) {er} (r) (h:er≠0):Xo.bL n er r=(0,r,er):=by unfold Xo.bL;rw[Ps0 h]
theorem Xo.OH (r):(Xo.UG 0 r).2.2=(Xo.fresh r).2.2∧((Xo.fresh r).2.2=0→Xo.UG 0 r=Xo.fresh r):=by
 unfold Xo.UG Xo.fresh;rw[Xo.eO];by_cases h1:(Tm.rd 6 r).2.2=0
 ·rw[h1,Xo.eO];rw[Ng Ah];by_cases h2:(Tm.rd 6 (Tm.rd 6 r).2.1).2.2=0
  ·rw[h2,Ng Ah];unfold Xo.ko;by_cases h3:(Tm.rd 6 r).1+((Tm.rd 6 (Tm.rd 6 r).2.1).1+1)≤64
   ·simp[h3]
   ·simp[h3]
  ·rw[Ps0 h2];unfold Xo.ko;simp[h2]
 ·rw[Ps0 h1,Xo.TD _ _ h1];unfold Xo.ko;simp[h1]
theorem OI (d p last c r w) (hD:De w d p last c 0) (hB:Br w p r) (mf:p<d) (h0:(Tm.rd 1 r).1=0):
  Calls prog 257 #[.pointer (some ⟨d,0,none⟩)] w (OG p d w (Xo.get last c r)):=by
 have B1:=eH d p last 1 c 0 r w hD hB om mf;rw[Xo.eO]at B1;have hQ:(Xo.get last c r).2.2=(Tm.rd 1 r).2.2∧((Tm.rd 1 r).2.2=0→Xo.get last c r=((last,c),(Tm.rd 1 r).2.1,0)):=by
  unfold Xo.get;by_cases h1:(Tm.rd 1 r).2.2=0
  ·rw[Ng (by simpa using h1),Ps0 h0];exact⟨h1.symm,fun _=>rfl⟩
  ·rw[Ps0 h1];exact⟨rfl,fun h=>absurd h h1⟩
 have KQ:=Al hQ;generalize Xo.get last c r=Q at*;generalize Tm.rd 1 r=Y at*;obtain⟨a,r1,e1⟩:=Y;simp only[]at*;subst h0;have KB:=Al B1;clear B1 hD hB hQ;go_enter func257,ntmps257;go_wp2_with (go_at_call 256;refine KB.1.mono ?_;rintro e w1 ⟨rfl,h1,h2,h3⟩;have D1:=Al h1;have R1:=Al h2;have F1:=Al h3;have k0:=h1.k.1;clear h1 h2 h3);go_ret;refine⟨last,last,c,r1,rfl,?_,R1.1,F1.1,fun h=>?_⟩
 ·rw[KQ.1.1];exact D1.1
 ·rw[KQ.1.1]at h;rw[KQ.1.2 h];exact⟨rfl,rfl,rfl,rfl⟩
theorem Tm.J8 {n r} (h:(Tm.rd n r).2.2≠0):(Tm.rd n r).1=0:=by
 unfold Tm.rd at h⊢;split
 ·rfl
 ·rename_i h1;rw[Ng h1]at h;exact absurd rfl h
theorem Wd.drew {p d w w1} (h:Wd p d w w1):Wd p d w w1.drew:=⟨h.os,h.tape,h.output,h.size,h.block⟩
def Mid (w:World) (d p last:Nat) (c cw:Nat×Nat) (er:Int) (r:List Bool) (g:Nat) (W:World):Prop:=
 g≠d∧g≠p∧w.heap.size≤g∧W.heap[g]? =some (.cells #[.int .i64 (cw.1:Int),.int .i64 (cw.2:Int)] 368 (0,0))∧De W d p last c er∧Br W p r∧Wd p d w W
theorem Mid.step {w W W2 d p last last2 g c c2 cw er er2 r r2} (h:Mid w d p last c cw er r g W) (hD:De W2 d p last2 c2 er2) (hB:Br W2 p r2) (hw:Wd p d W W2):Mid w d p last2 c2 cw er2 r2 g W2:=
 ⟨h.1,h.2.1,h.2.2.1,hw.row h.2.2.2.1 h.2.1 h.1,hD,hB,h.2.2.2.2.2.2.trans hw⟩
theorem Mid.cells {w W d p last g c cw er r} (h:Mid w d p last c cw er r g W):W.cell? ⟨g,0,none⟩=some (.int .i64 (cw.1:Int))∧W.cell? ⟨g,1,none⟩=some (.int .i64 (cw.2:Int)):=
 ⟨Co _ _ 0 _ _ _ h.2.2.2.1,Co _ _ 1 _ _ _ h.2.2.2.1⟩
theorem Mid.err {w W d p last g c cw er r} (h:Mid w d p last c cw er r g W):W.cell? ⟨d,4,none⟩=some (.int .i64 er):=h.2.2.2.2.1.k.2.2.2.2
theorem Mid.dr {w W d p last g c cw er r} (h:Mid w d p last c cw er r g W):Mid w d p last c cw er r g W.drew:=
 ⟨h.1,h.2.1,h.2.2.1,h.2.2.2.1,h.2.2.2.2.1,h.2.2.2.2.2.1,h.2.2.2.2.2.2.drew⟩
theorem Mid.gr {w W W2 d p last g c cw er r} (h:Mid w d p last c cw er r g W) (hg:Gr W W2):Mid w d p last c cw er r g W2:=by
 have hb:=hg.below;have hd:=h.2.2.2.2.1.lt;have hp:=h.2.2.2.2.2.1.lt;exact h.step ((hb.block d hd).trans h.2.2.2.2.1) (h.2.2.2.2.2.1.below hb hp) ⟨hb.os,hb.tape,hb.output,hb.size,fun k hk _ _=>hb.block k hk⟩
theorem Mid.win {w W d p last g c cw er r} (h:Mid w d p last c cw er r g W) (hp:p<w.heap.size) (fw):Mid w d p last c fw er r g ((W.setCell ⟨g,0,none⟩ (.int .i64 (fw.1:Int))).setCell ⟨g,1,none⟩ (.int .i64 (fw.2:Int))):=by
 obtain⟨h1,h2,h3,h4,h5,h6,h7⟩:=h;refine⟨h1,h2,h3,?_,(h5.late (fun e=>h1 e.symm) 0 _).late (fun e=>h1 e.symm) 1 _,?_,(h7.late h3 0 _).late h3 1 _⟩
 ·rw[Ag _ _ 1 _ _ _ (Ag _ _ 0 _ _ _ h4)];rfl
 ·exact(h6.grown (av W ⟨g,0,none⟩ _) (fun k e=>by have:=Oj e;simp only at this;omega)).grown (av _ ⟨g,1,none⟩ _) (fun k e=>by have:=Oj e;simp only at this;omega)
theorem Mid.cur {w W d p last g c cw er r} (h:Mid w d p last c cw er r g W) (mf:p<d) (fw):Mid w d p last fw cw er r g ((W.setCell ⟨d,1,none⟩ (.int .i64 (fw.1:Int))).setCell ⟨d,2,none⟩ (.int .i64 (fw.2:Int))):=
 h.step (h.2.2.2.2.1.win fw) ((h.2.2.2.2.2.1.wI mf 1 _).wI mf 2 _) ((Wd.set p W 1 _).trans (Wd.set p _ 2 _))
theorem Xo.TE (w r):Xo.gM w r=((Tm.rd w.2 r).1<<<Xo.trail w,(Tm.rd w.2 r).2.1,Xo.ko (decide ((Tm.rd w.2 r).1<<<Xo.trail w≠0)) (Tm.rd w.2 r).2.2):=by
 unfold Xo.gM Xo.ko;by_cases h:(Tm.rd w.2 r).2.2=0
 ·rw[Ng (by simpa using h),h];by_cases h2:(Tm.rd w.2 r).1<<<Xo.trail w=0
  ·simp[h2]
  ·simp[h2]
 ·rw[Ps0 h];have h3:(Tm.rd w.2 r).1=0:=by
   have h4:=h;unfold Tm.rd at h4⊢;split
   ·rfl
   ·rename_i h1;rw[Ng h1]at h4;exact absurd rfl h4
  rw[h3];simp[h]
theorem Hu (c:Nat×Nat):c=(0,0)∨(c≠(0,0)∧¬((c.1:Int)=0))∨(c≠(0,0)∧((c.1:Int)=0)∧¬((c.2:Int)=0)):=by
 by_cases h1:c.1=0
 ·by_cases h2:c.2=0
  ·exact .inl (BC h1 h2)
  ·exact .inr (.inr ⟨fun e=>h2 (by rw[e]),om,om⟩)
 ·exact .inr (.inl ⟨fun e=>h1 (by rw[e]),om⟩)
theorem Xf (d p last b bb c r r1 r2 e2 w) (hD:De w d p last c 0) (hB:Br w p r) (mf:p<d) (hc:Xo.Cw c) (hl:last<2^64) (hT:wH w) (wP:2<p)
  (h1:Tm.rd 1 r=(1,r1,0)) (h2:Tm.rd 1 r1=(b,r2,e2)) (hbb:((b:Int)==1)=bb) (hb2:bb=true→e2=0):
  Calls prog 257 #[.pointer (some ⟨d,0,none⟩)] w (OG p d w (Xo.get last c r)):=by
 have B1:=eH d p last 1 c 0 r w hD hB om mf;rw[Xo.eO,h1]at B1;have B2:=fun(W:World) (hD:De W d p last c 0) (hB:Br W p r1)=>eH d p last 1 c 0 r1 W hD hB om mf
 rw[Xo.eO,h2]at B2;have KB1:=Al B1;have UE:=Al B2;simp only[]at KB1 UE;have HQ:Kept (Xo.get last c r=if bb=false then(if e2≠0 then((0,c),(r2,e2))else if c=(0,0)then((0,c),r2,8)else if(Xo.gM c r2).2.2≠0 then((0,c),(Xo.gM c r2).2)else((last^^^ (Xo.gM c r2).1,c),(Xo.gM c r2).2))
  else if(Xo.fresh r2).2.2≠0 then((0,c),(Xo.fresh r2).2)
  else if(Xo.gM (Xo.fresh r2).1 (Xo.fresh r2).2.1).2.2≠0 then((0,c),(Xo.gM (Xo.fresh r2).1 (Xo.fresh r2).2.1).2)
  else if((Xo.fresh r2).1=Xo.win (Xo.gM (Xo.fresh r2).1 (Xo.fresh r2).2.1).1∧Xo.fits c (Xo.gM (Xo.fresh r2).1 (Xo.fresh r2).2.1).1=false)then((last^^^ (Xo.gM (Xo.fresh r2).1 (Xo.fresh r2).2.1).1,(Xo.fresh r2).1),(Xo.gM (Xo.fresh r2).1 (Xo.fresh r2).2.1).2)
  else((0,c),(Xo.gM (Xo.fresh r2).1 (Xo.fresh r2).2.1).2.1,8)):=⟨by
  have hbl:b<2:=by have:=Tm.jC 1 r1;rw[h2]at this;exact this
  unfold Xo.get;rw[h1];simp only[];rw[h2];cases bb with
  |false=>
   have hb0:b=0:=by
    have:¬(b:Int)=1:=by simpa using hbb
    omega
   subst hb0;simp
  |true=>
   have hb1:b=1:=by
    have:(b:Int)=1:=by simpa using hbb
    omega
   have:=hb2 rfl;subst hb1;subst this;simp⟩
 generalize Xo.get last c r=Q at*;have HT:=Al (fun(W:World) (h:Wd p d w W)=>And.intro (hT.wd h wP mf hB.lt) (show 2<W.heap.size from jE (Nat.lt_trans wP hB.lt) h.size));have hdw:=hD.lt;have hpw:=hB.lt;clear B1 B2 hD hB h1 h2 hT;go_enter func257,ntmps257;go_upto_region 3 with(go_at_call 256;refine KB1.1.mono ?_;rintro e w1 ⟨rfl,h1,h2,h3⟩;have D1:=Al h1;have R1:=Al h2;have F1:=Al h3;clear h1 h2 h3)
 have k6:w1.cell? ⟨d,1,none⟩=some (.int .i64 (c.1:Int))∧w1.cell? ⟨d,2,none⟩=some (.int .i64 (c.2:Int)):=⟨D1.1.k.2.1,D1.1.k.2.2.1⟩
 have k6a:=fun o=>And.intro (D1.1.alloc o).k.2.1 (D1.1.alloc o).k.2.2.1
 go_cut [3,4] (fun sp sb W=>sb= .bool bb∧∃g:Nat,sp= .pointer (some ⟨g,0,none⟩)∧Mid w d p last c c e2 r2 g W)
 case first=>
  go_region_held3 (fun w'=>w'.cell? ⟨d,1,none⟩=some (.int .i64 (c.1:Int))∧w'.cell? ⟨d,2,none⟩=some (.int .i64 (c.2:Int))) (first|exact k6|exact k6a _|exact k7|exact k8 _|exact k9 _ _ _|exact k10 _ _)
   (first
    |(go_at_call 256;refine(UE.1 w1.drew D1.1 R1.1).mono ?_;rintro e w2 ⟨rfl,h1,h2,h3⟩;have D2:=Al h1;have R2:=Al h2;have F2:=Al (F1.1.drew.trans h3);have k7:=And.intro h1.k.2.1 h1.k.2.2.1;have k8:=fun o=>And.intro (h1.alloc o).k.2.1 (h1.alloc o).k.2.2.1;have k9:=fun o u v=>And.intro (((h1.alloc o).late (g:=w2.heap.size) (by have:=h1.lt;omega) 0 u).late (g:=w2.heap.size) (by have:=h1.lt;omega) 1 v).k.2.1 (((h1.alloc o).late (g:=w2.heap.size) (by have:=h1.lt;omega) 0 u).late (g:=w2.heap.size) (by have:=h1.lt;omega) 1 v).k.2.2.1;clear h1 h2 h3)
    |(go_at_call 256;refine(UE.1 (w1.alloc (.cells #[.int .i64 0,.int .i64 0] 368)).drew (D1.1.alloc _) (R1.1.al _)).mono ?_;rintro e w2 ⟨rfl,h1,h2,h3⟩;have q2:=h3.row (Aw w1 (.cells #[.int .i64 0,.int .i64 0] 368)) (by have:=R1.1.lt;omega) (by have:=D1.1.lt;omega);have b0:=Co _ _ 0 _ _ _ q2;have b1:=Co _ _ 1 _ _ _ q2;have f0:=Fr _ _ 0 _ _ q2;have f1:=Fr _ _ 1 _ _ q2;have Q2:=Al q2;clear q2;have D2:=Al h1;have R2:=Al h2;have F2:=Al ((F1.1.alloc _).drew.trans h3);have k7:=And.intro h1.k.2.1 h1.k.2.2.1;have k10:=fun u v=>And.intro ((h1.late (g:=w1.heap.size) (by have:=D1.1.lt;omega) 0 u).late (g:=w1.heap.size) (by have:=D1.1.lt;omega) 1 v).k.2.1 ((h1.late (g:=w1.heap.size) (by have:=D1.1.lt;omega) 0 u).late (g:=w1.heap.size) (by have:=D1.1.lt;omega) 1 v).k.2.2.1;clear h1 h2 h3))
  all_goals (go_wp2_with fail;go_meet)
  ·exact⟨rfl,w2.heap.size,rfl,by have:=D2.1.lt;omega,by have:=R2.1.lt;omega,F2.1.size,Aw w2 _,D2.1.alloc _,R2.1.al _,F2.1.alloc _⟩
  ·have hz1:=F1.1.size;have hd1:=D1.1.lt;have hp1:=R1.1.lt;refine⟨rfl,w1.heap.size,rfl,om,om,hz1,?_,(D2.1.late om 0 _).late om 1 _,?_,(F2.1.late hz1 0 _).late hz1 1 _⟩
   ·rw[Ag _ _ 1 _ _ _ (Ag _ _ 0 _ _ _ Q2.1)];rfl
   ·exact(R2.1.grown (av w2 ⟨w1.heap.size,0,none⟩ _) (fun g e=>by have:=Oj e;simp only at this;omega)).grown (av _ ⟨w1.heap.size,1,none⟩ _) (fun g e=>by have:=Oj e;simp only at this;omega)
 case rest=>
  rename World=>wc
  obtain⟨rfl,g,rfl,hm⟩:=hcut;have M:=Al hm;obtain⟨m0,m1⟩:=hm.cells;clear hm k6 k6a D1 R1 F1 KB1 UE;cases bb with
  |false=>
   have HQ:Kept (Q=if e2≠0 then((0,c),(r2,e2))else if c=(0,0)then((0,c),r2,8)else if(Xo.gM c r2).2.2≠0 then((0,c),(Xo.gM c r2).2)else((last^^^ (Xo.gM c r2).1,c),(Xo.gM c r2).2)):=⟨by rw[HQ.1,Ps0 rfl]⟩
   by_cases hbad:e2≠0∨c=(0,0)
   ·obtain⟨e5,he5,hne5,hQ5⟩:∃e5:Int,(e5=if e2=0 then 8 else e2)∧e5≠0∧Q.2.2=e5:=by
     have hQ:=HQ.1;by_cases h:e2=0
     ·have hc0:c=(0,0):=hbad.resolve_left (by simpa using h);rw[Ng (by simpa using h),Ps0 hc0]at hQ;exact⟨8,by rw[Ps0 h],Ai,by rw[hQ]⟩
     ·rw[Ps0 h]at hQ;exact⟨e2,by rw[Ng h],h,by rw[hQ]⟩
    have HQ5:=Al hQ5;have HE5:=Al hne5;have aiY:(e5 !=0)=true:=by simpa using hne5
    have CH:Kept (∀(b:Bool) (W:World),(b=false∨c≠(0,0))→Mid w d p last c c e2 r2 g W→Calls prog 277 #[.pointer (some ⟨d,0,none⟩),.bool b] W fun e w'=>e= .returned (.tuple #[])∧Mid w d p last c c e5 r2 g w'):=⟨fun b W hb hM=>by
     have h:=gB d p last c e2 b r2 W hM.2.2.2.2.1 hM.2.2.2.2.2.1 mf;have e:Xo.ko b e2=e5:=by
      rw[he5];unfold Xo.ko;by_cases h0:e2=0
      ·have hc0:c=(0,0):=hbad.resolve_left (by simpa using h0);have:b=false:=hb.resolve_right (fun h=>h hc0);rw[Ps0 ⟨h0,this⟩,Ps0 h0]
      ·rw[Ng (fun h=>h0 h.1),Ng h0]
     rw[e]at h;exact h.mono fun _ _ q=>⟨q.1,hM.step q.2.1 q.2.2.1 q.2.2.2⟩⟩
    clear he5 hne5 hQ5 hbad HQ hb2 hbb;rcases Hu c with rfl|⟨hc0,hc1⟩|⟨hc0,hc1,hc2⟩
    ·have CF:=Al (CH.1 false wc (.inl rfl) M.1);clear CH;go_wp2_with (go_at_call 277;refine CF.1.mono ?_;rintro e w3 ⟨rfl,hM⟩;have M3:=Al hM;have k4:=hM.err;clear hM);go_ret;exact⟨0,last,_,r2,rfl,by rw[HQ5.1];exact M3.1.2.2.2.2.1,M3.1.2.2.2.2.2.1,M3.1.2.2.2.2.2.2,fun h=>absurd (HQ5.1.symm.trans h) HE5.1⟩
    ·have CF:=Al (CH.1 true wc (.inr hc0) M.1);clear CH;go_wp2_with (go_at_call 277;refine CF.1.mono ?_;rintro e w3 ⟨rfl,hM⟩;have M3:=Al hM;have k4:=hM.err;clear hM);go_ret;exact⟨0,last,_,r2,rfl,by rw[HQ5.1];exact M3.1.2.2.2.2.1,M3.1.2.2.2.2.2.1,M3.1.2.2.2.2.2.2,fun h=>absurd (HQ5.1.symm.trans h) HE5.1⟩
    ·have CF:=Al (CH.1 true wc (.inr hc0) M.1);clear CH;go_wp2_with (go_at_call 277;refine CF.1.mono ?_;rintro e w3 ⟨rfl,hM⟩;have M3:=Al hM;have k4:=hM.err;clear hM);go_ret;exact⟨0,last,_,r2,rfl,by rw[HQ5.1];exact M3.1.2.2.2.2.1,M3.1.2.2.2.2.2.1,M3.1.2.2.2.2.2.2,fun h=>absurd (HQ5.1.symm.trans h) HE5.1⟩
   ·have he2:e2=0:=by
     by_cases h:e2=0
     ·exact h
     ·exact absurd (.inl h) hbad
    have hc0:c≠(0,0):=fun h=>hbad (.inr h)
    subst he2;obtain⟨hc1,hc2⟩:=hc.resolve_left hc0;have wK:Kept (Q=if(Xo.gM c r2).2.2≠0 then((0,c),(Xo.gM c r2).2)else((last^^^ (Xo.gM c r2).1,c),(Xo.gM c r2).2)):=⟨by rw[HQ.1,Ng Ah,Ng hc0]⟩
    have CF:Kept (Calls prog 277 #[.pointer (some ⟨d,0,none⟩),.bool true] wc fun e w'=>e= .returned (.tuple #[])∧Mid w d p last c c 0 r2 g w'):=⟨(gB d p last c 0 true r2 wc M.1.2.2.2.2.1 M.1.2.2.2.2.2.1 mf).mono fun _ _ q=>⟨q.1,M.1.step q.2.1 q.2.2.1 q.2.2.2⟩⟩
    have IE:=Xo.TE c r2;have BT:Kept (∀W,Mid w d p last c c 0 r2 g W→Calls prog 256 #[.pointer (some ⟨d,0,none⟩),.int .i64 (c.2:Int)] W fun e w'=>e= .returned (.int .u64 ((Tm.rd c.2 r2).1:Int))∧Mid w d p last c c (Tm.rd c.2 r2).2.2 (Tm.rd c.2 r2).2.1 g w'):=⟨fun W hM=>by
     have h:=eH d p last c.2 c 0 r2 W hM.2.2.2.2.1 hM.2.2.2.2.2.1 om mf;rw[Xo.eO]at h;exact h.mono fun _ _ q=>⟨q.1,hM.step q.2.1 q.2.2.1 q.2.2.2⟩⟩
    have TR:=Al (fun W=>il c hc2 W);unfold wv at TR;have hyl:=Tm.jC c.2 r2;have ma:(Tm.rd c.2 r2).1<<<Xo.trail c<2^64:=by
     rw[Cc];have e:64=(64-c.1-c.2)+c.2+c.1:=om;have h1:2^c.2*2^Xo.trail c≤2^64:=by
      rw[←Nat.pow_add];exact kF Ai (by unfold Xo.trail;omega)
     exact jE (Nat.mul_lt_mul_of_pos_right hyl (Nat.pow_pos Ai)) h1
    have htl:Xo.trail c≤64:=by unfold Xo.trail;omega
    have hsh:IntKind.u64.wrap (((Tm.rd c.2 r2).1:Int)*2^Xo.trail c)=(((Tm.rd c.2 r2).1<<<Xo.trail c:Nat):Int):=by
     rw[Cc]at ma⊢;rw[Bw];have:((Tm.rd c.2 r2).1:Int)*2^Xo.trail c=(((Tm.rd c.2 r2).1*2^Xo.trail c:Nat):Int):=Ah;rw[this];generalize (Tm.rd c.2 r2).1*2^Xo.trail c=z at*;omega
    have Ou:bits .xor .u64 (last:Int) (((Tm.rd c.2 r2).1<<<Xo.trail c:Nat):Int)=((last^^^ ((Tm.rd c.2 r2).1<<<Xo.trail c):Nat):Int):=bits_xor_u64_nat _ _ hl ma;clear hbad HQ hb2 hbb M ma;generalize Tm.rd c.2 r2=Y at*;obtain⟨y,r4,ey⟩:=Y;simp only[]at IE BT hyl hsh Ou;generalize Xo.trail c=tr at*;generalize y<<<tr=x at*;have IE2:=Al IE;have CH:Kept (∀(b:Bool) (W:World),b=decide (x≠0)→Mid w d p last c c ey r4 g W→Calls prog 277 #[.pointer (some ⟨d,0,none⟩),.bool b] W fun e w'=>e= .returned (.tuple #[])∧Mid w d p last c c (Xo.ko (decide (x≠0)) ey) r4 g w'):=⟨fun b W hb hM=>by
     rw[hb];exact(gB d p last c ey (decide (x≠0)) r4 W hM.2.2.2.2.1 hM.2.2.2.2.2.1 mf).mono fun _ _ q=>⟨q.1,hM.step q.2.1 q.2.2.1 q.2.2.2⟩⟩
    rw[IE]at wK;simp only[]at wK;generalize Xo.ko (decide (x≠0)) ey=e4 at*;have FIN:Kept (∀W,Mid w d p last c c e4 r4 g W→OG p d w Q (.returned (.int .u64 ((last^^^x:Nat):Int))) (W.setCell ⟨d,0,none⟩ (.int .u64 ((last^^^x:Nat):Int)))):=⟨fun W hM=>by
     have h1:=hM.2.2.2.2.1;have h2:=hM.2.2.2.2.2.1;have h3:=hM.2.2.2.2.2.2;have hQ:=wK.1;by_cases he:e4=0
     ·rw[Ng (by simpa using he)]at hQ;rw[hQ];exact⟨_,_,_,_,rfl,h1.last _,h2.wI mf 0 _,h3.trans (Wd.set p W 0 _),fun _=>⟨rfl,rfl,rfl,rfl⟩⟩
     ·rw[Ps0 he]at hQ;rw[hQ];exact⟨_,_,_,_,rfl,h1.last _,h2.wI mf 0 _,h3.trans (Wd.set p W 0 _),fun h=>absurd h he⟩⟩
    have CSE:(¬((c.1:Int)=0))∨(((c.1:Int)=0)∧¬((c.2:Int)=0)):=by
     rcases Hu c with h|h|h
     ·exact absurd h hc0
     ·exact .inl h.2
     ·exact .inr h.2
    have CSX:(∃b,b=decide (x≠0)∧b=true∧((x:Int) !=0)=true)∨(∃b,b=decide (x≠0)∧b=false∧((x:Int) !=0)=false):=by
     by_cases h:x=0
     ·exact .inr ⟨_,rfl,by simp[h],by simp[h]⟩
     ·exact .inl ⟨_,rfl,by simp[h],by simp;omega⟩
    clear IE wK IE2 hyl;rcases CSX with⟨bx,hb1,rfl,hx0⟩|⟨bx,hb1,rfl,hx0⟩
    all_goals
     have CX:=Al (fun W=>CH.1 _ W hb1);clear CH hb1;rcases CSE with hk1|⟨hk1,hk2⟩
     all_goals
      (try rw[hk1]at TR)
      go_wp2_with (go_at_call 277;refine CF.1.mono ?_;rintro e w3 ⟨rfl,hM⟩;have M3:=Al hM;have k4:=hM.err;obtain⟨q0,q1⟩:=hM.cells;clear hM CF);have k6:=And.intro q0 q1;go_region_held3 (fun w'=>w'.cell? ⟨g,0,none⟩=some (.int .i64 (c.1:Int))∧w'.cell? ⟨g,1,none⟩=some (.int .i64 (c.2:Int))) (first|exact k6|exact k7|exact k8)
       (first
        |(go_at_call 256;refine(BT.1 _ (by first|exact M3.1.dr|exact M5.1)).mono ?_;rintro e w4 ⟨rfl,hM⟩;have M4:=Al hM;have k7:=hM.cells;clear hM)
        |(go_at_call 278;refine(TR.1 _).mono ?_;rintro e w5 ⟨rfl,hg⟩;have M5:=Al (by first|exact M4.1.gr hg|exact M3.1.dr.gr hg);have k8:=M5.1.cells;clear hg))
      all_goals
       clear q0 q1 k4 m0 m1 k6 k7 k8;go_wp2_with (go_at_call 277;(with_reducible refine(CX.1 w5 M5.1).mono ?_);rintro e w6 ⟨rfl,hM⟩;have M6:=Al hM;have j0:=hM.2.2.2.2.1.k.1;have jf:=hM.2.2.2.2.1.f 0;clear hM);go_ret;exact FIN.1 _ M6.1
  |true=>
   obtain rfl:=hb2 rfl;obtain⟨hf1,hf2⟩:=Xo.OH r2;have FR:=Ow d p last c 0 r2 wc M.1.2.2.2.2.1 M.1.2.2.2.2.2.1 mf;obtain⟨X,hX⟩:∃X,Xo.fresh r2=X:=⟨_,rfl⟩
   rw[hX]at hf1 hf2;have wK:Kept (Q=if X.2.2≠0 then((0,c),X.2)else if(Xo.gM X.1 X.2.1).2.2≠0 then((0,c),(Xo.gM X.1 X.2.1).2)else if(X.1=Xo.win (Xo.gM X.1 X.2.1).1∧Xo.fits c (Xo.gM X.1 X.2.1).1=false)then((last^^^ (Xo.gM X.1 X.2.1).1,X.1),(Xo.gM X.1 X.2.1).2)else((0,c),(Xo.gM X.1 X.2.1).2.1,8)):=⟨by
    have:=HQ.1;rw[Ng Ah,hX]at this;exact this⟩
   by_cases kg:X.2.2=0
   case neg=>
    rw[Ps0 kg]at wK;have he5:((Xo.UG 0 r2).2.2 !=0)=true:=by rw[hf1];simpa using kg
    have HF1:=Al hf1;have HE3:=Al kg;have FR2:=Al (FR.mono fun _ _ q=>And.intro q.1 (M.1.step q.2.1 q.2.2.1 q.2.2.2));clear FR hf1 hf2 HQ hX kg hbb hb2;generalize Xo.UG 0 r2=Z at*;obtain⟨fw,r3,e3⟩:=Z;simp only[]at*;go_wp2_with (go_at_call 276;refine FR2.1.mono ?_;rintro e w3 ⟨rfl,hM⟩;have M3:=Al hM;obtain⟨q0,q1⟩:=hM.cells;have f0:=Fr _ _ 0 _ _ hM.2.2.2.1;have f1:=Fr _ _ 1 _ _ hM.2.2.2.1;have k4:=(hM.win hpw fw).err;clear hM);go_ret;have M4:=M3.1.win hpw fw;exact⟨0,last,_,r3,rfl,by rw[wK.1,←HF1.1];exact M4.2.2.2.2.1,M4.2.2.2.2.2.1,M4.2.2.2.2.2.2,fun h=>absurd (by rw[wK.1]at h;exact h) HE3.1⟩
   case pos=>
    obtain⟨fw,r3,e3⟩:=X;simp only[]at kg hf1 hf2 wK;subst kg;rw[hf2 rfl]at FR;obtain⟨hw1,hw2,-⟩:=Xo.FB hX;have Xg:Kept (Q=if(Xo.gM fw r3).2.2≠0 then((0,c),(Xo.gM fw r3).2)else if(fw=Xo.win (Xo.gM fw r3).1∧Xo.fits c (Xo.gM fw r3).1=false)then((last^^^ (Xo.gM fw r3).1,fw),(Xo.gM fw r3).2)else((0,c),(Xo.gM fw r3).2.1,8)):=⟨by rw[wK.1,Ng Ah]⟩
    have FR2:=Al (FR.mono fun _ _ q=>And.intro q.1 (M.1.step q.2.1 q.2.2.1 q.2.2.2));simp only[]at FR2;have IE:=Xo.TE fw r3;have BT:Kept (∀W,Mid w d p last c fw 0 r3 g W→Calls prog 256 #[.pointer (some ⟨d,0,none⟩),.int .i64 (fw.2:Int)] W fun e w'=>e= .returned (.int .u64 ((Tm.rd fw.2 r3).1:Int))∧Mid w d p last c fw (Tm.rd fw.2 r3).2.2 (Tm.rd fw.2 r3).2.1 g w'):=⟨fun W hM=>by
     have h:=eH d p last fw.2 c 0 r3 W hM.2.2.2.2.1 hM.2.2.2.2.2.1 om mf;rw[Xo.eO]at h;exact h.mono fun _ _ q=>⟨q.1,hM.step q.2.1 q.2.2.1 q.2.2.2⟩⟩
    have TR:=Al (fun W=>il fw hw2 W);unfold wv at TR;have hyl:=Tm.jC fw.2 r3;have ma:(Tm.rd fw.2 r3).1<<<Xo.trail fw<2^64:=by
     rw[Cc];have e:64=(64-fw.1-fw.2)+fw.2+fw.1:=om;have h1:2^fw.2*2^Xo.trail fw≤2^64:=by
      rw[←Nat.pow_add];exact kF Ai (by unfold Xo.trail;omega)
     exact jE (Nat.mul_lt_mul_of_pos_right hyl (Nat.pow_pos Ai)) h1
    have htl:Xo.trail fw≤64:=by unfold Xo.trail;omega
    have hsh:IntKind.u64.wrap (((Tm.rd fw.2 r3).1:Int)*2^Xo.trail fw)=(((Tm.rd fw.2 r3).1<<<Xo.trail fw:Nat):Int):=by
     rw[Cc]at ma⊢;rw[Bw];have:((Tm.rd fw.2 r3).1:Int)*2^Xo.trail fw=(((Tm.rd fw.2 r3).1*2^Xo.trail fw:Nat):Int):=Ah;rw[this];generalize (Tm.rd fw.2 r3).1*2^Xo.trail fw=z at*;omega
    have Ou:bits .xor .u64 (last:Int) (((Tm.rd fw.2 r3).1<<<Xo.trail fw:Nat):Int)=((last^^^ ((Tm.rd fw.2 r3).1<<<Xo.trail fw):Nat):Int):=bits_xor_u64_nat _ _ hl ma;have aax:=Al ma;clear FR hf1 hf2 HQ wK hX hb2 hbb M ma;generalize Tm.rd fw.2 r3=Y at*;obtain⟨y,r4,ey⟩:=Y;simp only[]at IE BT hyl hsh Ou aax;generalize Xo.trail fw=tr at*;generalize y<<<tr=x at*;rw[IE]at Xg;simp only[]at Xg;have CH:Kept (∀(b:Bool) (W:World),b=decide (x≠0)→Mid w d p last c fw ey r4 g W→Calls prog 277 #[.pointer (some ⟨d,0,none⟩),.bool b] W fun e w'=>e= .returned (.tuple #[])∧Mid w d p last c fw (Xo.ko (decide (x≠0)) ey) r4 g w'):=⟨fun b W hb hM=>by
     rw[hb];exact(gB d p last c ey (decide (x≠0)) r4 W hM.2.2.2.2.1 hM.2.2.2.2.2.1 mf).mono fun _ _ q=>⟨q.1,hM.step q.2.1 q.2.2.1 q.2.2.2⟩⟩
    have aay:Xo.ko (decide (x≠0)) ey=0→x≠0:=fun h hx=>by
     rw[hx]at h;unfold Xo.ko at h;by_cases h0:ey=0
     ·rw[Ps0 ⟨h0,Ah⟩]at h;cases h
     ·rw[Ng (fun q=>h0 q.1)]at h;exact h0 h
    generalize Xo.ko (decide (x≠0)) ey=e4 at*;by_cases zX:e4=0
    case neg=>
     rw[Ps0 zX]at Xg;have he5:(e4==0)=false:=by simpa using zX
     have HE4:=Al zX;have FIN:Kept (∀W,Mid w d p last c fw e4 r4 g W→OG p d w Q (.returned (.int .u64 ((last^^^x:Nat):Int))) (W.setCell ⟨d,0,none⟩ (.int .u64 ((last^^^x:Nat):Int)))):=⟨fun W hM=>by
      rw[Xg.1];exact⟨_,_,_,_,rfl,hM.2.2.2.2.1.last _,hM.2.2.2.2.2.1.wI mf 0 _,hM.2.2.2.2.2.2.trans (Wd.set p W 0 _),fun h=>absurd h zX⟩⟩
     have CSX:(∃b,b=decide (x≠0)∧b=true∧((x:Int) !=0)=true)∨(∃b,b=decide (x≠0)∧b=false∧((x:Int) !=0)=false):=by
      by_cases h:x=0
      ·exact .inr ⟨_,rfl,by simp[h],by simp[h]⟩
      ·exact .inl ⟨_,rfl,by simp[h],by simp;omega⟩
     clear IE Xg hyl zX aay;rcases CSX with⟨bx,hb1,rfl,hx0⟩|⟨bx,hb1,rfl,hx0⟩
     all_goals
      have CX:=Al (fun W=>CH.1 _ W hb1);clear CH hb1;go_wp2_with (go_at_call 276;refine FR2.1.mono ?_;rintro e w3 ⟨rfl,hM⟩;have M3:=Al (hM.win hpw fw);obtain⟨q0,q1⟩:=hM.cells;have f0:=Fr _ _ 0 _ _ hM.2.2.2.1;have f1:=Fr _ _ 1 _ _ hM.2.2.2.1;have k4:=M3.1.err;have k6:=M3.1.cells;clear hM);generalize (w3.setCell ⟨g,0,none⟩ (.int .i64 (fw.1:Int))).setCell ⟨g,1,none⟩ (.int .i64 (fw.2:Int))=w3a at*;go_region_held3 (fun w'=>w'.cell? ⟨g,0,none⟩=some (.int .i64 (fw.1:Int))∧w'.cell? ⟨g,1,none⟩=some (.int .i64 (fw.2:Int))) (first|exact k6|exact k7|exact k8)
       (first
        |(go_at_call 256;refine(BT.1 _ (by first|exact M3.1.dr|exact M5.1)).mono ?_;rintro e w4 ⟨rfl,hM⟩;have M4:=Al hM;have k7:=hM.cells;clear hM)
        |(go_at_call 278;refine(TR.1 _).mono ?_;rintro e w5 ⟨rfl,hg⟩;have M5:=Al (by first|exact M4.1.gr hg|exact M3.1.dr.gr hg);have k8:=M5.1.cells;clear hg))
      all_goals
       clear q0 q1 k4 m0 m1 k6 k7 k8 f0 f1;go_wp2_with (go_at_call 277;(with_reducible refine(CX.1 w5 M5.1).mono ?_);rintro e w6 ⟨rfl,hM⟩;have M6:=Al hM;have j0:=hM.2.2.2.2.1.k.1;have jf:=hM.2.2.2.2.1.f 0;have j4:=hM.err;clear hM);go_ret;exact FIN.1 _ M6.1
    case pos=>
     subst zX;have hx0:=aay rfl;rw[Ng Ah]at Xg;have hxb:((x:Int) !=0)=true:=by simp;omega
     have CX:=Al (fun W=>CH.1 true W (by simp[hx0]));have WO:=Al (show∀W,Mid w d p last c fw 0 r4 g W→Calls prog 279 #[.int .u64 (x:Int)] W fun e w'=>e= .returned (.agg #[.int .i64 ((Xo.win x).1:Int),.int .i64 ((Xo.win x).2:Int)])∧Gr W w' from fun W hM=>jU x aax.1 hx0 W (HT.1 W hM.2.2.2.2.2.2).1 (HT.1 W hM.2.2.2.2.2.2).2);have FT:=Al (show∀W,Mid w d p last c fw 0 r4 g W→Calls prog 280 #[.pointer (some ⟨d,0,none⟩),.int .u64 (x:Int)] W fun e w'=>e= .returned (.bool (Xo.fits c x))∧Gr W w' from fun W hM=>GZ d x c aax.1 hx0 hc W (HT.1 W hM.2.2.2.2.2.2).1 (HT.1 W hM.2.2.2.2.2.2).2 ⟨hM.2.2.2.2.1.k.2.1,hM.2.2.2.2.1.k.2.2.1⟩ hM.2.2.2.2.1.lt);have CK:Kept (∀(b:Bool) (W:World),Mid w d p last c fw 0 r4 g W→Calls prog 277 #[.pointer (some ⟨d,0,none⟩),.bool b] W fun e w'=>e= .returned (.tuple #[])∧Mid w d p last c fw (if b=true then 0 else 8) r4 g w'):=⟨fun b W hM=>by
      refine(gB d p last c 0 b r4 W hM.2.2.2.2.1 hM.2.2.2.2.2.1 mf).mono fun _ _ q=>⟨q.1,?_⟩
      have:=hM.step q.2.1 q.2.2.1 q.2.2.2;unfold Xo.ko at this;cases b<;>simpa using this⟩
     have FIN:Kept (∀(e6:Int) (W:World),(e6=if(fw=Xo.win x∧Xo.fits c x=false)then 0 else 8)→Mid w d p last fw fw e6 r4 g W→OG p d w Q (.returned (.int .u64 ((last^^^x:Nat):Int))) (W.setCell ⟨d,0,none⟩ (.int .u64 ((last^^^x:Nat):Int)))):=⟨fun e6 W he hM=>by
      rw[Xg.1];by_cases q:fw=Xo.win x∧Xo.fits c x=false
      ·rw[Ps0 q]at he⊢;subst he;exact⟨_,_,_,_,rfl,hM.2.2.2.2.1.last _,hM.2.2.2.2.2.1.wI mf 0 _,hM.2.2.2.2.2.2.trans (Wd.set p W 0 _),fun _=>⟨rfl,rfl,rfl,rfl⟩⟩
      ·rw[Ng q]at he⊢;subst he;exact⟨_,_,_,_,rfl,hM.2.2.2.2.1.last _,hM.2.2.2.2.2.1.wI mf 0 _,hM.2.2.2.2.2.2.trans (Wd.set p W 0 _),fun h=>by simp at h⟩⟩
     clear IE Xg hyl aay CH hx0;have CSE:(fw=Xo.win x)∨(¬fw=Xo.win x∧((¬(fw.1:Int)=((Xo.win x).1:Int))∨((fw.1:Int)=((Xo.win x).1:Int)∧¬(fw.2:Int)=((Xo.win x).2:Int)))):=by
      by_cases h:fw=Xo.win x
      ·exact .inl h
      ·refine .inr ⟨h,?_⟩;by_cases h1:fw.1=(Xo.win x).1
       ·exact .inr ⟨om,fun h2=>h (BC h1 om)⟩
       ·exact .inl om
     generalize Xo.win x=v at*;generalize Xo.fits c x=fb at*;go_wp2_with (go_at_call 276;refine FR2.1.mono ?_;rintro e w3 ⟨rfl,hM⟩;have M3:=Al (hM.win hpw fw);obtain⟨q0,q1⟩:=hM.cells;have f0:=Fr _ _ 0 _ _ hM.2.2.2.1;have f1:=Fr _ _ 1 _ _ hM.2.2.2.1;have k4:=M3.1.err;have k6:=M3.1.cells;clear hM);generalize (w3.setCell ⟨g,0,none⟩ (.int .i64 (fw.1:Int))).setCell ⟨g,1,none⟩ (.int .i64 (fw.2:Int))=w3a at*;go_region_held3 (fun w'=>w'.cell? ⟨g,0,none⟩=some (.int .i64 (fw.1:Int))∧w'.cell? ⟨g,1,none⟩=some (.int .i64 (fw.2:Int))) (first|exact k6|exact k7|exact k8)
      (first
       |(go_at_call 256;refine(BT.1 _ (by first|exact M3.1.dr|exact M5.1)).mono ?_;rintro e w4 ⟨rfl,hM⟩;have M4:=Al hM;have k7:=hM.cells;clear hM)
       |(go_at_call 278;refine(TR.1 _).mono ?_;rintro e w5 ⟨rfl,hg⟩;have M5:=Al (by first|exact M4.1.gr hg|exact M3.1.dr.gr hg);have k8:=M5.1.cells;clear hg))
     clear q0 q1 k4 m0 m1 k6 k7 k8 f0 f1;go_upto_region 12 with(go_at_call 277;(with_reducible refine(CX.1 w5 M5.1).mono ?_);rintro e w6 ⟨rfl,hM⟩;have M6:=Al hM;have j4:=hM.err;clear hM)
     clear j4;have k6:=M6.1.cells;go_cut [] (fun W=>∃e6:Int,(e6=if(fw=v∧fb=false)then 0 else 8)∧Mid w d p last c fw e6 r4 g W)
     case first=>
      rcases CSE with rfl|⟨hne,hv|⟨hv,hv2⟩⟩
      ·cases fb
       all_goals
        go_region_held3 (fun w'=>w'.cell? ⟨g,0,none⟩=some (.int .i64 (fw.1:Int))∧w'.cell? ⟨g,1,none⟩=some (.int .i64 (fw.2:Int))) (first|exact k6|exact k7|exact k8|exact k9)
         (first
          |(go_at_call 279;refine(WO.1 w6.drew M6.1.dr).mono ?_;rintro e w7 ⟨rfl,hg⟩;have M7:=Al (M6.1.dr.gr hg);have k7:=M7.1.cells;clear hg)
          |(go_at_call 280;refine(FT.1 w7 M7.1).mono ?_;rintro e w8 ⟨rfl,hg⟩;have M8:=Al (M7.1.gr hg);have k8:=M8.1.cells;clear hg)
          |(go_at_call 277;refine(CK.1 _ w8 M8.1).mono ?_;rintro e w9 ⟨rfl,hM⟩;have M9:=Al hM;have k9:=M9.1.cells;clear hM))
        go_wp2_with fail;go_meet;exact⟨_,by first|rfl|simp,M9.1⟩
      all_goals
       refine wp_region_held_drew (S:=fun w'=>w'.cell? ⟨g,0,none⟩=some (.int .i64 (fw.1:Int))∧w'.cell? ⟨g,1,none⟩=some (.int .i64 (fw.2:Int))) kr k6 (fun hHeld=>?_);refine Bi (i:=0) (oi:=⟨_,_,_,_,_,_⟩) (v:=?_) rfl kr kr kr (fun _ _ _ h=>h) (Or.inl ⟨rfl,?_⟩) (by assumption) ?_
       rotate_left
       ·intro w hSw;(try dsimp only at hSw);go_simp;(try with_reducible rfl)
       try simp only[Act.put,Ao,Au,Ap]
       refine Bi (i:=1) (oi:=⟨_,_,_,_,_,_⟩) (v:=?_) rfl kr kr kr (fun _ _ _ h=>h) (Or.inl ⟨rfl,?_⟩) (by assumption) ?_
       rotate_left
       ·intro w hSw;(try dsimp only at hSw);go_simp;(try with_reducible rfl)
       try simp only[Act.put,Ao,Au,Ap]
       refine Bi (i:=2) (oi:=⟨_,_,_,_,_,_⟩) (v:=?_) rfl kr kr kr (fun _ _ _ h=>h) (Or.inl ⟨rfl,?_⟩) (by assumption) ?_
       rotate_left
       ·intro w hSw;(try dsimp only at hSw);go_simp;(try with_reducible rfl)
       try simp only[Act.put,Ao,Au,Ap]
       refine CU (rs:=[3]) kr Ah ?_;refine BV (o:=⟨_,_,_,_,_,_⟩) rfl (fun K hK=>?_) Cu;go_simp;refine(WO.1 w6.drew M6.1.dr).mono ?_;rintro e w7 ⟨rfl,hg⟩;have M7:=Al (M6.1.dr.gr hg);have k7:=M7.1.cells;clear hg;refine hK.out _ _ k7 (fun hHeld=>?_);clear hK K
       try simp only[Act.put,Ao,Au,Ap]
       refine Bi (i:=4) (oi:=⟨_,_,_,_,_,_⟩) (v:=?_) rfl kr kr kr (fun _ _ _ h=>h) (Or.inl ⟨rfl,?_⟩) (by assumption) ?_
       rotate_left
       ·intro w hSw;(try dsimp only at hSw);go_simp;(try with_reducible rfl)
       try simp only[Act.put,Ao,Au,Ap]
       refine Bi (i:=5) (oi:=⟨_,_,_,_,_,_⟩) (v:=?_) rfl kr kr kr (fun _ _ _ h=>h) (Or.inl ⟨rfl,?_⟩) (by assumption) ?_
       rotate_left
       ·intro w hSw;(try dsimp only at hSw);go_simp;(try with_reducible rfl)
       try simp only[Act.put,Ao,Au,Ap]
       refine Bi (i:=6) (oi:=⟨_,_,_,_,_,_⟩) rfl kr kr kr (fun _ _ _ h=>h) (Or.inr ⟨rfl,rfl⟩) (by assumption) ?_
       try simp only[Act.put,Ao,Au,Ap]
       refine Bi (i:=7) (oi:=⟨_,_,_,_,_,_⟩) rfl kr kr kr (fun _ _ _ h=>h) (Or.inr ⟨rfl,rfl⟩) (by assumption) ?_
       try simp only[Act.put,Ao,Au,Ap]
       refine Bi (i:=8) (oi:=⟨_,_,_,_,_,_⟩) rfl kr kr kr (fun _ _ _ h=>h) (Or.inr ⟨rfl,rfl⟩) (by assumption) ?_
       try simp only[Act.put,Ao,Au,Ap]
       refine Bi (i:=9) (oi:=⟨_,_,_,_,_,_⟩) rfl kr kr kr (fun _ _ _ h=>h) (Or.inr ⟨rfl,rfl⟩) (by assumption) ?_
       try simp only[Act.put,Ao,Au,Ap]
       refine Bi (i:=10) (oi:=⟨_,_,_,_,_,_⟩) rfl kr kr kr (fun _ _ _ h=>h) (Or.inr ⟨rfl,rfl⟩) (by assumption) ?_
       try simp only[Act.put,Ao,Au,Ap]
       refine Bi (i:=11) (oi:=⟨_,_,_,_,_,_⟩) rfl kr kr kr (fun _ _ _ h=>h) (Or.inr ⟨rfl,rfl⟩) (by assumption) ?_
       try simp only[Act.put,Ao,Au,Ap]
       refine Bi (i:=12) (oi:=⟨_,_,_,_,_,_⟩) (v:=?_) rfl kr kr kr (fun _ _ _ h=>h) (Or.inl ⟨rfl,?_⟩) (by assumption) ?_
       rotate_left
       ·intro w hSw;(try dsimp only at hSw);go_simp;(try with_reducible rfl)
       try simp only[Act.put,Ao,Au,Ap]
       refine CU (rs:=[13]) kr Ah ?_;refine BV (o:=⟨_,_,_,_,_,_⟩) rfl (fun K hK=>?_) Cu;go_simp;refine(CK.1 _ w7 M7.1).mono ?_;rintro e w9 ⟨rfl,hM⟩;have M9:=Al hM;have k9:=M9.1.cells;clear hM;refine hK.out _ _ k9 (fun hHeld=>?_);clear hK K
       try simp only[Act.put,Ao,Au,Ap]
       refine wpAnyH_done kr ?_ _;go_wp2_with fail;go_meet;exact⟨8,by rw[Ng (fun q=>hne q.1)],by simpa using M9.1⟩
     case rest=>
      rename World=>wz
      obtain⟨e6,UC,hM⟩:=hcut;have HE6:=Al UC;have MZ:=Al hM;have f1:=hM.2.2.2.2.1.f 1;have f2:=hM.2.2.2.2.1.f 2;have c1:=hM.2.2.2.2.1.k.2.1;have c2:=hM.2.2.2.2.1.k.2.2.1;have hg:=hM.cells;have M10:=Al (hM.cur mf fw);have j0:=M10.1.2.2.2.2.1.k.1;have jf:=M10.1.2.2.2.2.1.f 0;clear UC hM k6;go_wp2;go_ret;exact FIN.1 e6 _ HE6.1 M10.1
theorem aaz {w w' p d base n c sz A xs t} (h:w.ownsRow base t sz (.slice A n c) n xs) (hw:Wd p d w w') (hp:p<base) (hd:d<base):w'.ownsRow base t sz (.slice A n c) n xs:=by
 refine⟨h.1,?_⟩;rcases h.2 with hn|⟨g,cap,cur,hv,h1,h2,rest⟩
 ·exact .inl hn
 ·refine .inr ⟨g,cap,cur,hv,h1,?_,rest⟩;rw[hw.block g (Ge.1 h2).1 om om];exact h2
theorem Xh (d p last c r w) (hD:De w d p last c 0) (hB:Br w p r) (mf:p<d) (hc:Xo.Cw c) (hl:last<2^64) (hT:wH w) (wP:2<p):
  Calls prog 257 #[.pointer (some ⟨d,0,none⟩)] w (OG p d w (Xo.get last c r)):=by
 by_cases h0:(Tm.rd 1 r).1=0
 ·exact OI d p last c r w hD hB mf h0
 ·have he:(Tm.rd 1 r).2.2=0:=by
   by_cases q:(Tm.rd 1 r).2.2=0
   ·exact q
   ·exact absurd (Tm.J8 q) h0
  have hlt:=Tm.jC 1 r;have h1:Tm.rd 1 r=(1,(Tm.rd 1 r).2.1,0):=BC (by show(Tm.rd 1 r).1=1;omega) (BC rfl he);refine Xf d p last _ (((Tm.rd 1 (Tm.rd 1 r).2.1).1:Int)==1) c r _ _ _ w hD hB mf hc hl hT wP h1 rfl rfl (fun hb=>?_);by_cases q:(Tm.rd 1 (Tm.rd 1 r).2.1).2.2=0
  ·exact q
  ·rw[Tm.J8 q]at hb;simp at hb
theorem Xo.aaA {last c r} (hl:last<2^64) (hc:Xo.Cw c) (h:(Xo.get last c r).2.2=0):(Xo.get last c r).1.1<2^64∧Xo.Cw (Xo.get last c r).1.2:=by
 have h1:Xo.get last c r=(((Xo.get last c r).1.1,(Xo.get last c r).1.2),(Xo.get last c r).2.1,0):=by rw[←h]
 obtain⟨g1,g2,-⟩:=Xo.QS hl hc h1;refine⟨g1,?_⟩;have:=Xo.Jl hl g1 hc;rw[g2]at this;exact this
theorem Xo.OJ (n last c acc r):Xo.gets (n+1) last c acc r=if(Xo.get last c r).2.2≠0 then([],(Xo.get last c r).2)else Xo.gets n (Xo.get last c r).1.1 (Xo.get last c r).1.2 (acc++[(Xo.get last c r).1.1]) (Xo.get last c r).2.1:=rfl
theorem Wd.grow {p d w w1 w2 row} (h:Wd p d w w1) (hg:w1.grownBy w2 row) (hr:∀g,row=some g→w.heap.size≤g):Wd p d w w2:=
 ⟨hg.os.trans h.os,hg.tape.trans h.tape,hg.output.trans h.output,Lt h.size hg.size,fun k hk hp hd=>(hg.block k (jE hk h.size) (fun e=>by have:=hr k e.symm;omega)).trans (h.block k hk hp hd)⟩
theorem Wd.fine {p w w1} (h:Wd p w.heap.size w w1):w.grownBy w1 (some p):=
 ⟨h.os,h.tape,h.output,h.size,fun k hk hp=>h.block k hk (fun e=>hp (by rw[e])) om⟩
def TH (w:World) (p:Nat) (Q:List Nat×List Bool×Int) (e:Ending) (w':World):Prop:=
 ∃A2 n2 c2 r',e= .returned (.tuple #[.slice A2 n2 c2,.int .i64 Q.2.2])∧aG w' w.heap.size A2 n2 c2 Q.1∧Br w' p r'∧(Q.2.2=0→r'=Q.2.1)∧w.grownBy w' (some p)
def Gts (w:World) (p n:Nat) (Q:List Nat×List Bool×Int) (k:Nat) (A:Option Addr) (m c:Nat) (W:World) (er:Int):Prop:=
 ∃(last:Nat) (cw:Nat×Nat) (r:List Bool) (acc:List Nat),De W w.heap.size p last cw er∧Br W p r∧aG W (w.heap.size+1) A m c acc∧m=k∧Wd p w.heap.size w W∧Kept (er=0→Xo.Cw cw∧last<2^64)∧Kept ((er=0∧Xo.gets (n-k) last cw acc r=Q)∨(er≠0∧Q.2.2=er∧Q.1=[]))
theorem TJ (p n:Nat) (r w) (h:Br w p r) (hn:n≤1000000) (hT:wH w) (wP:2<p):
  Calls prog 217 #[.pointer (some ⟨p,0,none⟩),.int .i64 (n:Int)] w (TH w p (Xo.dec n r)):=by
 have l9:=h.lt;have hn0:¬(n:Int)<0:=om;by_cases h0:n=0
 ·subst h0;have H:=Al h;clear h hT;go_enter func217,ntmps217;go_wp2;go_ret2;exact⟨none,0,0,r,rfl,⟨rfl,.inl ⟨rfl,rfl⟩⟩,H.1,fun _=>rfl,rfl,rfl,rfl,Nr _,fun _ _ _=>rfl⟩
 ·have hne:((n:Int)==0)=false:=by simp;omega
  obtain⟨W0,hW0⟩:∃W0,W0=w.alloc (.cells #[.int .u64 0,.int .i64 0,.int .i64 0,.pointer (some ⟨p,0,none⟩),.int .i64 0] 372):=⟨_,rfl⟩
  have hD0:De W0 w.heap.size p 0 (0,0) 0:=by rw[hW0];exact Aw w _
  have hB0:Br W0 p r:=by rw[hW0];exact h.al _
  have hF0:Wd p w.heap.size w W0:=by rw[hW0];exact(Wd.refl _ _ w).alloc _
  have B1:=eH w.heap.size p 0 64 (0,0) 0 r W0 hD0 hB0 om l9;rw[Xo.eO]at B1;have hv:=Tm.jC 64 r;have hbad:=fun q=>Tm.J8 (n:=64) (r:=r) q
  have hdec:Xo.dec n r=if(Tm.rd 64 r).2.2≠0 then([],(Tm.rd 64 r).2)else Xo.gets (n-1) (Tm.rd 64 r).1 (0,0) [(Tm.rd 64 r).1] (Tm.rd 64 r).2.1:=by unfold Xo.dec;rw[Ng h0]
  obtain⟨Q,hQ⟩:∃Q,Q=Xo.dec n r:=⟨_,rfl⟩
  rw[←hQ]at hdec⊢;have aaB:=Al hdec;have HT:=Al (fun(W:World) (hw:Wd p w.heap.size w W)=>hT.wd hw wP l9 l9);have HW0:=Al hW0.symm;have HF0:=Al hF0;have KB:=Al B1;have HV:=Al hv;clear h hT hW0 hD0 hB0 hF0 B1 hdec hQ hbad hv;generalize Tm.rd 64 r=Y at*;obtain⟨v0,r0,e0⟩:=Y;simp only[]at aaB KB HV;go_enter func217,ntmps217;go_wp2_with (go_at_call 256;rw[HW0.1];refine KB.1.mono ?_;rintro e w1 ⟨rfl,h1,h2,h3⟩;have k0:=h1.k.1;have f0:=h1.f 0;have D1:=Al (h1.last v0);have R1:=Al (h2.wI l9 0 (.int .u64 (v0:Int)));have F1:=Al ((HF0.1.trans h3).trans (Wd.set p w1 0 (.int .u64 (v0:Int))));have z1:=h3.size;clear h1 h2 h3);have hz0:w.heap.size+1≤W0.heap.size:=by rw[←HW0.1];simp
  have I0:Gts w p n Q 1 (some ⟨w1.heap.size,0,none⟩) 1 1 ((w1.setCell ⟨w.heap.size,0,none⟩ (.int .u64 (v0:Int))).alloc (.cells #[.int .u64 (v0:Int)] 125)) e0:=by
   refine⟨v0,(0,0),r0,[v0],D1.1.alloc _,R1.1.al _,?_,rfl,F1.1.alloc _,⟨fun _=>⟨.inl rfl,HV.1⟩⟩,⟨?_⟩⟩
   ·have:=World.ownsRow_lit (base:=w.heap.size+1) (size:=1) (e:=125) (w1.setCell ⟨w.heap.size,0,none⟩ (.int .u64 (v0:Int))) #[.int .u64 (v0:Int)] 1 (by simp;omega) (by unfold maxLen;omega) rfl;unfold aG;simpa[vB,uv]using this
   ·have hQ:=aaB.1;by_cases he:e0=0
    ·rw[Ng (by simpa using he)]at hQ;exact .inl ⟨he,hQ.symm⟩
    ·rw[Ps0 he]at hQ;exact .inr ⟨he,by rw[hQ],by rw[hQ]⟩
  have KI:=Al I0;clear I0 aaB KB HV HW0 HF0 hz0 z1;go_loopw [7,8] (fun l i wr=>∃(k:Nat) (A2:Option Addr) (n2 c2:Nat) (er:Int),1≤k∧k≤n∧i= .int .i64 k∧l= .slice A2 n2 c2∧Gts w p n Q k A2 n2 c2 wr er) (fun _ i _=>n-(intOf i).toNat)
  case atStart=>exact⟨1,_,_,_,e0,om,om,rfl,rfl,KI.1⟩
  case round=>
   clear KI D1 R1 F1 k0 f0;obtain⟨k,A2,n2,c2,er,hk1,hkn,rfl,rfl,last,cw,r3,acc,hD,hB,hO,hm,hF,hcl,hcs⟩:=hrel;have k4:=hD.k.2.2.2.2;have rf:=hF.size;have HM:=Al hm;have hn2:n2≤1000000:=om;clear hm;by_cases hgo:k<n∧er=0
   ·obtain⟨hlt,rfl⟩:=hgo;obtain⟨hc,hl⟩:=hcl.1 rfl;have hlt':(k:Int)< (n:Int):=om;have hG:=hcs.1.resolve_right (fun q=>q.1 rfl);have GA:=Al (Xh w.heap.size p last cw r3 wr hD hB l9 hc hl (HT.1 wr hF) wP);have hgs:=Xo.OJ (n-k-1) last cw acc r3;rw[show n-k-1+1=n-k from om,hG.2]at hgs;have hlc:=fun q=>Xo.aaA (last:=last) (c:=cw) (r:=r3) hl hc q
    have HGS:=Al hgs;have HLC:=Al hlc;have O:=Al hO;have F:=Al hF;clear hG hgs hlc hcs hD hB hF hc hl;have HH:=Al hcl;clear hcl HH;generalize Xo.get last cw r3=X at*;go_wp2_with (first
     |(at_builtin;refine dF rfl (.tmp 45) (.tmp 48) rfl (w.heap.size+1) A2 n2 c2 acc rfl O2.1 _ _ _ _ [v] rfl (j6.one w2 v) om (by simp;omega) ?_;intro A4 c4 w5 hown hgrow hat;have O5:=Al hown;have hr:∀g,ab A2=some g→w.heap.size<g:=(fun g e=>(ae O.1 g e).1);have D5:=Al (show De w5 w.heap.size p last' c' X.2.2 from(hgrow.block _ (D2.1.alloc _).lt (fun e=>absurd (hr _ e.symm) (Et _))).trans (D2.1.alloc _));have R5:=Al ((R2.1.al _).grown hgrow (fun g e=>Nat.lt_trans l9 (hr g e)));have F5:=Al ((F2.1.alloc _).grow hgrow (fun g e=>Nat.le_of_lt (hr g e)));have j4:=D5.1.k.2.2.2.2;clear hown hgrow hat hr)
     |(go_at_call 257;refine GA.1.mono ?_;rintro e w2 ⟨v,last',c',r',rfl,h1,h2,h3,h4⟩;have D2:=Al h1;have R2:=Al h2;have F2:=Al (F.1.trans h3);have G2:=Al h4;have O2:=Al (show aG (w2.alloc (.cells #[.int .u64 (v:Int)] 125)) (w.heap.size+1) A2 n2 c2 acc from Oa (aaz O.1 h3 om om) _);have hz2:=h3.size;clear h1 h2 h3 h4))
    go_roundw
    case rel=>
     refine⟨k+1,A4,n2+1,c4,X.2.2,om,om,by go_num,rfl,last',c',r',acc++[v],D5.1,R5.1,O5.1,by have:=HM.1;omega,F5.1,⟨fun h=>?_⟩,⟨?_⟩⟩
     ·obtain⟨g1,g2,g3,-⟩:=G2.1 h;obtain⟨a1,a2⟩:=HLC.1 h;rw[g2,g3];exact⟨a2,a1⟩
     ·have hQ:=HGS.1;by_cases he:X.2.2=0
      ·obtain⟨g1,g2,g3,g4⟩:=G2.1 he;rw[Ng (by simpa using he)]at hQ;refine .inl ⟨he,?_⟩;rw[g2,g3,g4,g1,show n-(k+1)=n-k-1 from om];exact hQ.symm
      ·rw[Ps0 he]at hQ;exact .inr ⟨he,by rw[hQ],by rw[hQ]⟩
    case measure=>simp[intOf];omega
   ·have R:=Al hB;have O:=Al hO;have F:=Al hF;by_cases he:er=0
    ·subst he;have hkn2:k=n:=by
      by_cases q:k<n
      ·exact absurd ⟨q,rfl⟩ hgo
      ·omega
     have hQ:=hcs.1.resolve_right (fun q=>q.1 rfl);have HQ:Kept (Q=(acc,r3,0)):=⟨by rw[←hQ.2,hkn2,Dz];rfl⟩
     have hlt':¬(k:Int)< (n:Int):=om;clear hB hO hF hD hcs hcl hgo hQ;go_wp2;go_ret2;refine⟨A2,n2,c2,r3,by rw[HQ.1];rfl,by rw[HQ.1];exact⟨O.1.1,O.1.2.imp id fun⟨g,cap,cur,h1,h2,h3⟩=>⟨g,cap,cur,h1,om,h3⟩⟩,R.1,fun _=>by rw[HQ.1],F.1.fine⟩
    ·have hQ:=hcs.1.resolve_left (fun q=>he q.1);have HQ:=Al hQ;have hne1:(er==0)=false:=by simpa using he
     have hne2:(er !=0)=true:=by simpa using he
     have HE:=Al he;clear hB hO hF hD hcs hcl hgo hQ he;by_cases hlt:k<n
     ·have hlt':(k:Int)< (n:Int):=by omega
      go_wp2;go_region;go_wp2;go_ret2;exact⟨none,0,0,r3,by rw[HQ.1.2.1];rfl,by rw[HQ.1.2.2];exact⟨rfl,.inl ⟨rfl,rfl⟩⟩,R.1,fun h=>absurd (HQ.1.2.1.symm.trans h) HE.1,F.1.drew.fine⟩
     ·have hlt':¬(k:Int)< (n:Int):=by omega
      go_wp2;go_region;go_wp2;go_ret2;exact⟨none,0,0,r3,by rw[HQ.1.2.1];rfl,by rw[HQ.1.2.2];exact⟨rfl,.inl ⟨rfl,rfl⟩⟩,R.1,fun h=>absurd (HQ.1.2.1.symm.trans h) HE.1,F.1.drew.fine⟩
theorem rX (n:Nat) (hn:n≤1000000) (w):(Instr.makeSlice 55 (.int .i64 n) (.int .i64 n)).run prog w= .ok (.slice (some ⟨w.heap.size,0,none⟩) n n) (w.alloc (.cells (madeCells #[.int .i64 0,.int .u64 0] (n*2)) 127)):=by
 obtain⟨i0,hi0,hz0,hz1,hz2⟩:=AY KY;have:=Eb (P:=prog) w 55 127 i0 (.agg #[.int .i64 0,.int .u64 0]) underlying55 hi0 hz0 .i64 .i64 (n:Int) (n:Int) om om (by rw[hz1];simp;omega) (by rw[hz2];omega) om;rw[hz1]at this;simpa[Value.cells]using this
theorem adl (a b n):(madeCells #[a,b] (n*2)).toList=(List.replicate n [a,b]).flatten:=by
 apply CW
 ·simp[madeCells]
 ·intro i h1 h2;have hi:i<n*2:=by simpa[madeCells]using h1
  have e1:(madeCells #[a,b] (n*2)).toList[i]=if i%2=0 then a else b:=by
   rcases CZ i with h|h<;>simp[madeCells,h]
  have e2:∀(m i:Nat) (h:i<m*2),(List.replicate m [a,b]).flatten[i]? =some (if i%2=0 then a else b):=by
   intro m
   induction m with
   |zero=>intro i h;omega
   |succ m ih=>
    intro i h;rw[List.replicate_succ,Cg]
    match i,h with
    |0,_=>rfl
    |1,_=>rfl
    |i+2,h=>
     rw[Bp Ah];have:=ih i om;simp only[Lc,Ba];rw[show i+2-(0+1+1)=i from om,this,Nat.add_mod_right]
  rw[e1];have:=e2 n i hi;rw[kC h2]at this;exact(Oj this).symm
theorem aH.zeros (w:World) (n base) (hn:n≤1000000) (hb:base≤w.heap.size):aH (w.alloc (.cells (madeCells #[.int .i64 0,.int .u64 0] (n*2)) 127)) base (some ⟨w.heap.size,0,none⟩) n n (List.replicate n (0,0)):=by
 obtain⟨i0,hi0,hz0,hz1,hz2⟩:=AY KY;obtain⟨w',h1,h2,-⟩:=run_make_full (P:=prog) w base 55 127 i0 (.agg #[.int .i64 0,.int .u64 0]) 2 underlying55 hi0 hz0 hz1 .i64 .i64 n (by rw[hz2];omega) (by unfold maxLen;omega) hb;rw[rX n hn w]at h1
 injection h1 with _ h1
 subst h1;rw[show(Value.agg #[Value.int .i64 0,Value.int .u64 0]).cells= #[Value.int .i64 0,Value.int .u64 0]from rfl,adl]at h2;have e:kD (List.replicate n ((0:Int),(0:Nat)))=(List.replicate n [Value.int .i64 0,Value.int .u64 0]).flatten:=by
  unfold kD;rw[List.flatMap_def,List.map_replicate]
  rfl
 unfold aH;rw[e];exact h2
def qg (w:World) (Q:Cs.fI×Int) (e:Ending) (w':World):Prop:=
 ∃A2 n2 c2,e= .returned (.tuple #[.slice A2 n2 c2,.int .i64 Q.2])∧aH w' w.heap.size A2 n2 c2 Q.1∧Below w.heap.size w w'
theorem qg.bad {w w'} {Q:Cs.fI×Int} {f} (h:Q=([],f)) (hb:Below w.heap.size w w'):qg w Q (.returned (.tuple #[.slice none 0 0,.int .i64 f])) w':=by
 subst h;exact⟨none,0,0,rfl,aH.nil _ _,hb⟩
theorem Hw (A n c B L w) (hv:aY w B A n c L) (_:B≤w.heap.size) (hn:n≤100000000)
  (hbad:∀(t m) (b),L=t::m::b→(t.toNat<1∨3<t.toNat)∨120≤m.toNat):
  Calls prog 125 #[.slice A n c] w (qg w (Ck.dec L)):=by
 have hlc:=hv.1;have hcm:=hv.2.1;unfold maxLen at hcm;have hl:=hv.len;cases L with
 |nil=>
  obtain rfl:n=0:=hl;have HD:Kept (Ck.dec []=([],3)):=⟨rfl⟩
  generalize Ck.dec []=Q at*;clear hv hbad;go_enter func125,ntmps125;go_wp2;go_ret2;exact qg.bad HD.1 (Ae _ _)
 |cons t L=>
  have hn1:1≤n:=by rw[hl];simp
  have hn1':¬(n:Int)<1:=om;obtain⟨b,off,rfl,hb,h0⟩:=hv.at_ (k:=0) Ah;rw[DD]at h0;simp only[DI]at h0;have htl:=t.toNat_lt;by_cases ht:t.toNat<1∨3<t.toNat
  ·have HD:Kept (Ck.dec (t::L)=([],9)):=⟨by
    cases L with
    |nil=>simp only[Ck.dec];rw[Ps0 ht]
    |cons m L=>simp only[Ck.dec];rw[Ps0 ht]⟩
   generalize Ck.dec (t::L)=Q at*;clear hv hl hbad;have hcs:(t.toNat:Int)<1∨(¬(t.toNat:Int)<1∧(3:Int)< (t.toNat:Int)):=om;clear ht;generalize (t.toNat:Int)=tv at*;rcases hcs with h1|⟨h1,h2⟩
   all_goals
    go_enter func125,ntmps125;go_wp2;go_ret2;exact qg.bad HD.1 (Ae _ _)
  ·have h1:¬(t.toNat:Int)<1:=by omega
   have h2:¬(3:Int)< (t.toNat:Int):=om;cases L with
   |nil=>
    have HD:Kept (Ck.dec [t]=([],3)):=⟨by simp only[Ck.dec];rw[Ng ht]⟩
    generalize Ck.dec [t]=Q at*;obtain rfl:n=1:=hl;clear hv hbad ht;generalize (t.toNat:Int)=tv at*;go_enter func125,ntmps125;go_wp2;go_ret2;exact qg.bad HD.1 (Ae _ _)
   |cons m L=>
    have hm:=(hbad t m L rfl).resolve_left ht;have HD:Kept (Ck.dec (t::m::L)=([],7)):=⟨by simp only[Ck.dec];rw[Ng ht,Ps0 hm]⟩
    generalize Ck.dec (t::m::L)=Q at*;have hn2:¬(n:Int)<2:=by simp at hl;omega
    obtain⟨b',off',e',hb',h3⟩:=hv.at_ (k:=1) Ah;simp only[gU,Ce,BO]at e';obtain⟨rfl,rfl⟩:=e';simp only[Cj,DI]at h3;have hm':(120:Int)≤(m.toNat:Int):=om;have vz:=m.toNat_lt;clear hv hbad ht hl hm;generalize (t.toNat:Int)=tv at*;generalize (m.toNat:Int)=mv at*;go_enter func125,ntmps125;go_wp2;go_ret2;exact qg.bad HD.1 (Ae _ _)
theorem uU {w w1 w2:World} {p} (hp:w.heap.size≤p) (hz:w.heap.size≤w1.heap.size) (hg:w1.grownBy w2 (some p)):Below w.heap.size w1 w2:=
 (Ae _ _).grown hg hz (fun g e=>by cases e;exact hp)
theorem Xi {w w1 w2 w3:World} {p} (hp:w.heap.size≤p) (hz:w.heap.size≤w1.heap.size) (hg:w1.grownBy w2 (some p)) (h:Below w2.heap.size w2 w3):Below w.heap.size w1 w3:=
 (uU hp hz hg).trans (h.mono (Lt hz hg.size))
theorem qh {B w w1} (h:Below B w w1) (q):Below B w (w1.drewN q):=⟨h.os,h.tape,h.output,h.size,h.block⟩
theorem qi (kn kk) (g:Nat) (hk:(kn=1∧kk=1∧g=217)∨(kn=2∧kk=2∧g=220)∨(kn=3∧kk=3∧g=223)) (A A0) (n c n0 c0 b0 off N _:Nat) (L) (T:List Int×List Bool×Int) (V w) (hA:A=some ⟨b0,off,none⟩) (hlc:n≤c) (hcm:c≤9223372036854775807) (hn2:2≤n) (hcx:A0=if c=2 then some ⟨b0,off,none⟩else some ⟨b0,off+2,none⟩) (hn0:n0=n-2) (hc0:c0=c-2)
  (h0:w.cell? ⟨b0,off,none⟩=some (.int .u8 kk)) (h1:w.cell? ⟨b0,off+1,none⟩=some (.int .u8 ((N:Int)-1))) (hN1:1≤N) (hN:N≤120) (hG:Gl w)
  (NB:Kept (∀W,Below w.heap.size w W→Calls prog 177 #[.slice A0 n0 c0] W fun r w'=>∃p,r= .returned (.pointer (some ⟨p,0,none⟩))∧w.heap.size≤p∧Br w' p (Bt.bits L)∧Below w.heap.size w w'))
  (TG:Kept (∀p w1,w.heap.size≤p→Br w1 p (Bt.bits L)→Below w.heap.size w w1→Calls prog 178 #[.pointer (some ⟨p,0,none⟩),.int .i64 (N:Int)] w1 fun e w'=>∃A2 n2 c2,e= .returned (.tuple #[.slice A2 n2 c2,.int .i64 T.2.2])∧eZ w' w1.heap.size A2 n2 c2 T.1∧Br w' p T.2.1∧w1.grownBy w' (some p)))
  (VG:Kept (∀p w3,w.heap.size≤p→Br w3 p T.2.1→Below w.heap.size w w3→Calls prog g #[.pointer (some ⟨p,0,none⟩),.int .i64 (N:Int)] w3 (TH w3 p V)))
  (hTl:T.2.2=0→T.1.length=N) (hVl:V.2.2=0→V.1.length=N∧∀x∈V.1,x<2^64):
  Calls prog 125 #[.slice A n c] w (qg w (if T.2.2≠0 then([],T.2.2)else if V.2.2≠0 then([],V.2.2)else if Ck.fin V.2.1≠0 then([],4)else if Ck.choose V.1≠kn then([],8)else(T.1.zip V.1,0))):=by
 obtain⟨tl,r1,eT⟩:=T;obtain⟨vl,r2,eV⟩:=V;simp only[]at TG VG hTl hVl⊢;obtain⟨f,hf⟩:∃f,Ck.fin r2=f:=⟨_,rfl⟩
 obtain⟨cz,hcz⟩:∃cz,Ck.choose vl=cz:=⟨_,rfl⟩
 obtain⟨Q,hQ⟩:∃Q,Q=(if eT≠0 then([],eT)else if eV≠0 then([],eV)else if Ck.fin r2≠0 then([],4)else if Ck.choose vl≠kn then([],8)else(tl.zip vl,(0:Int))):=⟨_,rfl⟩
 rw[←hQ];rw[hf,hcz]at hQ;have HF:=Al hf;have HC:=Al hcz;have KG:=Al hG;have HTL:=Al hTl;have HVL:=Al hVl;have HEV:Kept ((0:Int)=0):=⟨rfl⟩
 have hn1':¬(n:Int)<1:=om;have agO:¬(n:Int)<2:=om;have hmx:¬(120:Int)≤(N:Int)-1:=om;have hcl:c0≤9223372036854775807:=om;have EC:=Al (fun W=>jb W);unfold Tu Ox at EC;have ix0:=fun W=>aat W
 have ix1:=fun W=>aau W
 have ix2:=fun W=>aav W
 have fl:=fun a b c W=>adg a b c W
 have CASES:((eT !=0)=true∧Q=([],eT))∨(eT=0∧((eV !=0)=true∧(eV==0)=false)∧Q=([],eV))∨(eT=0∧eV=0∧f=4∧Q=([],4))∨(eT=0∧eV=0∧f=0∧((cz:Int) !=kk)=true∧Q=([],8))∨(eT=0∧eV=0∧f=0∧cz=kn∧Q=(tl.zip vl,0)):=by
  by_cases h1:eT=0
  ·by_cases h2:eV=0
   ·by_cases h3:f=0
    ·by_cases h4:cz=kn
     ·exact .inr (.inr (.inr (.inr ⟨h1,h2,h3,h4,by rw[hQ,Ng (by simpa using h1),Ng (by simpa using h2),Ng (by simpa using h3),Ng (by simpa using h4)]⟩)))
     ·refine .inr (.inr (.inr (.inl ⟨h1,h2,h3,by simp;omega,by rw[hQ,Ng (by simpa using h1),Ng (by simpa using h2),Ng (by simpa using h3),Ps0 h4]⟩)))
    ·refine .inr (.inr (.inl ⟨h1,h2,?_,by rw[hQ,Ng (by simpa using h1),Ng (by simpa using h2),Ps0 h3]⟩));rw[←hf]at h3⊢;unfold Ck.fin at h3⊢;split
     ·rfl
     ·rename_i h;rw[Ng h]at h3;exact absurd rfl h3
   ·exact .inr (.inl ⟨h1,⟨by simpa using h2,by simpa using h2⟩,by rw[hQ,Ng (by simpa using h1),Ps0 h2]⟩)
  ·exact .inl ⟨by simpa using h1,by rw[hQ,Ps0 h1]⟩
 have CS:(c=2∧n=2∧A0=some ⟨b0,off,none⟩)∨(¬c=2∧A0=some ⟨b0,off+2,none⟩):=by
  by_cases h:c=2
  ·exact .inl ⟨h,om,by rw[hcx,Ps0 h]⟩
  ·exact .inr ⟨h,by rw[hcx,Ng h]⟩
 subst hA;subst hn0;subst hc0;clear hQ hf hcz hG hTl hVl hcx;rcases hk with⟨rfl,rfl,rfl⟩|⟨rfl,rfl,rfl⟩|⟨rfl,rfl,rfl⟩
 all_goals
  rcases CS with⟨rfl,rfl,rfl⟩|⟨hc2,rfl⟩
  all_goals
   rcases CASES with⟨h1,e⟩|⟨rfl,⟨h1,h2⟩,e⟩|⟨rfl,rfl,rfl,e⟩|⟨rfl,rfl,rfl,h1,e⟩|⟨rfl,rfl,rfl,rfl,e⟩
   all_goals
    have wK:=Al e;have mkm:=fun W=>rX N om W
    clear e;go_enter func125,ntmps125;go_wp2_with fail;go_quiet (fail);go_wp2_with (first
     |(go_at_call 181;refine(uS A4 n4 c4 w4.heap.size vl (w4.drewN q) OV.1.rd Aj (HVL.1 Ah).2 (by have:=OV.1.len;have:=(HVL.1 Ah).1;omega) (KG.1.below S4.1).dbj (KG.1.below S4.1).dlt).mono ?_;rintro e w6 ⟨rfl,h1⟩;have B6:=Al ((qh S4.1 q).trans (h1.mono S4.1.size));have X6:=Al (show Below w4.heap.size w4 w6 from⟨h1.os,h1.tape,h1.output,h1.size,h1.block⟩);have O6:=Al (show aG w6 w3.heap.size A4 n4 c4 vl from own_below OV.1 X6.1 (fun g e=>(ae OV.1 g e).2));clear h1;rw[HC.1])
     |(go_at_call 180;refine(GH p r4 w4 R4.1).mono ?_;rintro e w5 ⟨rfl,q,rfl⟩;have FE:=Al (E4.1 HEV.1);rw[FE.1,HF.1])
     |((first|go_at_call 217|go_at_call 220|go_at_call 223);refine(VG.1 p w3 P1.1 R3.1 S3.1).mono ?_;rintro e w4 ⟨A4,n4,c4,r4,rfl,q1,q2,q3,q4⟩;have OV:=Al q1;have R4:=Al q2;have E4:=Al q3;have G4:=Al q4;have S4:=Al (S3.1.trans (uU P1.1 S3.1.size q4));clear q1 q2 q3 q4)
     |(go_at_call 179;refine(EC.1 w2).mono ?_;rintro e w3 ⟨rfl,h1⟩;have B3:=Al h1;have R3:=Al (R2.1.below h1 R2.1.lt);have S3:=Al (B1.1.trans (Xi P1.1 B1.1.size G2.1 h1));clear h1)
     |(go_at_call 178;refine(TG.1 p w1 P1.1 R1.1 B1.1).mono ?_;rintro e w2 ⟨A2,n2,c2,rfl,q1,q2,q3⟩;have OT:=Al q1;have R2:=Al q2;have G2:=Al q3;clear q1 q2 q3)
     |(go_at_call 177;refine(NB.1 _ (qh (Ae _ w) _)).mono ?_;rintro e w1 ⟨p,rfl,hp1,hp2,hp3⟩;have R1:=Al hp2;have B1:=Al hp3;have P1:=Al hp1;clear hp2 hp3 NB))
   ·go_ret2;exact qg.bad wK.1 (B1.1.trans (uU P1.1 B1.1.size G2.1))
   ·go_ret2;exact qg.bad wK.1 S4.1
   ·go_ret2;exact qg.bad wK.1 (qh S4.1 q)
   ·go_ret2;exact qg.bad wK.1 B6.1
   ·skip;have hlT:=HTL.1 Ah;have hlV:=(HVL.1 Ah).1;have OT6:eZ w6 w1.heap.size A2 n2 c2 tl:=own_below (kW (own_below OT.1 B3.1 (fun g e=>(ae OT.1 g e).2)) G4.1 R1.1.lt) X6.1 (fun g e=>(ae (kW (own_below OT.1 B3.1 (fun g e=>(ae OT.1 g e).2)) G4.1 R1.1.lt) g e).2);obtain rfl:N=n2:=by rw[←hlT];exact OT6.len.symm
    obtain rfl:N=n4:=by rw[←hlV];exact O6.1.len.symm
    have RT:=Al OT6.rd;have RV:=Al O6.1.rd;have OM:=Al (aH.zeros w6 N w6.heap.size om Aj);have HLT:=Al hlT;have HLV:=Al hlV;have hzl:Kept (N=(tl.zip vl).length):=⟨by rw[DZ];omega⟩
    have cT:=OT6.rd.2.1;have cV:=O6.1.rd.2.1;have cT2:=OT6.rd.1;have cV2:=O6.1.rd.1;unfold maxLen at cT cV;have BA:=Al ((Ae w6.heap.size w6).alloc Aj (.cells (madeCells #[.int .i64 0,.int .u64 0] (N*2)) 127));clear hlT hlV OT6 mkm;generalize w6.alloc (.cells (madeCells #[.int .i64 0,.int .u64 0] (N*2)) 127)=wm at*;obtain⟨gm,hgm⟩:∃gm,gm=w6.heap.size:=⟨_,rfl⟩
    rw[←hgm]at OM RT RV BA⊢;have HGM:=Al hgm;clear hgm;go_loopw [87] (fun i wr=>∃k:Nat,k≤N∧i= .int .i64 k∧aH wr gm (some ⟨gm,0,none⟩) N N (wJ (tl.zip vl) (0,0) k N)∧Below gm w6 wr) (fun i _=>N-(intOf i).toNat)
    case atStart=>exact⟨0,om,rfl,by rw[uT];exact OM.1,BA.1⟩
    case round=>
     clear OM BA;obtain⟨k,hk,rfl,oM,hb⟩:=hrel;by_cases hlt:k<N
     ·have hkT:k<tl.length:=by rw[HLT.1];exact hlt
      have hkV:k<vl.length:=by rw[HLV.1];exact hlt
      have hkZ:k< (tl.zip vl).length:=by rw[←hzl.1];exact hlt
      have hfz:=zI (tl.zip vl) (0,0) k N hlt hzl.1;rw[EB]at hfz;have HFZ:=Al hfz;obtain⟨bt,ot,rfl,-,e1⟩:=(RT.1.below hb).at_ hkT;obtain⟨bv,ov,rfl,-,e2⟩:=(RV.1.below hb).at_ hkV;have lM:k< (wJ (tl.zip vl) (0,0) k N).length:=by rw[←oM.len];exact hlt
      obtain⟨a0,a1,f0,f1⟩:=oM.at_ lM;have OMK:=Al oM;have HB:=Al hb;generalize (wJ (tl.zip vl) (0,0) k N)[k]=old at a0 a1;clear hfz oM hb lM;generalize tl[k]=tx at*;generalize vl[k]=vx at*;go_wp2_with fail;go_region;have OM2:=OMK.1.set k (tx,vx);rw[HFZ.1]at OM2;have KM2:=Al OM2;have UE:=Al ((HB.1.setCell (p:=⟨gm,k*2,none⟩) Aj (.int .i64 tx)).setCell (p:=⟨gm,k*2+1,none⟩) Aj (.int .u64 (vx:Int)));clear OM2;go_wp2;go_roundw
      case rel=>exact⟨k+1,om,by go_num,KM2.1,UE.1.drew⟩
      case measure=>simp[intOf];omega
     ·obtain rfl:k=N:=by omega
      rw[Mv _ _ k hzl.1]at oM;have OMK:=Al oM;have HB:=Al hb;clear oM hb;go_wp2;go_ret2;have z6:=B6.1.size;refine⟨_,_,_,by rw[wK.1];rfl,by rw[wK.1];exact zJ OMK.1 (by rw[HGM.1];exact z6),B6.1.trans (HB.1.mono (by rw[HGM.1];exact z6))⟩
theorem dtg (w) (N:Nat) (L) (hN:N≤120) (hG:Gl w):Kept (∀p w1,w.heap.size≤p→Br w1 p (Bt.bits L)→Below w.heap.size w w1→Calls prog 178 #[.pointer (some ⟨p,0,none⟩),.int .i64 (N:Int)] w1 fun e w'=>∃A2 n2 c2,e= .returned (.tuple #[.slice A2 n2 c2,.int .i64 (Tm.dec N (Bt.bits L)).2.2])∧eZ w' w1.heap.size A2 n2 c2 (Tm.dec N (Bt.bits L)).1∧Br w' p (Tm.dec N (Bt.bits L)).2.1∧w1.grownBy w' (some p)):=
 ⟨fun p w1 hp hB hb=>SL p N _ w1 hB (hG.frm.below hb) (jE hG.frm.lt hp) om⟩
theorem agT (w) (N:Nat) (r) (hN:N≤120) (hG:Gl w):Kept (∀p w3,w.heap.size≤p→Br w3 p r→Below w.heap.size w w3→Calls prog 217 #[.pointer (some ⟨p,0,none⟩),.int .i64 (N:Int)] w3 (TH w3 p (Ck.gK 1 N r))):=
 ⟨fun p w3 hp hB hb=>TJ p N r w3 hB om (hG.below hb).dbj (jE hG.dlt hp)⟩
theorem agU (w) (N:Nat) (r) (hN:N≤120):Kept (∀p w3,w.heap.size≤p→Br w3 p r→Below w.heap.size w w3→Calls prog 220 #[.pointer (some ⟨p,0,none⟩),.int .i64 (N:Int)] w3 (TH w3 p (Ck.gK 2 N r))):=
 ⟨fun p w3 _ hB _=>(Ti p N r w3 hB om).mono fun _ _ ⟨A2,n2,c2,h1,h2,h3,h4⟩=>⟨A2,n2,c2,_,h1,h2,h3,fun _=>rfl,h4⟩⟩
theorem agV (w) (N:Nat) (r) (hN:N≤120):Kept (∀p w3,w.heap.size≤p→Br w3 p r→Below w.heap.size w w3→Calls prog 223 #[.pointer (some ⟨p,0,none⟩),.int .i64 (N:Int)] w3 (TH w3 p (Ck.gK 3 N r))):=
 ⟨fun p w3 _ hB _=>(Td p N r w3 hB om).mono fun _ _ ⟨A2,n2,c2,h1,h2,h3,h4⟩=>⟨A2,n2,c2,_,h1,h2,h3,fun _=>rfl,h4⟩⟩
theorem kY (A n c B L w) (hv:aY w B A n c L) (hB:B≤w.heap.size) (hn:n≤100000000) (hG:Gl w):
  Calls prog 125 #[.slice A n c] w (qg w (Ck.dec L)):=by
 by_cases hbad:∀(t m:UInt8) (b:List UInt8),L=t::m::b→(t.toNat<1∨3<t.toNat)∨120≤m.toNat
 ·exact Hw A n c B L w hv hB hn hbad
 ·obtain⟨t,m,b,rfl,ht,hm⟩:∃t m b,L=t::m::b∧¬(t.toNat<1∨3<t.toNat)∧¬120≤m.toNat:=by
   refine Dl fun h=>hbad fun t m b e=>?_
   by_cases h1:t.toNat<1∨3<t.toNat
   ·exact .inl h1
   ·by_cases h2:120≤m.toNat
    ·exact .inr h2
    ·exact absurd ⟨t,m,b,e,h1,h2⟩ h
  have hl:=hv.len;have hlc:=hv.1;have hcm:=hv.2.1;unfold maxLen at hcm;have hn2:2≤n:=by simp at hl;omega
  obtain⟨b0,off,rfl,hb,h0⟩:=hv.at_ (k:=0) Ah;rw[DD]at h0;simp only[DI]at h0;obtain⟨b',off',e',hb',h1⟩:=hv.at_ (k:=1) Ah;simp only[gU,Ce,BO]at e';obtain⟨rfl,rfl⟩:=e';simp only[Cj,DI]at h1;have hD:Ck.dec (t::m::b)=Ck.Vw t.toNat (m.toNat+1) (Bt.bits b):=by
   simp only[Ck.dec];rw[Ng ht,Ng hm]
  have hd:=hv.drop (k:=2) om;simp only[BP,Ct,EF,add_plain]at hd;have NB:Kept (∀W,Below w.heap.size w W→Calls prog 177 #[.slice (if c=2 then some ⟨b0,off,none⟩else some ⟨b0,off+2,none⟩) (n-2) (c-2)] W fun r w'=>∃p,r= .returned (.pointer (some ⟨p,0,none⟩))∧w.heap.size≤p∧Br w' p (Bt.bits b)∧Below w.heap.size w w'):=⟨fun W hW=>(Gz _ _ _ B b W (hd.below (hW.mono hB)) (Lt hB hW.size) om).mono fun _ _ ⟨p,q1,q2,q3,q4⟩=>⟨p,q1,Lt hW.size q2,q3,hW.trans (q4.mono hW.size)⟩⟩
  have hT:∀(h:(Tm.dec (m.toNat+1) (Bt.bits b)).2.2=0),(Tm.dec (m.toNat+1) (Bt.bits b)).1.length=m.toNat+1:=fun h=>(Tm.iG (show Tm.dec (m.toNat+1) (Bt.bits b)=(_,_,0)from BC rfl (BC rfl h))).1
  have hV:∀(tag:Nat) (r:List Bool) (h:(Ck.gK tag (m.toNat+1) r).2.2=0),(Ck.gK tag (m.toNat+1) r).1.length=m.toNat+1∧∀x∈(Ck.gK tag (m.toNat+1) r).1,x<2^64:=fun tag r h=>by
   obtain⟨g1,g2,-⟩:=Ck.FC (show Ck.gK tag (m.toNat+1) r=(_,_,0)from BC rfl (BC rfl h));exact⟨g1,g2⟩
  have h1':w.cell? ⟨b0,off+1,none⟩=some (.int .u8 (((m.toNat+1:Nat):Int)-1)):=by
   rw[h1];congr 2;omega
  rw[hD];have hcs:t.toNat=1∨t.toNat=2∨t.toNat=3:=om;rcases hcs with e|e|e
  ·rw[e]at h0⊢;exact qi 1 1 _ (.inl ⟨rfl,rfl,rfl⟩) _ _ n c (n-2) (c-2) b0 off (m.toNat+1) B b _ _ w rfl hlc om hn2 rfl rfl rfl h0 h1' om om hG NB (dtg w _ b om hG) (agT w _ _ om hG) hT (hV 1 _)
  ·rw[e]at h0⊢;exact qi 2 2 _ (.inr (.inl ⟨rfl,rfl,rfl⟩)) _ _ n c (n-2) (c-2) b0 off (m.toNat+1) B b _ _ w rfl hlc om hn2 rfl rfl rfl h0 h1' om om hG NB (dtg w _ b om hG) (agU w _ _ om) hT (hV 2 _)
  ·rw[e]at h0⊢;exact qi 3 3 _ (.inr (.inr ⟨rfl,rfl,rfl⟩)) _ _ n c (n-2) (c-2) b0 off (m.toNat+1) B b _ _ w rfl hlc om hn2 rfl rfl rfl h0 h1' om om hG NB (dtg w _ b om hG) (agV w _ _ om) hT (hV 3 _)
theorem Bk.OW (b:Bk.gN) {k} (h:k<b.length):Bk.sets (b.take (k+1))=Bk.sets (b.take k)++[b[k].1]:=by
 unfold Bk.sets;rw[Ts h,dN];rfl
theorem Ps.OX (M m):Ps.strs (M++[m])=Ps.strs M++Lb.strs m:=by unfold Ps.strs;rw[nH];simp
theorem Bk.zK (b k):Ps.wt (Bk.sets (b.take k))≤Ps.wt (Bk.sets b):=by
 unfold Bk.sets;rw[List.map_take];exact Ps.LM _ _
theorem zL (A n c B b w) (hv:fK w B A n c b) (hB:B≤w.heap.size) (hw:Ps.wt (Bk.sets b)≤500000):
  Calls prog 85 #[.slice A n c] w fun r w'=>∃A2 n2 c2 T,r= .returned (.slice A2 n2 c2)∧Sy.gH (Ps.strs (Bk.sets b)) T∧bM w' w'.heap.size A2 n2 c2 T∧Below w.heap.size w w':=by
 obtain⟨hlc,hcm⟩:=hv.cap;unfold maxLen at hcm;have HN:=Al hv.len;have V:=Al hv;have hSL:Kept (∀k,(Ps.strs (Bk.sets (b.take k))).length≤1000000):=⟨fun k=>by
  have h1:=Ps.oC (Bk.sets (b.take k));have h2:=Bk.zK b k;omega⟩
 clear hv hw;go_enter func85,ntmps85;go_wp2;go_loopw [3,8] (fun o i wr=>∃k:Nat,k≤n∧i= .int .i64 k∧∃(A2:Option Addr) (n2 c2:Nat),o= .slice A2 n2 c2∧aR wr w.heap.size A2 n2 c2 (Ps.strs (Bk.sets (b.take k)))∧Below w.heap.size w wr) (fun _ i _=>n-(intOf i).toNat)
 case atStart=>exact⟨0,om,rfl,none,0,0,rfl,(show aR w w.heap.size none 0 0 []from Bb _ _ _ _),Ae _ _⟩
 case round=>
  obtain⟨k,hk,rfl,A2,n2,c2,rfl,ho,hb⟩:=hrel;have O:=Al ho;have HB:=Al hb;have rf:=hb.size;have hn2:=ho.len;have agO:n2≤1000000:=by have:=hSL.1 k;omega
  have HN2:=Al hn2;clear hn2;by_cases hlt:k<n
  ·have hkl:k<b.length:=by rw[←HN.1];exact hlt
   obtain⟨b0,off,A1,n1,c1,A3,n3,c3,rfl,hL,-,hc⟩:=V.1.cells hB hkl;obtain⟨r0,r1⟩:=hc wr hb;have ht:Kept (Ps.strs (Bk.sets (b.take (k+1)))=Ps.strs (Bk.sets (b.take k))++Lb.strs b[k].1):=⟨by rw[Bk.OW b hkl,Ps.OX]⟩
   have hln:(Lb.strs b[k].1).length≤1000000:=by
    have:=hSL.1 (k+1);rw[ht.1,La]at this;omega
   have vz:=Lb.aV b[k].1;have hnl:=hL.len;have hb5:=hb.alloc rf (.cells #[.slice A1 n1 c1,.slice A3 n3 c3] 57);have O5:aR (wr.alloc (.cells #[.slice A1 n1 c1,.slice A3 n3 c3] 57)) w.heap.size A2 n2 c2 (Ps.strs (Bk.sets (b.take k))):=Oa ho _;have B5:=Al hb5;have KO5:=Al O5;have ST:=Al (jK A1 n1 c1 b[k].1 (wr.alloc (.cells #[.slice A1 n1 c1,.slice A3 n3 c3] 57)) ((hL.below (hb5.mono hB)).more (Lt hB hb5.size)) om);have HLN:=Al hln;clear ho hb hc hL hln vz hnl hb5 O5;generalize b[k].1=m at*;go_wp2_with (first
    |(at_builtin;refine gJ rfl (.tmp 12) (.tmp 15) rfl w.heap.size A2 n2 c2 _ rfl O6.1 _ _ _ _ _ rfl O7.1 (by have:=HLN.1;have:=H7.1;omega) (by have:=B6.1.size;omega) ?_;intro A8 c8 w8 hown hgrow hat;have O8:=Al hown;have B8:=Al (B6.1.grown hgrow B6.1.size (fun g hg=>(ae O6.1 g hg).1));clear hown hgrow hat)
    |(go_at_call 123;refine ST.1.mono ?_;rintro r w6 ⟨A7,n7,c7,rfl,ho,hb⟩;have O7:=Al ho.rd;have H7:=Al ho.len;have O6:=Al (show aR w6 w.heap.size A2 n2 c2 (Ps.strs (Bk.sets (b.take k)))from aQ KO5.1 hb);have B6:=Al (B5.1.trans (hb.mono B5.1.size));clear ho hb ST))
   go_roundw
   case rel=>exact⟨k+1,om,by go_num,A8,_,c8,rfl,by rw[ht.1];exact O8.1,B8.1⟩
   case measure=>simp[intOf];omega
  ·obtain rfl:k=n:=by omega
   have hall:b.take k=b:=jc (by rw[←HN.1];exact Nr _);have TB:=Al (mZ A2 n2 c2 _ wr ho.rd om);rw[hall]at TB;clear hall ho hb;go_wp2_with (go_at_call 141;refine TB.1.mono ?_;rintro r w6 ⟨A7,n7,c7,T,rfl,ht,ho,hb⟩;have HT:=Al ht;have O7:=Al ho;have B7:=Al (HB.1.trans (hb.mono rf));clear ht ho hb TB);go_ret;exact⟨A7,n7,c7,T,rfl,HT.1,O7.1,B7.1⟩
end Go.Proofs.YtongopommlghgaaGreatDoor
