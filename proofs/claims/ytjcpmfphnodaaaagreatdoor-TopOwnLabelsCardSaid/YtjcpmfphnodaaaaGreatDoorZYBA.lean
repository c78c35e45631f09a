/- Part 27. -/
import Derived.Test.YtjcpmfphnodaaaaGreatDoorZYAZ
import Derived.Test.YtjcpmfphnodaaaaGreatDoorZYAT
namespace Go.Proofs.YtjcpmfphnodaaaaGreatDoor
set_option maxRecDepth 100000
set_option maxHeartbeats 0
open _root_.Go.Proofs.Tryz
open Go.RowKit Go.Shelf
theorem afU (w a b c):(Instr.index 335 (.agg #[.int .i64 a,.int .i64 b,.int .i64 c]) (.int .i64 0)).run prog w= .ok (.int .i64 a) w:=kr
theorem afV (w a b c):(Instr.index 335 (.agg #[.int .i64 a,.int .i64 b,.int .i64 c]) (.int .i64 1)).run prog w= .ok (.int .i64 b) w:=kr
theorem afW (w a b c):(Instr.index 335 (.agg #[.int .i64 a,.int .i64 b,.int .i64 c]) (.int .i64 2)).run prog w= .ok (.int .i64 c) w:=kr
theorem Di.WH (l) (h:(Di.eO l).length≤128):Di.JI l=((Di.enc l).length:Int):=by
 unfold Di.JI;rw[Ng om];by_cases hl:l=[]
 ·subst hl;rfl
 ·have hd:(Di.eO l).length≠0:=fun e=>by
   obtain⟨x,hx⟩:=List.exists_mem_of_ne_nil l hl;have:=(Di.fe l x).2 hx;rw[oG e]at this;simp at this
  have f1:∀(k:Nat) (d:List Nat),(d.flatMap (Bt.bw k)).length=k*d.length:=fun k d=>by
   induction d with
   |nil=>rfl
   |cons x d ih=>rw[Au,La,ih,Bt.aj,Lc,Nat.mul_add];omega
  have f2:∀(k:Nat) (f:Nat→Nat) (d:List Nat),(d.flatMap fun x=>Bt.bw k (f x)).length=k*d.length:=fun k f d=>by
   induction d with
   |nil=>rfl
   |cons x d ih=>rw[Au,La,ih,Bt.aj,Lc,Nat.mul_add];omega
  rw[Ng hd];unfold Di.enc;rw[Ng hl,La,La,Bt.aj,f1,f2]
  push_cast
  rw[Int.mul_comm 64,Int.mul_comm ((Di.mO (Di.eO l).length:Nat):Int)];omega
theorem uN (A n c B l w) (hr:kD w B A n c l) (hB:B≤w.heap.size) (hx:∀x∈l,x<2^64) (hn:n≤128) (hD:wB w) (hD2:2<w.heap.size):
  Calls prog 181 #[.slice A n c] w fun r w'=>r= .returned (.int .i64 ((Ck.choose l:Nat):Int))∧Below w.heap.size w w':=by
 have SZ:=Aj (N9 A n c B l w hr hB hx hn hD hD2);have hdl:(Di.eO l).length≤128:=by have:=Ck.IZ l;have:=hr.len;omega
 have e0:Ck.N8 l 0=((Xo.enc l).length:Int):=rfl;have e1:Ck.N8 l 1=((Ru.enc l).length:Int):=rfl;have e2:Ck.N8 l 2=((Di.enc l).length:Int):=(show Ck.N8 l 2=Di.JI l from rfl).trans (Di.WH l hdl);rw[e0,e1,e2]at SZ;have HCH:Kept (Ck.choose l=if(Di.enc l).length<min (Xo.enc l).length (Ru.enc l).length then 3 else if(Ru.enc l).length< (Xo.enc l).length then 2 else 1):=⟨rfl⟩
 generalize Ck.choose l=ch at*;generalize (Xo.enc l).length=s0 at*;generalize (Ru.enc l).length=s1 at*;generalize (Di.enc l).length=s2 at*;clear hr hx hD e0 e1 e2;go_enter func181,ntmps181;go_wp2_with (go_at_call 226;refine SZ.1.mono ?_;rintro e w1 ⟨rfl,h1⟩;have B1:=Aj h1;clear h1);have hb3:=Aj ((B1.1).alloc B1.1.size (.cells #[.int .i64 (s0:Int),.int .i64 (s1:Int),.int .i64 (s2:Int)] 335));have hrow:=Av w1 (.cells #[.int .i64 (s0:Int),.int .i64 (s1:Int),.int .i64 (s2:Int)] 335);generalize w1.alloc (.cells #[.int .i64 (s0:Int),.int .i64 (s1:Int),.int .i64 (s2:Int)] 335)=W3 at*;generalize w1.heap.size=g at*;have c0:=Co _ _ 0 _ _ _ hrow;have c1:=Co _ _ 1 _ _ _ hrow;have c2:=Co _ _ 2 _ _ _ hrow;clear hrow B1 SZ;have p0:(0:Int)≤(s0:Int):=om;have p1:(0:Int)≤(s1:Int):=om;have p2:(0:Int)≤(s2:Int):=om;go_loopw [3,10] (fun v i wr=>∃k b:Nat,i= .int .i64 (k:Int)∧v= .int .i64 (b:Int)∧wr=W3∧k≤3∧Kept ((k=0∧b=0)∨(k=1∧b=0)∨(k=2∧b=if s1<s0 then 1 else 0)∨(k=3∧b=if s2<min s0 s1 then 2 else if s1<s0 then 1 else 0))) (fun _ i _=>3-(intOf i).toNat)
 case atStart=>exact⟨0,0,rfl,rfl,(by first|rfl|trivial),om,⟨.inl ⟨rfl,rfl⟩⟩⟩
 case round=>
  obtain⟨k,b,rfl,rfl,rfl,hk3,HK⟩:=hrel;have ix0:=afU wr (s0:Int) (s1:Int) (s2:Int);have ix1:=afV wr (s0:Int) (s1:Int) (s2:Int);have ix2:=afW wr (s0:Int) (s1:Int) (s2:Int);rcases HK.1 with⟨rfl,rfl⟩|⟨rfl,rfl⟩|⟨rfl,hb⟩|⟨rfl,hb⟩
  ·go_wp2;go_roundw
   case rel=>exact⟨1,0,rfl,rfl,(by first|rfl|trivial),om,⟨.inr (.inl ⟨rfl,rfl⟩)⟩⟩
   case measure=>simp[intOf]
  ·by_cases h:s1<s0
   ·have h':(s1:Int)< (s0:Int):=by omega
    go_wp2;go_roundw
    case rel=>exact⟨2,1,rfl,rfl,(by first|rfl|trivial),om,⟨.inr (.inr (.inl ⟨rfl,by rw[Ps0 h]⟩))⟩⟩
    case measure=>simp[intOf]
   ·have h':¬(s1:Int)< (s0:Int):=by omega
    go_wp2;go_roundw
    case rel=>exact⟨2,0,rfl,rfl,(by first|rfl|trivial),om,⟨.inr (.inr (.inl ⟨rfl,by rw[Ng h]⟩))⟩⟩
    case measure=>simp[intOf]
  ·by_cases h:s1<s0
   ·rw[Ps0 h]at hb;subst hb;by_cases h2:s2<s1
    ·have h':(s2:Int)< (s1:Int):=by omega
     go_wp2;go_roundw
     case rel=>exact⟨3,2,rfl,rfl,(by first|rfl|trivial),om,⟨.inr (.inr (.inr ⟨rfl,by rw[Ps0 om]⟩))⟩⟩
     case measure=>simp[intOf]
    ·have h':¬(s2:Int)< (s1:Int):=by omega
     go_wp2;go_roundw
     case rel=>exact⟨3,1,rfl,rfl,(by first|rfl|trivial),om,⟨.inr (.inr (.inr ⟨rfl,by rw[Ng om,Ps0 h]⟩))⟩⟩
     case measure=>simp[intOf]
   ·rw[Ng h]at hb;subst hb;by_cases h2:s2<s0
    ·have h':(s2:Int)< (s0:Int):=by omega
     go_wp2;go_roundw
     case rel=>exact⟨3,2,rfl,rfl,(by first|rfl|trivial),om,⟨.inr (.inr (.inr ⟨rfl,by rw[Ps0 om]⟩))⟩⟩
     case measure=>simp[intOf]
    ·have h':¬(s2:Int)< (s0:Int):=by omega
     go_wp2;go_roundw
     case rel=>exact⟨3,0,rfl,rfl,(by first|rfl|trivial),om,⟨.inr (.inr (.inr ⟨rfl,by rw[Ng om,Ng h]⟩))⟩⟩
     case measure=>simp[intOf]
  ·have HB:=Aj hb;have acg:b≤2:=by rw[hb];split<;>(try split)<;>omega
   clear hb;go_wp2;go_ret;refine⟨?_,hb3.1⟩;have e:(if s2<min s0 s1 then 3 else if s1<s0 then 2 else 1)=b+1:=by rw[HB.1];split<;>(try split)<;>rfl
   rw[HCH.1,e];rfl
theorem aI.wk {w w' base p b2 n c A l} (h:aI w b2 A n c l) (hk:Wk base p w w') (hp:p<b2):aI w' b2 A n c l:=by
 refine⟨h.1,h.2.imp id ?_⟩;rintro⟨g,cap,cur,hv,hb,hg,rest⟩;exact⟨g,cap,cur,hv,hb,hk.kept hg om Ah,rest⟩
theorem Wk.dr {base p w w1} (h:Wk base p w w1) (m):Wk base p w (w1.drewN m):=⟨⟨h.aX.os,h.aX.tape,h.aX.output,h.aX.size,h.aX.block⟩,h.rest⟩
theorem fC.aX {w w' base p bs} (h:fC w base p bs) (hb:Below w.heap.size w w'):fC w' base p bs:=by
 obtain⟨A,n,c,L,h1,h2,h3,h4⟩:=h;have hp:=(Ge.1 h1).1;exact⟨A,n,c,L,(hb.block p hp).trans h1,own_below h2 hb (fun g e=>(ae h2 g e).2),h3,h4⟩
theorem Wk.of {base p w w'} (h:Below w.heap.size w w') (hb:base≤w.heap.size):Wk base p w w':=⟨h.mono hb,fun k hk _ _=>h.block k hk⟩
theorem Mc (k) (d:List Nat):(d.flatMap (Bt.bw k)).length=k*d.length:=by
 induction d with
 |nil=>rfl
 |cons x d ih=>rw[Au,La,ih,Bt.aj,Lc,Nat.mul_add];omega
theorem SB (k) (f:Nat→Nat) (d:List Nat):(d.flatMap fun x=>Bt.bw k (f x)).length=k*d.length:=by
 induction d with
 |nil=>rfl
 |cons x d ih=>rw[Au,La,ih,Bt.aj,Lc,Nat.mul_add];omega
theorem SH (base p B bs A n c l w) (h:fC w base p bs) (hr:kD w B A n c l) (hB:B≤base) (hx:∀x∈l,x<2^64) (hk:(Di.eO l).length≤128)
  (hn:n≤1000000) (hl:bs.length≤100000000):
  Calls prog 222 #[.pointer (some ⟨p,0,none⟩),.slice A n c] w fun e w'=>e= .returned (.int .i64 0)∧fC w' base p (bs++Di.enc l)∧Wk base p w w':=by
 have hln:=Aj hr.len;have hlc:=hr.1;have hcm:=hr.2.1;unfold maxLen at hcm;obtain⟨l9,hbp⟩:=h.lt;have D0:=Aj (Gj A n c B l w hr om hx hn);have R0:=Aj hr;have H0:=Aj h;have hup:=Aj (Di.pg l);have hmem:=Aj (Di.fe l);have MB:Kept (∀x∈Di.eO l,x<2^64):=⟨fun x h=>hx x ((Di.fe l x).1 h)⟩
 by_cases hl0:l=[]
 ·subst hl0;obtain rfl:n=0:=hln.1;have he:Kept (Di.enc []=[]):=⟨rfl⟩
  have D1:Kept ((Di.eO []).length=0):=⟨rfl⟩
  rw[D1.1]at D0;clear h hr hx hk;go_enter func222,ntmps222;go_wp2_with (go_at_call 261;refine D0.1.mono ?_;rintro e w1 ⟨A2,c2,rfl,ho,hb⟩;have B1:=Aj hb;clear ho hb);go_ret;rw[he.1,Bg];exact⟨rfl,H0.1.aX B1.1,Wk.of B1.1 om⟩
 ·have hlp:0<l.length:=oH.2 hl0;have hd0:0< (Di.eO l).length:=by
   rcases l5 (Di.eO l).length with e|e
   ·exfalso;obtain⟨x,hx⟩:=List.exists_mem_of_ne_nil l hl0;have:=(Di.fe l x).2 hx;rw[oG e]at this;simp at this
   ·exact e
  have he:Kept (Di.enc l=Bt.bw 7 ((Di.eO l).length-1)++((Di.eO l).flatMap (Bt.bw 64)++l.flatMap fun x=>Bt.bw (Di.mO (Di.eO l).length) ((Di.eO l).idxOf x))):=⟨by unfold Di.enc;rw[Ng hl0]⟩
  have hn0:¬(n:Int)=0:=by have:=hln.1;omega
  rw[he.1];clear he hl0;generalize Di.eO l=d at*;obtain⟨K,hK⟩:∃K,d.length=K:=⟨_,rfl⟩
  rw[hK]at D0 hk hd0⊢;have HK:=Aj hK;obtain⟨K1,hK1⟩:∃K1,K1=K-1:=⟨_,rfl⟩
  rw[←hK1];have hki:(K:Int)-1=(K1:Int):=om;have hku:IntKind.u64.wrap (K1:Int)=(K1:Int):=by rw[Bv];omega
  have aio:¬(128:Int)< (K:Int):=om;have W0:=Aj (fun w=>p9 K om w);have hv7:Di.mO K≤7:=Di.JJ hk;generalize Di.mO K=v at*;have WB1:=Aj (fun(w1:World) (h1:fC w1 base p bs)=>bY base p K1 7 bs w1 h1 om om om);clear h hr hx hK hK1;go_enter func222,ntmps222;go_wp2_with (first
   |(go_at_call 191;refine(WB1.1 w1 H1.1).mono ?_;rintro e w2 ⟨rfl,h2,k2⟩;have H2:=Aj h2;have K2:=Aj ((Wk.of B1.1 om).trans k2);have O2:=Aj (O1.1.wk k2 l9);clear h2 k2)
   |(go_at_call 261;refine D0.1.mono ?_;rintro e w1 ⟨A2,c2,rfl,ho,hb⟩;have B1:=Aj hb;have O1:=Aj ho;have H1:=Aj (H0.1.aX hb);clear ho hb))
  clear H0 H1 O1 B1 D0 WB1;have MU:=O2.1.rd.1;have hcm2:=O2.1.rd.2.1;unfold maxLen at hcm2;go_loopw [33] (fun i wr=>∃k:Nat,k≤K∧i= .int .i64 (k:Int)∧fC wr base p (bs++Bt.bw 7 K1++(d.take k).flatMap (Bt.bw 64))∧Wk base p w wr∧aI wr w.heap.size A2 K c2 d) (fun i _=>K-(intOf i).toNat)
  case atStart=>exact⟨0,bE _,rfl,by simpa using H2.1,K2.1,O2.1⟩
  case round=>
   clear H2 K2 O2;obtain⟨k,hkK,rfl,h3,k3,o3⟩:=hrel;by_cases hlt:k<K
   ·have hlt':(k:Int)< (K:Int):=by omega
    have hkd:k<d.length:=by have:=HK.1;omega
    obtain⟨bb,off,rfl,jT,hc0⟩:=o3.rd.at_ hkd;have hxk:=MB.1 _ (gP hkd);have hbl:(bs++Bt.bw 7 K1++(d.take k).flatMap (Bt.bw 64)).length≤1000000000:=by
     rw[La,La,Bt.aj,Mc,oF];omega
    have WB:=Aj (bY base p d[k] 64 _ wr h3 hxk om hbl);have HKx:=Aj k3;have HO3:=Aj o3;have htk:Kept ((d.take (k+1)).flatMap (Bt.bw 64)=(d.take k).flatMap (Bt.bw 64)++Bt.bw 64 d[k]):=⟨by rw[Ts hkd,oL];simp⟩
    generalize d[k]=x at*;clear h3 k3 o3 hbl;go_wp2_with (go_at_call 191;refine WB.1.mono ?_;rintro e w4 ⟨rfl,h4,k4⟩;have H4:=Aj h4;have K4:=Aj (HKx.1.trans k4);have O4:=Aj (HO3.1.wk k4 l9);clear h4 k4);go_roundw
    case rel=>exact⟨k+1,om,by go_num,by rw[htk.1,←Af];exact H4.1,K4.1,O4.1⟩
    case measure=>simp[intOf];omega
   ·obtain rfl:k=K:=by omega
    have htk:d.take k=d:=iL (by rw[HK.1];exact Nr _);rw[htk]at h3;have H3:=Aj h3;have K3:=Aj k3;have O3:=Aj o3;clear h3 k3 o3 htk;go_wp2;go_loopw [43] (fun i wr=>∃j:Nat,j≤n∧i= .int .i64 (j:Int)∧fC wr base p (bs++Bt.bw 7 K1++d.flatMap (Bt.bw 64)++(l.take j).flatMap fun x=>Bt.bw v (d.idxOf x))∧Wk base p w wr∧aI wr w.heap.size A2 k c2 d) (fun i _=>n-(intOf i).toNat)
    case atStart=>exact⟨0,bE _,rfl,by simpa using H3.1,K3.1,O3.1⟩
    case round=>
     clear H3 K3 O3;obtain⟨j,hjn,rfl,h5,k5,o5⟩:=hrel;by_cases hjl:j<n
     ·have afL:(j:Int)< (n:Int):=by omega
      have hjd:j<l.length:=by have:=hln.1;omega
      obtain⟨bb,off,rfl,jT,hc0⟩:=(R0.1.below (k5.aX.mono hB)).at_ hjd;have hq:d.idxOf l[j]<d.length:=List.idxOf_lt_length_of_mem ((hmem.1 _).2 (gP hjd));have hxq:l[j]=d[d.idxOf l[j]]:=(List.getElem_idxOf hq).symm;have BS:=Aj (Gm A2 k c2 wr.heap.size (d.idxOf l[j]) l[j] d wr o5.rd Ai hq hxq hup.1 om);have hbl:(bs++Bt.bw 7 K1++d.flatMap (Bt.bw 64)++(l.take j).flatMap fun x=>Bt.bw v (d.idxOf x)).length≤1000000000:=by
       rw[La,La,La,Bt.aj,Mc,SB,oF,HK.1];have:v*min j l.length≤7*1000000:=Nat.mul_le_mul hv7 om;omega
      have hqK:d.idxOf l[j]<k:=by rw[←HK.1];exact hq
      have WB:=Aj (fun m=>bY base p (d.idxOf l[j]) v _ (wr.drewN m) (show fC (wr.drewN m) base p _ from h5) om om hbl);have K5:=Aj k5;have O5:=Aj o5;have htk:Kept (((l.take (j+1)).flatMap fun x=>Bt.bw v (d.idxOf x))=((l.take j).flatMap fun x=>Bt.bw v (d.idxOf x))++Bt.bw v (d.idxOf l[j])):=⟨by rw[Ts hjd,oL];simp⟩
      clear hxq hq hbl h5 k5 o5;generalize d.idxOf l[j]=q at*;generalize l[j]=x at*;have hqu:IntKind.u64.wrap (q:Int)=(q:Int):=by rw[Bv];omega
      go_wp2_with (first
       |(go_at_call 263;refine BS.1.mono ?_;rintro e w6 ⟨rfl,m,rfl⟩)
       |(go_at_call 262;refine(W0.1 _).mono ?_;rintro e w6 ⟨rfl,rfl⟩)
       |(go_at_call 191;refine(WB.1 _).mono ?_;rintro e w7 ⟨rfl,h7,k7⟩;have H7:=Aj h7;have K7:=Aj ((K5.1.dr m).trans k7);have O7:=Aj (aI.wk (show aI (wr.drewN m) _ _ _ _ _ from O5.1) k7 l9);clear h7 k7))
      go_roundw
      case rel=>exact⟨j+1,om,by go_num,by rw[htk.1,←Af];exact H7.1,K7.1,O7.1⟩
      case measure=>simp[intOf];omega
     ·obtain rfl:j=n:=by omega
      have htl:l.take j=l:=iL (by have:=hln.1;omega);rw[htl]at h5;have H5:=Aj h5;have K5:=Aj k5;clear h5 k5 o5 htl;go_wp2;go_ret;exact⟨rfl,by rw[←Af,←Af];exact H5.1,K5.1⟩
theorem SK:(prog.info? 2).map (fun i=>(i.zero,i.size,i.bytes))=some (some (.int .i64 0),1,8):=kr
theorem SL:(prog.info? 125).map (fun i=>(i.zero,i.size,i.bytes))=some (some (.int .u64 0),1,8):=kr
theorem Md (n:Nat) (hn:n≤1000000) (w):(Instr.makeSlice 281 (.int .i64 n) (.int .i64 n)).run prog w= .ok (.slice (some ⟨w.heap.size,0,none⟩) n n) (w.alloc (.cells (madeCells #[.int .i64 0] n) 2)):=by
 obtain⟨i0,hi0,hz0,hz1,hz2⟩:=AX SK;have:=run_makeSlice (P:=prog) w 281 2 i0 (.int .i64 0) underlying281 hi0 hz0 .i64 .i64 (n:Int) (n:Int) om om (by rw[hz1];simp;omega) (by rw[hz2];omega) om;rw[hz1]at this;simpa[Value.cells]using this
theorem Me (n:Nat) (hn:n≤1000000) (w):(Instr.makeSlice 284 (.int .i64 n) (.int .i64 n)).run prog w= .ok (.slice (some ⟨w.heap.size,0,none⟩) n n) (w.alloc (.cells (madeCells #[.int .u64 0] n) 125)):=by
 obtain⟨i0,hi0,hz0,hz1,hz2⟩:=AX SL;have:=run_makeSlice (P:=prog) w 284 125 i0 (.int .u64 0) underlying284 hi0 hz0 .i64 .i64 (n:Int) (n:Int) om om (by rw[hz1];simp;omega) (by rw[hz2];omega) om;rw[hz1]at this;simpa[Value.cells]using this
theorem eX.zeros (w:World) (n base) (hn:n≤1000000) (hb:base≤w.heap.size):eX (w.alloc (.cells (madeCells #[.int .i64 0] n) 2)) base (some ⟨w.heap.size,0,none⟩) n n (List.replicate n 0):=by
 obtain⟨i0,hi0,hz0,hz1,hz2⟩:=AX SK;obtain⟨w',h1,h2,-⟩:=run_make_full (P:=prog) w base 281 2 i0 (.int .i64 0) 1 underlying281 hi0 hz0 hz1 .i64 .i64 n (by rw[hz2];omega) (by unfold maxLen;omega) hb;rw[Md n hn w]at h1
 injection h1 with _ h1
 subst h1;rw[C8,show(Value.int .i64 0).cells= #[Value.int .i64 0]from rfl,toList_madeCells_one]at h2;have e:yg (List.replicate n 0)=List.replicate n (Value.int .i64 0):=by simp[yg,tv]
 unfold eX;rw[e];exact h2
theorem aI.zeros (w:World) (n base) (hn:n≤1000000) (hb:base≤w.heap.size):aI (w.alloc (.cells (madeCells #[.int .u64 0] n) 125)) base (some ⟨w.heap.size,0,none⟩) n n (List.replicate n 0):=by
 obtain⟨i0,hi0,hz0,hz1,hz2⟩:=AX SL;obtain⟨w',h1,h2,-⟩:=run_make_full (P:=prog) w base 284 125 i0 (.int .u64 0) 1 underlying284 hi0 hz0 hz1 .i64 .i64 n (by rw[hz2];omega) (by unfold maxLen;omega) hb;rw[Me n hn w]at h1
 injection h1 with _ h1
 subst h1;rw[C8,show(Value.int .u64 0).cells= #[Value.int .u64 0]from rfl,toList_madeCells_one]at h2;have e:vo (List.replicate n 0)=List.replicate n (Value.int .u64 0):=by simp[vo,uv]
 unfold aI;rw[e];exact h2
def wF {X:Type} (xs:List X) (d:X) (k n:Nat):List X:=xs.take k++List.replicate (n-k) d
theorem uO {X} (xs:List X) (d n):wF xs d 0 n=List.replicate n d:=by simp[wF]
theorem Mf {X} (xs:List X) (d n) (h:n=xs.length):wF xs d n n=xs:=by subst h;simp[wF]
theorem zw {X:Type} (xs:List X) (d:X) (k n:Nat) (hk:k<n) (h:n=xs.length):(wF xs d k n).set k (xs[k]'om)=wF xs d (k+1) n:=by
 unfold wF;rw[List.set_append_right _ _ (by rw[oF];omega),oF,Nat.min_eq_left om,Dz];obtain⟨m,hm⟩:∃m,n-k=m+1:=⟨n-k-1,om⟩
 rw[hm,List.replicate_succ,Aq,Ts (show k<xs.length from om),show n-(k+1)=m from om,Af]
 rfl
theorem gT.afX {w B n c k A l} (h:gT w B A n c l) (hB:B≤w.heap.size) (hk:k<l.length):
  ∃b off,A=some ⟨b,off,none⟩∧∀W,Below w.heap.size w W→W.cell? ⟨b,off+k*2,none⟩=some (.int .i64 l[k].1)∧W.cell? ⟨b,off+k*2+1,none⟩=some (.int .u64 (l[k].2:Int)):=by
 obtain⟨b,off,e,hb,h1,h2⟩:=h.at_ hk;exact⟨b,off,e,fun W hW=>⟨(hW.cell (p:=⟨b,_,none⟩) (by show b<_;omega)).trans h1,(hW.cell (p:=⟨b,_,none⟩) (by show b<_;omega)).trans (by rw[fE];exact h2)⟩⟩
theorem SN (a b c w):(Instr.field 290 (.agg #[a,b,c]) 1).run prog w= .ok b w:=kr
theorem acI (a b c w):(Instr.field 290 (.agg #[a,b,c]) 2).run prog w= .ok c w:=kr
theorem zx {w:World} {b1 b2 sz n c A xs e} (h:w.ownsRow b1 e sz (.slice A n c) n xs) (hb:b2≤b1):w.ownsRow b2 e sz (.slice A n c) n xs:=
 ⟨h.1,h.2.imp id fun⟨g,cap,cur,h1,h2,h3⟩=>⟨g,cap,cur,h1,om,h3⟩⟩
structure Gl (w:World):Prop where
 frm:pY w
 dbj:wB w
 tab:gq w
 dlt:2<w.heap.size
theorem Gl.below {w w'} (h:Gl w) (hb:Below w.heap.size w w'):Gl w':=⟨h.frm.below hb,h.dbj.aX hb h.dlt,h.tab.below hb,ku h.dlt hb.size⟩
theorem Gw (A n c B) (l:Cs.gD) (w) (hv:gT w B A n c l) (hB:B≤w.heap.size) (hin:Cs.In l) (h1:1≤n) (h2:n≤120) (hG:Gl w):
  Calls prog 140 #[.slice A n c] w fun e w'=>∃A2 n2 c2,e= .returned (.tuple #[.slice A2 n2 c2,.int .i64 0])∧ah w' w.heap.size A2 n2 c2 (Ck.enc l)∧Below w.heap.size w w':=by
 have hlc:=hv.1;have hcm:=hv.2.1;unfold maxLen at hcm;have Hv:=Aj hv;have hn:=Aj hv.len;have HI:=Aj hin;have HG:=Aj hG;have m1:=fun W=>Md n om W
 have m2:=fun W=>Me n om W
 have z1:((n:Int)==0)=false:=by simp;omega
 have z2:¬(120:Int)< (n:Int):=om;clear hv hin hG;go_enter func140,ntmps140;go_upto_region 6 with fail;go_cut [5,6] (fun t v W=>∃gt gv:Nat,t= .slice (some ⟨gt,0,none⟩) n n∧v= .slice (some ⟨gv,0,none⟩) n n∧gt≠gv∧eX W w.heap.size (some ⟨gt,0,none⟩) n n (List.replicate n 0)∧aI W w.heap.size (some ⟨gv,0,none⟩) n n (List.replicate n 0)∧Below w.heap.size w W)
 case first=>
  go_region
  ·go_wp2_with fail;go_meet;refine⟨w.heap.size,w.heap.size+1,rfl,rfl,om,Oa (eX.zeros w n _ om Ai) _,?_,(((Ae _ w).alloc Ai _).alloc sm _).drew⟩;have:=aI.zeros (w.alloc (.cells (madeCells #[.int .i64 0] n) 2)) n w.heap.size om sm;have Gx:=this;rw[show(w.alloc (.cells (madeCells #[Value.int .i64 0] n) 2)).heap.size=w.heap.size+1 from sm]at Gx;exact Gx
  ·go_wp2_with fail;go_meet;refine⟨w.heap.size+1,w.heap.size,rfl,rfl,om,?_,Oa (aI.zeros w n _ om Ai) _,(((Ae _ w).alloc Ai _).alloc sm _).drew⟩;have:=eX.zeros (w.alloc (.cells (madeCells #[.int .u64 0] n) 125)) n w.heap.size om sm;have Gx:=this;rw[show(w.alloc (.cells (madeCells #[Value.int .u64 0] n) 125)).heap.size=w.heap.size+1 from sm]at Gx;exact Gx
 case rest=>
  rename World=>wc
  obtain⟨gt,gv,rfl,rfl,hne,oT,oU,hb⟩:=hcut;have OT:=Aj oT;have OU:=Aj oU;have HB:=Aj hb;clear m1 m2 oT oU hb z1 z2;go_wp2;go_loopw [27] (fun i wr=>∃k:Nat,k≤n∧i= .int .i64 k∧eX wr w.heap.size (some ⟨gt,0,none⟩) n n (wF (l.map (·.1)) 0 k n)∧aI wr w.heap.size (some ⟨gv,0,none⟩) n n (wF (l.map (·.2)) 0 k n)∧Below w.heap.size w wr) (fun i _=>n-(intOf i).toNat)
  case atStart=>exact⟨0,om,rfl,by rw[uO];exact OT.1,by rw[uO];exact OU.1,HB.1⟩
  case round=>
   clear OT OU HB;obtain⟨k,hk,rfl,oT,oU,hb⟩:=hrel;by_cases hlt:k<n
   ·have hkl:k<l.length:=by rw[←hn.1];exact hlt
    obtain⟨b,off,rfl,hc⟩:=gT.afX Hv.1 hB hkl;obtain⟨c0,c1⟩:=hc wr hb;have fT:=zw (l.map (·.1)) 0 k n hlt (by rw[fF];exact hn.1);have fU:=zw (l.map (·.2)) 0 k n hlt (by rw[fF];exact hn.1);rw[List.getElem_map]at fT fU;have lT:k< (wF (l.map (·.1)) 0 k n).length:=by rw[←oT.len];exact hlt
    have lU:k< (wF (l.map (·.2)) 0 k n).length:=by rw[←oU.len];exact hlt
    have FT:=Aj fT;have FU:=Aj fU;have jT:=Aj hb;have gtl:=(ae oT gt rfl).2;have gvl:=(ae oU gv rfl).2;have hz:=hb.size;have OT:=Aj oT;have OU:=Aj oU;have ZS:=Aj (by decide:True);clear hc fT fU;generalize l[k]=x at*;go_upto_region 10 with fail;have oT1:eX (wr.alloc (.cells #[.int .i64 x.1,.int .u64 (x.2:Int)] 127)) w.heap.size (some ⟨gt,0,none⟩) n n (wF (l.map (·.1)) 0 k n):=Oa oT _;have oU1:aI (wr.alloc (.cells #[.int .i64 x.1,.int .u64 (x.2:Int)] 127)) w.heap.size (some ⟨gv,0,none⟩) n n (wF (l.map (·.2)) 0 k n):=Oa oU _;have hb1:=hb.alloc hz (.cells #[.int .i64 x.1,.int .u64 (x.2:Int)] 127);have hrow:=Av wr (.cells #[.int .i64 x.1,.int .u64 (x.2:Int)] 127);have t0:=Co _ _ 0 _ _ _ hrow;have t1:=Co _ _ 1 _ _ _ hrow;have gbl:gt≠wr.heap.size∧gv≠wr.heap.size:=⟨om,om⟩
    clear oT oU hb c0 c1 hrow;generalize wr.alloc (.cells #[.int .i64 x.1,.int .u64 (x.2:Int)] 127)=wa at*;generalize wr.heap.size=gb at*;obtain⟨a0,a1⟩:=oT1.at_ lT;obtain⟨b0,b1⟩:=oU1.at_ lU;have OT1:=Aj oT1;have OU1:=Aj oU1;have HB1:=Aj hb1;generalize (wF (l.map (·.1)) 0 k n)[k]=va at a0;generalize (wF (l.map (·.2)) 0 k n)[k]=vb at b0;clear oT1 oU1 hb1 lT lU;go_region;have acL:=au wa ⟨gt,k,none⟩ (.int .i64 x.1);have acM:=au (wa.setCell ⟨gt,k,none⟩ (.int .i64 x.1)) ⟨gv,k,none⟩ (.int .u64 (x.2:Int));have TF:eX ((wa.setCell ⟨gt,k,none⟩ (.int .i64 x.1)).setCell ⟨gv,k,none⟩ (.int .u64 (x.2:Int))) w.heap.size (some ⟨gt,0,none⟩) n n (wF (l.map (·.1)) 0 (k+1) n):=by
     have h1:=OT1.1.set k x.1;rw[FT.1]at h1;exact ag h1 acM (.inr (fun e=>hne (Oj e)))
    have UF:aI ((wa.setCell ⟨gt,k,none⟩ (.int .i64 x.1)).setCell ⟨gv,k,none⟩ (.int .u64 (x.2:Int))) w.heap.size (some ⟨gv,0,none⟩) n n (wF (l.map (·.2)) 0 (k+1) n):=by
     have h1:aI (wa.setCell ⟨gt,k,none⟩ (.int .i64 x.1)) w.heap.size (some ⟨gv,0,none⟩) n n (wF (l.map (·.2)) 0 k n):=ag OU1.1 acL (.inr (fun e=>hne (Oj e).symm));have h2:=h1.set k x.2;rw[FU.1]at h2;exact h2
    have BF:Below w.heap.size w ((wa.setCell ⟨gt,k,none⟩ (.int .i64 x.1)).setCell ⟨gv,k,none⟩ (.int .u64 (x.2:Int))):=(HB1.1.setCell (ae OT1.1 gt rfl).1 _).setCell (ae OU1.1 gv rfl).1 _;have KTF:=Aj TF;have KUF:=Aj UF;have KBF:=Aj BF;clear acL acM TF UF BF;go_wp2;go_roundw
    case rel=>exact⟨k+1,om,by go_num,KTF.1,KUF.1,KBF.1.drew⟩
    case measure=>simp[intOf];omega
   ·obtain rfl:k=n:=by omega
    rw[Mf _ _ k (by rw[fF];exact hn.1)]at oT oU;have RT:=Aj oT.rd;have RU:=Aj oU.rd;have HB2:=Aj hb;have kM:=hb.size;have GW:Gl wr:=by
     have h1:=hb.mono Ai;exact HG.1.below h1
    have hxs:∀y∈l.map (·.2),y<2^64:=fun y hy=>by
     obtain⟨q,hq,rfl⟩:=bQ.1 hy;exact(HI.1 q hq).2
    have hts:∀y∈l.map (·.1),Tm.In y:=fun y hy=>by
     obtain⟨q,hq,rfl⟩:=bQ.1 hy;exact(HI.1 q hq).1
    have hdk:(Di.eO (l.map (·.2))).length≤128:=by
     have h1:=Ck.IZ (l.map (·.2));have h2:=hn.1;rw[fF]at h1;omega
    have CH:=uN (some ⟨gv,0,none⟩) k k wr.heap.size (l.map (·.2)) wr RU.1 Ai hxs om GW.dbj GW.dlt;have htr:=Ck.sZ (l.map (·.2));have hcb:Kept (Ck.enc l=Ck.pk ((((([]:List Bool)++Bt.bw 8 (Ck.choose (l.map (·.2))))++Bt.bw 8 (k-1))++Tm.enc (l.map (·.1)))++Ck.vals (Ck.choose (l.map (·.2))) (l.map (·.2)))):=⟨by
     unfold Ck.enc Ck.cb;rw[←hn.1];simp only[Az,Af]⟩
    have hlT:(Tm.enc (l.map (·.1))).length≤100000:=by
     have h1:=Ck.XR (l.map (·.1));have h2:=hn.1;rw[fF]at h1;omega
    have PT:Kept (∀(w1:World) (bs:List Bool) (W:World),Below wr.heap.size wr w1→bs.length≤1000→fC W w1.heap.size w1.heap.size bs→Below w1.heap.size w1 W→Calls prog 192 #[.pointer (some ⟨w1.heap.size,0,none⟩),.slice (some ⟨gt,0,none⟩) k k] W fun e w'=>e= .returned (.int .i64 0)∧fC w' w1.heap.size w1.heap.size (bs++Tm.enc (l.map (·.1)))∧Below w1.heap.size w1 w'):=⟨fun w1 bs W hb1 hl hw hbW=>by
     have hc:=hb1.trans (hbW.mono hb1.size);exact(Sl _ _ wr.heap.size bs _ k k (l.map (·.1)) W hw (RT.1.below hc) hb1.size (GW.below hc).frm (ku GW.frm.lt hb1.size) hts om om).mono fun _ _ q=>⟨q.1,q.2.1,hbW.trans q.2.2.aX⟩⟩
    have PV:Kept (∀(w1:World) (bs:List Bool) (W:World),Below wr.heap.size wr w1→bs.length≤200000→fC W w1.heap.size w1.heap.size bs→Below w1.heap.size w1 W→Calls prog (if Ck.choose (l.map (·.2))=1 then 216 else if Ck.choose (l.map (·.2))=2 then 219 else 222) #[.pointer (some ⟨w1.heap.size,0,none⟩),.slice (some ⟨gv,0,none⟩) k k] W fun e w'=>e= .returned (.int .i64 0)∧fC w' w1.heap.size w1.heap.size (bs++Ck.vals (Ck.choose (l.map (·.2))) (l.map (·.2)))∧Below w1.heap.size w1 w'):=⟨fun w1 bs W hb1 hl hw hbW=>by
     have hc:=hb1.trans (hbW.mono hb1.size);unfold Ck.vals;split
     ·exact(Sw _ _ wr.heap.size bs _ k k _ W hw (RU.1.below hc) hb1.size hxs om om (GW.below hc).dbj (ku GW.dlt hb1.size)).mono fun _ _ q=>⟨q.1,q.2.1,hbW.trans q.2.2.aX⟩
     ·split
      ·exact(Sm _ _ wr.heap.size bs _ k k _ W hw (RU.1.below hc) hb1.size hxs om om).mono fun _ _ q=>⟨q.1,q.2.1,hbW.trans q.2.2.aX⟩
      ·exact(SH _ _ wr.heap.size bs _ k k _ W hw (RU.1.below hc) hb1.size hxs hdk om om).mono fun _ _ q=>⟨q.1,q.2.1,hbW.trans q.2.2.aX⟩⟩
    have hvl:(Ck.vals (Ck.choose (l.map (·.2))) (l.map (·.2))).length≤100000:=by
     have h1:=Ck.KM (l.map (·.2));have h2:=Ck.XT (l.map (·.2));have h3:=hn.1;rw[fF]at h2;omega
    have BW:Kept (∀(w1:World) (x:Nat) (bs:List Bool) (W:World),x<1000→bs.length≤1000→fC W w1.heap.size w1.heap.size bs→Below w1.heap.size w1 W→Calls prog 191 #[.pointer (some ⟨w1.heap.size,0,none⟩),.int .u64 (x:Int),.int .i64 8] W fun e w'=>e= .returned (.int .i64 0)∧fC w' w1.heap.size w1.heap.size (bs++Bt.bw 8 x)∧Below w1.heap.size w1 w'):=⟨fun w1 x bs W hx hl hw hbW=>(bY _ _ x 8 bs W hw om om om).mono fun _ _ q=>⟨q.1,q.2.1,hbW.trans q.2.2.aX⟩⟩
    have KCH:=Aj CH;have hkm:(k:Int)-1=((k-1:Nat):Int):=om;have ZP:IntKind.u64.wrap ((k-1:Nat):Int)=((k-1:Nat):Int):=by rw[Bv];omega
    have EC:=Aj (fun W=>je W);unfold Sz NZ at EC;generalize Ck.choose (l.map (·.2))=tag at*;generalize Ck.vals tag (l.map (·.2))=vb at*;generalize Tm.enc (l.map (·.1))=tb at*;clear CH GW hxs hts hdk oT oU hb;have h3:tag=1∨tag=2∨tag=3:=om;rcases h3 with rfl|rfl|rfl
    have CH1:Kept (Calls prog 181 #[.slice (some ⟨gv,0,none⟩) k k] wr fun r w'=>r= .returned (.int .i64 1)∧Below wr.heap.size wr w'):=⟨KCH.1⟩
    have BW1:Kept (∀(w1 W:World),fC W w1.heap.size w1.heap.size []→Below w1.heap.size w1 W→Calls prog 191 #[.pointer (some ⟨w1.heap.size,0,none⟩),.int .u64 1,.int .i64 8] W fun e w'=>e= .returned (.int .i64 0)∧fC w' w1.heap.size w1.heap.size ([]++Bt.bw 8 1)∧Below w1.heap.size w1 w'):=⟨fun w1 W h1 h2=>BW.1 w1 1 [] W om sm h1 h2⟩
    have PV1:Kept (∀(w1:World) (bs:List Bool) (W:World),Below wr.heap.size wr w1→bs.length≤200000→fC W w1.heap.size w1.heap.size bs→Below w1.heap.size w1 W→Calls prog 216 #[.pointer (some ⟨w1.heap.size,0,none⟩),.slice (some ⟨gv,0,none⟩) k k] W fun e w'=>e= .returned (.int .i64 0)∧fC w' w1.heap.size w1.heap.size (bs++vb)∧Below w1.heap.size w1 w'):=⟨PV.1⟩
    have ix:=fun W=>ZM W
    have fl:=fun W=>SN (.func (.func 215) #[] #[]) (.func (.func 216) #[] #[]) (.func (.func 217) #[] #[]) W
    rotate_left
    have CH1:Kept (Calls prog 181 #[.slice (some ⟨gv,0,none⟩) k k] wr fun r w'=>r= .returned (.int .i64 2)∧Below wr.heap.size wr w'):=⟨KCH.1⟩
    have BW1:Kept (∀(w1 W:World),fC W w1.heap.size w1.heap.size []→Below w1.heap.size w1 W→Calls prog 191 #[.pointer (some ⟨w1.heap.size,0,none⟩),.int .u64 2,.int .i64 8] W fun e w'=>e= .returned (.int .i64 0)∧fC w' w1.heap.size w1.heap.size ([]++Bt.bw 8 2)∧Below w1.heap.size w1 w'):=⟨fun w1 W h1 h2=>BW.1 w1 2 [] W om sm h1 h2⟩
    have PV1:Kept (∀(w1:World) (bs:List Bool) (W:World),Below wr.heap.size wr w1→bs.length≤200000→fC W w1.heap.size w1.heap.size bs→Below w1.heap.size w1 W→Calls prog 219 #[.pointer (some ⟨w1.heap.size,0,none⟩),.slice (some ⟨gv,0,none⟩) k k] W fun e w'=>e= .returned (.int .i64 0)∧fC w' w1.heap.size w1.heap.size (bs++vb)∧Below w1.heap.size w1 w'):=⟨PV.1⟩
    have ix:=fun W=>ZN W
    have fl:=fun W=>SN (.func (.func 218) #[] #[]) (.func (.func 219) #[] #[]) (.func (.func 220) #[] #[]) W
    rotate_left
    have CH1:Kept (Calls prog 181 #[.slice (some ⟨gv,0,none⟩) k k] wr fun r w'=>r= .returned (.int .i64 3)∧Below wr.heap.size wr w'):=⟨KCH.1⟩
    have BW1:Kept (∀(w1 W:World),fC W w1.heap.size w1.heap.size []→Below w1.heap.size w1 W→Calls prog 191 #[.pointer (some ⟨w1.heap.size,0,none⟩),.int .u64 3,.int .i64 8] W fun e w'=>e= .returned (.int .i64 0)∧fC w' w1.heap.size w1.heap.size ([]++Bt.bw 8 3)∧Below w1.heap.size w1 w'):=⟨fun w1 W h1 h2=>BW.1 w1 3 [] W om sm h1 h2⟩
    have PV1:Kept (∀(w1:World) (bs:List Bool) (W:World),Below wr.heap.size wr w1→bs.length≤200000→fC W w1.heap.size w1.heap.size bs→Below w1.heap.size w1 W→Calls prog 222 #[.pointer (some ⟨w1.heap.size,0,none⟩),.slice (some ⟨gv,0,none⟩) k k] W fun e w'=>e= .returned (.int .i64 0)∧fC w' w1.heap.size w1.heap.size (bs++vb)∧Below w1.heap.size w1 w'):=⟨PV.1⟩
    have ix:=fun W=>ZO W
    have fl:=fun W=>SN (.func (.func 221) #[] #[]) (.func (.func 222) #[] #[]) (.func (.func 223) #[] #[]) W
    rotate_left
    all_goals
     clear KCH PV;go_wp2_with (first
      |(go_at_call 193;refine(JE _ _ _ w7 S7.1 (by have:=hvl;have:=hlT;simp only[La,Bt.aj,AZ];omega)).mono ?_;rintro e w8 ⟨A8,n8,c8,rfl,h1,h2⟩;have O8:=Aj h1;have B8:=Aj h2;clear h1 h2)
      |((first|go_at_call 216|go_at_call 219|go_at_call 222);refine(PV1.1 w1 _ w6 B1.1 (by have:=hlT;simp only[La,Bt.aj,AZ];omega) (S5.1.aX B6.1) (B5.1.trans (B6.1.mono B5.1.size))).mono ?_;rintro e w7 ⟨rfl,h1,h2⟩;have S7:=Aj h1;have B7:=Aj h2;clear h1 h2)
      |(go_at_call 179;refine(EC.1 w5).mono ?_;rintro e w6 ⟨rfl,h1⟩;have B6:=Aj h1;clear h1)
      |(go_at_call 192;refine(PT.1 w1 _ w4 B1.1 (by simp only[La,Bt.aj,AZ];omega) S4.1 B4.1).mono ?_;rintro e w5 ⟨rfl,h1,h2⟩;have S5:=Aj h1;have B5:=Aj h2;clear h1 h2)
      |(go_at_call 191;refine(BW.1 w1 (k-1) _ w3 om (by simp only[La,Bt.aj,AZ];omega) S3.1 B3.1).mono ?_;rintro e w4 ⟨rfl,h1,h2⟩;have S4:=Aj h1;have B4:=Aj h2;clear h1 h2)
      |(go_at_call 191;refine(BW1.1 w1 w2 S2.1 B2.1).mono ?_;rintro e w3 ⟨rfl,h1,h2⟩;have S3:=Aj h1;have B3:=Aj h2;clear h1 h2)
      |(go_at_call 190;refine(wh w1).mono ?_;rintro e w2 ⟨rfl,h1,h2⟩;have S2:=Aj h1;have B2:=Aj h2;clear h1 h2)
      |(go_at_call 181;refine CH1.1.mono ?_;rintro e w1 ⟨rfl,h1⟩;have B1:=Aj h1;clear h1 CH1))
     go_ret2;have z1:=HB2.1.size;have z2:=B1.1.size;have z3:=B7.1.size;refine⟨A8,n8,c8,rfl,?_,((HB2.1.trans (B1.1.mono z1)).trans (B7.1.mono om)).trans (B8.1.mono om)⟩;rw[hcb.1];exact zx O8.1 om
end Go.Proofs.YtjcpmfphnodaaaaGreatDoor
