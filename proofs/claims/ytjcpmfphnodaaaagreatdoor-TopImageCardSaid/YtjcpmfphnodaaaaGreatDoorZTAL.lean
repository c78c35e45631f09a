/- Part 12. -/
import Derived.Test.YtjcpmfphnodaaaaGreatDoorZTAK
namespace Go.Proofs.YtjcpmfphnodaaaaGreatDoor
set_option maxRecDepth 100000
set_option maxHeartbeats 0
open _root_.Go.Proofs.Tryz
open Go.RowKit Go.Shelf
theorem aeb (t) (v:Nat) (w):Sem.run prog (binOp .neq 127 (.agg #[.int .i64 t,.int .u64 (v:Int)]) (.agg #[.int .i64 t,.int .u64 (v:Int)])) w= .ok (.bool false) w:=by
 have u3:=underlying2;have a3:=Tryz.isAgg2;have z3:=Tryz.sizeOf2;have u4:=underlying125;have a4:=Tryz.isAgg125;have z4:=Tryz.sizeOf125;have hS:prog.underlying 127=some (.struct (prog.fieldsOf 127)):=kr;have hp:prog.stoodInHeld 127=false:=kr;rw[run_neq_struct,show(10000:Nat)=9999+1 from rfl,run_equalIn_agg w 9999 127 _ _ hS hp];simp only[Program.fieldsOf,underlying127];go_simp
theorem X7 (op) (a b) (x y:Pg) (w):Sem.run prog (eqGuard op 127 a b (.agg #[.int .i64 x.1,.int .u64 (x.2:Int)]) (.agg #[.int .i64 y.1,.int .u64 (y.2:Int)])) w= .ok () w:=by
 exact GuardAt.agg (α:=Pg) (fun x:Pg=> #[.int .i64 x.1,.int .u64 (x.2:Int)]) kr op a b x y w
theorem Ml (A A2) (n c n2 c2 B B2) (l:Cs.gz) (w) (hv:gN w B A n c l) (hv2:gN w B2 A2 n2 c2 l) (hB:B≤w.heap.size) (hB2:B2≤w.heap.size):
  Calls prog 40 #[.slice A n c,.slice A2 n2 c2] w fun e w'=>e= .returned (.bool true)∧Gr w w':=by
 have mixed:prog.follows .mixedOrders=true:=kr;obtain rfl:n2=n:=by rw[hv.len,hv2.len]
 have hlc:=hv.1;have hcm:=hv.2.1;have Pp:=hv2.1;have hcm2:=hv2.2.1;unfold maxLen at hcm hcm2;have hn:=Aj hv.len;have V:=Aj hv;have V2:=Aj hv2;clear hv hv2;go_enter func40,ntmps40;go_wp2;go_loopw [5] (fun i wr=>∃k:Nat,k≤n2∧i= .int .i64 k∧Gr w wr) (fun i _=>n2-(intOf i).toNat)
 case atStart=>exact⟨0,om,rfl,Gr.refl w⟩
 case round=>
  obtain⟨k,hk,rfl,gr⟩:=hrel;have G:=Aj gr;by_cases hlt:k<n2
  ·have hkl:k<l.length:=by rw[←hn.1];exact hlt
   obtain⟨b,off,rfl,hc⟩:=V.1.cells hB hkl;obtain⟨b2,vD,rfl,hp⟩:=V2.1.cells hB2 hkl;have f0:=fun n os=>(hc (Sort.grow (wr.drewN n) os) (gr.trans ⟨n,os,rfl⟩).below).1
   have f1:=fun n os=>(hc (Sort.grow (wr.drewN n) os) (gr.trans ⟨n,os,rfl⟩).below).2
   have p0:=fun n os=>(hp (Sort.grow (wr.drewN n) os) (gr.trans ⟨n,os,rfl⟩).below).1
   have p1:=fun n os=>(hp (Sort.grow (wr.drewN n) os) (gr.trans ⟨n,os,rfl⟩).below).2
   clear hc hp gr;generalize l[k]=x at*;obtain⟨t,v⟩:=x;simp only[]at f0 f1 p0 p1;have NE:=aeb t v;have GD:=X7;go_wp2_with fail;go_quiet_grown (fail);clear f0 f1 p0 p1;go_wp2;go_roundw
   case rel=>exact⟨k+1,om,by go_num,G.1.trans ⟨_,_,rfl⟩⟩
   case measure=>simp[intOf];omega
  ·clear gr;go_wp2;go_ret;exact⟨rfl,G.1⟩
theorem mM (A A2) (n c n2 c2 B B2) (l) (w) (hv:iE w B A n c l) (hv2:iE w B2 A2 n2 c2 l) (hB:B≤w.heap.size) (hB2:B2≤w.heap.size):
  Calls prog 15 #[.slice A n c,.slice A2 n2 c2] w fun e w'=>e= .returned (.bool true)∧Gr w w':=by
 have mixed:prog.follows .mixedOrders=true:=kr;obtain rfl:n2=n:=by rw[hv.len,hv2.len]
 obtain⟨hlc,hcm⟩:=hv.cap;obtain⟨Pp,hcm2⟩:=hv2.cap;unfold maxLen at hcm hcm2;have hn:=Aj hv.len;have V:=Aj hv;have V2:=Aj hv2;clear hv hv2;go_enter func15,ntmps15;go_wp2;go_loopw [5] (fun i wr=>∃k:Nat,k≤n2∧i= .int .i64 k∧Gr w wr) (fun i _=>n2-(intOf i).toNat)
 case atStart=>exact⟨0,om,rfl,Gr.refl w⟩
 case round=>
  obtain⟨k,hk,rfl,gr⟩:=hrel;have G:=Aj gr;by_cases hlt:k<n2
  ·have hkl:k<l.length:=by rw[←hn.1];exact hlt
   obtain⟨b,off,A1,n1,c1,A3,n3,c3,rfl,hL,hM,hc⟩:=V.1.cells hB hkl;obtain⟨b2,vD,A4,n4,c4,A5,n5,c5,rfl,hL2,hM2,hp⟩:=V2.1.cells hB2 hkl;have f0:=fun n os=>(hc (Sort.grow (wr.drewN n) os) (gr.trans ⟨n,os,rfl⟩).below).1
   have f1:=fun n os=>(hc (Sort.grow (wr.drewN n) os) (gr.trans ⟨n,os,rfl⟩).below).2
   have p0:=fun n os=>(hp (Sort.grow (wr.drewN n) os) (gr.trans ⟨n,os,rfl⟩).below).1
   have p1:=fun n os=>(hp (Sort.grow (wr.drewN n) os) (gr.trans ⟨n,os,rfl⟩).below).2
   have hself:Lb.cmpL l[k].1 l[k].1=0:=Lb.Mf.2 rfl;have CC:=Aj (fun n os=>by
    have g:=gr.trans (show Gr wr (Sort.grow (wr.drewN n) os)from⟨n,os,rfl⟩);have:=kN A1 A4 n1 c1 n4 c4 l[k].1 l[k].1 _ ((hL.below (g.below.mono hB)).more (Lt hB g.size)) ((hL2.below (g.below.mono hB2)).more (Lt hB2 g.size));rw[hself]at this;exact this)
   have CS:=Aj (fun n os=>by
    have g:=gr.trans (show Gr wr (Sort.grow (wr.drewN n) os)from⟨n,os,rfl⟩);exact Ml A3 A5 n3 c3 n5 c5 B B2 l[k].2 _ (hM.below (g.below.mono hB)) (hM2.below (g.below.mono hB2)) (Lt hB g.size) (Lt hB2 g.size))
   clear hc hp gr hL hM hL2 hM2 hself;go_wp2_with fail;go_quiet_grown (first
    |(go_at_call 39;refine Calls.grown_of (CC.1 _ _))
    |(go_at_call 40;refine Calls.grown_of (CS.1 _ _)))
   clear f0 f1 p0 p1 CC CS;go_wp2;go_roundw
   case rel=>exact⟨k+1,om,by go_num,G.1.trans ⟨_,_,rfl⟩⟩
   case measure=>simp[intOf];omega
  ·clear gr;go_wp2;go_ret;exact⟨rfl,G.1⟩
theorem vJ (A) (n c B) (b) (w) (hv:iE w B A n c b) (hB:B≤w.heap.size) (hs:Bk.cK b≤1000000000000):
  Calls prog 32 #[.slice A n c] w fun e w'=>e= .returned (.int .i64 (Bk.cK b:Int))∧Gr w w':=by
 obtain⟨hlc,hcm⟩:=hv.cap;unfold maxLen at hcm;have hn:=Aj hv.len;have V:=Aj hv;clear hv;go_enter func32,ntmps32;go_wp2;go_loopw [3,4] (fun s i wr=>∃k m:Nat,k≤n∧i= .int .i64 k∧s= .int .i64 m∧Kept (m=Bk.cK (b.take k))∧Gr w wr) (fun _ i _=>n-(intOf i).toNat)
 case atStart=>exact⟨0,0,om,rfl,rfl,⟨rfl⟩,Gr.refl w⟩
 case round=>
  obtain⟨k,m,hk,rfl,rfl,hm,gr⟩:=hrel;have G:=Aj gr;by_cases hlt:k<n
  ·have hkl:k<b.length:=by rw[←hn.1];exact hlt
   obtain⟨b0,off,A1,n1,c1,A2,n2,c2,rfl,h1,h2,hc⟩:=V.1.cells hB hkl;obtain⟨r0,r1⟩:=hc wr gr.below;have h3:=Bk.sZ b k hkl;have h4:=Bk.qG b (k+1);have h5:=h2.len;have hmn:m+n2≤1000000000000:=by have:=hm.1;omega
   have hm2:Kept (m+n2=Bk.cK (b.take (k+1))):=⟨by have:=hm.1;omega⟩
   clear h1 h2 hc gr h3 h4 h5;go_wp2;go_roundw
   case rel=>exact⟨k+1,m+n2,om,by go_num,by go_num,hm2,G.1⟩
   case measure=>simp[intOf];omega
  ·have he:Kept (m=Bk.cK b):=⟨by have:=hm.1;rw[jY (by have:=hn.1;omega)]at this;exact this⟩
   clear gr;go_wp2;go_ret;exact⟨fP (by rw[he.1]),G.1⟩
theorem yG (A) (n c B) (b) (w) (hv:iE w B A n c b) (hB:B≤w.heap.size) (hs:Bk.cK b≤1000000000000):
  Calls prog 60 #[.slice A n c] w fun e w'=>e= .returned (.bool (decide (1048576<b.length∨16777216<Bk.cK b)))∧Gr w w':=by
 have SM:=Aj (vJ A n c B b w hv hB hs);have hn:=hv.len;obtain⟨hlc,hcm⟩:=hv.cap;unfold maxLen at hcm;rw[←hn];generalize Bk.cK b=m at*;clear hv hn;by_cases h1:1048576<n
 ·have h1':(1048576:Int)< (n:Int):=by omega
  rw[Bc (.inl h1)];go_enter func60,ntmps60;go_wp2;go_ret;exact⟨rfl,Gr.refl w⟩
 ·have h1':¬(1048576:Int)< (n:Int):=by omega
  by_cases h2:16777216<m
  ·have h2':(16777216:Int)< (m:Int):=by omega
   rw[Bc (.inr h2)];go_enter func60,ntmps60;go_wp2_with (go_at_call 32;refine SM.1.mono ?_;rintro e w1 ⟨rfl,g1⟩;have G1:=Aj g1;clear g1);go_ret;exact⟨rfl,G1.1⟩
  ·have h2':¬(16777216:Int)< (m:Int):=by omega
   rw[Az om];go_enter func60,ntmps60;go_wp2_with (go_at_call 32;refine SM.1.mono ?_;rintro e w1 ⟨rfl,g1⟩;have G1:=Aj g1;clear g1);go_ret;exact⟨by first|rfl|(simp;omega),G1.1⟩
theorem Ex (A) (n c B) (l:Cs.gz) (w) (hv:gN w B A n c l) (hB:B≤w.heap.size):
  Calls prog 63 #[.slice A n c] w fun e w'=>e= .returned (.int .i64 (Bk.yB Bk.iG 20 l))∧Gr w w':=by
 have hlc:=hv.1;have hcm:=hv.2.1;unfold maxLen at hcm;have hn:=Aj hv.len;have V:=Aj hv;obtain⟨r,hr⟩:∃r,r=Bk.yB Bk.iG 20 l:=⟨_,rfl⟩
 rw[←hr];have HR:=Aj hr;clear hv hr;go_enter func63,ntmps63;go_wp2;go_loopw [3] (fun i wr=>∃k:Nat,1≤k∧(k≤n∨k=1)∧i= .int .i64 k∧Kept (∀j,j<k→Bk.dG Bk.iG 20 l j=0)∧Gr w wr) (fun i _=>n-(intOf i).toNat)
 case atStart=>exact⟨1,om,.inr rfl,rfl,⟨fun j hj=>by rw[show j=0 from om];exact Bk.iJ _ _ _⟩,Gr.refl w⟩
 case round=>
  obtain⟨k,hk1,hkn,rfl,hd,gr⟩:=hrel;have G:=Aj gr;by_cases hlt:k<n
  ·have hkl:k<l.length:=by rw[←hn.1];exact hlt
   have nR:k-1<l.length:=om;obtain⟨b,off,rfl,hc⟩:=V.1.cells hB hkl;obtain⟨b',off',e',hp⟩:=V.1.cells hB nR;simp only[gV,BP,Bi]at e';obtain⟨rfl,rfl⟩:=e';have hcase:=Aj (Bk.yD (f:=Bk.iG) (q:=20) hkl om Ah hd.1);rw[←HR.1]at hcase;have hcs:=Aj (Bk.Ir l[k-1] l[k]);have ek:(k:Int)-1=((k-1:Nat):Int):=om;have XR:((k-1:Nat):Int)< (n:Int):=om;have ew:IntKind.i64.wrap ((k-1:Nat):Int)=((k-1:Nat):Int):=by rw[AV];omega
   have CC:=Aj (fun W (g:Gr w W)=>hc W g.below);have CP:=Aj (fun W (g:Gr w W)=>hp W g.below);have f0:=(CC.1 wr gr).1;have p0:=(CP.1 wr gr).1;clear hc hp gr;generalize Bk.iG l[k-1] l[k]=s at*;generalize l[k]=x at*;generalize l[k-1]=y at*;obtain⟨x,xv⟩:=x;obtain⟨y,yv⟩:=y;simp only[]at CC CP hcs f0 p0;rcases hcase.1 with⟨hs,hres⟩|⟨hs,hres⟩|⟨hs,hd2⟩
   ·have hres:=Aj hres;have he:(x==y)=true:=by
     have:=hcs.1;simp;omega
    clear hs;go_wp2_with fail;go_quiet (fail);go_wp2;go_ret;exact⟨by first|rfl|(rw[hres.1];rfl),G.1.drewN _⟩
   ·have hres:=Aj hres;have hxy:x<y:=by
     have:=hcs.1;omega
    have he:(x==y)=false:=by simp;omega
    clear hs;go_wp2_with fail;go_quiet (fail);have f1:=(CC.1 _ (G.1.drewN nq)).1;have p1:=(CP.1 _ (G.1.drewN nq)).1;go_wp2;go_quiet (fail);go_wp2;go_ret;exact⟨by first|rfl|(rw[hres.1];rfl),(by first|exact G.1.drewN _|exact(G.1.drewN _).drewN _)⟩
   ·have hd2:=Aj hd2;have hxy:y<x:=by
     have:=hcs.1;omega
    have he:(x==y)=false:=by simp;omega
    have hxy':¬x<y:=om;clear hs;go_wp2_with fail;go_quiet (fail);have f1:=(CC.1 _ (G.1.drewN nq)).1;have p1:=(CP.1 _ (G.1.drewN nq)).1;go_wp2;go_quiet (fail);go_wp2;go_roundw
    case rel=>exact⟨k+1,om,.inl om,by go_num,hd2,(by first|exact G.1.drewN _|exact(G.1.drewN _).drewN _)⟩
    case measure=>simp[intOf];omega
  ·have hd2:Kept (r=0):=⟨HR.1.trans (Bk.tq fun j hj=>hd.1 j (by have:=hn.1;omega))⟩
   clear gr;go_wp2;go_ret;exact⟨by first|(rw[hd2.1];rfl)|exact fP hd2.1.symm,G.1⟩
theorem pO {b} {v} {w w'} (hv:v≠0) (hg:Gr w w'):∃u:Int,Ending.returned (.int .i64 v)= .returned (.int .i64 u)∧(u=0→Bk.bN b=0)∧Gr w w':=⟨v,rfl,fun h=>absurd h hv,hg⟩
theorem Ey (A) (n c B) (b) (w) (hv:iE w B A n c b) (hB:B≤w.heap.size) (hs:Bk.cK b≤1000000000000) (hf:∀s∈b,Lb.Fit s.1):
  Calls prog 47 #[.slice A n c] w fun e w'=>∃v:Int,e= .returned (.int .i64 v)∧(v=0→Bk.bN b=0)∧Gr w w':=by
 have mixed:prog.follows .mixedOrders=true:=kr;have CK:=Aj (yG A n c B b w hv hB hs);obtain⟨hlc,hcm⟩:=hv.cap;unfold maxLen at hcm;have hn:=Aj hv.len;have V:=Aj hv;have F:=Aj hf;by_cases hlim:1048576<b.length∨16777216<Bk.cK b
 ·rw[Bc hlim]at CK;clear hv hf hs hlim;go_enter func47,ntmps47;go_wp2_with (go_at_call 60;refine CK.1.mono ?_;rintro e w1 ⟨rfl,g1⟩;have G1:=Aj g1;clear g1);go_ret;exact pO Ah G1.1
 ·have HR:Kept (Bk.bN b=Lb.gI (Bk.Gv b) b.length):=⟨by unfold Bk.bN;rw[Ng hlim]⟩
  rw[Az hlim]at CK;clear hv hf hs hlim;go_enter func47,ntmps47;go_wp2_with (go_at_call 60;refine CK.1.mono ?_;rintro e w1 ⟨rfl,g1⟩;have G1:=Aj g1;clear g1);go_loopw [3] (fun i wr=>∃k:Nat,k≤n∧i= .int .i64 k∧Kept (∀j,j<k→Bk.Gv b j=0)∧Gr w wr) (fun i _=>n-(intOf i).toNat)
  case atStart=>exact⟨0,om,rfl,⟨fun j hj=>om⟩,G1.1⟩
  case round=>
   clear G1;obtain⟨k,hk,rfl,hd,gr⟩:=hrel;have G:=Aj gr;by_cases hlt:k<n
   ·have hkl:k<b.length:=by rw[←hn.1];exact hlt
    obtain⟨b0,off,A1,n1,c1,A2,n2,c2,rfl,hL,hS,hc⟩:=V.1.cells hB hkl;have CC:=Aj (fun W (g:Gr w W)=>hc W g.below);obtain⟨r0,r1⟩:=CC.1 wr gr;have LC:=Aj (fun W (g:Gr w W)=>yo A1 n1 c1 W.heap.size b[k].1 W ((hL.below (g.below.mono hB)).more (Lt hB g.size)) Ai (F.1 _ (ic hkl)));have TM:=Aj (fun W (g:Gr w W)=>Ex A2 n2 c2 B b[k].2 W (hS.below (g.below.mono hB)) (Lt hB g.size));have hone:Kept (Lb.bN b[k].1=0→b[k].2≠[]→Bk.yB Bk.iG 20 b[k].2=0→Bk.one b[k]=0):=⟨fun a e d=>by unfold Bk.one;rw[Ng (by simpa using a),Ng e,d]⟩
    have hemp:Kept (b[k].2≠[]↔n2≠0):=⟨by have:=hS.len;cases h:b[k].2 with|nil=>rw[h]at this;simp at this;simp[this]|cons x l=>rw[h]at this;simp at this;simp;omega⟩
    have hn2:(n2:Int)≤9223372036854775807:=by have h1:=hS.len;have h3:=hS.1;have h2:=hS.2.1;unfold maxLen at h2;omega
    have hstp:Kept (Bk.one b[k]=0→Bk.dG Bk.iQ 19 b k=0→∀j,j<k+1→Bk.Gv b j=0):=⟨fun a e=>Bk.yF hd.1 (by rw[Bk.Kh hkl a];exact e)⟩
    have hL:=Aj hL;clear hS hc gr;obtain⟨v,hv⟩:∃v,v=Lb.bN b[k].1:=⟨_,rfl⟩
    rw[←hv]at LC hone;clear hv;by_cases h1:v=0
    ·subst h1;by_cases h2:n2=0
     ·subst h2;go_wp2_with (go_at_call 96;refine(LC.1 wr G.1).mono ?_;rintro e w2 ⟨rfl,g2⟩;have G2:=Aj (G.1.trans g2);obtain⟨r20,r21⟩:=CC.1 w2 G2.1;clear g2);go_ret;exact pO Ah G2.1
     ·have h2':((n2:Int)==0)=false:=by simp;omega
      obtain⟨t,ht⟩:∃t,t=Bk.yB Bk.iG 20 b[k].2:=⟨_,rfl⟩
      rw[←ht]at TM hone;clear ht;by_cases h3:t=0
      ·subst h3;have ho:=Aj (hone.1 rfl (hemp.1.2 h2) rfl);clear h2;by_cases h0:k=0
       ·subst h0;have hd2:=Aj (hstp.1 ho.1 (Bk.iJ _ _ _));simp only[Nat.zero_mul,Da]at CC r0 r1;go_wp2_with (first
         |(go_at_call 63;refine(TM.1 w2 G2.1).mono ?_;rintro e w3 ⟨rfl,g3⟩;have G3:=Aj (G2.1.trans g3);clear g3)
         |(go_at_call 96;refine(LC.1 wr G.1).mono ?_;rintro e w2 ⟨rfl,g2⟩;have G2:=Aj (G.1.trans g2);obtain⟨r20,r21⟩:=CC.1 w2 G2.1;clear g2))
        go_roundw
        case rel=>exact⟨1,om,by go_num,hd2,G3.1⟩
        case measure=>simp[intOf];omega
       ·have nR:k-1<b.length:=by omega
        obtain⟨b',off',A3,n3,c3,A4,n4,c4,e',hL',-,hp⟩:=V.1.cells hB nR;simp only[gV,BP,Bi]at e';obtain⟨rfl,rfl⟩:=e';have CP:=Aj (fun W (g:Gr w W)=>hp W g.below);have CM:=Aj (fun W (g:Gr w W)=>kN A3 A1 n3 c3 n1 c1 b[k-1].1 b[k].1 W ((hL'.below (g.below.mono hB)).more (Lt hB g.size)) ((hL.1.below (g.below.mono hB)).more (Lt hB g.size)));have hat:=Bk.yC Bk.iQ 19 hkl h0;have hcs:Bk.iQ b[k-1] b[k]=Lb.cmpL b[k-1].1 b[k].1:=rfl;rw[hcs]at hat;have HAT:=Aj hat;have ek:(k:Int)-1=((k-1:Nat):Int):=om;have XR:((k-1:Nat):Int)< (n:Int):=om;have ek3:0< (k:Int):=om;have ew:IntKind.i64.wrap ((k-1:Nat):Int)=((k-1:Nat):Int):=by rw[AV];omega
        clear hp hat hcs hL';generalize Lb.cmpL b[k-1].1 b[k].1=s at*;go_wp2_with (first
         |(go_at_call 63;refine(TM.1 w2 G2.1).mono ?_;rintro e w3 ⟨rfl,g3⟩;have G3:=Aj (G2.1.trans g3);clear g3)
         |(go_at_call 96;refine(LC.1 wr G.1).mono ?_;rintro e w2 ⟨rfl,g2⟩;have G2:=Aj (G.1.trans g2);obtain⟨r20,r21⟩:=CC.1 w2 G2.1;clear g2))
        have f0:=fun n os=>(CC.1 (Sort.grow (w3.drewN n) os) (G3.1.trans ⟨n,os,rfl⟩)).1
        have p0:=fun n os=>(CP.1 (Sort.grow (w3.drewN n) os) (G3.1.trans ⟨n,os,rfl⟩)).1
        have CX:=Aj (fun n os=>CM.1 (Sort.grow (w3.drewN n) os) (G3.1.trans ⟨n,os,rfl⟩));clear r0 r1 r20 r21;go_quiet_grown (first|(go_at_call 39;refine Calls.grown_of (CX.1 _ _)));clear f0 p0 CX CC CP;by_cases hs0:s=0
        ·subst hs0;go_wp2;go_ret;exact pO Ah (G3.1.trans ⟨_,_,rfl⟩)
        ·have ajb:(s==0)=false:=by simpa using hs0
         by_cases hs1:0<s
         ·go_wp2;go_ret;exact pO Ah (G3.1.trans ⟨_,_,rfl⟩)
         ·have hd2:=Aj (hstp.1 ho.1 (by rw[HAT.1,Ng hs0,Ng hs1]));go_wp2;go_roundw
          case rel=>exact⟨k+1,om,by go_num,hd2,G3.1.trans ⟨_,_,rfl⟩⟩
          case measure=>simp[intOf];omega
      ·have h3':(t !=0)=true:=by simpa using h3
       have h3k:=Aj h3;clear h3;go_wp2_with (first
        |(go_at_call 63;refine(TM.1 w2 G2.1).mono ?_;rintro e w3 ⟨rfl,g3⟩;have G3:=Aj (G2.1.trans g3);clear g3)
        |(go_at_call 96;refine(LC.1 wr G.1).mono ?_;rintro e w2 ⟨rfl,g2⟩;have G2:=Aj (G.1.trans g2);obtain⟨r20,r21⟩:=CC.1 w2 G2.1;clear g2))
       go_ret;exact pO h3k.1 G3.1
    ·have h1':(v==0)=false:=by simpa using h1
     have ajd:(v !=0)=true:=by simpa using h1
     have h1k:=Aj h1;clear h1;go_wp2_with (go_at_call 96;refine(LC.1 wr G.1).mono ?_;rintro e w2 ⟨rfl,g2⟩;have G2:=Aj (G.1.trans g2);clear g2);go_ret;exact pO h1k.1 G2.1
   ·have hd2:Kept (Bk.bN b=0):=⟨HR.1.trans (Lb.dx _ _ fun j hj=>hd.1 j (by have:=hn.1;omega))⟩
    clear gr;go_wp2;go_ret;exact⟨0,rfl,fun _=>hd2.1,G.1⟩
end Go.Proofs.YtjcpmfphnodaaaaGreatDoor
