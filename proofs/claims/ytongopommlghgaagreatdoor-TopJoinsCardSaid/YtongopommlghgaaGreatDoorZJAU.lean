/- Part 21. -/
import Derived.Test.YtongopommlghgaaGreatDoorZJAP
import Derived.Deep.DeepHandedRow
import Derived.Stop.LaidErr
import Derived.Test.YtongopommlghgaaGreatDoorCards
import Derived.Test.YtongopommlghgaaGreatDoorTie
namespace Go.Proofs.YtongopommlghgaaGreatDoor
set_option maxRecDepth 100000
set_option maxHeartbeats 0
open _root_.Go.Proofs.Tryz
section
namespace Open
open Go.ChangeShapes Go.WideShapes Go.ChangeAt Go.RowKit
theorem own:ownKnob prog.godebug=none:=kr
theorem laidOut:laidOutB prog=true:=kr
section
variable {H:Type} {enc:TypeId×Value→H} {W:World} {A:Option Addr} {len cap:Nat} {d:DataW H} {p:List MemPlace}
theorem lt {t v} (h:DataW.Trod enc prog W 0 (fun _=>true) true t v d p):∀x∈p,x.block<W.heap.size:=by
 obtain⟨m,hm⟩:=h;exact DataW.trod_lt m _ _ _ hm
end
end Open
end
section
namespace Open
open Go.ChangeShapes Go.WideShapes Go.ChangeAt Go.RowKit Go.Joins
section
variable {H:Type} {enc:TypeId×Value→H} {W:World} {A:Option Addr} {len cap:Nat} {d:DataW H} {p:List MemPlace}
theorem labels (h:DataW.Trod enc prog W 0 (fun _=>true) true 54 (.slice A len cap) d p):
  ∃L:List aU,dH W W.heap.size A len cap L∧∀x∈L,x.n.size≤maxLen∧x.v.size≤maxLen:=by
 obtain⟨fuel,hf⟩:=h;have hC:prog.cellsOf 59=2:=kr;rcases Deep.open_slice underlying54 hf with⟨hcs,_⟩|⟨x,l,c,m,n,D,Pl,hcs,_,hl,hm,hmm,_,hi⟩
 ·simp[Value.cells]at hcs;obtain⟨rfl,rfl,rfl⟩:=hcs;exact⟨[],Rd.nil W _ 2 0 none (by unfold maxLen;omega),Ah⟩
 ·simp[Value.cells]at hcs;obtain⟨rfl,rfl,rfl⟩:=hcs;have hmc:m=cap:=by simpa using hmm
  subst hmc;rw[hC]at hi;have each:∀i,i<len→∃v:aU,(v.n.size≤maxLen∧v.v.size≤maxLen)∧∀k,k<2→W.cell? (x.add (i*2+k))=(mi v)[k]?:=by
   intro i hil;obtain⟨cs',hcs1,hcs2⟩:=hi i om;obtain⟨_,hlen,hat⟩:=World.cells?_some hcs1;clear hcs1;obtain⟨y0,y1,n',_,_,t0,t1⟩:=trod_struct2 underlying59 hcs2;have z0:prog.cellsOf 9=1:=kr;have t0:DataW.trod enc prog W 0 (fun _=>true) true n' 9 ((cs'.drop 0).take (prog.cellsOf 9))=some y0:=t0;have t1:DataW.trod enc prog W 0 (fun _=>true) true n' 9 ((cs'.drop 1).take (prog.cellsOf 9))=some y1:=t1
   match cs',hlen with
   |[c0,c1],_=>
    rw[z0]at t0 t1;obtain⟨s0,h0,_,w0⟩:=DataW.trod_string underlying9 (show DataW.trod _ _ _ _ _ _ n' 9 [c0]=some y0 from t0);obtain⟨s1,h1,_,w1⟩:=DataW.trod_string underlying9 (show DataW.trod _ _ _ _ _ _ n' 9 [c1]=some y1 from t1);cases h0;cases h1;refine⟨⟨s0,s1⟩,⟨w0,w1⟩,fun k hk=>?_⟩
    match k,hk with
    |0,_=>rw[←Deep.add_add,hat 0 Ai];rfl
    |1,_=>rw[←Deep.add_add,hat 1 Ai];rfl
  obtain⟨V,hV⟩:=Deep.choose_lt each;refine⟨(List.range len).map V,⟨hl,hm,by rw[dW];simp,fun hn=>?_⟩,fun v hv=>?_⟩
  ·obtain⟨b,off,spot⟩:=x;obtain⟨_,hc0⟩:=hV 0 hn;have hc0:=hc0 0 om;have hc0':W.cell? ((⟨b,off,spot⟩:Addr).add (0*2+0))=some (.string (V 0).n):=hc0;have hspot:spot=none:=by simpa[Addr.add]using World.cell?_spot hc0'
   subst hspot;refine⟨b,off,rfl,?_,fun i u hu=>?_⟩
   ·rw[add_plain]at hc0';exact Bd W _ hc0'
   ·have hlt:=(l5.1 hu).1;rw[dW,fM,CR]at hlt;have hii:i=i/2*2+i%2:=om;have hq:i/2<len:=om;rw[hii,lD _ _ _ (by simpa using hq) om]at hu;have:=(hV (i/2) hq).2 (i%2) om;rw[add_plain]at this;rw[←hii]at this;rw[this,←hu];simp
  ·obtain⟨i,hi,rfl⟩:=dV.1 hv;exact(hV i (by simpa using hi)).1
end
end Open
end
section
namespace Open
open Go.ChangeShapes Go.WideShapes Go.ChangeAt Go.RowKit Go.Joins Go.Deep
section
variable {H:Type} {enc:TypeId×Value→H} {W:World} {A:Option Addr} {len cap:Nat} {d:DataW H} {p:List MemPlace}
theorem samples (h:DataW.Trod enc prog W 0 (fun _=>true) true 55 (.slice A len cap) d p):
  ∃L:List II,fO W W.heap.size A len cap L∧Cs.In L:=by
 obtain⟨fuel,hf⟩:=h;have hC:prog.cellsOf 127=2:=kr;rcases Deep.open_slice underlying55 hf with⟨hcs,_⟩|⟨x,l,c,m,n,D,Pl,hcs,_,hl,hm,hmm,_,hi⟩
 ·simp[Value.cells]at hcs;obtain⟨rfl,rfl,rfl⟩:=hcs;exact⟨[],Rd.nil W _ 2 0 none (by unfold maxLen;omega),fun p hp=>by cases hp⟩
 ·simp[Value.cells]at hcs;obtain⟨rfl,rfl,rfl⟩:=hcs;have hmc:m=cap:=by simpa using hmm
  subst hmc;rw[hC]at hi;have each:∀i,i<len→∃v:II,(Tm.In v.1∧v.2<2^64)∧∀k,k<2→W.cell? (x.add (i*2+k))=(IJ v)[k]?:=by
   intro i hil;obtain⟨cs',hcs1,hcs2⟩:=hi i om;obtain⟨_,hlen,hat⟩:=World.cells?_some hcs1;clear hcs1;obtain⟨y0,y1,n',_,_,t0,t1⟩:=trod_struct2 underlying127 hcs2;have z0:prog.cellsOf 2=1:=kr;have z1:prog.cellsOf 125=1:=kr;have t0:DataW.trod enc prog W 0 (fun _=>true) true n' 2 ((cs'.drop 0).take (prog.cellsOf 2))=some y0:=t0;have t1:DataW.trod enc prog W 0 (fun _=>true) true n' 125 ((cs'.drop 1).take (prog.cellsOf 125))=some y1:=t1
   match cs',hlen with
   |[c0,c1],_=>
    rw[z0]at t0;rw[z1]at t1;obtain⟨a0,h0,_,w0⟩:=DataW.trod_int underlying2 (show DataW.trod _ _ _ _ _ _ n' 2 [c0]=some y0 from t0);obtain⟨a1,h1,_,w1⟩:=DataW.trod_int underlying125 (show DataW.trod _ _ _ _ _ _ n' 125 [c1]=some y1 from t1);cases h0;cases h1;have b0:=bounds_i64 w0;have b1:=bounds_u64 w1;obtain⟨u,rfl⟩:∃u:Nat,a1=(u:Int):=⟨a1.toNat,om⟩
    refine⟨(a0,u),⟨by unfold Tm.In;omega,om⟩,fun k hk=>?_⟩
    match k,hk with
    |0,_=>rw[←Deep.add_add,hat 0 Ai];rfl
    |1,_=>rw[←Deep.add_add,hat 1 Ai];rfl
  obtain⟨V,hV⟩:=Deep.choose_lt each;refine⟨(List.range len).map V,⟨hl,hm,by rw[jJ];simp,fun hn=>?_⟩,fun v hv=>?_⟩
  ·obtain⟨b,off,spot⟩:=x;obtain⟨_,hc0⟩:=hV 0 hn;have hc0:=hc0 0 om;have hc0':W.cell? ((⟨b,off,spot⟩:Addr).add (0*2+0))=some (.int .i64 (V 0).1):=hc0;have hspot:spot=none:=by simpa[Addr.add]using World.cell?_spot hc0'
   subst hspot;refine⟨b,off,rfl,?_,fun i u hu=>?_⟩
   ·rw[add_plain]at hc0';exact Bd W _ hc0'
   ·have hlt:=(l5.1 hu).1;rw[jJ,fM,CR]at hlt;have hii:i=i/2*2+i%2:=om;have hq:i/2<len:=om;rw[hii,nM _ _ _ (by simpa using hq) om]at hu;have:=(hV (i/2) hq).2 (i%2) om;rw[add_plain]at this;rw[←hii]at this;rw[this,←hu];simp
  ·obtain⟨i,hi,rfl⟩:=dV.1 hv;exact(hV i (by simpa using hi)).1
theorem KC {m c0 x} (h:DataW.trod enc prog W 0 (fun _=>true) true m 54 [c0]=some x):∃A n c l,c0= .slice A n c∧dH W W.heap.size A n c l∧Lb.Fit l:=by
 have hf:∃A n c,c0= .slice A n c:=by
  rcases Deep.open_slice underlying54 h with⟨hcs,_⟩|⟨y,l,c,_,_,_,_,hcs,_⟩
  ·exact⟨none,0,0,by simpa using hcs⟩
  ·exact⟨some y,l,c,by simpa using hcs⟩
 obtain⟨A,n,c,rfl⟩:=hf;obtain⟨l,hl,hf⟩:=labels (d:=x.1) (p:=x.2) ⟨m,h⟩;exact⟨A,n,c,l,rfl,hl,hf⟩
theorem IB {m c0 x} (h:DataW.trod enc prog W 0 (fun _=>true) true m 55 [c0]=some x):∃A n c l,c0= .slice A n c∧fO W W.heap.size A n c l∧Cs.In l:=by
 have hf:∃A n c,c0= .slice A n c:=by
  rcases Deep.open_slice underlying55 h with⟨hcs,_⟩|⟨y,l,c,_,_,_,_,hcs,_⟩
  ·exact⟨none,0,0,by simpa using hcs⟩
  ·exact⟨some y,l,c,by simpa using hcs⟩
 obtain⟨A,n,c,rfl⟩:=hf;obtain⟨l,hl,hf⟩:=samples (d:=x.1) (p:=x.2) ⟨m,h⟩;exact⟨A,n,c,l,rfl,hl,hf⟩
structure Hd (X:Type) where
 A:Option Addr
 n:Nat
 c:Nat
 l:X
instance {X:Type} [Inhabited X]:Inhabited (Hd X):=⟨⟨none,0,0,default⟩⟩
theorem Uy (h:DataW.Trod enc prog W 0 (fun _=>true) true 24 (.slice A len cap) d p):
  ∃rs:Bk.gN,fK W W.heap.size A len cap rs∧∀r∈rs,Lb.Fit r.1∧Cs.In r.2:=by
 obtain⟨fuel,hf⟩:=h;have hC:prog.cellsOf 57=2:=kr;rcases Deep.open_slice underlying24 hf with⟨hcs,_⟩|⟨x,l,c,m,n,D,Pl,hcs,_,hl,hm,hmm,_,hi⟩
 ·simp[Value.cells]at hcs;obtain⟨rfl,rfl,rfl⟩:=hcs;exact⟨[],⟨[],Rd.nil W _ 2 0 none (by unfold maxLen;omega),rfl,fun i h=>by simp at h⟩,Ah⟩
 ·simp[Value.cells]at hcs;obtain⟨rfl,rfl,rfl⟩:=hcs;have hmc:m=cap:=by simpa using hmm
  subst hmc;rw[hC]at hi;have each:∀i,i<len→∃v:Hd (List aU)×Hd Cs.fI,(dH W W.heap.size v.1.A v.1.n v.1.c v.1.l∧fO W W.heap.size v.2.A v.2.n v.2.c v.2.l∧Lb.Fit v.1.l∧Cs.In v.2.l)∧W.cell? (x.add (i*2+0))=some (.slice v.1.A v.1.n v.1.c)∧W.cell? (x.add (i*2+1))=some (.slice v.2.A v.2.n v.2.c):=by
   intro i hil;obtain⟨cs',hcs1,hcs2⟩:=hi i om;obtain⟨_,hlen,hat⟩:=World.cells?_some hcs1;clear hcs1;obtain⟨y0,y1,n',_,_,t0,t1⟩:=trod_struct2 underlying57 hcs2;have z0:prog.cellsOf 54=1:=kr;have z1:prog.cellsOf 55=1:=kr;have t0:DataW.trod enc prog W 0 (fun _=>true) true n' 54 ((cs'.drop 0).take (prog.cellsOf 54))=some y0:=t0;have t1:DataW.trod enc prog W 0 (fun _=>true) true n' 55 ((cs'.drop 1).take (prog.cellsOf 55))=some y1:=t1
   match cs',hlen with
   |[c0,c1],_=>
    rw[z0]at t0;rw[z1]at t1;obtain⟨A0,m0,k0,l0,h0,r0,w0⟩:=KC (show DataW.trod _ _ _ _ _ _ n' 54 [c0]=some y0 from t0);obtain⟨A1,m1,k1,l1,h1,r1,w1⟩:=IB (show DataW.trod _ _ _ _ _ _ n' 55 [c1]=some y1 from t1);subst h0;subst h1;exact⟨(⟨A0,m0,k0,l0⟩,⟨A1,m1,k1,l1⟩),⟨r0,r1,w0,w1⟩,by rw[←Deep.add_add,hat 0 Ai];rfl,by rw[←Deep.add_add,hat 1 Ai];rfl⟩
  obtain⟨V,hV⟩:=Deep.choose_lt each;refine⟨(List.range len).map fun i=>((V i).1.l,(V i).2.l),⟨(List.range len).map fun i=>(.slice (V i).1.A (V i).1.n (V i).1.c,.slice (V i).2.A (V i).2.n (V i).2.c),⟨hl,hm,by rw[aP];simp,fun hn=>?_⟩,Ah,fun i h h'=>?_⟩,fun v hv=>?_⟩
  ·obtain⟨b,off,spot⟩:=x;obtain⟨_,hc0,_⟩:=hV 0 hn;have hspot:spot=none:=by simpa[Addr.add]using World.cell?_spot hc0
   subst hspot;refine⟨b,off,rfl,?_,fun i u hu=>?_⟩
   ·rw[add_plain]at hc0;exact Bd W _ hc0
   ·have hlt:=(l5.1 hu).1;rw[aP,fM,CR]at hlt;have hq:i/2<len:=om;obtain⟨g1,g2⟩:=bR ((List.range len).map fun i=>(Value.slice (V i).1.A (V i).1.n (V i).1.c,Value.slice (V i).2.A (V i).2.n (V i).2.c)) (i/2) (by simpa using hq);obtain⟨_,k0,k1⟩:=hV (i/2) hq;rw[add_plain]at k0 k1;rcases(show i%2=0∨i%2=1 from om)with e|e
    ·have hii:i=i/2*2:=by omega
     rw[hii]at hu⊢;rw[g1]at hu;rw[DD]at k0;have e2:i/2*2/2=i/2:=om;rw[k0,←hu];simp
    ·have hii:i=i/2*2+1:=by omega
     rw[hii]at hu⊢;rw[g2]at hu;rw[k1,←hu];simp
  ·have hil:i<len:=by simpa using h
   obtain⟨⟨q1,q2,_⟩,_⟩:=hV i hil;exact⟨(V i).1.A,(V i).1.n,(V i).1.c,(V i).2.A,(V i).2.n,(V i).2.c,Ah,by simpa using q1,by simpa using q2⟩
  ·obtain⟨i,hi,rfl⟩:=dV.1 hv;obtain⟨⟨_,_,q3,q4⟩,_⟩:=hV i (by simpa using hi);exact⟨q3,q4⟩
end
end Open
end
section
open Go.ChangeShapes Go.WideShapes Go.ChangeAt Go.RowKit Go.Shelf
theorem Laid.ahO {α:Type} {cs:List α} (h:cs.length=3):∃a b c,cs=[a,b,c]:=by
 match cs,h with
 |[a,b,c],_=>exact⟨a,b,c,rfl⟩
theorem Laid.form {W fuel cs a b c p sp held}
  (h:DataW.trod (fun _=>()) prog W 0 sp held fuel 355 cs=some (.agg [.lit (.int .u64 a),.lit (.int .i64 b),.lit (.int .i64 c)],p)):cs=[.int .u64 a,.int .i64 b,.int .i64 c]:=by
 obtain⟨y0,y1,y2,n,hx,hl,t0,t1,t2⟩:=Deep.trod_struct3 underlying355 h;have z0:prog.cellsOf 125=1:=kr;have z1:prog.cellsOf 3=1:=kr;have z3:prog.cellsOf 355=3:=kr;have t0:DataW.trod (fun _=>()) prog W 0 sp held n 125 ((cs.drop 0).take (prog.cellsOf 125))=some y0:=t0;have t1:DataW.trod (fun _=>()) prog W 0 sp held n 3 ((cs.drop 1).take (prog.cellsOf 3))=some y1:=t1;have t2:DataW.trod (fun _=>()) prog W 0 sp held n 3 ((cs.drop 2).take (prog.cellsOf 3))=some y2:=t2;rw[z3]at hl;rw[z0]at t0;rw[z1]at t1 t2;obtain⟨u0,e0,x0,_⟩:=DataW.trod_int underlying125 t0;obtain⟨u1,e1,x1,_⟩:=DataW.trod_int underlying3 t1;obtain⟨u2,e2,x2,_⟩:=DataW.trod_int underlying3 t2;rw[x0,x1,x2]at hx;have hx1:DataW.agg [DataW.lit (Lit.int .u64 a),DataW.lit (Lit.int .i64 b),DataW.lit (Lit.int .i64 c)]=(DataW.agg [DataW.lit (Lit.int .u64 u0),DataW.lit (Lit.int .i64 u1),DataW.lit (Lit.int .i64 u2)]:DataW Unit):=congrArg Prod.fst hx;have hx2:=DataW.agg.inj hx1;have h0:=(Lit.int.inj (DataW.lit.inj (Ed hx2).1)).2;have h1:=(Lit.int.inj (DataW.lit.inj (Ed (Ed hx2).2).1)).2;have h2:=(Lit.int.inj (DataW.lit.inj (Ed (Ed (Ed hx2).2).2).1)).2;rw[←h0]at e0;rw[←h1]at e1;rw[←h2]at e2;obtain⟨c0,c1,c2,rfl⟩:=Laid.ahO hl;have e0:c0= .int .u64 a:=(Ed e0).1;have e1:c1= .int .i64 b:=(Ed e1).1;have e2:c2= .int .i64 c:=(Ed e2).1;rw[e0,e1,e2]
theorem Laid.forms {W fuel cs p sp held}
  (h:DataW.trod (fun _=>()) prog W 0 sp held fuel 356 cs=some (Rows.laid_tsblock_times_forms,p)):cs=Tm.cells:=by
 have hce:prog.cellsOf 355=3:=kr;cases fuel with
 |zero=>simp[DataW.trod]at h
 |succ fuel=>
  simp only[DataW.trod,underlying356,hce]at h;split at h
  ·rename_i hl
   obtain⟨xs,hm,hx⟩:=DC.1 h;have ahP:cs.length=15:=by
    have:prog.cellsOf 356=15:=kr;omega
   have hxs:xs.map (·.1)=[.agg [.lit (.int .u64 0),.lit (.int .i64 1),.lit (.int .i64 0)],.agg [.lit (.int .u64 2),.lit (.int .i64 2),.lit (.int .i64 7)],.agg [.lit (.int .u64 6),.lit (.int .i64 3),.lit (.int .i64 12)],.agg [.lit (.int .u64 14),.lit (.int .i64 4),.lit (.int .i64 32)],.agg [.lit (.int .u64 15),.lit (.int .i64 4),.lit (.int .i64 64)]]:=by
    have:=congrArg Prod.fst hx;unfold Rows.laid_tsblock_times_forms at this;simpa only[DataW.agg.injEq]using this
   have hat:∀i,i<5→∃b,xs[i]? =some b∧DataW.trod (fun _=>()) prog W 0 sp held fuel 355 ((cs.drop (i*3)).take 3)=some b:=fun i hi=>Lib.mapM_at hm i i (by simp[hi])
   have hit:∀(i:Nat) (a b c:Int),i<5→(xs.map (·.1))[i]? =some (.agg [.lit (.int .u64 a),.lit (.int .i64 b),.lit (.int .i64 c)])→(cs.drop (i*3)).take 3=[.int .u64 a,.int .i64 b,.int .i64 c]:=fun i a b c hi he=>by
    obtain⟨y,h1,h2⟩:=hat i hi;rw[Df,h1]at he;have he:=Oj he;obtain⟨y1,y2⟩:=y;simp only[]at he;subst he;exact Laid.form h2
   have q0:=hit 0 0 1 0 om (by rw[hxs];rfl);have q1:=hit 1 2 2 7 om (by rw[hxs];rfl);have q2:=hit 2 6 3 12 om (by rw[hxs];rfl);have q3:=hit 3 14 4 32 om (by rw[hxs];rfl);have q4:=hit 4 15 4 64 om (by rw[hxs];rfl);have aeq:cs=(cs.drop (0*3)).take 3++((cs.drop (1*3)).take 3++((cs.drop (2*3)).take 3++((cs.drop (3*3)).take 3++(cs.drop (4*3)).take 3))):=by
    match cs,ahP with
    |[_,_,_,_,_,_,_,_,_,_,_,_,_,_,_],_=>rfl
   rw[q0,q1,q2,q3,q4]at aeq;exact aeq
  ·cases h
theorem Laid.g1:prog.globalNamed "math/bits.deBruijn64tab" =some 2:=kr
theorem Laid.t1:(prog.globals[2]?).map (·.type)=some 418:=kr
theorem Laid.g2:prog.globalNamed "tsblock/crc.table" =some 1:=kr
theorem Laid.t2:(prog.globals[1]?).map (·.type)=some 360:=kr
theorem Laid.g3:prog.globalNamed "tsblock/times.forms" =some 0:=kr
theorem Laid.t3:(prog.globals[0]?).map (·.type)=some 356:=kr
theorem Laid.c1:prog.cellsOf 418=64:=kr
theorem Laid.c2:prog.cellsOf 360=16:=kr
theorem Laid.e1:prog.cellsOf 5=1:=kr
theorem Laid.e2:prog.cellsOf 46=1:=kr
theorem Laid.d1:(Rows.laid_math_bits_deBruijn64tab:DataW Unit)=Lib.tabData .u8 (Lib.deBruijn64tab.map (fun n:Nat=>(Int.ofNat n))):=rfl
theorem KE {W} (h:laidMet prog [("math/bits.deBruijn64tab",Rows.laid_math_bits_deBruijn64tab),("tsblock/crc.table",Rows.laid_tsblock_crc_table),("tsblock/times.forms",Rows.laid_tsblock_times_forms)] W):Gl W:=by
 have h2:=laidMet.tail h;have h3:=laidMet.tail h2;rw[Laid.d1]at h;have q1:=Lib.tabIs_of_head Laid.g1 Laid.t1 underlying418 underlying5 Laid.e1 Laid.c1 h;have q2:Lib.TabIs prog W "tsblock/crc.table" .u32 [0,498536548,997073096,651767980,1994146192,1802195444,1303535960,1342533948,3988292384,4027552580,3604390888,3412177804,2607071920,2262029012,2685067896,3183342108]:=Lib.tabIs_of_head Laid.g2 Laid.t2 underlying360 underlying46 Laid.e2 Laid.c2 h2;have hd:wH W:=by
  intro j hj;rw[q1.cell Laid.g1 j (by simpa using hj)];simp[List.getD,hj]
 refine⟨?_,hd,?_,Bd W _ (hd 0 Ai)⟩
 ·obtain⟨ps,⟨g',t',cs,fuel,p,q,hg',ht',hvar,hdat,_,_⟩,_⟩:=h3;obtain rfl:=Oj (Laid.t3.symm.trans (by rw[←ht',Oj (Laid.g3.symm.trans hg')]));have hcs:=Laid.forms hdat;intro i v hi;have:=World.var?_cell Laid.g3 hvar i;rw[this];rw[←DW,hcs];exact hi
 ·intro i hi;rw[q2.cell Laid.g2 i (by simpa using hi)];have:∀i,i<16→([0,498536548,997073096,651767980,1994146192,1802195444,1303535960,1342533948,3988292384,4027552580,3604390888,3412177804,2607071920,2262029012,2685067896,3183342108]:List Int).getD i 0=((bP.tab.getD i 0:Nat):Int):=Ai
  first|rw[this i hi]|(have e:=this i hi;simp only[List.getD]at e⊢;simp_all)
end
namespace topJoins
open Go
theorem k0:(Rows.topJoinsRow.wf (OpenSpec.ofChange Rows.topJoinsSpec))=true:=kr
theorem k1:(laidOutB prog)=true:=kr
theorem k2:(mapsRowed prog)=true:=kr
theorem k3:(Tryz.f7.params.all (prog.readableRec ·))=true:=kr
theorem k4:(namedTie prog Rows.topJoinsRow.named Rows.topJoinsSpec.vars)=true:=kr
theorem k5:((Rows.topJoinsRow.stops==[]))=true:=kr
theorem k6:((prog.stops==[]))=true:=kr
theorem k7:((Rows.topJoinsRow.knobs==[]))=true:=kr
theorem k8:((prog.stopKnobs==[]))=true:=kr
theorem k9:((Rows.topJoinsRow.inPlace==prog.inPlace 7))=true:=kr
theorem k10:((Rows.topJoinsRow.unfollowed==prog.unfollowed 7))=true:=kr
theorem k11:((Rows.topJoinsRow.recurses==prog.recurses 7))=true:=kr
theorem k12:((Rows.topJoinsRow.named==prog.varsNamed 7))=true:=kr
theorem k13:((Rows.topJoinsRow.maps==(Tryz.f7.params.toList++Rows.topJoinsSpec.plain.varTypes prog).any (prog.mapsRec ·)))=true:=kr
theorem k14:((Rows.topJoinsRow.ifaces==(Tryz.f7.params.toList++Rows.topJoinsSpec.plain.varTypes prog).any (prog.ifacesRec ·)))=true:=kr
theorem k15:((Rows.topJoinsRow.mapsOut==prog.mapsAmong Tryz.f7.resultTypes.toList))=true:=kr
theorem k16:((Rows.topJoinsRow.loops==(Tryz.f7.params.toList++Rows.topJoinsSpec.plain.varTypes prog).any (prog.loopsFrom ·)))=true:=kr
theorem k17:((Rows.topJoinsRow.wideKeys==(Tryz.f7.params.toList++Rows.topJoinsSpec.plain.varTypes prog++Tryz.f7.resultTypes.toList).any (prog.wideKeysFrom ·)))=true:=kr
theorem k18:(Rows.topJoinsSpec.vars.all (prog.varReadable ·))=true:=kr
theorem k19:(Tryz.f7.resultTypes.all (fun t=>prog.readableRec t&&decide (t<prog.types.size)))=true:=kr
theorem k20:((Rows.topJoinsRow.ifacesOut==Tryz.f7.resultTypes.toList.any (prog.ifacesRec ·)))=true:=kr
theorem k21:((Rows.topJoinsRow.loopsOut==Tryz.f7.resultTypes.toList.any (prog.loopsFrom ·)))=true:=kr
theorem k22:((Rows.topJoinsRow.plainKeys==prog.plainKeys))=true:=kr
theorem k23:(Rows.topJoinsRow.shortTexts.isNone)=true:=kr
theorem k24:(prog.stopsHeard)=true:=kr
theorem k25:(prog.mayEnter)=true:=kr
theorem k26:((Rows.topJoinsRow.lifted==prog.liftsFinal))=true:=kr
theorem k27:((prog.make==some Rows.topJoinsRow.make))=true:=kr
theorem k28:((Rows.topJoinsRow.kinds==(if Rows.topJoinsRow.domain.isEmpty then[]else Tryz.f7.params.toList.map fun t=>match prog.underlying t with|some (.int k)=>some k|_=>none)))=true:=kr
theorem k29:((Rows.topJoinsRow.pinned==Rows.topJoinsRow.pinnedBy))=true:=kr
theorem k30:((Rows.topJoinsRow.veiled==(Tryz.f7.params.toList++Rows.topJoinsSpec.plain.varTypes prog++Tryz.f7.resultTypes.toList).any (prog.veiledRec ·)))=true:=kr
theorem k31:(Rows.topJoinsRow.veiledFits prog Tryz.f7.params.toList (Tryz.f7.params.toList++Rows.topJoinsSpec.plain.varTypes prog++Tryz.f7.resultTypes.toList))=true:=kr
theorem dZ {a b} (h:a=true) (g:b=true):(a&&b)=true:=by rw[h,g];rfl
theorem closed:joinedFacts prog 7 Tryz.f7 Rows.topJoinsSpec Rows.topJoinsRow=true:=by
 unfold joinedFacts;exact(dZ (dZ (dZ (dZ (dZ (dZ (dZ (dZ (dZ (dZ (dZ (dZ (dZ (dZ (dZ (dZ (dZ (dZ (dZ (dZ (dZ (dZ (dZ (dZ (dZ (dZ (dZ (dZ (dZ (dZ (dZ k0 k1) k2) k3) k4) k5) k6) k7) k8) k9) k10) k11) k12) k13) k14) k15) k16) k17) k18) k19) k20) k21) k22) k23) k24) k25) k26) k27) k28) k29) k30) k31)
end topJoins
end Go.Proofs.YtongopommlghgaaGreatDoor
