/- Part 21. -/
import Derived.Test.YtjcpmfphnodaaaaGreatDoorZTAK
import Derived.Sort.Walk13a
import Derived.Sort.WalkA
import Derived.Sort.WalkB3
import Derived.Sort.LotB
import Derived.Sort.WalkD2
import Derived.Sort.LotD4
namespace Go.Proofs.YtjcpmfphnodaaaaGreatDoor
set_option maxRecDepth 100000
set_option maxHeartbeats 0
open _root_.Go.Proofs.Tryz
open Go.RowKit
section
open Go.Shelf
attribute [local go_sem] Oper.semAt_some
theorem rU {w w':World} {base n c sz} {A} {xs} {t} {row} (h:w.ownsRow base t sz (.slice A n c) n xs) (hg:w.grownBy w' row)
  (hr:∀r,row=some r→ab A≠some r∨∃o:Obj,w.heap[r]? =some o∧o.isCells=false):w'.ownsRow base t sz (.slice A n c) n xs:=by
 refine⟨h.1,?_⟩;rcases h.2 with hn|⟨g,cap,cur,hv,h1,h2,rest⟩
 ·exact .inl hn
 ·refine .inr ⟨g,cap,cur,hv,h1,?_,rest⟩;rw[hg.block g (Ge.1 h2).1]
  ·exact h2
  ·intro e';rcases hr g e'.symm with h3|⟨o,ho,hoc⟩
   ·injection hv with hv
    rw[hv]at h3;exact h3 rfl
   ·rw[h2]at ho;cases ho;cases hoc
theorem zm {w:World} {base n c sz} {A} {xs} {t} (h:w.ownsRow base t sz (.slice A n c) n xs):∀j o,ab A=some j→w.heap[j]? =some o→o.isCells=true:=by
 intro j o ej hj;rcases h.2 with⟨hv,_⟩|⟨g',cap,cur,hv,_,hgb,_⟩
 ·injection hv with hv1;rw[hv1]at ej;cases ej
 ·injection hv with hv1
  rw[hv1]at ej;obtain rfl:g'=j:=by simpa[ab]using ej
  rw[hgb]at hj;cases hj;rfl
def mY (w:World) (B:Nat) (A:Option Addr) (n c:Nat) (LL:List Cs.gz):Prop:=
 ∃vs:List Value,Rd w B 1 A n c vs∧vs.length=LL.length∧∀(i:Nat) (l:Cs.gz),LL[i]? =some l→∃A' n' c',vs[i]? =some (.slice A' n' c')∧gN w B A' n' c' l
section
variable {w w':World} {B n c:Nat} {A:Option Addr} {LL:List Cs.gz}
theorem mY.len (h:mY w B A n c LL):n=LL.length:=by
 obtain⟨vs,h1,h2,_⟩:=h;have:=h1.2.2.1;omega
theorem mY.at_ {k} (h:mY w B A n c LL) (hk:k<LL.length):
  ∃b off A' n' c',A=some ⟨b,off,none⟩∧b<B∧w.cell? ⟨b,off+k,none⟩=some (.slice A' n' c')∧gN w B A' n' c' LL[k]:=by
 have hn:=h.len;obtain⟨vs,h1,h2,h3⟩:=h;obtain⟨b,off,u,e,hb,hu,hc⟩:=h1.at_ (k:=k) om;obtain⟨A',n',c',e',hr⟩:=h3 k LL[k] (l8 hk);rw[hu]at e'
 injection e' with e'
 subst e';exact⟨b,off,A',n',c',e,hb,hc,hr⟩
theorem mY.take (h:mY w B A n c LL) {k} (hk:k≤n):mY w B A k c (LL.take k):=by
 have hn:=h.len;obtain⟨vs,h1,h2,h3⟩:=h;have:=h1.take hk;rw[CV]at this;refine⟨_,this,by simp[h2],fun i l hl=>?_⟩;rw[List.getElem?_take]at hl;split at hl
 ·next hi=>
  obtain⟨A',n',c',e',hr⟩:=h3 i l hl;exact⟨A',n',c',by rw[List.getElem?_take,Ps0 hi];exact e',hr⟩
 ·cases hl
end
theorem QU:(prog.info? 55).map (fun i=>(i.zero,i.size,i.bytes))=some (some (.slice none 0 0),1,24):=kr
theorem Rd.hdM (w:World) (v):Rd (w.alloc (.cells #[v] 55)) (w.heap.size+1) 1 (some ⟨w.heap.size,0,none⟩) 1 1 [v]:=
 ⟨Nr _,by unfold maxLen;omega,rfl,fun _=>⟨_,0,rfl,om,fun i u hu=>by
  match i,hu with
  |0,hu=>simp at hu;subst hu;exact Au w _ _ _ 0⟩⟩
namespace Ck
def oI (n:Nat):Nat:=(n+119)/120
def Fu (A:Option Addr) (n j:Nat):Value:= .slice (A.map (·.add (120*j*2))) (min 120 (n-120*j)) (min 120 (n-120*j))
theorem ui (l):jm l=(List.range (oI l.length)).map fun j=>(l.drop (120*j)).take 120:=by
 by_cases h:l=[]
 ·subst h;rw[dN];rfl
 ·have hp:=oJ.2 h;rw[jN h,ui (l.drop 120),jX];have e:oI l.length=oI (l.length-120)+1:=by unfold oI;omega
  rw[e,List.range_succ_eq_map,AA,Bg]
  congr 1
  refine BZ fun j _=>?_
  show((l.drop 120).drop (120*j)).take 120=(l.drop (120*(j+1))).take 120;rw[DK]
  congr 2
  omega
termination_by l.length
decreasing_by
 have:=oJ.2 h;rw[jX];omega
end Ck
def QV (v:Value):Array Value:= #[v]
theorem zn (n bx bk B) (A) (m c) (l:Cs.gz) (w) (hw:Boxed w bx 55 (.slice A m c)) (hk:Boxed w bk 3 (.int .i64 120)) (hbx:bx<B) (hbk:bk<B) (hv:gN w B A m c l) (hm:m≤1000000000):
  Yields n prog 240 #[.pointer (some ⟨bx,0,none⟩),.pointer (some ⟨bk,0,none⟩)] QV (fun _=>False) (fun X Y=>Below B X Y) ((List.range (Ck.oI m)).map (Ck.Fu A m)) w:=by
 intro q J Jx W hK hJ hJx bz h0;have hlc:=hv.1;have hcm:=hv.2.1;unfold maxLen at hcm;have hW:Boxed W bx 55 (.slice A m c):=(hK.block bx hbx).trans hw;have hW2:Boxed W bk 3 (.int .i64 120):=(hK.block bk hbk).trans hk;have V:=Aj (hv.below hK);have df:=Aj bz;have KW:=Aj (show∀W',Below B W W'→W'.cell? ⟨bx,0,none⟩=some (.slice A m c)∧W'.cell? ⟨bk,0,none⟩=some (.int .i64 120)from fun W' hb=>⟨(show Boxed W' bx 55 (.slice A m c)from(hb.block bx hbx).trans hW).cell,(show Boxed W' bk 3 (.int .i64 120)from(hb.block bk hbk).trans hW2).cell⟩);have MJ:=Aj hJ;clear hw hK bz hJ hJx hv hW hW2 hk;refine Bd.2 ?_;go_enter func240,ntmps240;go_wp2;go_loopw [4] (fun i wr=>∃k:Nat,k≤Ck.oI m∧i= .int .i64 ((120*k:Nat):Int)∧Below B W wr∧Kept (J (((List.range (Ck.oI m)).map (Ck.Fu A m)).take k) wr)) (fun i _=>m+120-(intOf i).toNat)
 case atStart=>exact⟨0,om,rfl,Ae _ _,⟨h0⟩⟩
 case round=>
  clear h0;obtain⟨k,hk,rfl,hb,hj⟩:=hrel;obtain⟨k0,k1⟩:=KW.1 _ hb;by_cases hlt:120*k<m
  ·have hlt':((120*k:Nat):Int)< (m:Int):=by omega
   have hc1:¬c=120*k:=om;have hkn:k<Ck.oI m:=by unfold Ck.oI;omega
   have hkl:k< ((List.range (Ck.oI m)).map (Ck.Fu A m)).length:=by rw[fu,Cq];exact hkn
   have ht:=Ts hkl;have hg:((List.range (Ck.oI m)).map (Ck.Fu A m))[k]=Ck.Fu A m k:=sm;rw[hg]at ht;have HT:=Aj ht;have BB:=Aj hb;have HJ:=Aj hj.1;clear ht hg hb hj;obtain⟨b,off,rfl,-,-⟩:=V.1.2.2.2 om;go_wp2;go_quiet (fail);obtain⟨e,he⟩:∃e,e=min 120 (m-120*k):=⟨_,rfl⟩
   have hmin:min (120:Int) ((m-120*k:Nat):Int)=(e:Int):=om;rw[hmin];have he1:1≤e:=om;have he2:120*k+e≤m:=om;have HE:Kept (Ck.Fu (some ⟨b,off,none⟩) m k= .slice (some ⟨b,off+120*k*2,none⟩) e e):=⟨by unfold Ck.Fu;rw[DV,add_plain,←he]⟩
   clear hmin he;have J0:=MJ.1 _ _ (wr.drewN nq) none HJ.1 ⟨rfl,rfl,rfl,Nr _,fun _ _ _=>rfl⟩ (fun r h=>by cases h);obtain⟨fn,tmps,assign,body,hy,qx⟩:=df.1 _ (Ck.Fu (some ⟨b,off,none⟩) m k) (wr.drewN nq) J0 ⟨((List.range (Ck.oI m)).map (Ck.Fu (some ⟨b,off,none⟩) m)).drop (k+1),by rw[←HT.1,jC]⟩;unfold QV at hy;rw[HE.1]at hy;rw[←HT.1]at qx;clear J0 k0 k1;obtain⟨k0,k1⟩:=KW.1 (wr.drewN nq) (below_drewN BB.1 nq);have BB2:=Aj (below_drewN BB.1 nq);have KW2:=Aj KW.1;clear KW df HJ BB HE HT;generalize wr.drewN nq=wd at*;go_upto_region 4 with fail;refine(Bl (n:=n)).1 ?_
   gi_wp2
   refine⟨(fun h=>by simp[Fence.wide]at h),qx.mono ?_⟩;rintro e2 W' (⟨rfl,hj',hb'⟩|⟨rfl,rW⟩)
   ·have B2:=Aj (BB2.1.trans hb');have J2:=Aj hj';obtain⟨q0,q1⟩:=KW2.1 _ B2.1;clear hj' hb' k0 k1 qx
    gi_wp2
    go_wp2;go_roundw
    case rel=>exact⟨k+1,om,by go_num,B2.1,J2⟩
    case measure=>simp[intOf];omega
   ·have X2:=Aj rW;clear rW k0 k1 qx
    gi_wp2
    go_wp2;exact AQ (BI rfl _ _ _) rfl ⟨⟨_,rfl⟩,.inr ⟨_,List.take_prefix _ _,X2.1⟩⟩
  ·have J2:Kept (J ((List.range (Ck.oI m)).map (Ck.Fu A m)) wr):=⟨by have:=hj.1;rwa[jY (by rw[fu,Cq];unfold Ck.oI;omega)]at this⟩
   have hlt':¬((120*k:Nat):Int)< (m:Int):=om;clear hj;go_wp2;go_end0;exact⟨⟨_,rfl⟩,.inl J2.1⟩
def zo (w:World) (pre:List Value) (W:World):Prop:=
 ∃A n c,Boxed W w.heap.size 147 (.slice A n c)∧W.ownsRow (w.heap.size+1) 55 1 (.slice A n c) n pre∧Below w.heap.size w W
theorem zo.own {w}:aJ (w.heap.size+1) (fun _=>False) (zo w):=by
 rintro s W W' row ⟨A,n,c,hb,ho,hbel⟩ hg hr;have hrow:∀r,row=some r→w.heap.size<r:=fun r e=>by
  rcases hr r e with h|⟨h,_⟩
  ·exact h.elim
  ·omega
 refine⟨A,n,c,hb.kept hg (fun e=>by have:=hrow _ e.symm;omega),rU ho hg (fun r e=>?_),hbel.grown hg hbel.size (fun g e=>by have:=hrow g e;omega)⟩;rcases hr r e with h|⟨_,h⟩
 ·exact h.elim
 ·exact .inr h
theorem zo.push {w W w5} {A A4} {n c c4} {pre} {x} {tmp} (hW:w.heap.size+1≤W.heap.size) (hb:Boxed W w.heap.size 147 (.slice A n c)) (ho:W.ownsRow (w.heap.size+1) 55 1 (.slice A n c) n pre) (hbel:Below w.heap.size w W)
  (hown:w5.ownsRow (w.heap.size+1) 55 1 (.slice A4 (n+1) c4) (n+1) (pre++[x])) (hg:(W.alloc tmp).grownBy w5 (ab A)):
  KeepsFrom (w.heap.size+1) W (w5.setCell ⟨w.heap.size,0,none⟩ (.slice A4 (n+1) c4))∧Below w.heap.size W (w5.setCell ⟨w.heap.size,0,none⟩ (.slice A4 (n+1) c4))∧zo w (pre++[x]) (w5.setCell ⟨w.heap.size,0,none⟩ (.slice A4 (n+1) c4)):=by
 have hlt:∀g,ab A=some g→w.heap.size+1≤g:=fun g e=>(ae ho g e).1
 have Gy:∀g,ab A4=some g→w.heap.size+1≤g:=fun g e=>(ae hown g e).1
 have hcl:∀j o,ab A=some j→(W.alloc tmp).heap[j]? =some o→o.isCells=true:=zm (Oa ho tmp);have gs:=grownBy_setCell' w5 w.heap.size (.slice A4 (n+1) c4);have hb1:Below w.heap.size W w5:=((Ae _ W).alloc om tmp).grown hg (by simp;omega) (fun g e=>by have:=hlt g e;omega);have hb2:Below w.heap.size W (w5.setCell ⟨w.heap.size,0,none⟩ (.slice A4 (n+1) c4)):=hb1.setCell (p:=⟨w.heap.size,0,none⟩) Ai _;refine⟨(((KeepsOthers.alloc W _).trans (KeepsOthers.of_grownBy hg hcl)).trans (KeepsOthers.setCell _ _ _)).from _,hb2,A4,n+1,c4,?_,?_,hbel.trans hb2⟩
 ·refine Boxed.set _ ((hb.alloc tmp).kept hg (fun e=>?_));have:=hlt _ e.symm;omega
 ·exact rU hown gs (fun r e=> .inl fun e2=>by cases e;have:=Gy _ e2;omega)
theorem uj (bx bk) (A) (m c) (l:Cs.gz) (w) (hw:Boxed w bx 55 (.slice A m c)) (hk:Boxed w bk 3 (.int .i64 120)) (hv:gN w w.heap.size A m c l) (hm:m≤1000000000):
  Calls prog 239 #[.slice none 0 0,.func (.func 240) #[] #[.pointer (some ⟨bx,0,none⟩),.pointer (some ⟨bk,0,none⟩)]] w fun e w'=>∃A2 n2 c2,e= .returned (.slice A2 n2 c2)∧w'.ownsRow w.heap.size 55 1 (.slice A2 n2 c2) n2 ((List.range (Ck.oI m)).map (Ck.Fu A m))∧Below w.heap.size w w':=by
 have hbx:=hw.lt;have hbk:=hk.lt;obtain⟨L,hL⟩:∃L,L=(List.range (Ck.oI m)).map (Ck.Fu A m):=⟨_,rfl⟩
 have YV:Kept (∀o,Yields 8 prog 240 #[.pointer (some ⟨bx,0,none⟩),.pointer (some ⟨bk,0,none⟩)] QV (fun _=>False) (fun X Y=>Below w.heap.size X Y) L (w.alloc o)):=⟨fun o=>by rw[hL];exact zn 8 bx bk w.heap.size A m c l (w.alloc o) (hw.alloc o) (hk.alloc o) hbx hbk (hv.alloc Ai o) hm⟩
 have hlen:Kept (L.length≤10000000):=⟨by rw[hL,fu,Cq];unfold Ck.oI;omega⟩
 have hone:Kept (∀x∈L,∃A0 n0 c0,x= .slice A0 n0 c0):=⟨fun x hx=>by rw[hL]at hx;obtain⟨j,_,rfl⟩:=dM.1 hx;exact⟨_,_,_,rfl⟩⟩
 rw[←hL];clear hw hv hk hL;refine(Bd (n:=9)).1 ?_;refine callsIn_of_wp_marks func239 rfl trivial ?_ rfl;simp only[ntmps239,Ca,Lc,AB,Nat.reduceAdd,Nat.reduceSub,Cg,Ch,Cz,Cm,Ay,AU];refine Bl.2 ?_;go_wp2;have bB:=Boxed.new w 147 (.slice none 0 0);have hsz:(w.alloc (.cells #[.slice none 0 0] 147)).heap.size=w.heap.size+1:=sm;have g0:Below w.heap.size w (w.alloc (.cells #[.slice none 0 0] 147)):=(Ae _ _).alloc Ai _;have Y4:=YV.1 (.cells #[.slice none 0 0] 147);clear YV;generalize w.alloc (.cells #[.slice none 0 0] 147)=w4 at*;refine(Bl (n:=9)).1 ?_;refine rV Ah (gf:=240) (lb:= #[.pointer (some ⟨bx,0,none⟩),.pointer (some ⟨bk,0,none⟩)]) rfl (enters_of func240 kr rfl)
  (encs:=QV) (O:=fun _=>False) (Kp:=fun X Y=>Below w.heap.size X Y) (L:=L) Y4
  (fun _ h=>h.elim) (fun h k=>h.trans k) (fun W W' row hW hg hr=>(Ae _ W).grown hg om (fun g e=>by have:=hr g e;omega)) (fun _=>rfl)
  (zo w) (fun _ _ _=>False)
  (fun pre x a₁ W=>zo w pre W∧
   a₁={tmps:= #[.slice none 0 0,.func (.func 240) #[] #[.pointer (some ⟨bx,0,none⟩),.pointer (some ⟨bk,0,none⟩)],.pointer (some ⟨w.heap.size,0,none⟩),undef,.slice none 0 0,x,.func (.func 240) #[] #[.pointer (some ⟨bx,0,none⟩),.pointer (some ⟨bk,0,none⟩)],
    x,undef,undef,undef,undef,undef],defers:=[]})
  ?hI (fun _ _ _ _ _ h _ _=>h) ?hM ?h0 ?assign ?body ?done ?stop
 case hI=>rw[hsz];exact zo.own
 case hM=>
  rw[hsz];rintro pre p a₁ u W W' row ⟨hI,ha⟩ hgr hr;exact⟨zo.own _ _ _ _ hI hgr hr,ha⟩
 case h0=>exact⟨none,0,0,bB,AY _ _ _ _,g0⟩
 case assign=>
  rintro q pre x W hI hpre hW;unfold QV
  gi_wp2
  exact⟨⟨Nr _,fun _ _ _ h _=>h⟩,Ae _ _,hI,trivial⟩
 case body=>
  rintro q pre x a₁ W ⟨⟨A',n',c',hb,ho,hbel⟩,rfl⟩ hpre hW;have hl1:n'≤10000000:=by
   have h1:=ho.1;have h2:=hpre.length_le;have h3:=hlen.1;simp at h2;omega
  obtain⟨A0,n0,c0,rfl⟩:=hone.1 x (hpre.subset sm);have hcO:=hb.cell;have Hb:=Aj hb;have vw:=Aj ho;have HB:=Aj hbel;have hlo:∀g,ab A'=some g→w.heap.size+1≤g:=fun g e=>(ae ho g e).1
  have HLO:=Aj hlo;have h1c:Kept (∀u∈[Value.slice A0 n0 c0],u.oneCell'=true):=⟨by intro u hu;rw[iF.1 hu];rfl⟩
  clear hb ho hbel hlo;obtain⟨i0,hi0,hz0,hz1,hz2⟩:=AX QU
  gi_wp2_with (gi_at_builtin;refine eF _ rfl (.tmp 8) (.tmp 10) _ rfl (w.heap.size+1) 55 i0 (.slice none 0 0) 1 24 underlying147 hi0 hz0 hz1 hz2 rfl Ah A' n' c' _ rfl (Oa vw.1 _) (W.heap.size+1) _ _ _ [.slice A0 n0 c0] rfl (Rd.hdM W (.slice A0 n0 c0)) h1c.1 (by unfold maxLen;omega) om (by simp;omega) ?_;intro A4 c4 w5 ax aj di;have nA:Boxed w5 w.heap.size 147 (.slice A' n' c'):=(Hb.1.alloc _).kept aj (fun e=>by have:=HLO.1 _ e.symm;omega);have Tf:=nA.cell;have Tg:=nA.frozen)
  rw[hsz];exact zo.push om Hb.1 vw.1 HB.1 ax aj
 case done=>
  rintro D W hD ⟨A',n',c',hb,ho,hbel⟩ hK;have hc:=hb.cell;have vw:=Aj ho;have HB:=Aj hbel;clear ho hbel;go_wp2;refine⟨sm,.inl ⟨_,_,rfl,run_takeDeferred hK,?_⟩⟩;have hgo:W.grownBy (W.putObj D (.deferred none)) (some D):=grownBy_putObj' W D _;have hb2:=rU vw.1 hgo (fun r e=>by cases e;exact .inr ⟨_,hK,rfl⟩);refine⟨_,results_tmp rfl _ _ _,A',n',c',rfl,?_,HB.1.grown hgo HB.1.size (fun g e=>by cases e;omega)⟩;exact⟨hb2.1,hb2.2.imp id fun⟨g,cap,cur,h1,h2,h3⟩=>⟨g,cap,cur,h1,om,h3⟩⟩
 case stop=>
  rintro D c pre W _ _ h _;exact h.elim
theorem bF.made (w:World) (base) (h:base≤w.heap.size):bF (w.alloc (.cells #[] 127)) base (some ⟨w.heap.size,0,none⟩) 0 0 []:=World.ownsRow_made w #[] 0 h sm rfl
theorem Jb (A) (n c B) (l:Cs.gz) (w) (hv:gN w B A n c l) (hB:B≤w.heap.size) (hl:n≤4398046511000):
  Calls prog 189 #[.slice A n c] w fun e w'=>∃A3 c3,e= .returned (.slice A3 n c3)∧bF w' w.heap.size A3 n c3 l∧Below w.heap.size w w':=by
 have hlc:=hv.1;have hcm:=hv.2.1;unfold maxLen at hcm;have Hv:=Aj hv;have hn:=Aj hv.len;clear hv;have qT:∀(w:World) (a:Option Addr) (n c n' c':Nat),(binOp .eql 55 (.slice a n c) (.slice none n' c')).run prog w= .ok (.bool a.isNone) w:=fun w a n c n' c'=>Lib.run_eql_slice_nil w _ _ a n c n' c' underlying55
 cases A with
 |none=>
  have h0:n=0:=by
   rcases nz n with h|h
   ·exact h
   ·obtain⟨b,off,e,_⟩:=Hv.1.2.2.2 h;cases e
  subst h0;obtain rfl:l=[]:=vg hn.1.symm;go_enter func189,ntmps189;go_wp2;go_ret;exact⟨none,0,rfl,bF.nil _ _,Ae _ _⟩
 |some a=>
  go_enter func189,ntmps189;go_wp2_with (at_builtin;refine qC rfl (.tmp 5) (.tmp 6) rfl w.heap.size _ _ _ [] rfl (bF.made w _ Ai) B _ _ _ l rfl (Rd.alloc Hv.1 hB _) om sm ?_;intro A2 c2 w1 hown1 hgrow1 Ot;have hb1:Below w.heap.size w w1:=((Ae _ w).alloc Ai _).grown hgrow1 sm (by simp[ab]));rw[Ay,cB]at hown1;go_ret;exact⟨A2,c2,rfl,hown1,hb1⟩
theorem zq (bx bk) (A) (m c) (l:Cs.gz) (w) (hw:Boxed w bx 55 (.slice A m c)) (hk:Boxed w bk 3 (.int .i64 120)) (hv:gN w w.heap.size A m c l) (hm:m≤1000000000):
  Calls prog 187 #[.func (.func 240) #[] #[.pointer (some ⟨bx,0,none⟩),.pointer (some ⟨bk,0,none⟩)]] w fun e w'=>∃A2 n2 c2,e= .returned (.slice A2 n2 c2)∧w'.ownsRow w.heap.size 55 1 (.slice A2 n2 c2) n2 ((List.range (Ck.oI m)).map (Ck.Fu A m))∧Below w.heap.size w w':=by
 have AP:=Aj (uj bx bk A m c l w hw hk hv hm);clear hw hk hv;go_enter func187,ntmps187;go_wp2_with (go_at_call 239;refine AP.1.mono ?_;rintro e w1 ⟨A2,n2,c2,rfl,ho,hb⟩;have O:=Aj ho;have HB:=Aj hb;clear ho hb);go_ret;exact⟨A2,n2,c2,rfl,O.1,HB.1⟩
theorem Jc (A) (m c) (w):
  Calls prog 188 #[.slice A m c,.int .i64 120] w fun e w'=>e= .returned (.func (.func 240) #[] #[.pointer (some ⟨w.heap.size,0,none⟩),.pointer (some ⟨w.heap.size+1,0,none⟩)])∧w'=(w.alloc (.cells #[.slice A m c] 55)).alloc (.cells #[.int .i64 120] 3):=by
 have hmf:∀(fn:Fn) (first cap:Array Value) (w:World),(Instr.makeFunc fn first cap).run prog w= .ok (.func fn first cap) w:=fun _ _ _ _=>rfl
 go_enter func188,ntmps188;go_wp2;go_ret;exact⟨rfl,rfl⟩
theorem mY.chunks {w} {B m c A2n} {A A2} {n2 c2} {l:Cs.gz} (hv:gN w B A m c l) (hB:B≤A2n) (ho:Rd w A2n 1 A2 n2 c2 ((List.range (Ck.oI m)).map (Ck.Fu A m))):mY w A2n A2 n2 c2 (Ck.jm l):=by
 have hn:=hv.len;refine⟨_,ho,?_,fun i s hs=>?_⟩
 ·rw[Ck.ui,fu,fu,hn]
 ·rw[Ck.ui]at hs;rw[Cb]at hs⊢;obtain⟨j,hj,rfl⟩:=Cy.1 hs;rw[←hn]at hj;rw[hj];have hij:j<Ck.oI m:=by have:=List.mem_of_getElem? hj;exact List.mem_range.1 this
  have hjm:120*j<m:=by unfold Ck.oI at hij;omega
  refine⟨_,_,_,rfl,?_⟩;have h1:=hv.drop (k:=120*j) om;have h2:=h1.take (k:=min 120 (m-120*j)) om;have hlc:=hv.1;rw[Ng om]at h2;have e:(l.drop (120*j)).take (min 120 (m-120*j))=(l.drop (120*j)).take 120:=by
   by_cases q:120≤m-120*j
   ·rw[Nat.min_eq_left q]
   ·rw[Nat.min_eq_right om,jY (by rw[jX];omega),jY (by rw[jX];omega)]
  rw[e]at h2;have h3:gN w B (A.map (·.add (120*j*2))) (min 120 (m-120*j)) (min 120 (m-120*j)) ((l.drop (120*j)).take 120):=⟨Nr _,by have:=h2.2.1;omega,h2.2.2.1,h2.2.2.2⟩
  exact h3.more hB
end
section
open Go.Sort
abbrev eU:Int→Value:=fun x=>Value.int .u64 x
structure Sv (w:World) (b o:Nat) (d0 d:Array Int) (wr:World):Prop where
 h0:Holds eU w b o d0
 lt:b<w.heap.size
 sz:d.size=d0.size
 at_:At eU w b o d wr
section
variable {w wr w2:World} {b o:Nat} {d0 d d':Array Int}
theorem Sv.refl (h:Holds eU w b o d0) (hb:b<w.heap.size):Sv w b o d0 d0 w:=⟨h,hb,rfl,At.refl h⟩
theorem Sv.holds (h:Sv w b o d0 d wr):Holds eU wr b o d∧b<wr.heap.size:=h.at_.holds h.h0 h.sz h.lt
theorem Sv.cell (h:Sv w b o d0 d wr):∀t,t<d0.size→wr.cell? ⟨b,o+t,none⟩=some (.int .u64 d[t]!):=fun t ht=>(h.holds.1 t (by rw[h.sz];exact ht)).1
theorem Sv.dQ (h:Sv w b o d0 d wr):∀t,t<d0.size→wr.frozen? ⟨b,o+t,none⟩=false:=fun t ht=>(h.holds.1 t (by rw[h.sz];exact ht)).2
theorem Sv.drewN (h:Sv w b o d0 d wr) (n):Sv w b o d0 d (wr.drewN n):=⟨h.h0,h.lt,h.sz,h.at_.ahead n⟩
theorem Sv.step (h:Sv w b o d0 d wr) (k:Sv wr b o d d' w2):Sv w b o d0 d' w2:=by
 obtain⟨n,os,hw⟩:=k.at_;exact⟨h.h0,h.lt,k.sz.trans h.sz,h.at_.stepG h.lt k.sz ⟨n,os,hw⟩⟩
theorem Sv.swp (h:Sv w b o d0 d wr) {i j:Nat} (hi:i<d0.size) (hj:j<d0.size):Sv w b o d0 (swp d i j) ((wr.setCell ⟨b,o+i,none⟩ (.int .u64 d[j]!)).setCell ⟨b,o+j,none⟩ (.int .u64 d[i]!)):=by
 refine h.step ⟨h.holds.1,h.holds.2,size_swp d i j,0,#[],?_⟩;rw[grow_empty,ahead_zero];have e:=putRow_self eU wr b o d h.holds.1;have e2:=putRow_swp eU wr b o d i j (by rw[h.sz];exact hi) (by rw[h.sz];exact hj);rw[e]at e2;exact e2
end
theorem UY (x) (w):Calls prog 297 #[.int .u64 x] w fun e w'=>e= .returned (.bool false)∧w'=w:=by
 go_enter func297,ntmps297;go_wp2;go_ret;exact⟨sm,rfl⟩
theorem au (x y) (w):Calls prog 283 #[.int .u64 x,.int .u64 y] w fun e w'=>e= .returned (.bool (ltInt x y))∧w'=w:=by
 go_enter func283,ntmps283;go_wp2_with (go_at_call 297;refine(UY _ _).mono ?_;rintro e w' ⟨rfl,rfl⟩);go_ret;exact⟨rfl,rfl⟩
theorem qY (b o c x y) (d) (w) (hH:Holds eU w b o d) (hw:b<w.heap.size) (hxy:x≤y) (hy:y≤d.size) (hsz:d.size<4611686018427387904):
  Calls prog 301 #[.slice (some ⟨b,o,none⟩) d.size c,.int .i64 x,.int .i64 y] w fun e w'=>e= .returned (.tuple #[])∧Sv w b o d (Sort.insertionSort ltInt d x y) w':=by
 go_enter func301,ntmps301;go_wp2;go_loopw [6] (fun vi wr=>∃(i:Nat) (dk:Array Int),vi= .int .i64 i∧x<i∧i≤y+1∧Sv w b o d dk wr∧Kept (insOuter ltInt x y i dk=insOuter ltInt x y (x+1) d)) (fun vi _=>y+1-(intOf vi).toNat)
 case atStart=>exact⟨x+1,d,by go_num,om,om,Sv.refl hH hw,⟨rfl⟩⟩
 case round=>
  obtain⟨i,dk,rfl,hi1,hi2,hs,HO⟩:=hrel;have HS:=Aj hs;clear hs;by_cases hiy:i<y
  ·have aez:(i:Int)< (y:Int):=by omega
   go_wp2;go_loopw [7] (fun vj wi=>∃(j:Nat) (dj:Array Int),vj= .int .i64 j∧x≤j∧j≤i∧Sv w b o d dj wi∧Kept (insInner ltInt x j dj=insInner ltInt x i dk)) (fun vj _=>(intOf vj).toNat)
   case atStart=>exact⟨i,dk,rfl,om,Nr _,HS.1,⟨rfl⟩⟩
   case round=>
    obtain⟨j,dj,rfl,hj1,hj2,hs,HI⟩:=hrel;have hf:=hs.dQ;obtain⟨G,hG⟩:∃G:Nat→Int,∀t,G t=dj[t]!:=⟨fun t=>dj[t]!,fun _=>rfl⟩
    have hc:∀t,t<d.size→wr.cell? ⟨b,o+t,none⟩=some (.int .u64 (G t)):=fun t ht=>by rw[hG];exact hs.cell t ht
    have HG:=Aj hG;have HS2:=Aj hs;clear hs hG;have out:(j≤x∨ltInt dj[j]! dj[j-1]! =false)→insOuter ltInt x y (i+1) dj=insOuter ltInt x y (x+1) d:=fun h=>by rw[←HO.1,insOuter_go _ _ _ _ _ hiy,←HI.1,insInner_stop _ _ _ _ h]
    have OUT:=Aj out;clear out;by_cases rW:x<j
    ·have aeA:(x:Int)< (j:Int):=by omega
     by_cases hl:ltInt (G j) (G (j-1))=true
     ·go_wp2_with fail;go_quiet (first|(go_at_call 283;refine Calls.quiet_of_same (au _ _ _)));go_wp2_with fail;go_region
      all_goals go_wp2
      go_roundw
      case rel=>
       refine⟨j-1,Sort.swp dj j (j-1),by congr 1;omega,om,om,?_,⟨?_⟩⟩
       ·rw[HG.1,HG.1];exact(HS2.1.drewN _).swp (i:=j) (j:=j-1) om om
       ·rw[←HI.1,insInner_go ltInt x j dj rW (by rw[←HG.1,←HG.1];exact hl)]
      case measure=>simp[intOf];omega
     ·have hl:ltInt (G j) (G (j-1))=false:=by simpa using hl
      go_wp2_with fail;go_quiet (first|(go_at_call 283;refine Calls.quiet_of_same (au _ _ _)));go_wp2;go_roundw
      case rel=>exact⟨i+1,dj,by go_num,om,om,HS2.1.drewN _,⟨OUT.1 (.inr (by rw[←HG.1,←HG.1];exact hl))⟩⟩
      case measure=>simp[intOf];omega
    ·have aeA:¬(x:Int)< (j:Int):=by omega
     go_wp2_with fail;go_quiet (first|(go_at_call 283;refine Calls.quiet_of_same (au _ _ _)));go_wp2;go_roundw
     case rel=>exact⟨i+1,dj,by go_num,om,om,HS2.1.drewN _,⟨OUT.1 (.inl om)⟩⟩
     case measure=>simp[intOf];omega
  ·have aez:¬(i:Int)< (y:Int):=by omega
   go_wp2;go_end0;refine⟨rfl,?_⟩;rw[Sort.insertionSort,←HO.1,insOuter_stop _ _ _ _ _ hiy];exact HS.1
theorem uk (b o c x y) (d) (w) (hH:Holds eU w b o d) (hw:b<w.heap.size) (hxy:x≤y) (hy:y≤d.size) (hsz:d.size<4611686018427387904):
  Calls prog 305 #[.slice (some ⟨b,o,none⟩) d.size c,.int .i64 x,.int .i64 y] w fun e w'=>e= .returned (.tuple #[])∧Sv w b o d (Sort.reverseRange d x y) w':=by
 go_enter func305,ntmps305;go_wp2;go_loopw [6,7] (fun vi vj wr=>∃(i j:Nat) (z:Int) (dk:Array Int),vi= .int .i64 i∧vj= .int .i64 z∧x≤i∧i≤y∧(z=j∧j<y∨¬(i:Int)<z∧¬i<j∧-1≤z∧z≤y)∧Sv w b o d dk wr∧Kept (reverseLoop i j dk=reverseLoop x (y-1) d)) (fun vi vj _=>((intOf vj)-(intOf vi)).toNat)
 case atStart=>exact⟨x,y-1,(y:Int)-1,d,rfl,rfl,Nr _,hxy,om,Sv.refl hH hw,⟨rfl⟩⟩
 case round=>
  obtain⟨i,j,z,dk,rfl,rfl,hi1,hi2,hz,hs,HO⟩:=hrel;have HS:=Aj hs;by_cases hij:(i:Int)<z
  ·obtain⟨rfl,hjy⟩:z=j∧j<y:=by omega
   have hf:=hs.dQ;obtain⟨G,hG⟩:∃G:Nat→Int,∀t,G t=dk[t]!:=⟨fun t=>dk[t]!,fun _=>rfl⟩
   have hc:∀t,t<d.size→wr.cell? ⟨b,o+t,none⟩=some (.int .u64 (G t)):=fun t ht=>by rw[hG];exact hs.cell t ht
   have HG:=Aj hG;clear hs hG hz;go_wp2_with fail;go_region
   all_goals go_wp2
   go_roundw
   case rel=>
    refine⟨i+1,j-1,(j:Int)-1,Sort.swp dk i j,by go_num,rfl,om,om,om,?_,⟨?_⟩⟩
    ·rw[HG.1,HG.1];exact(HS.1.drewN _).swp (i:=i) (j:=j) om om
    ·rw[←HO.1,reverseLoop.eq_def i j dk,Ps0 om]
   case measure=>simp[intOf];omega
  ·clear hs;go_wp2;go_end0;refine⟨rfl,?_⟩;rw[Sort.reverseRange,←HO.1,reverseLoop,Ng om];exact HS.1
theorem um (b o c l h f:Nat) (d) (n) (w) (hn:d.size=n) (hH:Holds eU w b o d) (hw:b<w.heap.size) (hl:l≤h) (hh:f+h≤n) (hsz:n<4611686018427387904):
  Calls prog 310 #[.slice (some ⟨b,o,none⟩) n c,.int .i64 l,.int .i64 h,.int .i64 f] w fun e w'=>e= .returned (.tuple #[])∧Sv w b o d (Sort.siftDown ltInt h f l d) w':=by
 subst hn;go_enter func310,ntmps310;go_wp2;go_loopw [8] (fun vr wr=>∃(r:Nat) (dk:Array Int),vr= .int .i64 r∧r≤h∧Sv w b o d dk wr∧Kept (Sort.siftDown ltInt h f r dk=Sort.siftDown ltInt h f l d)) (fun vr _=>h-(intOf vr).toNat)
 case atStart=>exact⟨l,d,rfl,hl,Sv.refl hH hw,⟨rfl⟩⟩
 case round=>
  obtain⟨r,dk,rfl,hr,hs,HO⟩:=hrel;have HS:=Aj hs;by_cases h0:h≤2*r+1
  ·have h0':(h:Int)≤2*(r:Int)+1:=by omega
   clear hs;go_wp2;go_end0;refine⟨rfl,?_⟩;rw[←HO.1,sd_end ltInt dk h0];exact HS.1
  ·have h0':¬(h:Int)≤2*(r:Int)+1:=by omega
   have hf:=hs.dQ;obtain⟨G,hG⟩:∃G:Nat→Int,∀t,G t=dk[t]!:=⟨fun t=>dk[t]!,fun _=>rfl⟩
   have hc:∀t,t<d.size→wr.cell? ⟨b,o+t,none⟩=some (.int .u64 (G t)):=fun t ht=>by rw[hG];exact hs.cell t ht
   have HG:=Aj hG;clear hs hG;have key:∃q,r<q∧q<h∧(ltInt (G (f+r)) (G (f+q))=false→Sort.siftDown ltInt h f r dk=dk)∧(ltInt (G (f+r)) (G (f+q))=true→Sort.siftDown ltInt h f r dk=Sort.siftDown ltInt h f q (Sort.swp dk (f+r) (f+q)))∧
     ((q=2*r+2∧2*r+2<h∧ltInt (G (f+2*r+1)) (G (f+2*r+2))=true)∨(q=2*r+1∧2*r+2<h∧ltInt (G (f+2*r+1)) (G (f+2*r+2))=false)∨(q=2*r+1∧¬2*r+2<h)):=by
    simp only[HG.1];by_cases h1:2*r+2<h
    ·by_cases h2:ltInt dk[f+(2*r+1)]! dk[f+(2*r+2)]! =true
     ·exact⟨2*r+2,om,h1,fun h3=>sd_right_stop ltInt dk h1 h2 h3,fun h3=>sd_right_go ltInt dk h1 h2 h3,.inl ⟨rfl,h1,h2⟩⟩
     ·have h2:ltInt dk[f+(2*r+1)]! dk[f+(2*r+2)]! =false:=by simpa using h2
      exact⟨2*r+1,om,om,fun h3=>sd_left_stop ltInt dk om (fun _=>h2) h3,fun h3=>sd_left_go ltInt dk om (fun _=>h2) h3,.inr (.inl ⟨rfl,h1,h2⟩)⟩
    ·exact⟨2*r+1,om,om,fun h3=>sd_left_stop ltInt dk om (fun h=>absurd h h1) h3,fun h3=>sd_left_go ltInt dk om (fun h=>absurd h h1) h3,.inr (.inr ⟨rfl,h1⟩)⟩
   obtain⟨q,hq1,hq2,hqs,hqg,hq⟩:=key;have HQS:=Aj hqs;have HQG:=Aj hqg;clear hqs hqg;have hlt:ltInt (G (f+r)) (G (f+q))=false∨ltInt (G (f+r)) (G (f+q))=true:=by cases ltInt (G (f+r)) (G (f+q))<;>simp
   rcases hq with⟨hq,h1,h2⟩|⟨hq,h1,h2⟩|⟨hq,h1⟩
   ·have h1':2*(r:Int)+1+1< (h:Int):=by omega
    go_wp2_with fail;go_quiet (first|(go_at_call 283;refine Calls.quiet_of_same (au _ _ _)));go_wp2_with fail;rw[show 2*(r:Int)+1+1=(q:Int)from om];have hc2:∀t,t<d.size→(wr.drewN nq).cell? ⟨b,o+t,none⟩=some (.int .u64 (G t)):=hc;have hf2:∀t,t<d.size→(wr.drewN nq).frozen? ⟨b,o+t,none⟩=false:=hf;have HS2:=Aj (HS.1.drewN nq);clear hc hf HS hq h1;generalize wr.drewN nq=w2 at*;rcases hlt with hlt|hlt
    ·go_quiet (first|(go_at_call 283;refine Calls.quiet_of_same (au _ _ _)));go_wp2_with fail
     (try simp only[Exit.inBlock,Exit.then]);refine AQ (BI rfl _ _ _) rfl ?_
     refine⟨rfl,?_⟩;rw[←HO.1,HQS.1 hlt];exact HS2.1.drewN _
    ·go_quiet (first|(go_at_call 283;refine Calls.quiet_of_same (au _ _ _)));go_wp2_with fail;go_region
     all_goals go_wp2
     go_roundw
     case rel=>
      refine⟨q,Sort.swp dk (f+r) (f+q),rfl,om,?_,⟨?_⟩⟩
      ·rw[HG.1,HG.1];exact(HS2.1.drewN _).swp (i:=f+r) (j:=f+q) om om
      ·rw[←HO.1,HQG.1 hlt]
     case measure=>simp[intOf];omega
   ·have h1':2*(r:Int)+1+1< (h:Int):=by omega
    go_wp2_with fail;go_quiet (first|(go_at_call 283;refine Calls.quiet_of_same (au _ _ _)));go_wp2_with fail;rw[show 2*(r:Int)+1=(q:Int)from om];have hc2:∀t,t<d.size→(wr.drewN nq).cell? ⟨b,o+t,none⟩=some (.int .u64 (G t)):=hc;have hf2:∀t,t<d.size→(wr.drewN nq).frozen? ⟨b,o+t,none⟩=false:=hf;have HS2:=Aj (HS.1.drewN nq);clear hc hf HS hq h1;generalize wr.drewN nq=w2 at*;rcases hlt with hlt|hlt
    ·go_quiet (first|(go_at_call 283;refine Calls.quiet_of_same (au _ _ _)));go_wp2_with fail
     (try simp only[Exit.inBlock,Exit.then]);refine AQ (BI rfl _ _ _) rfl ?_
     refine⟨rfl,?_⟩;rw[←HO.1,HQS.1 hlt];exact HS2.1.drewN _
    ·go_quiet (first|(go_at_call 283;refine Calls.quiet_of_same (au _ _ _)));go_wp2_with fail;go_region
     all_goals go_wp2
     go_roundw
     case rel=>
      refine⟨q,Sort.swp dk (f+r) (f+q),rfl,om,?_,⟨?_⟩⟩
      ·rw[HG.1,HG.1];exact(HS2.1.drewN _).swp (i:=f+r) (j:=f+q) om om
      ·rw[←HO.1,HQG.1 hlt]
     case measure=>simp[intOf];omega
   ·have h1':decide (2*(r:Int)+1+1< (h:Int))=false:=Az om;go_wp2_with fail;go_quiet (first|(go_at_call 283;refine Calls.quiet_of_same (au _ _ _)));go_wp2_with fail;rw[show 2*(r:Int)+1=(q:Int)from om];have hc2:∀t,t<d.size→(wr.drewN nq).cell? ⟨b,o+t,none⟩=some (.int .u64 (G t)):=hc;have hf2:∀t,t<d.size→(wr.drewN nq).frozen? ⟨b,o+t,none⟩=false:=hf;have HS2:=Aj (HS.1.drewN nq);clear hc hf HS hq h1;generalize wr.drewN nq=w2 at*;rcases hlt with hlt|hlt
    ·go_quiet (first|(go_at_call 283;refine Calls.quiet_of_same (au _ _ _)));go_wp2_with fail
     (try simp only[Exit.inBlock,Exit.then]);refine AQ (BI rfl _ _ _) rfl ?_
     refine⟨rfl,?_⟩;rw[←HO.1,HQS.1 hlt];exact HS2.1.drewN _
    ·go_quiet (first|(go_at_call 283;refine Calls.quiet_of_same (au _ _ _)));go_wp2_with fail;go_region
     all_goals go_wp2
     go_roundw
     case rel=>
      refine⟨q,Sort.swp dk (f+r) (f+q),rfl,om,?_,⟨?_⟩⟩
      ·rw[HG.1,HG.1];exact(HS2.1.drewN _).swp (i:=f+r) (j:=f+q) om om
      ·rw[←HO.1,HQG.1 hlt]
     case measure=>simp[intOf];omega
end
section
open Go.Sort
theorem Jd (b o c x y) (d) (w) (hH:Holds eU w b o d) (hw:b<w.heap.size) (hxy:x≤y) (hy:y≤d.size) (hsz:d.size<4611686018427387904):
  Calls prog 302 #[.slice (some ⟨b,o,none⟩) d.size c,.int .i64 x,.int .i64 y] w fun e w'=>e= .returned (.tuple #[])∧Sv w b o d (Sort.heapSort ltInt d x y) w':=by
 have hst:=half_start hxy;obtain⟨L,hL⟩:∃L,y-x=L:=⟨y-x,rfl⟩
 have hLi:(y:Int)-(x:Int)=(L:Int):=om;have hxL:x+L≤d.size:=om;unfold Sort.heapSort;rw[hL]at hst⊢;rw[hLi]at hst;clear hL hxy hy;obtain⟨K,hK⟩:∃K,K=(L-1)/2+1:=⟨_,rfl⟩
 rw[←hK]at hst⊢;have hKL:K≤L+1:=om;clear hK;go_enter func302,ntmps302;go_wp2;go_loopw [9] (fun vi wr=>∃(k:Nat) (dk:Array Int),vi= .int .i64 ((k:Int)-1)∧k≤K∧Sv w b o d dk wr∧Kept (heapBuild ltInt L x k dk=heapBuild ltInt L x K d)) (fun vi _=>(intOf vi+1).toNat)
 case atStart=>exact⟨K,d,by first|rw[hst]|rfl,Nr _,Sv.refl hH hw,⟨rfl⟩⟩
 case round=>
  obtain⟨k,dk,hv,hk,hs,HO⟩:=hrel;obtain rfl|⟨m,rfl⟩:k=0∨∃m,k=m+1:=by cases k with|zero=>exact .inl rfl|succ m=>exact .inr ⟨m,rfl⟩
  ·obtain⟨z,hz,hz1⟩:∃z:Int,z<0∧((0:Nat):Int)-1=z:=⟨-1,om,rfl⟩
   rw[hz1]at hv;subst hv;clear hz1;have HB:=Aj (show heapBuild ltInt L x K d=dk from HO.1.symm);have HS:=Aj hs;clear hs HO hst;go_wp2;go_loopw [10] (fun vi wr=>∃(k:Nat) (dj:Array Int),vi= .int .i64 ((k:Int)-1)∧k≤L∧Sv w b o d dj wr∧Kept (heapPop ltInt x k dj=heapPop ltInt x L dk)) (fun vi _=>(intOf vi+1).toNat)
   case atStart=>exact⟨L,dk,rfl,Nr _,HS.1,⟨rfl⟩⟩
   case round=>
    obtain⟨k,dj,rfl,hk,hs,HP⟩:=hrel;have HS2:=Aj hs;obtain rfl|⟨m,rfl⟩:k=0∨∃m,k=m+1:=by cases k with|zero=>exact .inl rfl|succ m=>exact .inr ⟨m,rfl⟩
    ·clear hs;go_wp2;go_end0;refine⟨rfl,?_⟩;rw[HB.1,←HP.1];exact HS2.1
    ·have hf:=hs.dQ;obtain⟨G,hG⟩:∃G:Nat→Int,∀t,G t=dj[t]!:=⟨fun t=>dj[t]!,fun _=>rfl⟩
     have hc:∀t,t<d.size→wr.cell? ⟨b,o+t,none⟩=some (.int .u64 (G t)):=fun t ht=>by rw[hG];exact hs.cell t ht
     have HG:=Aj hG;have hm1:((m+1:Nat):Int)-1=(m:Int):=om;clear hs hG;have SD:=Aj (fun(w1:World) (h1:Sv w b o d (Sort.swp dj x (x+m)) w1)=>um b o c 0 m x (Sort.swp dj x (x+m)) d.size w1 h1.sz h1.holds.1 h1.holds.2 (bE _) om hsz);rcases nz m with hm|hm
     ·subst hm;go_wp2_with fail;go_region;have H1:Sv w b o d (Sort.swp dj x (x+0)) (((wr.setCell ⟨b,o+x,none⟩ (.int .u64 (G (x+0)))).setCell ⟨b,o+(x+0),none⟩ (.int .u64 (G x))).drew):=by rw[HG.1,HG.1];exact(HS2.1.swp (i:=x) (j:=x+0) om om).drewN 1
      have H1:=Aj H1;clear hc hf;generalize (((wr.setCell ⟨b,o+x,none⟩ (.int .u64 (G (x+0)))).setCell ⟨b,o+(x+0),none⟩ (.int .u64 (G x))).drew)=w1 at*;have hz0:x+0=x:=rfl;have SD1:=Aj (SD.1 w1 H1.1);clear SD;go_wp2_with (go_at_call 310;refine SD1.1.mono ?_;rintro e w2 ⟨rfl,h2⟩;have H2:=Aj (H1.1.step h2);clear h2);go_roundw
      case rel=>
       exact⟨0,_,rfl,om,H2.1,⟨by rw[←HP.1];rfl⟩⟩
      case measure=>first|(simp[intOf];done)|(simp[intOf];omega)
     ·skip;go_wp2_with fail;go_region;have H1:Sv w b o d (Sort.swp dj x (x+m)) (((wr.setCell ⟨b,o+x,none⟩ (.int .u64 (G (x+m)))).setCell ⟨b,o+(x+m),none⟩ (.int .u64 (G x))).drew):=by rw[HG.1,HG.1];exact(HS2.1.swp (i:=x) (j:=x+m) om om).drewN 1
      have H1:=Aj H1;clear hc hf;generalize (((wr.setCell ⟨b,o+x,none⟩ (.int .u64 (G (x+m)))).setCell ⟨b,o+(x+m),none⟩ (.int .u64 (G x))).drew)=w1 at*;have SD1:=Aj (SD.1 w1 H1.1);clear SD;go_wp2_with (go_at_call 310;refine SD1.1.mono ?_;rintro e w2 ⟨rfl,h2⟩;have H2:=Aj (H1.1.step h2);clear h2);go_roundw
      case rel=>
       exact⟨m,_,rfl,om,H2.1,⟨by rw[←HP.1];rfl⟩⟩
      case measure=>first|(simp[intOf];done)|(simp[intOf];omega)
  ·subst hv;have SD:=Aj (um b o c m L x dk d.size wr hs.sz hs.holds.1 hs.holds.2 om hxL hsz);have HS:=Aj hs;have hm1:((m+1:Nat):Int)-1=(m:Int):=om;clear hs;go_wp2_with (go_at_call 310;refine SD.1.mono ?_;rintro e w1 ⟨rfl,h1⟩;have H1:=Aj (HS.1.step h1);clear h1);go_roundw
   case rel=>exact⟨m,_,rfl,om,H1.1,⟨by rw[←HO.1,heapBuild]⟩⟩
   case measure=>first|(simp[intOf];done)|(simp[intOf];omega)
def Cn (w:World) (g s:Nat) (wr:World):Prop:=g=w.heap.size∧∃n,wr=(w.alloc (.cells #[.int .i64 (s:Int)] 3)).drewN n
theorem Cn.start (w):Cn w w.heap.size 0 (w.alloc (.cells #[.int .i64 0] 3)):=⟨rfl,0,rfl⟩
theorem Cn.drewN {w wr} {g s} (h:Cn w g s wr) (k):Cn w g s (wr.drewN k):=by
 obtain⟨hg,n,rfl⟩:=h;exact⟨hg,n+k,by simp[World.drewN,gM]⟩
theorem Cn.row {w wr} {g s} (h:Cn w g s wr):wr.heap[g]? =some (.cells #[.int .i64 (s:Int)] 3 (0,0)):=by
 obtain⟨rfl,n,rfl⟩:=h;exact Av w _
theorem Cn.k0 {w wr} {g s} (h:Cn w g s wr):wr.cell? ⟨g,0,none⟩=some (.int .i64 (s:Int)):=Co _ _ 0 _ _ _ h.row
theorem Cn.set {w wr} {g s} (h:Cn w g s wr) (t):Cn w g t (wr.setCell ⟨g,0,none⟩ (.int .i64 (t:Int))):=by
 obtain⟨rfl,n,rfl⟩:=h;refine⟨rfl,n,?_⟩;have e:∀v,(w.alloc (.cells #[.int .i64 (s:Int)] 3)).setCell ⟨w.heap.size,0,none⟩ v=w.alloc (.cells #[v] 3):=fun v=>by
  unfold World.setCell World.alloc
  congr 1
  apply Array.ext_getElem?;intro k;simp only[Dj,Array.getElem?_push];by_cases hk:w.heap.size=k
  ·subst hk;simp
  ·simp[hk,show¬k=w.heap.size from om]
 show((w.alloc (.cells #[.int .i64 (s:Int)] 3)).setCell ⟨w.heap.size,0,none⟩ (.int .i64 (t:Int))).drewN n=_;rw[e]
theorem Cn.cell {w wr} {g s b o} {d} (h:Cn w g s wr) (hH:Holds eU w b o d) (hb:b<w.heap.size):∀t,t<d.size→wr.cell? ⟨b,o+t,none⟩=some (.int .u64 d[t]!):=fun t ht=>by
 obtain⟨rfl,n,rfl⟩:=h;exact(AJ _ _ ⟨b,o+t,none⟩ hb).trans (hH t ht).1
theorem Cn.sv {w wr} {g s b o} {d} (h:Cn w g s wr) (hH:Holds eU w b o d) (hb:b<w.heap.size):Sv w b o d d wr:=by
 obtain⟨rfl,n,rfl⟩:=h;refine⟨hH,hb,rfl,(At.refl hH).same hH rfl hb ⟨n,#[.cells #[.int .i64 (s:Int)] 3],?_⟩⟩;rw[alloc_eq_grow];rfl
theorem xw {d} {a b s n} (ha:a<n) (hb:b<n):(Sort.order2 ltInt d a b s).1<n∧(Sort.order2 ltInt d a b s).2.1<n:=by
 unfold Sort.order2;split<;>exact⟨by assumption,by assumption⟩
theorem Fv (d) (a b s):(Sort.order2 ltInt d a b s).2.2≤s+1:=by unfold Sort.order2;split<;>simp
theorem uo (b o c x y g s n) (d) (w wr) (hn:d.size=n) (hH:Holds eU w b o d) (hw:b<w.heap.size) (hC:Cn w g s wr) (hx:x<n) (hy:y<n) (hsz:n<4611686018427387904) (hs:s≤1000):
  Calls prog 313 #[.slice (some ⟨b,o,none⟩) n c,.int .i64 x,.int .i64 y,.pointer (some ⟨g,0,none⟩)] wr fun e w'=>e= .returned (.tuple #[.int .i64 (Sort.order2 ltInt d x y s).1,.int .i64 (Sort.order2 ltInt d x y s).2.1])∧Cn w g (Sort.order2 ltInt d x y s).2.2 w':=by
 subst hn;obtain⟨G,hG⟩:∃G:Nat→Int,∀t,G t=d[t]!:=⟨fun t=>d[t]!,fun _=>rfl⟩
 have hc:∀t,t<d.size→wr.cell? ⟨b,o+t,none⟩=some (.int .u64 (G t)):=fun t ht=>by rw[hG];exact hC.cell hH hw t ht
 have k0:=Co _ _ 0 _ _ _ hC.row;have f0:=Fr _ _ 0 _ _ hC.row;have HC:=Aj hC;have ho:Kept (Sort.order2 ltInt d x y s=if ltInt (G y) (G x)then(y,x,s+1)else(x,y,s)):=⟨by rw[hG,hG];rfl⟩
 clear hC hG hH;by_cases hl:ltInt (G y) (G x)=true
 ·go_enter func313,ntmps313;go_wp2_with fail;go_quiet (first|(go_at_call 283;refine Calls.quiet_of_same (au _ _ _)));go_wp2
  all_goals first|(exfalso;rename_i hx;rw[hl]at hx;exact Bool.noConfusion hx)|skip
  go_ret2;rw[ho.1,Ps0 hl];exact⟨rfl,(HC.1.drewN _).set (s+1)⟩
 ·have hl:ltInt (G y) (G x)=false:=by simpa using hl
  go_enter func313,ntmps313;go_wp2_with fail;go_quiet (first|(go_at_call 283;refine Calls.quiet_of_same (au _ _ _)));go_wp2
  all_goals first|(exfalso;rename_i hx;rw[hl]at hx;exact Bool.noConfusion hx)|skip
  go_ret2;rw[ho.1,Ng (by simp[hl])];exact⟨rfl,HC.1.drewN _⟩
theorem uq (b o c x y z g s n) (d) (w wr) (hn:d.size=n) (hH:Holds eU w b o d) (hw:b<w.heap.size) (hC:Cn w g s wr) (hx:x<n) (hy:y<n) (hz:z<n) (hsz:n<4611686018427387904) (hs:s≤900):
  Calls prog 312 #[.slice (some ⟨b,o,none⟩) n c,.int .i64 x,.int .i64 y,.int .i64 z,.pointer (some ⟨g,0,none⟩)] wr fun e w'=>e= .returned (.int .i64 (Sort.median ltInt d x y z s).1)∧Cn w g (Sort.median ltInt d x y z s).2 w':=by
 have h1:=uo b o c x y g s n d w wr hn hH hw hC hx hy hsz om;have⟨l1,l2⟩:=xw (d:=d) (s:=s) hx hy;have l3:=Fv d x y s;have hm:Sort.median ltInt d x y z s=(let r1:=Sort.order2 ltInt d x y s;let r2:=Sort.order2 ltInt d r1.2.1 z r1.2.2;let r3:=Sort.order2 ltInt d r1.1 r2.1 r2.2.2;(r3.2.1,r3.2.2)):=rfl;rw[hm];generalize Sort.order2 ltInt d x y s=R1 at*;obtain⟨p1,q1,s1⟩:=R1;simp only[]at h1 l1 l2 l3⊢;have h2:=fun(w1:World) (h:Cn w g s1 w1)=>uo b o c q1 z g s1 n d w w1 hn hH hw h l2 hz hsz om
 have⟨m1,m2⟩:=xw (d:=d) (s:=s1) l2 hz;have m3:=Fv d q1 z s1;generalize Sort.order2 ltInt d q1 z s1=R2 at*;obtain⟨p2,q2,s2⟩:=R2;simp only[]at h2 m1 m2 m3⊢;have h3:=fun(w1:World) (h:Cn w g s2 w1)=>uo b o c p1 p2 g s2 n d w w1 hn hH hw h l1 m1 hsz om
 generalize Sort.order2 ltInt d p1 p2 s2=R3 at*;obtain⟨p3,q3,s3⟩:=R3;simp only[]at h3⊢;have H1:=Aj h1;have H2:=Aj h2;have H3:=Aj h3;clear h1 h2 h3 hm hC hH hn;go_enter func312,ntmps312;go_wp2_with (first
  |(go_at_call 313;refine(H3.1 w2 C2.1).mono ?_;rintro e w3 ⟨rfl,c3⟩;have C3:=Aj c3;clear c3)
  |(go_at_call 313;refine(H2.1 w1 C1.1).mono ?_;rintro e w2 ⟨rfl,c2⟩;have C2:=Aj c2;clear c2)
  |(go_at_call 313;refine H1.1.mono ?_;rintro e w1 ⟨rfl,c1⟩;have C1:=Aj c1;clear c1))
 go_ret;exact⟨rfl,C3.1⟩
theorem kW (b o c x g s n:Nat) (d) (w wr) (hn:d.size=n) (hH:Holds eU w b o d) (hw:b<w.heap.size) (hC:Cn w g s wr) (h0:1≤x) (hx:x+1<n) (hsz:n<4611686018427387904) (hs:s≤900):
  Calls prog 311 #[.slice (some ⟨b,o,none⟩) n c,.int .i64 x,.pointer (some ⟨g,0,none⟩)] wr fun e w'=>e= .returned (.int .i64 (Sort.medianAdjacent ltInt d x s).1)∧Cn w g (Sort.medianAdjacent ltInt d x s).2 w':=by
 have h1:=uq b o c (x-1) x (x+1) g s n d w wr hn hH hw hC om om hx hsz hs;have e1:((x-1:Nat):Int)=(x:Int)-1:=om;have e2:((x+1:Nat):Int)=(x:Int)+1:=om;rw[e1,e2]at h1;unfold Sort.medianAdjacent;have H1:=Aj h1;clear h1 hC hH hn e1 e2;go_enter func311,ntmps311;go_wp2_with (go_at_call 312;refine H1.1.mono ?_;rintro e w1 ⟨rfl,c1⟩;have C1:=Aj c1;clear c1);go_ret;exact⟨rfl,C1.1⟩
theorem Je {d} {a b c s n} (ha:a<n) (hb:b<n) (hc:c<n):(Sort.median ltInt d a b c s).1<n:=by
 unfold Sort.median;simp only[];exact(xw (xw ha hb).1 (xw (xw ha hb).2 hc).1).2
theorem uu (d) (a b c s):(Sort.median ltInt d a b c s).2≤s+3:=by
 unfold Sort.median;simp only[];have h1:=Fv d a b s;have h2:=Fv d (Sort.order2 ltInt d a b s).2.1 c (Sort.order2 ltInt d a b s).2.2;have h3:=Fv d (Sort.order2 ltInt d a b s).1 (Sort.order2 ltInt d (Sort.order2 ltInt d a b s).2.1 c (Sort.order2 ltInt d a b s).2.2).1 (Sort.order2 ltInt d (Sort.order2 ltInt d a b s).2.1 c (Sort.order2 ltInt d a b s).2.2).2.2;omega
theorem vS (b o c x y n) (d) (w) (hn:d.size=n) (hH:Holds eU w b o d) (hw:b<w.heap.size) (hxy:x<y) (hy:y≤n) (hsz:n<4611686018427387904):
  Calls prog 304 #[.slice (some ⟨b,o,none⟩) n c,.int .i64 x,.int .i64 y] w fun e w'=>e= .returned (.tuple #[.int .i64 (Sort.choosePivot ltInt d x y).1,.int .i64 (hintCode (Sort.choosePivot ltInt d x y).2)])∧Sv w b o d d w':=by
 obtain⟨L,hL⟩:∃L,y-x=L:=⟨y-x,rfl⟩
 have hLi:(y:Int)-(x:Int)=(L:Int):=om;have hxL:x+L≤n:=om;have hL1:1≤L:=om;obtain⟨i,hi⟩:∃i,i=x+L/4*1:=⟨_,rfl⟩
 obtain⟨j,hj⟩:∃j,j=x+L/4*2:=⟨_,rfl⟩
 obtain⟨k,hk⟩:∃k,k=x+L/4*3:=⟨_,rfl⟩
 obtain⟨R,hR⟩:∃R:Nat×Nat,R=if L≥8 then(if L≥50 then Sort.median ltInt d (Sort.medianAdjacent ltInt d i 0).1 (Sort.medianAdjacent ltInt d j (Sort.medianAdjacent ltInt d i 0).2).1 (Sort.medianAdjacent ltInt d k (Sort.medianAdjacent ltInt d j (Sort.medianAdjacent ltInt d i 0).2).2).1 (Sort.medianAdjacent ltInt d k (Sort.medianAdjacent ltInt d j (Sort.medianAdjacent ltInt d i 0).2).2).2 else Sort.median ltInt d i j k 0)else(j,0):=⟨_,rfl⟩
 have hcp:Sort.choosePivot ltInt d x y=(R.1,if R.2=0 then .increasing else if R.2=12 then .decreasing else .unknown):=by
  rw[hR,hi,hj,hk,←hL];rfl
 rw[hcp];have hin:i<n:=om;have hjn:j<n:=om;have hkn:k<n:=om;have hC0:=Cn.start w;obtain⟨g,hg⟩:∃g,g=w.heap.size:=⟨_,rfl⟩
 have hi1:(x:Int)+(L:Int)/4=(i:Int):=om;have hj1:(x:Int)+(L:Int)/4*2=(j:Int):=om;have hk1:(x:Int)+(L:Int)/4*3=(k:Int):=om;clear hcp hL;by_cases h8:L≥8
 ·have h8':(8:Int)≤(L:Int):=by omega
  rw[Ps0 h8]at hR;by_cases h50:L≥50
  ·have Yt:(50:Int)≤(L:Int):=by omega
   rw[Ps0 h50]at hR;have A1:=kW b o c i g 0 n d w _ hn hH hw (hg▸hC0) om om hsz om;have a1:(Sort.medianAdjacent ltInt d i 0).1<n:=Je om om om;have b1:(Sort.medianAdjacent ltInt d i 0).2≤0+3:=uu _ _ _ _ _;generalize Sort.medianAdjacent ltInt d i 0=R1 at*;obtain⟨i2,s1⟩:=R1;simp only[]at A1 a1 b1 hR;have A2:=fun(w1:World) (h:Cn w g s1 w1)=>kW b o c j g s1 n d w w1 hn hH hw h om om hsz om
   have a2:(Sort.medianAdjacent ltInt d j s1).1<n:=Je om om om;have b2:(Sort.medianAdjacent ltInt d j s1).2≤s1+3:=uu _ _ _ _ _;generalize Sort.medianAdjacent ltInt d j s1=R2 at*;obtain⟨j2,s2⟩:=R2;simp only[]at A2 a2 b2 hR;have A3:=fun(w1:World) (h:Cn w g s2 w1)=>kW b o c k g s2 n d w w1 hn hH hw h om om hsz om
   have a3:(Sort.medianAdjacent ltInt d k s2).1<n:=Je om om om;have b3:(Sort.medianAdjacent ltInt d k s2).2≤s2+3:=uu _ _ _ _ _;generalize Sort.medianAdjacent ltInt d k s2=R3 at*;obtain⟨k2,s3⟩:=R3;simp only[]at A3 a3 b3 hR;have A4:=fun(w1:World) (h:Cn w g s3 w1)=>uq b o c i2 j2 k2 g s3 n d w w1 hn hH hw h a1 a2 a3 hsz om
   have b4:=uu d i2 j2 k2 s3;rw[←hR]at A4 b4;obtain⟨m,s⟩:=R;simp only[]at A4 b4⊢;have FIN:=Aj (fun(w1:World) (h:Cn w g s w1)=>h.sv hH hw);have H1:=Aj A1;have H2:=Aj A2;have H3:=Aj A3;have H4:=Aj A4;subst hg;clear A1 A2 A3 A4 hn hH hw hR hC0 a1 a2 a3 hin hjn hkn hi hj hk;have hss:s=0∨s=12∨(s≠0∧s≠12):=om;rcases hss with rfl|rfl|⟨hs1,hs2⟩
   all_goals
    go_enter func304,ntmps304;go_wp2_with (first
     |(go_at_call 312;refine(H4.1 w3 C3.1).mono ?_;rintro e w4 ⟨rfl,c4⟩;have C4:=Aj c4;have k0:=c4.k0;clear c4)
     |(go_at_call 311;refine(H3.1 w2 C2.1).mono ?_;rintro e w3 ⟨rfl,c3⟩;have C3:=Aj c3;clear c3)
     |(go_at_call 311;refine(H2.1 w1 C1.1).mono ?_;rintro e w2 ⟨rfl,c2⟩;have C2:=Aj c2;clear c2)
     |(go_at_call 311;refine H1.1.mono ?_;rintro e w1 ⟨rfl,c1⟩;have C1:=Aj c1;clear c1))
    all_goals (go_ret2;refine⟨?_,FIN.1 _ C4.1⟩;first|rfl|simp[hintCode,hs1,hs2])
  ·have Yt:¬(50:Int)≤(L:Int):=by omega
   rw[Ng h50]at hR;have A4:=uq b o c i j k g 0 n d w _ hn hH hw (hg▸hC0) hin hjn hkn hsz om;have b4:=uu d i j k 0;rw[←hR]at A4 b4;obtain⟨m,s⟩:=R;simp only[]at A4 b4⊢;have FIN:=Aj (fun(w1:World) (h:Cn w g s w1)=>h.sv hH hw);have H4:=Aj A4;subst hg;clear A4 hn hH hw hR hC0 hin hjn hkn hi hj hk;have hss:s=0∨s=12∨(s≠0∧s≠12):=om;rcases hss with rfl|rfl|⟨hs1,hs2⟩
   all_goals
    go_enter func304,ntmps304;go_wp2_with (go_at_call 312;refine H4.1.mono ?_;rintro e w4 ⟨rfl,c4⟩;have C4:=Aj c4;have k0:=c4.k0;clear c4)
    all_goals (go_ret2;refine⟨?_,FIN.1 _ C4.1⟩;first|rfl|simp[hintCode,hs1,hs2])
 ·have h8':¬(8:Int)≤(L:Int):=by omega
  rw[Ng h8]at hR;subst hR;have FIN:=Aj (hC0.sv hH hw);clear hC0 hH hn hw hi hj hk;go_enter func304,ntmps304;go_wp2;go_ret2;exact⟨rfl,FIN.1⟩
end
end Go.Proofs.YtjcpmfphnodaaaaGreatDoor
