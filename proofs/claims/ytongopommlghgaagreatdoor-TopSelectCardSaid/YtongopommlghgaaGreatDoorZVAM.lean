/- Part 13. -/
import Derived.Test.YtongopommlghgaaGreatDoorZVAF
import Derived.Sort.Walk13a
import Derived.Sort.WalkB3
import Derived.Sort.LotB
import Derived.Sort.WalkD2
import Derived.Sort.LotD4
import Derived.Sort.WalkA6
import Derived.Sort.WalkC4
import Derived.StillTailTactics
namespace Go.Proofs.YtongopommlghgaaGreatDoor
set_option maxRecDepth 100000
set_option maxHeartbeats 0
open _root_.Go.Proofs.Tryz
open Go.RowKit
section
open Go.Shelf
attribute [local go_sem] Oper.semAt_some
theorem sG {w w':World} {base n c sz A xs t row} (h:w.ownsRow base t sz (.slice A n c) n xs) (hg:w.grownBy w' row)
  (hr:∀r,row=some r→ab A≠some r∨∃o:Obj,w.heap[r]? =some o∧o.isCells=false):w'.ownsRow base t sz (.slice A n c) n xs:=by
 refine⟨h.1,?_⟩;rcases h.2 with hn|⟨g,cap,cur,hv,h1,h2,rest⟩
 ·exact .inl hn
 ·refine .inr ⟨g,cap,cur,hv,h1,?_,rest⟩;rw[hg.block g (Ge.1 h2).1]
  ·exact h2
  ·intro e';rcases hr g e'.symm with h3|⟨o,ho,hoc⟩
   ·injection hv with hv
    rw[hv]at h3;exact h3 rfl
   ·rw[h2]at ho;cases ho;cases hoc
theorem zH {w:World} {base n c sz A xs t} (h:w.ownsRow base t sz (.slice A n c) n xs):∀j o,ab A=some j→w.heap[j]? =some o→o.isCells=true:=by
 intro j o ej hj;rcases h.2 with⟨hv,_⟩|⟨g',cap,cur,hv,_,hgb,_⟩
 ·injection hv with hv1;rw[hv1]at ej;cases ej
 ·injection hv with hv1
  rw[hv1]at ej;obtain rfl:g'=j:=by simpa[ab]using ej
  rw[hgb]at hj;cases hj;rfl
def nD (w:World) (B:Nat) (A:Option Addr) (n c:Nat) (LL:List Cs.gH):Prop:=
 ∃vs:List Value,Rd w B 1 A n c vs∧vs.length=LL.length∧∀(i:Nat) (l:Cs.gH),LL[i]? =some l→∃A' n' c',vs[i]? =some (.slice A' n' c')∧gV w B A' n' c' l
section
variable {w w':World} {B n c:Nat} {A:Option Addr} {LL:List Cs.gH}
theorem nD.len (h:nD w B A n c LL):n=LL.length:=by
 obtain⟨vs,h1,h2,_⟩:=h;have:=h1.2.2.1;omega
theorem nD.at_ {k} (h:nD w B A n c LL) (hk:k<LL.length):
  ∃b off A' n' c',A=some ⟨b,off,none⟩∧b<B∧w.cell? ⟨b,off+k,none⟩=some (.slice A' n' c')∧gV w B A' n' c' LL[k]:=by
 have hn:=h.len;obtain⟨vs,h1,h2,h3⟩:=h;obtain⟨b,off,u,e,hb,hu,hc⟩:=h1.at_ (k:=k) om;obtain⟨A',n',c',e',hr⟩:=h3 k LL[k] (ja hk);rw[hu]at e'
 injection e' with e'
 subst e';exact⟨b,off,A',n',c',e,hb,hc,hr⟩
theorem nD.take (h:nD w B A n c LL) {k} (hk:k≤n):nD w B A k c (LL.take k):=by
 have hn:=h.len;obtain⟨vs,h1,h2,h3⟩:=h;have:=h1.take hk;rw[C8]at this;refine⟨_,this,by simp[h2],fun i l hl=>?_⟩;rw[List.getElem?_take]at hl;split at hl
 ·next hi=>
  obtain⟨A',n',c',e',hr⟩:=h3 i l hl;exact⟨A',n',c',by rw[List.getElem?_take,Ps0 hi];exact e',hr⟩
 ·cases hl
end
theorem Tn:(prog.info? 55).map (fun i=>(i.zero,i.size,i.bytes))=some (some (.slice none 0 0),1,24):=kr
theorem Rd.hdM (w:World) (v):Rd (w.alloc (.cells #[v] 55)) (w.heap.size+1) 1 (some ⟨w.heap.size,0,none⟩) 1 1 [v]:=
 ⟨Nr _,by unfold maxLen;omega,rfl,fun _=>⟨_,0,rfl,om,fun i u hu=>by
  match i,hu with
  |0,hu=>simp at hu;subst hu;exact Ao w _ _ _ 0⟩⟩
namespace Ck
def oQ (n:Nat):Nat:=(n+119)/120
def GK (A:Option Addr) (n j:Nat):Value:= .slice (A.map (·.add (120*j*2))) (min 120 (n-120*j)) (min 120 (n-120*j))
theorem uH (l):jC l=(List.range (oQ l.length)).map fun j=>(l.drop (120*j)).take 120:=by
 by_cases h:l=[]
 ·subst h;rw[dX];rfl
 ·have hp:=oW.2 h;rw[jR h,uH (l.drop 120),mg];have e:oQ l.length=oQ (l.length-120)+1:=by unfold oQ;omega
  rw[e,List.range_succ_eq_map,Az,Ca]
  congr 1
  refine Dx fun j _=>?_
  show((l.drop 120).drop (120*j)).take 120=(l.drop (120*(j+1))).take 120;rw[List.drop_drop]
  congr 2
  omega
termination_by l.length
decreasing_by
 have:=oW.2 h;rw[mg];omega
end Ck
def Tq (v:Value):Array Value:= #[v]
theorem zI (n bx bk B A m c) (l:Cs.gH) (w) (hw:Boxed w bx 55 (.slice A m c)) (hk:Boxed w bk 3 (.int .i64 120)) (hbx:bx<B) (hbk:bk<B) (hv:gV w B A m c l) (hm:m≤1000000000):
  Yields n prog 240 #[.pointer (some ⟨bx,0,none⟩),.pointer (some ⟨bk,0,none⟩)] Tq (fun _=>False) (fun X Y=>Below B X Y) ((List.range (Ck.oQ m)).map (Ck.GK A m)) w:=by
 intro q J Jx W hK hJ hJx aW h0;have hlc:=hv.1;have hcm:=hv.2.1;unfold maxLen at hcm;have hW:Boxed W bx 55 (.slice A m c):=(hK.block bx hbx).trans hw;have hW2:Boxed W bk 3 (.int .i64 120):=(hK.block bk hbk).trans hk;have V:=Aj (hv.below hK);have bL:=Aj aW;have KW:=Aj (show∀W',Below B W W'→W'.cell? ⟨bx,0,none⟩=some (.slice A m c)∧W'.cell? ⟨bk,0,none⟩=some (.int .i64 120)from fun W' hb=>⟨(show Boxed W' bx 55 (.slice A m c)from(hb.block bx hbx).trans hW).cell,(show Boxed W' bk 3 (.int .i64 120)from(hb.block bk hbk).trans hW2).cell⟩);have MJ:=Aj hJ;clear hw hK aW hJ hJx hv hW hW2 hk;refine Bl.2 ?_;go_enter func240,ntmps240;go_wp2;go_loopw [4] (fun i wr=>∃k:Nat,k≤Ck.oQ m∧i= .int .i64 ((120*k:Nat):Int)∧Below B W wr∧Kept (J (((List.range (Ck.oQ m)).map (Ck.GK A m)).take k) wr)) (fun i _=>m+120-(intOf i).toNat)
 case atStart=>exact⟨0,om,rfl,Ae _ _,⟨h0⟩⟩
 case round=>
  clear h0;obtain⟨k,hk,rfl,hb,hj⟩:=hrel;obtain⟨k0,k1⟩:=KW.1 _ hb;by_cases hlt:120*k<m
  ·have hlt':((120*k:Nat):Int)< (m:Int):=by omega
   have hc1:¬c=120*k:=om;have hkn:k<Ck.oQ m:=by unfold Ck.oQ;omega
   have hkl:k< ((List.range (Ck.oQ m)).map (Ck.GK A m)).length:=by rw[fM,Cz];exact hkn
   have ht:=Ts hkl;have hg:((List.range (Ck.oQ m)).map (Ck.GK A m))[k]=Ck.GK A m k:=sm;rw[hg]at ht;have HT:=Aj ht;have BB:=Aj hb;have HJ:=Aj hj.1;clear ht hg hb hj;obtain⟨b,off,rfl,-,-⟩:=V.1.2.2.2 om;go_wp2;go_quiet (fail);obtain⟨e,he⟩:∃e,e=min 120 (m-120*k):=⟨_,rfl⟩
   have hmin:min (120:Int) ((m-120*k:Nat):Int)=(e:Int):=om;rw[hmin];have he1:1≤e:=om;have he2:120*k+e≤m:=om;have HE:Kept (Ck.GK (some ⟨b,off,none⟩) m k= .slice (some ⟨b,off+120*k*2,none⟩) e e):=⟨by unfold Ck.GK;rw[Cb,add_plain,←he]⟩
   clear hmin he;have J0:=MJ.1 _ _ (wr.drewN nq) none HJ.1 ⟨rfl,rfl,rfl,Nr _,fun _ _ _=>rfl⟩ (fun r h=>by cases h);obtain⟨fn,tmps,assign,body,hy,oN⟩:=bL.1 _ (Ck.GK (some ⟨b,off,none⟩) m k) (wr.drewN nq) J0 ⟨((List.range (Ck.oQ m)).map (Ck.GK (some ⟨b,off,none⟩) m)).drop (k+1),by rw[←HT.1,jJ]⟩;unfold Tq at hy;rw[HE.1]at hy;rw[←HT.1]at oN;clear J0 k0 k1;obtain⟨k0,k1⟩:=KW.1 (wr.drewN nq) (below_drewN BB.1 nq);have BB2:=Aj (below_drewN BB.1 nq);have KW2:=Aj KW.1;clear KW bL HJ BB HE HT;generalize wr.drewN nq=wd at*;go_upto_region 4 with fail;refine(Bu (n:=n)).1 ?_
   gi_wp2
   refine⟨(fun h=>by simp[Fence.wide]at h),oN.mono ?_⟩;rintro e2 W' (⟨rfl,hj',hb'⟩|⟨rfl,rf⟩)
   ·have B2:=Aj (BB2.1.trans hb');have J2:=Aj hj';obtain⟨q0,q1⟩:=KW2.1 _ B2.1;clear hj' hb' k0 k1 oN
    gi_wp2
    go_wp2;go_roundw
    case rel=>exact⟨k+1,om,by go_num,B2.1,J2⟩
    case measure=>simp[intOf];omega
   ·have X2:=Aj rf;clear rf k0 k1 oN
    gi_wp2
    go_wp2;exact Bi (CQ rfl _ _ _) rfl ⟨⟨_,rfl⟩,.inr ⟨_,List.take_prefix _ _,X2.1⟩⟩
  ·have J2:Kept (J ((List.range (Ck.oQ m)).map (Ck.GK A m)) wr):=⟨by have:=hj.1;rwa[iM (by rw[fM,Cz];unfold Ck.oQ;omega)]at this⟩
   have hlt':¬((120*k:Nat):Int)< (m:Int):=om;clear hj;go_wp2;go_end0;exact⟨⟨_,rfl⟩,.inl J2.1⟩
def zJ (w:World) (pre:List Value) (W:World):Prop:=
 ∃A n c,Boxed W w.heap.size 147 (.slice A n c)∧W.ownsRow (w.heap.size+1) 55 1 (.slice A n c) n pre∧Below w.heap.size w W
theorem zJ.own {w}:aI (w.heap.size+1) (fun _=>False) (zJ w):=by
 rintro s W W' row ⟨A,n,c,hb,ho,hbel⟩ hg hr;have hrow:∀r,row=some r→w.heap.size<r:=fun r e=>by
  rcases hr r e with h|⟨h,_⟩
  ·exact h.elim
  ·omega
 refine⟨A,n,c,hb.kept hg (fun e=>by have:=hrow _ e.symm;omega),sG ho hg (fun r e=>?_),hbel.grown hg hbel.size (fun g e=>by have:=hrow g e;omega)⟩;rcases hr r e with h|⟨_,h⟩
 ·exact h.elim
 ·exact .inr h
theorem zJ.push {w W w5 A A4 n c c4 pre x tmp} (hW:w.heap.size+1≤W.heap.size) (hb:Boxed W w.heap.size 147 (.slice A n c)) (ho:W.ownsRow (w.heap.size+1) 55 1 (.slice A n c) n pre) (hbel:Below w.heap.size w W)
  (hown:w5.ownsRow (w.heap.size+1) 55 1 (.slice A4 (n+1) c4) (n+1) (pre++[x])) (hg:(W.alloc tmp).grownBy w5 (ab A)):
  KeepsFrom (w.heap.size+1) W (w5.setCell ⟨w.heap.size,0,none⟩ (.slice A4 (n+1) c4))∧Below w.heap.size W (w5.setCell ⟨w.heap.size,0,none⟩ (.slice A4 (n+1) c4))∧zJ w (pre++[x]) (w5.setCell ⟨w.heap.size,0,none⟩ (.slice A4 (n+1) c4)):=by
 have hlt:∀g,ab A=some g→w.heap.size+1≤g:=fun g e=>(ae ho g e).1
 have I4:∀g,ab A4=some g→w.heap.size+1≤g:=fun g e=>(ae hown g e).1
 have hcl:∀j o,ab A=some j→(W.alloc tmp).heap[j]? =some o→o.isCells=true:=zH (Oa ho tmp);have gs:=Dz w5 w.heap.size (.slice A4 (n+1) c4);have hb1:Below w.heap.size W w5:=((Ae _ W).alloc om tmp).grown hg (by simp;omega) (fun g e=>by have:=hlt g e;omega);have hb2:Below w.heap.size W (w5.setCell ⟨w.heap.size,0,none⟩ (.slice A4 (n+1) c4)):=hb1.setCell (p:=⟨w.heap.size,0,none⟩) Ai _;refine⟨(((DY W _).trans (CU hg hcl)).trans (Cu _ _ _)).from _,hb2,A4,n+1,c4,?_,?_,hbel.trans hb2⟩
 ·refine Boxed.set _ ((hb.alloc tmp).kept hg (fun e=>?_));have:=hlt _ e.symm;omega
 ·exact sG hown gs (fun r e=> .inl fun e2=>by cases e;have:=I4 _ e2;omega)
theorem uI (bx bk A m c) (l:Cs.gH) (w) (hw:Boxed w bx 55 (.slice A m c)) (hk:Boxed w bk 3 (.int .i64 120)) (hv:gV w w.heap.size A m c l) (hm:m≤1000000000):
  Calls prog 239 #[.slice none 0 0,.func (.func 240) #[] #[.pointer (some ⟨bx,0,none⟩),.pointer (some ⟨bk,0,none⟩)]] w fun e w'=>∃A2 n2 c2,e= .returned (.slice A2 n2 c2)∧w'.ownsRow w.heap.size 55 1 (.slice A2 n2 c2) n2 ((List.range (Ck.oQ m)).map (Ck.GK A m))∧Below w.heap.size w w':=by
 have hbx:=hw.lt;have hbk:=hk.lt;obtain⟨L,hL⟩:∃L,L=(List.range (Ck.oQ m)).map (Ck.GK A m):=⟨_,rfl⟩
 have YV:Kept (∀o,Yields 8 prog 240 #[.pointer (some ⟨bx,0,none⟩),.pointer (some ⟨bk,0,none⟩)] Tq (fun _=>False) (fun X Y=>Below w.heap.size X Y) L (w.alloc o)):=⟨fun o=>by rw[hL];exact zI 8 bx bk w.heap.size A m c l (w.alloc o) (hw.alloc o) (hk.alloc o) hbx hbk (hv.alloc Ai o) hm⟩
 have hlen:Kept (L.length≤10000000):=⟨by rw[hL,fM,Cz];unfold Ck.oQ;omega⟩
 have hone:Kept (∀x∈L,∃A0 n0 c0,x= .slice A0 n0 c0):=⟨fun x hx=>by rw[hL]at hx;obtain⟨j,_,rfl⟩:=bY.1 hx;exact⟨_,_,_,rfl⟩⟩
 rw[←hL];clear hw hv hk hL;refine(Bl (n:=9)).1 ?_;refine Cv func239 rfl trivial ?_ rfl;simp only[ntmps239,Cg,Lc,Ba,Nat.reduceAdd,Nat.reduceSub,Cj,Cm,CY,Cx,AA,Bb];refine Bu.2 ?_;go_wp2;have bB:=Bd w 147 (.slice none 0 0);have hsz:(w.alloc (.cells #[.slice none 0 0] 147)).heap.size=w.heap.size+1:=sm;have g0:Below w.heap.size w (w.alloc (.cells #[.slice none 0 0] 147)):=(Ae _ _).alloc Ai _;have Y4:=YV.1 (.cells #[.slice none 0 0] 147);clear YV;generalize w.alloc (.cells #[.slice none 0 0] 147)=w4 at*;refine(Bu (n:=9)).1 ?_;refine nM Ah (gf:=240) (lb:= #[.pointer (some ⟨bx,0,none⟩),.pointer (some ⟨bk,0,none⟩)]) rfl (BH func240 kr rfl)
  (encs:=Tq) (O:=fun _=>False) (Kp:=fun X Y=>Below w.heap.size X Y) (L:=L) Y4
  (fun _ h=>h.elim) (fun h k=>h.trans k) (fun W W' row hW hg hr=>(Ae _ W).grown hg om (fun g e=>by have:=hr g e;omega)) (fun _=>rfl)
  (zJ w) (fun _ _ _=>False)
  (fun pre x a₁ W=>zJ w pre W∧
   a₁={tmps:= #[.slice none 0 0,.func (.func 240) #[] #[.pointer (some ⟨bx,0,none⟩),.pointer (some ⟨bk,0,none⟩)],.pointer (some ⟨w.heap.size,0,none⟩),undef,.slice none 0 0,x,.func (.func 240) #[] #[.pointer (some ⟨bx,0,none⟩),.pointer (some ⟨bk,0,none⟩)],
    x,undef,undef,undef,undef,undef],defers:=[]})
  ?hI (fun _ _ _ _ _ h _ _=>h) ?hM ?h0 ?assign ?body ?done ?stop
 case hI=>rw[hsz];exact zJ.own
 case hM=>
  rw[hsz];rintro pre p a₁ u W W' row ⟨hI,ha⟩ hgr hr;exact⟨zJ.own _ _ _ _ hI hgr hr,ha⟩
 case h0=>exact⟨none,0,0,bB,AX _ _ _ _,g0⟩
 case assign=>
  rintro q pre x W hI hpre hW;unfold Tq
  gi_wp2
  exact⟨⟨Nr _,fun _ _ _ h _=>h⟩,Ae _ _,hI,trivial⟩
 case body=>
  rintro q pre x a₁ W ⟨⟨A',n',c',hb,ho,hbel⟩,rfl⟩ hpre hW;have hl1:n'≤10000000:=by
   have h1:=ho.1;have h2:=hpre.length_le;have h3:=hlen.1;simp at h2;omega
  obtain⟨A0,n0,c0,rfl⟩:=hone.1 x (hpre.subset sm);have hcO:=hb.cell;have Hb:=Aj hb;have vR:=Aj ho;have HB:=Aj hbel;have hlo:∀g,ab A'=some g→w.heap.size+1≤g:=fun g e=>(ae ho g e).1
  have HLO:=Aj hlo;have h1c:Kept (∀u∈[Value.slice A0 n0 c0],u.oneCell'=true):=⟨by intro u hu;rw[gJ.1 hu];rfl⟩
  clear hb ho hbel hlo;obtain⟨i0,hi0,hz0,hz1,hz2⟩:=AV Tn
  gi_wp2_with (gi_at_builtin;refine dI _ rfl (.tmp 8) (.tmp 10) _ rfl (w.heap.size+1) 55 i0 (.slice none 0 0) 1 24 underlying147 hi0 hz0 hz1 hz2 rfl Ah A' n' c' _ rfl (Oa vR.1 _) (W.heap.size+1) _ _ _ [.slice A0 n0 c0] rfl (Rd.hdM W (.slice A0 n0 c0)) h1c.1 (by unfold maxLen;omega) om (by simp;omega) ?_;intro A4 c4 w5 av af cO;have kC:Boxed w5 w.heap.size 147 (.slice A' n' c'):=(Hb.1.alloc _).kept af (fun e=>by have:=HLO.1 _ e.symm;omega);have Qo:=kC.cell;have Qp:=kC.frozen)
  rw[hsz];exact zJ.push om Hb.1 vR.1 HB.1 av af
 case done=>
  rintro D W hD ⟨A',n',c',hb,ho,hbel⟩ hK;have hc:=hb.cell;have vR:=Aj ho;have HB:=Aj hbel;clear ho hbel;go_wp2;refine⟨sm,.inl ⟨_,_,rfl,CV hK,?_⟩⟩;have hgo:W.grownBy (W.putObj D (.deferred none)) (some D):=Bg W D _;have hb2:=sG vR.1 hgo (fun r e=>by cases e;exact .inr ⟨_,hK,rfl⟩);refine⟨_,results_tmp rfl _ _ _,A',n',c',rfl,?_,HB.1.grown hgo HB.1.size (fun g e=>by cases e;omega)⟩;exact⟨hb2.1,hb2.2.imp id fun⟨g,cap,cur,h1,h2,h3⟩=>⟨g,cap,cur,h1,om,h3⟩⟩
 case stop=>
  rintro D c pre W _ _ h _;exact h.elim
theorem bq.made (w:World) (base) (h:base≤w.heap.size):bq (w.alloc (.cells #[] 127)) base (some ⟨w.heap.size,0,none⟩) 0 0 []:=World.ownsRow_made w #[] 0 h sm rfl
theorem J9 (A n c B) (l:Cs.gH) (w) (hv:gV w B A n c l) (hB:B≤w.heap.size) (hl:n≤4398046511000):
  Calls prog 189 #[.slice A n c] w fun e w'=>∃A3 c3,e= .returned (.slice A3 n c3)∧bq w' w.heap.size A3 n c3 l∧Below w.heap.size w w':=by
 have hlc:=hv.1;have hcm:=hv.2.1;unfold maxLen at hcm;have Hv:=Aj hv;have hn:=Aj hv.len;clear hv;have qT:∀(w:World) (a:Option Addr) (n c n' c':Nat),(binOp .eql 55 (.slice a n c) (.slice none n' c')).run prog w= .ok (.bool a.isNone) w:=fun w a n c n' c'=>Lib.run_eql_slice_nil w _ _ a n c n' c' underlying55
 cases A with
 |none=>
  have h0:n=0:=by
   rcases mM n with h|h
   ·exact h
   ·obtain⟨b,off,e,_⟩:=Hv.1.2.2.2 h;cases e
  subst h0;obtain rfl:l=[]:=nL hn.1.symm;go_enter func189,ntmps189;go_wp2;go_ret;exact⟨none,0,rfl,bq.nil _ _,Ae _ _⟩
 |some a=>
  go_enter func189,ntmps189;go_wp2_with (at_builtin;refine qH rfl (.tmp 5) (.tmp 6) rfl w.heap.size _ _ _ [] rfl (bq.made w _ Ai) B _ _ _ l rfl (Rd.alloc Hv.1 hB _) om sm ?_;intro A2 c2 w1 hown1 hgrow1 Vu;have hb1:Below w.heap.size w w1:=((Ae _ w).alloc Ai _).grown hgrow1 sm (by simp[ab]));rw[AA,cK]at hown1;go_ret;exact⟨A2,c2,rfl,hown1,hb1⟩
theorem zK (bx bk A m c) (l:Cs.gH) (w) (hw:Boxed w bx 55 (.slice A m c)) (hk:Boxed w bk 3 (.int .i64 120)) (hv:gV w w.heap.size A m c l) (hm:m≤1000000000):
  Calls prog 187 #[.func (.func 240) #[] #[.pointer (some ⟨bx,0,none⟩),.pointer (some ⟨bk,0,none⟩)]] w fun e w'=>∃A2 n2 c2,e= .returned (.slice A2 n2 c2)∧w'.ownsRow w.heap.size 55 1 (.slice A2 n2 c2) n2 ((List.range (Ck.oQ m)).map (Ck.GK A m))∧Below w.heap.size w w':=by
 have AP:=Aj (uI bx bk A m c l w hw hk hv hm);clear hw hk hv;go_enter func187,ntmps187;go_wp2_with (go_at_call 239;refine AP.1.mono ?_;rintro e w1 ⟨A2,n2,c2,rfl,ho,hb⟩;have O:=Aj ho;have HB:=Aj hb;clear ho hb);go_ret;exact⟨A2,n2,c2,rfl,O.1,HB.1⟩
theorem Ka (A m c w):
  Calls prog 188 #[.slice A m c,.int .i64 120] w fun e w'=>e= .returned (.func (.func 240) #[] #[.pointer (some ⟨w.heap.size,0,none⟩),.pointer (some ⟨w.heap.size+1,0,none⟩)])∧w'=(w.alloc (.cells #[.slice A m c] 55)).alloc (.cells #[.int .i64 120] 3):=by
 have hmf:∀(fn:Fn) (first cap:Array Value) (w:World),(Instr.makeFunc fn first cap).run prog w= .ok (.func fn first cap) w:=fun _ _ _ _=>rfl
 go_enter func188,ntmps188;go_wp2;go_ret;exact⟨rfl,rfl⟩
theorem nD.chunks {w B m c A2n A A2 n2 c2} {l:Cs.gH} (hv:gV w B A m c l) (hB:B≤A2n) (ho:Rd w A2n 1 A2 n2 c2 ((List.range (Ck.oQ m)).map (Ck.GK A m))):nD w A2n A2 n2 c2 (Ck.jC l):=by
 have hn:=hv.len;refine⟨_,ho,?_,fun i s hs=>?_⟩
 ·rw[Ck.uH,fM,fM,hn]
 ·rw[Ck.uH]at hs;rw[BV]at hs⊢;obtain⟨j,hj,rfl⟩:=Dh.1 hs;rw[←hn]at hj;rw[hj];have hij:j<Ck.oQ m:=by have:=List.mem_of_getElem? hj;exact List.mem_range.1 this
  have hjm:120*j<m:=by unfold Ck.oQ at hij;omega
  refine⟨_,_,_,rfl,?_⟩;have h1:=hv.drop (k:=120*j) om;have h2:=h1.take (k:=min 120 (m-120*j)) om;have hlc:=hv.1;rw[Ng om]at h2;have e:(l.drop (120*j)).take (min 120 (m-120*j))=(l.drop (120*j)).take 120:=by
   by_cases q:120≤m-120*j
   ·rw[Nat.min_eq_left q]
   ·rw[Nat.min_eq_right om,iM (by rw[mg];omega),iM (by rw[mg];omega)]
  rw[e]at h2;have h3:gV w B (A.map (·.add (120*j*2))) (min 120 (m-120*j)) (min 120 (m-120*j)) ((l.drop (120*j)).take 120):=⟨Nr _,by have:=h2.2.1;omega,h2.2.2.1,h2.2.2.2⟩
  exact h3.more hB
end
section
open Go.Sort
abbrev eU:Int→Value:=fun x=>Value.int .u64 x
structure Sv (w:World) (b o:Nat) (d0 d:Array Int) (wr:World):Prop where
 h0:Holds eU w b o d0
 lt:b<w.heap.size
 sz:d.size=d0.size
 at_:At eU w b o d wr
section
variable {w wr w2:World} {b o:Nat} {d0 d d':Array Int}
theorem Sv.refl (h:Holds eU w b o d0) (hb:b<w.heap.size):Sv w b o d0 d0 w:=⟨h,hb,rfl,At.refl h⟩
theorem Sv.holds (h:Sv w b o d0 d wr):Holds eU wr b o d∧b<wr.heap.size:=h.at_.holds h.h0 h.sz h.lt
theorem Sv.cell (h:Sv w b o d0 d wr):∀t,t<d0.size→wr.cell? ⟨b,o+t,none⟩=some (.int .u64 d[t]!):=fun t ht=>(h.holds.1 t (by rw[h.sz];exact ht)).1
theorem Sv.iJ (h:Sv w b o d0 d wr):∀t,t<d0.size→wr.frozen? ⟨b,o+t,none⟩=false:=fun t ht=>(h.holds.1 t (by rw[h.sz];exact ht)).2
theorem Sv.drewN (h:Sv w b o d0 d wr) (n):Sv w b o d0 d (wr.drewN n):=⟨h.h0,h.lt,h.sz,h.at_.ahead n⟩
theorem Sv.step (h:Sv w b o d0 d wr) (k:Sv wr b o d d' w2):Sv w b o d0 d' w2:=by
 obtain⟨n,os,hw⟩:=k.at_;exact⟨h.h0,h.lt,k.sz.trans h.sz,h.at_.stepG h.lt k.sz ⟨n,os,hw⟩⟩
theorem Sv.swp (h:Sv w b o d0 d wr) {i j:Nat} (hi:i<d0.size) (hj:j<d0.size):Sv w b o d0 (swp d i j) ((wr.setCell ⟨b,o+i,none⟩ (.int .u64 d[j]!)).setCell ⟨b,o+j,none⟩ (.int .u64 d[i]!)):=by
 refine h.step ⟨h.holds.1,h.holds.2,size_swp d i j,0,#[],?_⟩;rw[grow_empty,ahead_zero];have e:=putRow_self eU wr b o d h.holds.1;have e2:=putRow_swp eU wr b o d i j (by rw[h.sz];exact hi) (by rw[h.sz];exact hj);rw[e]at e2;exact e2
end
theorem Xa (x w):Calls prog 297 #[.int .u64 x] w fun e w'=>e= .returned (.bool false)∧w'=w:=by
 go_enter func297,ntmps297;go_wp2;go_ret;exact⟨sm,rfl⟩
theorem aD (x y w):Calls prog 283 #[.int .u64 x,.int .u64 y] w fun e w'=>e= .returned (.bool (ltInt x y))∧w'=w:=by
 go_enter func283,ntmps283;go_wp2_with (go_at_call 297;refine(Xa _ _).mono ?_;rintro e w' ⟨rfl,rfl⟩);go_ret;exact⟨rfl,rfl⟩
theorem rE (b o c x y d w) (hH:Holds eU w b o d) (hw:b<w.heap.size) (hxy:x≤y) (hy:y≤d.size) (hsz:d.size<4611686018427387904):
  Calls prog 301 #[.slice (some ⟨b,o,none⟩) d.size c,.int .i64 x,.int .i64 y] w fun e w'=>e= .returned (.tuple #[])∧Sv w b o d (Sort.insertionSort ltInt d x y) w':=by
 go_enter func301,ntmps301;go_wp2;go_loopw [6] (fun vi wr=>∃(i:Nat) (dk:Array Int),vi= .int .i64 i∧x<i∧i≤y+1∧Sv w b o d dk wr∧Kept (insOuter ltInt x y i dk=insOuter ltInt x y (x+1) d)) (fun vi _=>y+1-(intOf vi).toNat)
 case atStart=>exact⟨x+1,d,by go_num,om,om,Sv.refl hH hw,⟨rfl⟩⟩
 case round=>
  obtain⟨i,dk,rfl,hi1,hi2,hs,HO⟩:=hrel;have HS:=Aj hs;clear hs;by_cases hiy:i<y
  ·have agm:(i:Int)< (y:Int):=by omega
   go_wp2;go_loopw [7] (fun vj wi=>∃(j:Nat) (dj:Array Int),vj= .int .i64 j∧x≤j∧j≤i∧Sv w b o d dj wi∧Kept (insInner ltInt x j dj=insInner ltInt x i dk)) (fun vj _=>(intOf vj).toNat)
   case atStart=>exact⟨i,dk,rfl,om,Nr _,HS.1,⟨rfl⟩⟩
   case round=>
    obtain⟨j,dj,rfl,hj1,hj2,hs,HI⟩:=hrel;have hf:=hs.iJ;obtain⟨G,hG⟩:∃G:Nat→Int,∀t,G t=dj[t]!:=⟨fun t=>dj[t]!,fun _=>rfl⟩
    have hc:∀t,t<d.size→wr.cell? ⟨b,o+t,none⟩=some (.int .u64 (G t)):=fun t ht=>by rw[hG];exact hs.cell t ht
    have HG:=Aj hG;have HS2:=Aj hs;clear hs hG;have out:(j≤x∨ltInt dj[j]! dj[j-1]! =false)→insOuter ltInt x y (i+1) dj=insOuter ltInt x y (x+1) d:=fun h=>by rw[←HO.1,insOuter_go _ _ _ _ _ hiy,←HI.1,insInner_stop _ _ _ _ h]
    have OUT:=Aj out;clear out;by_cases rf:x<j
    ·have agn:(x:Int)< (j:Int):=by omega
     by_cases hl:ltInt (G j) (G (j-1))=true
     ·go_wp2_with fail;go_quiet (first|(go_at_call 283;refine Ay (aD _ _ _)));go_wp2_with fail;go_region
      all_goals go_wp2
      go_roundw
      case rel=>
       refine⟨j-1,Sort.swp dj j (j-1),by congr 1;omega,om,om,?_,⟨?_⟩⟩
       ·rw[HG.1,HG.1];exact(HS2.1.drewN _).swp (i:=j) (j:=j-1) om om
       ·rw[←HI.1,insInner_go ltInt x j dj rf (by rw[←HG.1,←HG.1];exact hl)]
      case measure=>simp[intOf];omega
     ·have hl:ltInt (G j) (G (j-1))=false:=by simpa using hl
      go_wp2_with fail;go_quiet (first|(go_at_call 283;refine Ay (aD _ _ _)));go_wp2;go_roundw
      case rel=>exact⟨i+1,dj,by go_num,om,om,HS2.1.drewN _,⟨OUT.1 (.inr (by rw[←HG.1,←HG.1];exact hl))⟩⟩
      case measure=>simp[intOf];omega
    ·have agn:¬(x:Int)< (j:Int):=by omega
     go_wp2_with fail;go_quiet (first|(go_at_call 283;refine Ay (aD _ _ _)));go_wp2;go_roundw
     case rel=>exact⟨i+1,dj,by go_num,om,om,HS2.1.drewN _,⟨OUT.1 (.inl om)⟩⟩
     case measure=>simp[intOf];omega
  ·have agm:¬(i:Int)< (y:Int):=by omega
   go_wp2;go_end0;refine⟨rfl,?_⟩;rw[Sort.insertionSort,←HO.1,insOuter_stop _ _ _ _ _ hiy];exact HS.1
theorem uJ (b o c x y d w) (hH:Holds eU w b o d) (hw:b<w.heap.size) (hxy:x≤y) (hy:y≤d.size) (hsz:d.size<4611686018427387904):
  Calls prog 305 #[.slice (some ⟨b,o,none⟩) d.size c,.int .i64 x,.int .i64 y] w fun e w'=>e= .returned (.tuple #[])∧Sv w b o d (Sort.reverseRange d x y) w':=by
 go_enter func305,ntmps305;go_wp2;go_loopw [6,7] (fun vi vj wr=>∃(i j:Nat) (z:Int) (dk:Array Int),vi= .int .i64 i∧vj= .int .i64 z∧x≤i∧i≤y∧(z=j∧j<y∨¬(i:Int)<z∧¬i<j∧-1≤z∧z≤y)∧Sv w b o d dk wr∧Kept (reverseLoop i j dk=reverseLoop x (y-1) d)) (fun vi vj _=>((intOf vj)-(intOf vi)).toNat)
 case atStart=>exact⟨x,y-1,(y:Int)-1,d,rfl,rfl,Nr _,hxy,om,Sv.refl hH hw,⟨rfl⟩⟩
 case round=>
  obtain⟨i,j,z,dk,rfl,rfl,hi1,hi2,hz,hs,HO⟩:=hrel;have HS:=Aj hs;by_cases hij:(i:Int)<z
  ·obtain⟨rfl,hjy⟩:z=j∧j<y:=by omega
   have hf:=hs.iJ;obtain⟨G,hG⟩:∃G:Nat→Int,∀t,G t=dk[t]!:=⟨fun t=>dk[t]!,fun _=>rfl⟩
   have hc:∀t,t<d.size→wr.cell? ⟨b,o+t,none⟩=some (.int .u64 (G t)):=fun t ht=>by rw[hG];exact hs.cell t ht
   have HG:=Aj hG;clear hs hG hz;go_wp2_with fail;go_region
   all_goals go_wp2
   go_roundw
   case rel=>
    refine⟨i+1,j-1,(j:Int)-1,Sort.swp dk i j,by go_num,rfl,om,om,om,?_,⟨?_⟩⟩
    ·rw[HG.1,HG.1];exact(HS.1.drewN _).swp (i:=i) (j:=j) om om
    ·rw[←HO.1,reverseLoop.eq_def i j dk,Ps0 om]
   case measure=>simp[intOf];omega
  ·clear hs;go_wp2;go_end0;refine⟨rfl,?_⟩;rw[Sort.reverseRange,←HO.1,reverseLoop,Ng om];exact HS.1
theorem uK (b o c l h f:Nat) (d n w) (hn:d.size=n) (hH:Holds eU w b o d) (hw:b<w.heap.size) (hl:l≤h) (hh:f+h≤n) (hsz:n<4611686018427387904):
  Calls prog 310 #[.slice (some ⟨b,o,none⟩) n c,.int .i64 l,.int .i64 h,.int .i64 f] w fun e w'=>e= .returned (.tuple #[])∧Sv w b o d (Sort.siftDown ltInt h f l d) w':=by
 subst hn;go_enter func310,ntmps310;go_wp2;go_loopw [8] (fun vr wr=>∃(r:Nat) (dk:Array Int),vr= .int .i64 r∧r≤h∧Sv w b o d dk wr∧Kept (Sort.siftDown ltInt h f r dk=Sort.siftDown ltInt h f l d)) (fun vr _=>h-(intOf vr).toNat)
 case atStart=>exact⟨l,d,rfl,hl,Sv.refl hH hw,⟨rfl⟩⟩
 case round=>
  obtain⟨r,dk,rfl,hr,hs,HO⟩:=hrel;have HS:=Aj hs;by_cases h0:h≤2*r+1
  ·have h0':(h:Int)≤2*(r:Int)+1:=by omega
   clear hs;go_wp2;go_end0;refine⟨rfl,?_⟩;rw[←HO.1,sd_end ltInt dk h0];exact HS.1
  ·have h0':¬(h:Int)≤2*(r:Int)+1:=by omega
   have hf:=hs.iJ;obtain⟨G,hG⟩:∃G:Nat→Int,∀t,G t=dk[t]!:=⟨fun t=>dk[t]!,fun _=>rfl⟩
   have hc:∀t,t<d.size→wr.cell? ⟨b,o+t,none⟩=some (.int .u64 (G t)):=fun t ht=>by rw[hG];exact hs.cell t ht
   have HG:=Aj hG;clear hs hG;have key:∃q,r<q∧q<h∧(ltInt (G (f+r)) (G (f+q))=false→Sort.siftDown ltInt h f r dk=dk)∧(ltInt (G (f+r)) (G (f+q))=true→Sort.siftDown ltInt h f r dk=Sort.siftDown ltInt h f q (Sort.swp dk (f+r) (f+q)))∧
     ((q=2*r+2∧2*r+2<h∧ltInt (G (f+2*r+1)) (G (f+2*r+2))=true)∨(q=2*r+1∧2*r+2<h∧ltInt (G (f+2*r+1)) (G (f+2*r+2))=false)∨(q=2*r+1∧¬2*r+2<h)):=by
    simp only[HG.1];by_cases h1:2*r+2<h
    ·by_cases h2:ltInt dk[f+(2*r+1)]! dk[f+(2*r+2)]! =true
     ·exact⟨2*r+2,om,h1,fun h3=>sd_right_stop ltInt dk h1 h2 h3,fun h3=>sd_right_go ltInt dk h1 h2 h3,.inl ⟨rfl,h1,h2⟩⟩
     ·have h2:ltInt dk[f+(2*r+1)]! dk[f+(2*r+2)]! =false:=by simpa using h2
      exact⟨2*r+1,om,om,fun h3=>sd_left_stop ltInt dk om (fun _=>h2) h3,fun h3=>sd_left_go ltInt dk om (fun _=>h2) h3,.inr (.inl ⟨rfl,h1,h2⟩)⟩
    ·exact⟨2*r+1,om,om,fun h3=>sd_left_stop ltInt dk om (fun h=>absurd h h1) h3,fun h3=>sd_left_go ltInt dk om (fun h=>absurd h h1) h3,.inr (.inr ⟨rfl,h1⟩)⟩
   obtain⟨q,hq1,hq2,hqs,hqg,hq⟩:=key;have HQS:=Aj hqs;have HQG:=Aj hqg;clear hqs hqg;have hlt:ltInt (G (f+r)) (G (f+q))=false∨ltInt (G (f+r)) (G (f+q))=true:=by cases ltInt (G (f+r)) (G (f+q))<;>simp
   rcases hq with⟨hq,h1,h2⟩|⟨hq,h1,h2⟩|⟨hq,h1⟩
   have h1':2*(r:Int)+1+1< (h:Int):=om
   rotate_left
   have h1':2*(r:Int)+1+1< (h:Int):=om
   rotate_left
   have h1':decide (2*(r:Int)+1+1< (h:Int))=false:=AF om
   rotate_left
   all_goals
    go_wp2_with fail;go_quiet (first|(go_at_call 283;refine Ay (aD _ _ _)));go_wp2_with fail
    first
     |rw[show 2*(r:Int)+1+1=(q:Int)from om]
     |rw[show 2*(r:Int)+1=(q:Int)from om]
    have hc2:∀t,t<d.size→(wr.drewN nq).cell? ⟨b,o+t,none⟩=some (.int .u64 (G t)):=hc;have hf2:∀t,t<d.size→(wr.drewN nq).frozen? ⟨b,o+t,none⟩=false:=hf;have HS2:=Aj (HS.1.drewN nq);clear hc hf HS hq h1;generalize wr.drewN nq=w2 at*;rcases hlt with hlt|hlt
    ·go_quiet (first|(go_at_call 283;refine Ay (aD _ _ _)));go_wp2_with fail
     (try simp only[Exit.inBlock,Exit.then]);refine Bi (CQ rfl _ _ _) rfl ?_
     refine⟨rfl,?_⟩;rw[←HO.1,HQS.1 hlt];exact HS2.1.drewN _
    ·go_quiet (first|(go_at_call 283;refine Ay (aD _ _ _)));go_wp2_with fail;go_region
     all_goals go_wp2
     go_roundw
     case rel=>
      refine⟨q,Sort.swp dk (f+r) (f+q),rfl,om,?_,⟨?_⟩⟩
      ·rw[HG.1,HG.1];exact(HS2.1.drewN _).swp (i:=f+r) (j:=f+q) om om
      ·rw[←HO.1,HQG.1 hlt]
     case measure=>simp[intOf];omega
end
section
open Go.Sort
theorem Kb (b o c x y d w) (hH:Holds eU w b o d) (hw:b<w.heap.size) (hxy:x≤y) (hy:y≤d.size) (hsz:d.size<4611686018427387904):
  Calls prog 302 #[.slice (some ⟨b,o,none⟩) d.size c,.int .i64 x,.int .i64 y] w fun e w'=>e= .returned (.tuple #[])∧Sv w b o d (Sort.heapSort ltInt d x y) w':=by
 have hst:=half_start hxy;obtain⟨L,hL⟩:∃L,y-x=L:=⟨y-x,rfl⟩
 have hLi:(y:Int)-(x:Int)=(L:Int):=om;have hxL:x+L≤d.size:=om;unfold Sort.heapSort;rw[hL]at hst⊢;rw[hLi]at hst;clear hL hxy hy;obtain⟨K,hK⟩:∃K,K=(L-1)/2+1:=⟨_,rfl⟩
 rw[←hK]at hst⊢;have hKL:K≤L+1:=om;clear hK;go_enter func302,ntmps302;go_wp2;go_loopw [9] (fun vi wr=>∃(k:Nat) (dk:Array Int),vi= .int .i64 ((k:Int)-1)∧k≤K∧Sv w b o d dk wr∧Kept (heapBuild ltInt L x k dk=heapBuild ltInt L x K d)) (fun vi _=>(intOf vi+1).toNat)
 case atStart=>exact⟨K,d,by first|rw[hst]|rfl,Nr _,Sv.refl hH hw,⟨rfl⟩⟩
 case round=>
  obtain⟨k,dk,hv,hk,hs,HO⟩:=hrel;obtain rfl|⟨m,rfl⟩:k=0∨∃m,k=m+1:=by cases k with|zero=>exact .inl rfl|succ m=>exact .inr ⟨m,rfl⟩
  ·obtain⟨z,hz,hz1⟩:∃z:Int,z<0∧((0:Nat):Int)-1=z:=⟨-1,om,rfl⟩
   rw[hz1]at hv;subst hv;clear hz1;have HB:=Aj (show heapBuild ltInt L x K d=dk from HO.1.symm);have HS:=Aj hs;clear hs HO hst;go_wp2;go_loopw [10] (fun vi wr=>∃(k:Nat) (dj:Array Int),vi= .int .i64 ((k:Int)-1)∧k≤L∧Sv w b o d dj wr∧Kept (heapPop ltInt x k dj=heapPop ltInt x L dk)) (fun vi _=>(intOf vi+1).toNat)
   case atStart=>exact⟨L,dk,rfl,Nr _,HS.1,⟨rfl⟩⟩
   case round=>
    obtain⟨k,dj,rfl,hk,hs,HP⟩:=hrel;have HS2:=Aj hs;obtain rfl|⟨m,rfl⟩:k=0∨∃m,k=m+1:=by cases k with|zero=>exact .inl rfl|succ m=>exact .inr ⟨m,rfl⟩
    ·clear hs;go_wp2;go_end0;refine⟨rfl,?_⟩;rw[HB.1,←HP.1];exact HS2.1
    ·have hf:=hs.iJ;obtain⟨G,hG⟩:∃G:Nat→Int,∀t,G t=dj[t]!:=⟨fun t=>dj[t]!,fun _=>rfl⟩
     have hc:∀t,t<d.size→wr.cell? ⟨b,o+t,none⟩=some (.int .u64 (G t)):=fun t ht=>by rw[hG];exact hs.cell t ht
     have HG:=Aj hG;have hm1:((m+1:Nat):Int)-1=(m:Int):=om;clear hs hG;have SD:=Aj (fun(w1:World) (h1:Sv w b o d (Sort.swp dj x (x+m)) w1)=>uK b o c 0 m x (Sort.swp dj x (x+m)) d.size w1 h1.sz h1.holds.1 h1.holds.2 (bH _) om hsz);rcases mM m with hm|hm
     ·subst hm;go_wp2_with fail;go_region;have H1:Sv w b o d (Sort.swp dj x (x+0)) (((wr.setCell ⟨b,o+x,none⟩ (.int .u64 (G (x+0)))).setCell ⟨b,o+(x+0),none⟩ (.int .u64 (G x))).drew):=by rw[HG.1,HG.1];exact(HS2.1.swp (i:=x) (j:=x+0) om om).drewN 1
      have H1:=Aj H1;clear hc hf;generalize (((wr.setCell ⟨b,o+x,none⟩ (.int .u64 (G (x+0)))).setCell ⟨b,o+(x+0),none⟩ (.int .u64 (G x))).drew)=w1 at*;have hz0:x+0=x:=rfl;have SD1:=Aj (SD.1 w1 H1.1);clear SD;go_wp2_with (go_at_call 310;refine SD1.1.mono ?_;rintro e w2 ⟨rfl,h2⟩;have H2:=Aj (H1.1.step h2);clear h2);go_roundw
      case rel=>
       exact⟨0,_,rfl,om,H2.1,⟨by rw[←HP.1];rfl⟩⟩
      case measure=>first|(simp[intOf];done)|(simp[intOf];omega)
     ·skip;go_wp2_with fail;go_region;have H1:Sv w b o d (Sort.swp dj x (x+m)) (((wr.setCell ⟨b,o+x,none⟩ (.int .u64 (G (x+m)))).setCell ⟨b,o+(x+m),none⟩ (.int .u64 (G x))).drew):=by rw[HG.1,HG.1];exact(HS2.1.swp (i:=x) (j:=x+m) om om).drewN 1
      have H1:=Aj H1;clear hc hf;generalize (((wr.setCell ⟨b,o+x,none⟩ (.int .u64 (G (x+m)))).setCell ⟨b,o+(x+m),none⟩ (.int .u64 (G x))).drew)=w1 at*;have SD1:=Aj (SD.1 w1 H1.1);clear SD;go_wp2_with (go_at_call 310;refine SD1.1.mono ?_;rintro e w2 ⟨rfl,h2⟩;have H2:=Aj (H1.1.step h2);clear h2);go_roundw
      case rel=>
       exact⟨m,_,rfl,om,H2.1,⟨by rw[←HP.1];rfl⟩⟩
      case measure=>first|(simp[intOf];done)|(simp[intOf];omega)
  ·subst hv;have SD:=Aj (uK b o c m L x dk d.size wr hs.sz hs.holds.1 hs.holds.2 om hxL hsz);have HS:=Aj hs;have hm1:((m+1:Nat):Int)-1=(m:Int):=om;clear hs;go_wp2_with (go_at_call 310;refine SD.1.mono ?_;rintro e w1 ⟨rfl,h1⟩;have H1:=Aj (HS.1.step h1);clear h1);go_roundw
   case rel=>exact⟨m,_,rfl,om,H1.1,⟨by rw[←HO.1,heapBuild]⟩⟩
   case measure=>first|(simp[intOf];done)|(simp[intOf];omega)
def Cn (w:World) (g s:Nat) (wr:World):Prop:=g=w.heap.size∧∃n,wr=(w.alloc (.cells #[.int .i64 (s:Int)] 3)).drewN n
theorem Cn.start (w):Cn w w.heap.size 0 (w.alloc (.cells #[.int .i64 0] 3)):=⟨rfl,0,rfl⟩
theorem Cn.drewN {w wr g s} (h:Cn w g s wr) (k):Cn w g s (wr.drewN k):=by
 obtain⟨hg,n,rfl⟩:=h;exact⟨hg,n+k,by simp[World.drewN,fA]⟩
theorem Cn.row {w wr g s} (h:Cn w g s wr):wr.heap[g]? =some (.cells #[.int .i64 (s:Int)] 3 (0,0)):=by
 obtain⟨rfl,n,rfl⟩:=h;exact Av w _
theorem Cn.k0 {w wr g s} (h:Cn w g s wr):wr.cell? ⟨g,0,none⟩=some (.int .i64 (s:Int)):=Co _ _ 0 _ _ _ h.row
theorem Cn.set {w wr g s} (h:Cn w g s wr) (t):Cn w g t (wr.setCell ⟨g,0,none⟩ (.int .i64 (t:Int))):=by
 obtain⟨rfl,n,rfl⟩:=h;refine⟨rfl,n,?_⟩;have e:∀v,(w.alloc (.cells #[.int .i64 (s:Int)] 3)).setCell ⟨w.heap.size,0,none⟩ v=w.alloc (.cells #[v] 3):=fun v=>by
  unfold World.setCell World.alloc
  congr 1
  apply Array.ext_getElem?;intro k;simp only[DK,Array.getElem?_push];by_cases hk:w.heap.size=k
  ·subst hk;simp
  ·simp[hk,show¬k=w.heap.size from om]
 show((w.alloc (.cells #[.int .i64 (s:Int)] 3)).setCell ⟨w.heap.size,0,none⟩ (.int .i64 (t:Int))).drewN n=_;rw[e]
theorem Cn.cell {w wr g s b o d} (h:Cn w g s wr) (hH:Holds eU w b o d) (hb:b<w.heap.size):∀t,t<d.size→wr.cell? ⟨b,o+t,none⟩=some (.int .u64 d[t]!):=fun t ht=>by
 obtain⟨rfl,n,rfl⟩:=h;exact(AB _ _ ⟨b,o+t,none⟩ hb).trans (hH t ht).1
theorem Cn.sv {w wr g s b o d} (h:Cn w g s wr) (hH:Holds eU w b o d) (hb:b<w.heap.size):Sv w b o d d wr:=by
 obtain⟨rfl,n,rfl⟩:=h;refine⟨hH,hb,rfl,(At.refl hH).same hH rfl hb ⟨n,#[.cells #[.int .i64 (s:Int)] 3],?_⟩⟩;rw[alloc_eq_grow];rfl
theorem xO {d a b s n} (ha:a<n) (hb:b<n):(Sort.order2 ltInt d a b s).1<n∧(Sort.order2 ltInt d a b s).2.1<n:=by
 unfold Sort.order2;split<;>exact⟨by assumption,by assumption⟩
theorem GL (d a b s):(Sort.order2 ltInt d a b s).2.2≤s+1:=by unfold Sort.order2;split<;>simp
theorem uL (b o c x y g s n d w wr) (hn:d.size=n) (hH:Holds eU w b o d) (hw:b<w.heap.size) (hC:Cn w g s wr) (hx:x<n) (hy:y<n) (hsz:n<4611686018427387904) (hs:s≤1000):
  Calls prog 313 #[.slice (some ⟨b,o,none⟩) n c,.int .i64 x,.int .i64 y,.pointer (some ⟨g,0,none⟩)] wr fun e w'=>e= .returned (.tuple #[.int .i64 (Sort.order2 ltInt d x y s).1,.int .i64 (Sort.order2 ltInt d x y s).2.1])∧Cn w g (Sort.order2 ltInt d x y s).2.2 w':=by
 subst hn;obtain⟨G,hG⟩:∃G:Nat→Int,∀t,G t=d[t]!:=⟨fun t=>d[t]!,fun _=>rfl⟩
 have hc:∀t,t<d.size→wr.cell? ⟨b,o+t,none⟩=some (.int .u64 (G t)):=fun t ht=>by rw[hG];exact hC.cell hH hw t ht
 have k0:=Co _ _ 0 _ _ _ hC.row;have f0:=Fr _ _ 0 _ _ hC.row;have HC:=Aj hC;have ho:Kept (Sort.order2 ltInt d x y s=if ltInt (G y) (G x)then(y,x,s+1)else(x,y,s)):=⟨by rw[hG,hG];rfl⟩
 clear hC hG hH;by_cases hl:ltInt (G y) (G x)=true
 ·go_enter func313,ntmps313;go_wp2_with fail;go_quiet (first|(go_at_call 283;refine Ay (aD _ _ _)));go_wp2
  all_goals first|(exfalso;rename_i hx;rw[hl]at hx;exact Bool.noConfusion hx)|skip
  go_ret2;rw[ho.1,Ps0 hl];exact⟨rfl,(HC.1.drewN _).set (s+1)⟩
 ·have hl:ltInt (G y) (G x)=false:=by simpa using hl
  go_enter func313,ntmps313;go_wp2_with fail;go_quiet (first|(go_at_call 283;refine Ay (aD _ _ _)));go_wp2
  all_goals first|(exfalso;rename_i hx;rw[hl]at hx;exact Bool.noConfusion hx)|skip
  go_ret2;rw[ho.1,Ng (by simp[hl])];exact⟨rfl,HC.1.drewN _⟩
theorem uM (b o c x y z g s n d w wr) (hn:d.size=n) (hH:Holds eU w b o d) (hw:b<w.heap.size) (hC:Cn w g s wr) (hx:x<n) (hy:y<n) (hz:z<n) (hsz:n<4611686018427387904) (hs:s≤900):
  Calls prog 312 #[.slice (some ⟨b,o,none⟩) n c,.int .i64 x,.int .i64 y,.int .i64 z,.pointer (some ⟨g,0,none⟩)] wr fun e w'=>e= .returned (.int .i64 (Sort.median ltInt d x y z s).1)∧Cn w g (Sort.median ltInt d x y z s).2 w':=by
 have h1:=uL b o c x y g s n d w wr hn hH hw hC hx hy hsz om;have⟨l1,l2⟩:=xO (d:=d) (s:=s) hx hy;have l3:=GL d x y s;have hm:Sort.median ltInt d x y z s=(let r1:=Sort.order2 ltInt d x y s;let r2:=Sort.order2 ltInt d r1.2.1 z r1.2.2;let r3:=Sort.order2 ltInt d r1.1 r2.1 r2.2.2;(r3.2.1,r3.2.2)):=rfl;rw[hm];generalize Sort.order2 ltInt d x y s=R1 at*;obtain⟨p1,q1,s1⟩:=R1;simp only[]at h1 l1 l2 l3⊢;have h2:=fun(w1:World) (h:Cn w g s1 w1)=>uL b o c q1 z g s1 n d w w1 hn hH hw h l2 hz hsz om
 have⟨m1,m2⟩:=xO (d:=d) (s:=s1) l2 hz;have m3:=GL d q1 z s1;generalize Sort.order2 ltInt d q1 z s1=R2 at*;obtain⟨p2,q2,s2⟩:=R2;simp only[]at h2 m1 m2 m3⊢;have h3:=fun(w1:World) (h:Cn w g s2 w1)=>uL b o c p1 p2 g s2 n d w w1 hn hH hw h l1 m1 hsz om
 generalize Sort.order2 ltInt d p1 p2 s2=R3 at*;obtain⟨p3,q3,s3⟩:=R3;simp only[]at h3⊢;have H1:=Aj h1;have H2:=Aj h2;have H3:=Aj h3;clear h1 h2 h3 hm hC hH hn;go_enter func312,ntmps312;go_wp2_with (first
  |(go_at_call 313;refine(H3.1 w2 C2.1).mono ?_;rintro e w3 ⟨rfl,c3⟩;have C3:=Aj c3;clear c3)
  |(go_at_call 313;refine(H2.1 w1 C1.1).mono ?_;rintro e w2 ⟨rfl,c2⟩;have C2:=Aj c2;clear c2)
  |(go_at_call 313;refine H1.1.mono ?_;rintro e w1 ⟨rfl,c1⟩;have C1:=Aj c1;clear c1))
 go_ret;exact⟨rfl,C3.1⟩
theorem lq (b o c x g s n:Nat) (d w wr) (hn:d.size=n) (hH:Holds eU w b o d) (hw:b<w.heap.size) (hC:Cn w g s wr) (h0:1≤x) (hx:x+1<n) (hsz:n<4611686018427387904) (hs:s≤900):
  Calls prog 311 #[.slice (some ⟨b,o,none⟩) n c,.int .i64 x,.pointer (some ⟨g,0,none⟩)] wr fun e w'=>e= .returned (.int .i64 (Sort.medianAdjacent ltInt d x s).1)∧Cn w g (Sort.medianAdjacent ltInt d x s).2 w':=by
 have h1:=uM b o c (x-1) x (x+1) g s n d w wr hn hH hw hC om om hx hsz hs;have e1:((x-1:Nat):Int)=(x:Int)-1:=om;have e2:((x+1:Nat):Int)=(x:Int)+1:=om;rw[e1,e2]at h1;unfold Sort.medianAdjacent;have H1:=Aj h1;clear h1 hC hH hn e1 e2;go_enter func311,ntmps311;go_wp2_with (go_at_call 312;refine H1.1.mono ?_;rintro e w1 ⟨rfl,c1⟩;have C1:=Aj c1;clear c1);go_ret;exact⟨rfl,C1.1⟩
theorem Kc {d a b c s n} (ha:a<n) (hb:b<n) (hc:c<n):(Sort.median ltInt d a b c s).1<n:=by
 unfold Sort.median;simp only[];exact(xO (xO ha hb).1 (xO (xO ha hb).2 hc).1).2
theorem uN (d a b c s):(Sort.median ltInt d a b c s).2≤s+3:=by
 unfold Sort.median;simp only[];have h1:=GL d a b s;have h2:=GL d (Sort.order2 ltInt d a b s).2.1 c (Sort.order2 ltInt d a b s).2.2;have h3:=GL d (Sort.order2 ltInt d a b s).1 (Sort.order2 ltInt d (Sort.order2 ltInt d a b s).2.1 c (Sort.order2 ltInt d a b s).2.2).1 (Sort.order2 ltInt d (Sort.order2 ltInt d a b s).2.1 c (Sort.order2 ltInt d a b s).2.2).2.2;omega
theorem wL (b o c x y n d w) (hn:d.size=n) (hH:Holds eU w b o d) (hw:b<w.heap.size) (hxy:x<y) (hy:y≤n) (hsz:n<4611686018427387904):
  Calls prog 304 #[.slice (some ⟨b,o,none⟩) n c,.int .i64 x,.int .i64 y] w fun e w'=>e= .returned (.tuple #[.int .i64 (Sort.choosePivot ltInt d x y).1,.int .i64 (hintCode (Sort.choosePivot ltInt d x y).2)])∧Sv w b o d d w':=by
 obtain⟨L,hL⟩:∃L,y-x=L:=⟨y-x,rfl⟩
 have hLi:(y:Int)-(x:Int)=(L:Int):=om;have hxL:x+L≤n:=om;have hL1:1≤L:=om;obtain⟨i,hi⟩:∃i,i=x+L/4*1:=⟨_,rfl⟩
 obtain⟨j,hj⟩:∃j,j=x+L/4*2:=⟨_,rfl⟩
 obtain⟨k,hk⟩:∃k,k=x+L/4*3:=⟨_,rfl⟩
 obtain⟨R,hR⟩:∃R:Nat×Nat,R=if L≥8 then(if L≥50 then Sort.median ltInt d (Sort.medianAdjacent ltInt d i 0).1 (Sort.medianAdjacent ltInt d j (Sort.medianAdjacent ltInt d i 0).2).1 (Sort.medianAdjacent ltInt d k (Sort.medianAdjacent ltInt d j (Sort.medianAdjacent ltInt d i 0).2).2).1 (Sort.medianAdjacent ltInt d k (Sort.medianAdjacent ltInt d j (Sort.medianAdjacent ltInt d i 0).2).2).2 else Sort.median ltInt d i j k 0)else(j,0):=⟨_,rfl⟩
 have hcp:Sort.choosePivot ltInt d x y=(R.1,if R.2=0 then .increasing else if R.2=12 then .decreasing else .unknown):=by
  rw[hR,hi,hj,hk,←hL];rfl
 rw[hcp];have hin:i<n:=om;have hjn:j<n:=om;have hkn:k<n:=om;have hC0:=Cn.start w;obtain⟨g,hg⟩:∃g,g=w.heap.size:=⟨_,rfl⟩
 have hi1:(x:Int)+(L:Int)/4=(i:Int):=om;have hj1:(x:Int)+(L:Int)/4*2=(j:Int):=om;have hk1:(x:Int)+(L:Int)/4*3=(k:Int):=om;clear hcp hL;by_cases h8:L≥8
 ·have h8':(8:Int)≤(L:Int):=by omega
  rw[Ps0 h8]at hR;by_cases h50:L≥50
  ·have aar:(50:Int)≤(L:Int):=by omega
   rw[Ps0 h50]at hR;have A1:=lq b o c i g 0 n d w _ hn hH hw (hg▸hC0) om om hsz om;have a1:(Sort.medianAdjacent ltInt d i 0).1<n:=Kc om om om;have b1:(Sort.medianAdjacent ltInt d i 0).2≤0+3:=uN _ _ _ _ _;generalize Sort.medianAdjacent ltInt d i 0=R1 at*;obtain⟨i2,s1⟩:=R1;simp only[]at A1 a1 b1 hR;have A2:=fun(w1:World) (h:Cn w g s1 w1)=>lq b o c j g s1 n d w w1 hn hH hw h om om hsz om
   have a2:(Sort.medianAdjacent ltInt d j s1).1<n:=Kc om om om;have b2:(Sort.medianAdjacent ltInt d j s1).2≤s1+3:=uN _ _ _ _ _;generalize Sort.medianAdjacent ltInt d j s1=R2 at*;obtain⟨j2,s2⟩:=R2;simp only[]at A2 a2 b2 hR;have A3:=fun(w1:World) (h:Cn w g s2 w1)=>lq b o c k g s2 n d w w1 hn hH hw h om om hsz om
   have a3:(Sort.medianAdjacent ltInt d k s2).1<n:=Kc om om om;have b3:(Sort.medianAdjacent ltInt d k s2).2≤s2+3:=uN _ _ _ _ _;generalize Sort.medianAdjacent ltInt d k s2=R3 at*;obtain⟨k2,s3⟩:=R3;simp only[]at A3 a3 b3 hR;have A4:=fun(w1:World) (h:Cn w g s3 w1)=>uM b o c i2 j2 k2 g s3 n d w w1 hn hH hw h a1 a2 a3 hsz om
   have b4:=uN d i2 j2 k2 s3;rw[←hR]at A4 b4;obtain⟨m,s⟩:=R;simp only[]at A4 b4⊢;have FIN:=Aj (fun(w1:World) (h:Cn w g s w1)=>h.sv hH hw);have H1:=Aj A1;have H2:=Aj A2;have H3:=Aj A3;have H4:=Aj A4;subst hg;clear A1 A2 A3 A4 hn hH hw hR hC0 a1 a2 a3 hin hjn hkn hi hj hk;have hss:s=0∨s=12∨(s≠0∧s≠12):=om;rcases hss with rfl|rfl|⟨hs1,hs2⟩
   all_goals
    go_enter func304,ntmps304;go_wp2_with (first
     |(go_at_call 312;refine(H4.1 w3 C3.1).mono ?_;rintro e w4 ⟨rfl,c4⟩;have C4:=Aj c4;have k0:=c4.k0;clear c4)
     |(go_at_call 311;refine(H3.1 w2 C2.1).mono ?_;rintro e w3 ⟨rfl,c3⟩;have C3:=Aj c3;clear c3)
     |(go_at_call 311;refine(H2.1 w1 C1.1).mono ?_;rintro e w2 ⟨rfl,c2⟩;have C2:=Aj c2;clear c2)
     |(go_at_call 311;refine H1.1.mono ?_;rintro e w1 ⟨rfl,c1⟩;have C1:=Aj c1;clear c1))
    all_goals (go_ret2;refine⟨?_,FIN.1 _ C4.1⟩;first|rfl|simp[hintCode,hs1,hs2])
  ·have aar:¬(50:Int)≤(L:Int):=by omega
   rw[Ng h50]at hR;have A4:=uM b o c i j k g 0 n d w _ hn hH hw (hg▸hC0) hin hjn hkn hsz om;have b4:=uN d i j k 0;rw[←hR]at A4 b4;obtain⟨m,s⟩:=R;simp only[]at A4 b4⊢;have FIN:=Aj (fun(w1:World) (h:Cn w g s w1)=>h.sv hH hw);have H4:=Aj A4;subst hg;clear A4 hn hH hw hR hC0 hin hjn hkn hi hj hk;have hss:s=0∨s=12∨(s≠0∧s≠12):=om;rcases hss with rfl|rfl|⟨hs1,hs2⟩
   all_goals
    go_enter func304,ntmps304;go_wp2_with (go_at_call 312;refine H4.1.mono ?_;rintro e w4 ⟨rfl,c4⟩;have C4:=Aj c4;have k0:=c4.k0;clear c4)
    all_goals (go_ret2;refine⟨?_,FIN.1 _ C4.1⟩;first|rfl|simp[hintCode,hs1,hs2])
 ·have h8':¬(8:Int)≤(L:Int):=by omega
  rw[Ng h8]at hR;subst hR;have FIN:=Aj (hC0.sv hH hw);clear hC0 hH hn hw hi hj hk;go_enter func304,ntmps304;go_wp2;go_ret2;exact⟨rfl,FIN.1⟩
end
section
open Go.Sort
theorem zL (b o c x y n d w) (hn:d.size=n) (hH:Holds eU w b o d) (hw:b<w.heap.size) (hxy:x<y) (hy:y≤n) (hsz:n<4611686018427387904):
  Calls prog 306 #[.slice (some ⟨b,o,none⟩) n c,.int .i64 x,.int .i64 y] w fun e w'=>e= .returned (.bool (Sort.partialInsertionSort ltInt d x y).2)∧Sv w b o d (Sort.partialInsertionSort ltInt d x y).1 w':=by
 subst hn;unfold Sort.partialInsertionSort;obtain⟨P,hP⟩:∃P,partialIns ltInt x y 5 (x+1) d=P:=⟨_,rfl⟩
 rw[hP];have HP0:=Aj hP;have hL:Kept ((y:Int)-(x:Int)=((y-x:Nat):Int)):=⟨om⟩
 clear hP;go_enter func306,ntmps306;go_wp2;go_loopw [7,8] (fun vi vs wr=>∃(i s:Nat) (dk:Array Int),vi= .int .i64 i∧vs= .int .i64 s∧x<i∧i≤y∧s≤5∧Sv w b o d dk wr∧Kept (partialIns ltInt x y (5-s) i dk=P)) (fun _ vs _=>5-(intOf vs).toNat)
 case atStart=>exact⟨x+1,0,d,by go_num,rfl,om,om,om,Sv.refl hH hw,HP0⟩
 case round=>
  obtain⟨i,s,dk,rfl,rfl,hi1,hi2,hs5,hs,HO⟩:=hrel;have HS:=Aj hs;clear hs;by_cases h5:s<5
  ·have h5':(s:Int)<5:=by omega
   go_upto_block 2 with fail;go_cut [7]from 13 (fun v wc=>∃k:Nat,v= .int .i64 (k:Int)∧i≤k∧k≤y∧Sv w b o d dk wc∧Kept (scanSorted ltInt dk y i=k))
   case first=>
    go_wp2;go_loopw [7] (fun vi wr=>∃k:Nat,vi= .int .i64 (k:Int)∧i≤k∧k≤y∧Sv w b o d dk wr∧Kept (scanSorted ltInt dk y k=scanSorted ltInt dk y i)) (fun vi _=>y-(intOf vi).toNat)
    case atStart=>exact⟨i,rfl,Nr _,hi2,HS.1,⟨rfl⟩⟩
    case round=>
     obtain⟨k,rfl,hk1,hk2,hs,HK⟩:=hrel;have hf:=hs.iJ;obtain⟨G,hG⟩:∃G:Nat→Int,∀t,G t=dk[t]!:=⟨fun t=>dk[t]!,fun _=>rfl⟩
     have hc:∀t,t<d.size→wr.cell? ⟨b,o+t,none⟩=some (.int .u64 (G t)):=fun t ht=>by rw[hG];exact hs.cell t ht
     have HG:=Aj hG;have HS2:=Aj hs;clear hs hG;by_cases hky:k<y
     ·have aat:(k:Int)< (y:Int):=by omega
      have hl:ltInt (G k) (G (k-1))=false∨ltInt (G k) (G (k-1))=true:=by cases ltInt (G k) (G (k-1))<;>simp
      rcases hl with hl|hl
      ·go_wp2_with fail;go_quiet (first|(go_at_call 283;refine Ay (aD _ _ _)));go_wp2;go_roundw
       case rel=>exact⟨k+1,by go_num,om,om,HS2.1.drewN _,⟨by rw[←HK.1,scanSorted_go ltInt dk y k hky (by rw[←HG.1,←HG.1];exact hl)]⟩⟩
       case measure=>simp[intOf];omega
      ·go_wp2_with fail;go_quiet (first|(go_at_call 283;refine Ay (aD _ _ _)));go_wp2;go_meet;exact⟨k,rfl,hk1,hk2,HS2.1.drewN _,⟨by rw[←HK.1,scanSorted_stop ltInt dk y k (.inr (by rw[←HG.1,←HG.1];exact hl))]⟩⟩
     ·have aat:decide ((k:Int)< (y:Int))=false:=AF om;go_wp2_with fail;go_quiet (first|(go_at_call 283;refine Ay (aD _ _ _)));go_wp2;go_meet;exact⟨k,rfl,hk1,hk2,HS2.1.drewN _,⟨by rw[←HK.1,scanSorted_stop ltInt dk y k (.inl hky)]⟩⟩
   case rest=>
    obtain⟨k,rfl,hk1,hk2,hs,HK⟩:=hcut;clear HS;by_cases hky:k=y
    ·have hp:Kept (P=(dk,true)):=⟨by rw[←HO.1,pi_true ltInt x y s i dk h5 (by rw[HK.1,hky])]⟩
     subst hky;have HS:=Aj hs;clear hs;go_wp2;go_ret;rw[hp.1];exact⟨rfl,HS.1⟩
    ·by_cases h50:y-x<50
     ·have hp:Kept (P=(dk,false)):=⟨by rw[←HO.1,pi_short ltInt x y s i dk h5 (by rw[HK.1];exact hky) h50]⟩
      have aar:(y:Int)-(x:Int)<50:=om;have aat:¬((k:Int)=(y:Int)):=om;have HS:=Aj hs;clear hs;go_wp2;go_ret;rw[hp.1];exact⟨rfl,HS.1⟩
     ·have aar:¬((y:Int)-(x:Int)<50):=by omega
      have aat:¬((k:Int)=(y:Int)):=om;have HP:=Aj (pi_go ltInt x y s i k dk h5 HK.1 hky h50);have HS:=Aj hs;have hf:=hs.iJ;obtain⟨G,hG⟩:∃G:Nat→Int,∀t,G t=dk[t]!:=⟨fun t=>dk[t]!,fun _=>rfl⟩
      have hc:∀t,t<d.size→wc.cell? ⟨b,o+t,none⟩=some (.int .u64 (G t)):=fun t ht=>by rw[hG];exact hs.cell t ht
      have HG:=Aj hG;clear hs hG;go_upto_if 61 with(first|go_region|fail)
      have H1:Sv w b o d (Sort.swp dk k (k-1)) (((wc.setCell ⟨b,o+k,none⟩ (.int .u64 (G (k-1)))).setCell ⟨b,o+(k-1),none⟩ (.int .u64 (G k))).drew):=by rw[HG.1,HG.1];exact(HS.1.swp (i:=k) (j:=k-1) om om).drewN 1
      have HS:=Aj H1;clear hc hf H1;generalize (((wc.setCell ⟨b,o+k,none⟩ (.int .u64 (G (k-1)))).setCell ⟨b,o+(k-1),none⟩ (.int .u64 (G k))).drew)=w1 at*;clear HG;generalize Sort.swp dk k (k-1)=d1 at*;go_cut [9]from 13 (fun _ wc=>Sv w b o d (fixDown ltInt x k d1) wc)
      case first=>
       by_cases hk:k-x≥2
       ·have hk':(2:Int)≤(k:Int)-(x:Int):=by omega
        have HFD:=Aj (show fixDown ltInt x k d1=Sort.shiftDown ltInt (k-1) d1 by rw[fixDown,Ps0 hk]);go_wp2;go_loopw [9] (fun vj wr=>∃(j:Nat) (dj:Array Int),vj= .int .i64 (j:Int)∧j≤k-1∧Sv w b o d dj wr∧Kept (Sort.shiftDown ltInt j dj=Sort.shiftDown ltInt (k-1) d1)) (fun vj _=>(intOf vj).toNat)
        case atStart=>exact⟨k-1,d1,by congr 1;omega,Nr _,HS.1,⟨rfl⟩⟩
        case round=>
         obtain⟨j,dj,rfl,hj,hs,HJ⟩:=hrel;have HS2:=Aj hs;by_cases hj0:j=0
         ·subst hj0;clear hs;go_wp2;go_meet
          case rel=>rw[HFD.1,←HJ.1];exact HS2.1
         ·have hj1:(1:Int)≤(j:Int):=by omega
          have hf:=hs.iJ;obtain⟨G,hG⟩:∃G:Nat→Int,∀t,G t=dj[t]!:=⟨fun t=>dj[t]!,fun _=>rfl⟩
          have hc:∀t,t<d.size→wr.cell? ⟨b,o+t,none⟩=some (.int .u64 (G t)):=fun t ht=>by rw[hG];exact hs.cell t ht
          have HG:=Aj hG;clear hs hG;have hl:ltInt (G j) (G (j-1))=false∨ltInt (G j) (G (j-1))=true:=by cases ltInt (G j) (G (j-1))<;>simp
          rcases hl with hl|hl
          ·go_wp2_with fail;go_quiet (first|(go_at_call 283;refine Ay (aD _ _ _)));go_wp2;go_meet
           case rel=>rw[HFD.1,←HJ.1,shiftDown_stop ltInt j dj (.inr (by rw[←HG.1,←HG.1];exact hl))];exact HS2.1.drewN _
          ·go_wp2_with fail;go_quiet (first|(go_at_call 283;refine Ay (aD _ _ _)));go_wp2_with fail;go_region
           all_goals go_wp2
           go_roundw
           case rel=>
            refine⟨j-1,Sort.swp dj j (j-1),by congr 1;omega,om,?_,⟨?_⟩⟩
            ·rw[HG.1,HG.1];exact(HS2.1.drewN _).swp (i:=j) (j:=j-1) om om
            ·rw[←HJ.1,shiftDown_go ltInt j dj om (by rw[←HG.1,←HG.1];exact hl)]
           case measure=>simp[intOf];omega
       ·have hk':¬(2:Int)≤(k:Int)-(x:Int):=by omega
        go_wp2;go_meet
        case rel=>rw[show fixDown ltInt x k d1=d1 by rw[fixDown,Ng hk]];exact HS.1
      case rest=>
       have HS:=Aj hcut;clear hcut;generalize fixDown ltInt x k d1=d2 at*;by_cases hk:y-k≥2
       ·have hk':(2:Int)≤(y:Int)-(k:Int):=by omega
        rw[show fixUp ltInt y k d2=Sort.shiftUp ltInt y (k+1) d2 by rw[fixUp,Ps0 hk]]at HP;go_wp2;go_loopw [10] (fun vj wr=>∃(j:Nat) (dj:Array Int),vj= .int .i64 (j:Int)∧k+1≤j∧j≤y∧Sv w b o d dj wr∧Kept (Sort.shiftUp ltInt y j dj=Sort.shiftUp ltInt y (k+1) d2)) (fun vj _=>y-(intOf vj).toNat)
        case atStart=>exact⟨k+1,d2,by go_num,om,om,HS.1,⟨rfl⟩⟩
        case round=>
         obtain⟨j,dj,rfl,hj,hj2,hs,HJ⟩:=hrel;have HS2:=Aj hs;by_cases hjy:j<y
         ·have hj1:(j:Int)< (y:Int):=by omega
          have hf:=hs.iJ;obtain⟨G,hG⟩:∃G:Nat→Int,∀t,G t=dj[t]!:=⟨fun t=>dj[t]!,fun _=>rfl⟩
          have hc:∀t,t<d.size→wr.cell? ⟨b,o+t,none⟩=some (.int .u64 (G t)):=fun t ht=>by rw[hG];exact hs.cell t ht
          have HG:=Aj hG;clear hs hG;have hl:ltInt (G j) (G (j-1))=false∨ltInt (G j) (G (j-1))=true:=by cases ltInt (G j) (G (j-1))<;>simp
          rcases hl with hl|hl
          ·go_wp2_with fail;go_quiet (first|(go_at_call 283;refine Ay (aD _ _ _)));go_wp2;go_roundw
           case rel=>
            refine⟨k,s+1,dj,rfl,by go_num,om,om,om,HS2.1.drewN _,⟨?_⟩⟩;rw[←HO.1,HP.1,←HJ.1,shiftUp_stop ltInt y j dj (.inr (by rw[←HG.1,←HG.1];exact hl))]
           case measure=>simp[intOf];omega
          ·go_wp2_with fail;go_quiet (first|(go_at_call 283;refine Ay (aD _ _ _)));go_wp2_with fail;go_region
           all_goals go_wp2
           go_roundw
           case rel=>
            refine⟨j+1,Sort.swp dj j (j-1),by go_num,om,om,?_,⟨?_⟩⟩
            ·rw[HG.1,HG.1];exact(HS2.1.drewN _).swp (i:=j) (j:=j-1) om om
            ·rw[←HJ.1,shiftUp_go ltInt y j dj hjy (by rw[←HG.1,←HG.1];exact hl)]
           case measure=>simp[intOf];omega
         ·have hj1:¬(j:Int)< (y:Int):=by omega
          clear hs;go_wp2;go_roundw
          case rel=>
           refine⟨k,s+1,dj,rfl,by go_num,om,om,om,HS2.1,⟨?_⟩⟩;rw[←HO.1,HP.1,←HJ.1,shiftUp_stop ltInt y j dj (.inl hjy)]
          case measure=>simp[intOf];omega
       ·have hk':¬(2:Int)≤(y:Int)-(k:Int):=by omega
        rw[show fixUp ltInt y k d2=d2 by rw[fixUp,Ng hk]]at HP;go_wp2;go_roundw
        case rel=>exact⟨k,s+1,d2,rfl,by go_num,om,om,om,HS.1,⟨by rw[←HO.1,HP.1]⟩⟩
        case measure=>simp[intOf];omega
  ·have h5':¬(s:Int)<5:=by omega
   obtain rfl:s=5:=om;have hp:Kept (P=(dk,false)):=⟨by rw[←HO.1];rfl⟩
   go_wp2;go_ret;rw[hp.1];exact⟨rfl,HS.1⟩
end
section
open Go.Sort
theorem qg (b o c x y p n d w) (hn:d.size=n) (hH:Holds eU w b o d) (hw:b<w.heap.size) (hxp:x≤p) (hpy:p<y) (hy:y≤n) (hsz:n<4611686018427387904):
  Calls prog 307 #[.slice (some ⟨b,o,none⟩) n c,.int .i64 x,.int .i64 y,.int .i64 p] w fun e w'=>e= .returned (.int .i64 (Sort.partitionEqual ltInt d x y p).1)∧Sv w b o d (Sort.partitionEqual ltInt d x y p).2 w':=by
 subst hn;unfold Sort.partitionEqual;obtain⟨P,hP⟩:∃P,partEqLoop ltInt x (x+1) (y-1) (Sort.swp d x p)=P:=⟨_,rfl⟩
 rw[hP];have HP0:=Aj hP;have HS:=Aj (Sv.refl hH hw);obtain⟨G,hG⟩:∃G:Nat→Int,∀t,G t=d[t]!:=⟨fun t=>d[t]!,fun _=>rfl⟩
 have hc:∀t,t<d.size→w.cell? ⟨b,o+t,none⟩=some (.int .u64 (G t)):=fun t ht=>by rw[hG];exact HS.1.cell t ht
 have hf:=HS.1.iJ;have HG:=Aj hG;have HF:=Aj (show Sv w b o d (Sort.swp d x p) (((w.setCell ⟨b,o+x,none⟩ (.int .u64 (G p))).setCell ⟨b,o+p,none⟩ (.int .u64 (G x))).drew)from by rw[hG,hG];exact(HS.1.swp (i:=x) (j:=p) om om).drewN 1);clear hP hG hH HS;go_enter func307,ntmps307;rcases Nat.lt_or_eq_of_le hxp with hxp|rfl
 all_goals
  go_wp2_with fail;go_region;go_wp2;clear hc hf;go_loopw [9,10] (fun vi vj wr=>∃(i j:Nat) (dk:Array Int),vi= .int .i64 (i:Int)∧vj= .int .i64 (j:Int)∧x<i∧i≤j+1∧j<y∧Sv w b o d dk wr∧Kept (partEqLoop ltInt x i j dk=P)) (fun vi vj _=>(intOf vj+1-intOf vi).toNat)
  case atStart=>exact⟨x+1,y-1,_,by go_num,by congr 1;omega,om,om,om,HF.1,HP0⟩
  case round=>
   obtain⟨i,j,dk,rfl,rfl,hi1,hij,hj1,hs,HO⟩:=hrel;have HS:=Aj hs;clear hs HF;go_upto_block 2 with fail;go_cut [9]from 29 to 82 (fun v wc=>∃k:Nat,v= .int .i64 (k:Int)∧i≤k∧k≤j+1∧Sv w b o d dk wc∧Kept (k=scanUp (fun z=>!ltInt dk[x]! z) dk j i))
   case first=>
    go_wp2;go_loopw [9] (fun vi wr=>∃k:Nat,vi= .int .i64 (k:Int)∧i≤k∧k≤j+1∧Sv w b o d dk wr∧Kept (scanUp (fun z=>!ltInt dk[x]! z) dk j k=scanUp (fun z=>!ltInt dk[x]! z) dk j i)) (fun vi _=>j+1-(intOf vi).toNat)
    case atStart=>exact⟨i,rfl,Nr _,om,HS.1,⟨rfl⟩⟩
    case round=>
     obtain⟨k,rfl,hk1,hk2,hs,HK⟩:=hrel;have hf:=hs.iJ;obtain⟨G,hG⟩:∃G:Nat→Int,∀t,G t=dk[t]!:=⟨fun t=>dk[t]!,fun _=>rfl⟩
     have hc:∀t,t<d.size→wr.cell? ⟨b,o+t,none⟩=some (.int .u64 (G t)):=fun t ht=>by rw[hG];exact hs.cell t ht
     have HG:=Aj hG;have HS2:=Aj hs;clear hs hG;by_cases hkj:k≤j
     ·have uO:(k:Int)≤(j:Int):=by omega
      have hl:ltInt (G x) (G k)=false∨ltInt (G x) (G k)=true:=by cases ltInt (G x) (G k)<;>simp
      rcases hl with hl|hl
      ·go_wp2_with fail;go_quiet (first|(go_at_call 283;refine Ay (aD _ _ _)));go_wp2;go_roundw
       case rel=>exact⟨k+1,by go_num,om,om,HS2.1.drewN _,⟨by rw[←HK.1,scanUp_go _ dk j k hkj (by simp only[←HG.1];simp[hl])]⟩⟩
       case measure=>simp[intOf];omega
      ·go_wp2_with fail;go_quiet (first|(go_at_call 283;refine Ay (aD _ _ _)));go_wp2;go_meet;exact⟨k,rfl,hk1,hk2,HS2.1.drewN _,⟨by rw[←HK.1,scanUp_end _ dk j k (.inr (by simp only[←HG.1];simp[hl]))]⟩⟩
     ·have uO:decide ((k:Int)≤(j:Int))=false:=AF om;go_wp2_with fail;go_quiet (first|(go_at_call 283;refine Ay (aD _ _ _)));go_wp2;go_meet;exact⟨k,rfl,hk1,hk2,HS2.1.drewN _,⟨by rw[←HK.1,scanUp_end _ dk j k (.inl hkj)]⟩⟩
   case rest=>
    obtain⟨k,rfl,hk1,hk2,hs,HK⟩:=hcut;have HS:=Aj hs;clear hs;go_upto_block 4 with fail;go_cut [10]from 29 to 82 (fun v wc=>∃m:Nat,v= .int .i64 (m:Int)∧k≤m+1∧m≤j∧Sv w b o d dk wc∧Kept (m=scanDown (fun z=>ltInt dk[x]! z) dk k j))
    case first=>
     go_wp2;go_loopw [10] (fun vi wr=>∃m:Nat,vi= .int .i64 (m:Int)∧k≤m+1∧m≤j∧Sv w b o d dk wr∧Kept (scanDown (fun z=>ltInt dk[x]! z) dk k m=scanDown (fun z=>ltInt dk[x]! z) dk k j)) (fun vi _=>(intOf vi).toNat)
     case atStart=>exact⟨j,rfl,om,Nr _,HS.1,⟨rfl⟩⟩
     case round=>
      obtain⟨m,rfl,hm1,hm2,hs,HM⟩:=hrel;have hf:=hs.iJ;obtain⟨G,hG⟩:∃G:Nat→Int,∀t,G t=dk[t]!:=⟨fun t=>dk[t]!,fun _=>rfl⟩
      have hc:∀t,t<d.size→wr.cell? ⟨b,o+t,none⟩=some (.int .u64 (G t)):=fun t ht=>by rw[hG];exact hs.cell t ht
      have HG:=Aj hG;have HS2:=Aj hs;clear hs hG;by_cases hkj:k≤m
      ·have uO:(k:Int)≤(m:Int):=by omega
       have hl:ltInt (G x) (G m)=false∨ltInt (G x) (G m)=true:=by cases ltInt (G x) (G m)<;>simp
       rcases hl with hl|hl
       ·go_wp2_with fail;go_quiet (first|(go_at_call 283;refine Ay (aD _ _ _)));go_wp2;go_meet;exact⟨m,rfl,hm1,hm2,HS2.1.drewN _,⟨by rw[←HM.1,scanDown_end _ dk k m (.inr (by simp only[←HG.1];simp[hl]))]⟩⟩
       ·go_wp2_with fail;go_quiet (first|(go_at_call 283;refine Ay (aD _ _ _)));go_wp2;go_roundw
        case rel=>exact⟨m-1,by congr 1;omega,om,om,HS2.1.drewN _,⟨by rw[←HM.1,scanDown_go _ dk k m hkj om (by simp only[←HG.1];simp[hl])]⟩⟩
        case measure=>simp[intOf];omega
      ·have uO:decide ((k:Int)≤(m:Int))=false:=AF om;go_wp2_with fail;go_quiet (first|(go_at_call 283;refine Ay (aD _ _ _)));go_wp2;go_meet;exact⟨m,rfl,hm1,hm2,HS2.1.drewN _,⟨by rw[←HM.1,scanDown_end _ dk k m (.inl hkj)]⟩⟩
    case rest=>
     obtain⟨m,rfl,hm1,hm2,hs,HM⟩:=hcut;have HS:=Aj hs;by_cases hmk:m<k
     ·have hmk':(m:Int)< (k:Int):=by omega
      have hp:=Aj (partEq_break ltInt x i j dk HK.1 HM.1 hmk);clear hs;go_wp2;go_ret;rw[←HO.1,hp.1];exact⟨rfl,HS.1⟩
     ·have hmk':¬(m:Int)< (k:Int):=by omega
      have hp:=Aj (partEq_go ltInt x i j dk HK.1 HM.1 om);have hlt:=scans_lt ltInt x i j dk om HK.1 HM.1 om;have hf:=hs.iJ;obtain⟨G,hG⟩:∃G:Nat→Int,∀t,G t=dk[t]!:=⟨fun t=>dk[t]!,fun _=>rfl⟩
      have hc:∀t,t<d.size→wc.cell? ⟨b,o+t,none⟩=some (.int .u64 (G t)):=fun t ht=>by rw[hG];exact hs.cell t ht
      have HG:=Aj hG;clear hs hG;go_wp2_with fail;go_region
      all_goals go_wp2
      go_roundw
      case rel=>
       refine⟨k+1,m-1,Sort.swp dk k m,by go_num,by congr 1;omega,om,om,om,?_,⟨by rw[←HO.1,hp.1]⟩⟩;rw[HG.1,HG.1];exact(HS.1.drewN _).swp (i:=k) (j:=m) om om
      case measure=>simp[intOf];omega
theorem GM (b o c x y p n d w) (hn:d.size=n) (hH:Holds eU w b o d) (hw:b<w.heap.size) (hxp:x≤p) (hpy:p<y) (hy:y≤n) (hsz:n<4611686018427387904):
  Calls prog 308 #[.slice (some ⟨b,o,none⟩) n c,.int .i64 x,.int .i64 y,.int .i64 p] w fun e w'=>e= .returned (.tuple #[.int .i64 (Sort.partition ltInt d x y p).1,.bool (Sort.partition ltInt d x y p).2.1])∧Sv w b o d (Sort.partition ltInt d x y p).2.2 w':=by
 subst hn;have HS:=Aj (Sv.refl hH hw);obtain⟨G,hG⟩:∃G:Nat→Int,∀t,G t=d[t]!:=⟨fun t=>d[t]!,fun _=>rfl⟩
 have hc:∀t,t<d.size→w.cell? ⟨b,o+t,none⟩=some (.int .u64 (G t)):=fun t ht=>by rw[hG];exact HS.1.cell t ht
 have hf:=HS.1.iJ;have HF:=Aj (show Sv w b o d (Sort.swp d x p) (((w.setCell ⟨b,o+x,none⟩ (.int .u64 (G p))).setCell ⟨b,o+p,none⟩ (.int .u64 (G x))).drew)from by rw[hG,hG];exact(HS.1.swp (i:=x) (j:=p) om om).drewN 1);clear hG hH HS;obtain⟨P,hP⟩:∃P,Sort.partition ltInt d x y p=P:=⟨_,rfl⟩
 rw[hP];obtain⟨i,hi⟩:∃i,i=x+1:=⟨_,rfl⟩
 obtain⟨j,hj⟩:∃j,j=y-1:=⟨_,rfl⟩
 have hi0:(x:Int)+1=(i:Int):=om;have hj0:(y:Int)-1=(j:Int):=om;have hi1:x<i:=om;have hij:i≤j+1:=om;have hj1:j<y:=om;have HP:=Aj hP;have HI:=Aj hi;have HJ:=Aj hj;clear hP hi hj;obtain⟨dk,hdk⟩:∃dk,dk=Sort.swp d x p:=⟨_,rfl⟩
 rw[←hdk]at HF;have HDK:=Aj hdk;clear hdk;go_enter func308,ntmps308;rcases Nat.lt_or_eq_of_le hxp with hxp|rfl
 all_goals
  go_wp2_with fail;go_region;clear hc hf;have hdk:=HDK.1;have HS:=HF;go_upto_block 0 with fail;go_cut [10]from 30 (fun v wc=>∃k:Nat,v= .int .i64 (k:Int)∧i≤k∧k≤j+1∧Sv w b o d dk wc∧Kept (k=scanUp (fun z=>ltInt z dk[x]!) dk j i))
  case first=>
   go_wp2;go_loopw [10] (fun vi wr=>∃k:Nat,vi= .int .i64 (k:Int)∧i≤k∧k≤j+1∧Sv w b o d dk wr∧Kept (scanUp (fun z=>ltInt z dk[x]!) dk j k=scanUp (fun z=>ltInt z dk[x]!) dk j i)) (fun vi _=>j+1-(intOf vi).toNat)
   case atStart=>exact⟨i,rfl,Nr _,om,HS.1,⟨rfl⟩⟩
   case round=>
    obtain⟨k,rfl,hk1,hk2,hs,HK⟩:=hrel;have hf:=hs.iJ;obtain⟨G,hG⟩:∃G:Nat→Int,∀t,G t=dk[t]!:=⟨fun t=>dk[t]!,fun _=>rfl⟩
    have hc:∀t,t<d.size→wr.cell? ⟨b,o+t,none⟩=some (.int .u64 (G t)):=fun t ht=>by rw[hG];exact hs.cell t ht
    have HG:=Aj hG;have HS2:=Aj hs;clear hs hG;by_cases hkj:k≤j
    ·have uO:(k:Int)≤(j:Int):=by omega
     have hl:ltInt (G k) (G x)=false∨ltInt (G k) (G x)=true:=by cases ltInt (G k) (G x)<;>simp
     rcases hl with hl|hl
     ·go_wp2_with fail;go_quiet (first|(go_at_call 283;refine Ay (aD _ _ _)));go_wp2;go_meet;exact⟨k,rfl,hk1,hk2,HS2.1.drewN _,⟨by rw[←HK.1,scanUp_end _ dk j k (.inr (by simp only[←HG.1];simp[hl]))]⟩⟩
     ·go_wp2_with fail;go_quiet (first|(go_at_call 283;refine Ay (aD _ _ _)));go_wp2;go_roundw
      case rel=>exact⟨k+1,by go_num,om,om,HS2.1.drewN _,⟨by rw[←HK.1,scanUp_go _ dk j k hkj (by simp only[←HG.1];simp[hl])]⟩⟩
      case measure=>simp[intOf];omega
    ·have uO:decide ((k:Int)≤(j:Int))=false:=AF om;go_wp2_with fail;go_quiet (first|(go_at_call 283;refine Ay (aD _ _ _)));go_wp2;go_meet;exact⟨k,rfl,hk1,hk2,HS2.1.drewN _,⟨by rw[←HK.1,scanUp_end _ dk j k (.inl hkj)]⟩⟩
  case rest=>
   obtain⟨k,rfl,hk1,hk2,hs,HK⟩:=hcut;have HS:=Aj hs;clear hs;go_upto_block 2 with fail;go_cut [11]from 30 (fun v wc=>∃m:Nat,v= .int .i64 (m:Int)∧k≤m+1∧m≤j∧Sv w b o d dk wc∧Kept (m=scanDown (fun z=>!ltInt z dk[x]!) dk k j))
   case first=>
    go_wp2;go_loopw [11] (fun vi wr=>∃m:Nat,vi= .int .i64 (m:Int)∧k≤m+1∧m≤j∧Sv w b o d dk wr∧Kept (scanDown (fun z=>!ltInt z dk[x]!) dk k m=scanDown (fun z=>!ltInt z dk[x]!) dk k j)) (fun vi _=>(intOf vi).toNat)
    case atStart=>exact⟨j,rfl,om,Nr _,HS.1,⟨rfl⟩⟩
    case round=>
     obtain⟨m,rfl,hm1,hm2,hs,HM⟩:=hrel;have hf:=hs.iJ;obtain⟨G,hG⟩:∃G:Nat→Int,∀t,G t=dk[t]!:=⟨fun t=>dk[t]!,fun _=>rfl⟩
     have hc:∀t,t<d.size→wr.cell? ⟨b,o+t,none⟩=some (.int .u64 (G t)):=fun t ht=>by rw[hG];exact hs.cell t ht
     have HG:=Aj hG;have HS2:=Aj hs;clear hs hG;by_cases hkj:k≤m
     ·have uO:(k:Int)≤(m:Int):=by omega
      have hl:ltInt (G m) (G x)=false∨ltInt (G m) (G x)=true:=by cases ltInt (G m) (G x)<;>simp
      rcases hl with hl|hl
      ·go_wp2_with fail;go_quiet (first|(go_at_call 283;refine Ay (aD _ _ _)));go_wp2;go_roundw
       case rel=>exact⟨m-1,by congr 1;omega,om,om,HS2.1.drewN _,⟨by rw[←HM.1,scanDown_go _ dk k m hkj om (by simp only[←HG.1];simp[hl])]⟩⟩
       case measure=>simp[intOf];omega
      ·go_wp2_with fail;go_quiet (first|(go_at_call 283;refine Ay (aD _ _ _)));go_wp2;go_meet;exact⟨m,rfl,hm1,hm2,HS2.1.drewN _,⟨by rw[←HM.1,scanDown_end _ dk k m (.inr (by simp only[←HG.1];simp[hl]))]⟩⟩
     ·have uO:decide ((k:Int)≤(m:Int))=false:=AF om;go_wp2_with fail;go_quiet (first|(go_at_call 283;refine Ay (aD _ _ _)));go_wp2;go_meet;exact⟨m,rfl,hm1,hm2,HS2.1.drewN _,⟨by rw[←HM.1,scanDown_end _ dk k m (.inl hkj)]⟩⟩
   case rest=>
    obtain⟨m,rfl,hm1,hm2,hs,HM⟩:=hcut;have HS:=Aj hs;by_cases hmk:m<k
    ·have hmk':(m:Int)< (k:Int):=by omega
     have hp:=Aj (part_first_break ltInt d x y _ HI.1 HJ.1 hdk HK.1 HM.1 hmk);have hf:=hs.iJ;have HSW:=Aj (hs.swp (i:=m) (j:=x) om om);obtain⟨G,hG⟩:∃G:Nat→Int,∀t,G t=dk[t]!:=⟨fun t=>dk[t]!,fun _=>rfl⟩
     have hc:∀t,t<d.size→wc.cell? ⟨b,o+t,none⟩=some (.int .u64 (G t)):=fun t ht=>by rw[hG];exact hs.cell t ht
     have HG:=Aj hG;clear hs hG;rcases(show x<m∨m=x from om)with hxm|rfl
     all_goals
      go_wp2_with fail;go_region
      all_goals go_wp2
      go_ret2;rw[←HP.1,hp.1];refine⟨rfl,?_⟩;simp only[HG.1];exact HSW.1.drewN 1
    ·have hmk':¬(m:Int)< (k:Int):=by omega
     have hp:=part_first_go ltInt d x y _ HI.1 HJ.1 hdk HK.1 HM.1 om;have hlt:=part_scans_lt ltInt x i j dk om HK.1 HM.1 om;obtain⟨Q,hQ⟩:∃Q,partLoop ltInt x (k+1) (m-1) (Sort.swp dk k m)=Q:=⟨_,rfl⟩
     rw[hQ]at hp;have HPT:=Aj hp;have hf:=hs.iJ;obtain⟨G,hG⟩:∃G:Nat→Int,∀t,G t=dk[t]!:=⟨fun t=>dk[t]!,fun _=>rfl⟩
     have hc:∀t,t<d.size→wc.cell? ⟨b,o+t,none⟩=some (.int .u64 (G t)):=fun t ht=>by rw[hG];exact hs.cell t ht
     have HG:=Aj hG;have HSW:=Aj (show Sv w b o d (Sort.swp dk k m) (((wc.setCell ⟨b,o+k,none⟩ (.int .u64 (G m))).setCell ⟨b,o+m,none⟩ (.int .u64 (G k))).drew)from by rw[hG,hG];exact(hs.swp (i:=k) (j:=m) om om).drewN 1);clear hs hG hp;go_wp2_with fail;go_region;go_wp2;clear hc hf;generalize hd2:Sort.swp dk k m=d2 at*;go_loopw [10,11] (fun vi vj wr=>∃(i j:Nat) (dk:Array Int),vi= .int .i64 (i:Int)∧vj= .int .i64 (j:Int)∧x<i∧i≤j+1∧j<y∧Sv w b o d dk wr∧Kept (partLoop ltInt x i j dk=Q)) (fun vi vj _=>(intOf vj+1-intOf vi).toNat)
     case atStart=>exact⟨k+1,m-1,_,by go_num,by congr 1;omega,om,om,om,HSW.1,⟨hQ⟩⟩
     case round=>
      clear hdk hQ hd2 HSW HK HM hi1 hij hj1 hk1 hk2 hm1 hm2 hmk hmk' hlt;obtain⟨i,j,dk,rfl,rfl,hi1,hij,hj1,hs,HO⟩:=hrel;have HS:=Aj hs;clear hs;go_upto_block 6 with fail;go_cut [10]from 99 to 152 (fun v wc=>∃k:Nat,v= .int .i64 (k:Int)∧i≤k∧k≤j+1∧Sv w b o d dk wc∧Kept (k=scanUp (fun z=>ltInt z dk[x]!) dk j i))
      case first=>
       go_wp2;go_loopw [10] (fun vi wr=>∃k:Nat,vi= .int .i64 (k:Int)∧i≤k∧k≤j+1∧Sv w b o d dk wr∧Kept (scanUp (fun z=>ltInt z dk[x]!) dk j k=scanUp (fun z=>ltInt z dk[x]!) dk j i)) (fun vi _=>j+1-(intOf vi).toNat)
       case atStart=>exact⟨i,rfl,Nr _,om,HS.1,⟨rfl⟩⟩
       case round=>
        obtain⟨k,rfl,hk1,hk2,hs,HK⟩:=hrel;have hf:=hs.iJ;obtain⟨G,hG⟩:∃G:Nat→Int,∀t,G t=dk[t]!:=⟨fun t=>dk[t]!,fun _=>rfl⟩
        have hc:∀t,t<d.size→wr.cell? ⟨b,o+t,none⟩=some (.int .u64 (G t)):=fun t ht=>by rw[hG];exact hs.cell t ht
        have HG:=Aj hG;have HS2:=Aj hs;clear hs hG;by_cases hkj:k≤j
        ·have uO:(k:Int)≤(j:Int):=by omega
         have hl:ltInt (G k) (G x)=false∨ltInt (G k) (G x)=true:=by cases ltInt (G k) (G x)<;>simp
         rcases hl with hl|hl
         ·go_wp2_with fail;go_quiet (first|(go_at_call 283;refine Ay (aD _ _ _)));go_wp2;go_meet;exact⟨k,rfl,hk1,hk2,HS2.1.drewN _,⟨by rw[←HK.1,scanUp_end _ dk j k (.inr (by simp only[←HG.1];simp[hl]))]⟩⟩
         ·go_wp2_with fail;go_quiet (first|(go_at_call 283;refine Ay (aD _ _ _)));go_wp2;go_roundw
          case rel=>exact⟨k+1,by go_num,om,om,HS2.1.drewN _,⟨by rw[←HK.1,scanUp_go _ dk j k hkj (by simp only[←HG.1];simp[hl])]⟩⟩
          case measure=>simp[intOf];omega
        ·have uO:decide ((k:Int)≤(j:Int))=false:=AF om;go_wp2_with fail;go_quiet (first|(go_at_call 283;refine Ay (aD _ _ _)));go_wp2;go_meet;exact⟨k,rfl,hk1,hk2,HS2.1.drewN _,⟨by rw[←HK.1,scanUp_end _ dk j k (.inl hkj)]⟩⟩
      case rest=>
       obtain⟨k,rfl,hk1,hk2,hs,HK⟩:=hcut;have HS:=Aj hs;clear hs;go_upto_block 8 with fail;go_cut [11]from 99 to 152 (fun v wc=>∃m:Nat,v= .int .i64 (m:Int)∧k≤m+1∧m≤j∧Sv w b o d dk wc∧Kept (m=scanDown (fun z=>!ltInt z dk[x]!) dk k j))
       case first=>
        go_wp2;go_loopw [11] (fun vi wr=>∃m:Nat,vi= .int .i64 (m:Int)∧k≤m+1∧m≤j∧Sv w b o d dk wr∧Kept (scanDown (fun z=>!ltInt z dk[x]!) dk k m=scanDown (fun z=>!ltInt z dk[x]!) dk k j)) (fun vi _=>(intOf vi).toNat)
        case atStart=>exact⟨j,rfl,om,Nr _,HS.1,⟨rfl⟩⟩
        case round=>
         obtain⟨m,rfl,hm1,hm2,hs,HM⟩:=hrel;have hf:=hs.iJ;obtain⟨G,hG⟩:∃G:Nat→Int,∀t,G t=dk[t]!:=⟨fun t=>dk[t]!,fun _=>rfl⟩
         have hc:∀t,t<d.size→wr.cell? ⟨b,o+t,none⟩=some (.int .u64 (G t)):=fun t ht=>by rw[hG];exact hs.cell t ht
         have HG:=Aj hG;have HS2:=Aj hs;clear hs hG;by_cases hkj:k≤m
         ·have uO:(k:Int)≤(m:Int):=by omega
          have hl:ltInt (G m) (G x)=false∨ltInt (G m) (G x)=true:=by cases ltInt (G m) (G x)<;>simp
          rcases hl with hl|hl
          ·go_wp2_with fail;go_quiet (first|(go_at_call 283;refine Ay (aD _ _ _)));go_wp2;go_roundw
           case rel=>exact⟨m-1,by congr 1;omega,om,om,HS2.1.drewN _,⟨by rw[←HM.1,scanDown_go _ dk k m hkj om (by simp only[←HG.1];simp[hl])]⟩⟩
           case measure=>simp[intOf];omega
          ·go_wp2_with fail;go_quiet (first|(go_at_call 283;refine Ay (aD _ _ _)));go_wp2;go_meet;exact⟨m,rfl,hm1,hm2,HS2.1.drewN _,⟨by rw[←HM.1,scanDown_end _ dk k m (.inr (by simp only[←HG.1];simp[hl]))]⟩⟩
         ·have uO:decide ((k:Int)≤(m:Int))=false:=AF om;go_wp2_with fail;go_quiet (first|(go_at_call 283;refine Ay (aD _ _ _)));go_wp2;go_meet;exact⟨m,rfl,hm1,hm2,HS2.1.drewN _,⟨by rw[←HM.1,scanDown_end _ dk k m (.inl hkj)]⟩⟩
       case rest=>
        obtain⟨m,rfl,hm1,hm2,hs,HM⟩:=hcut;have HS:=Aj hs;by_cases hmk:m<k
        ·have hmk':(m:Int)< (k:Int):=by omega
         have hp:=Aj (part_break ltInt x i j dk HK.1 HM.1 hmk);have hf:=hs.iJ;have HSW:=Aj (hs.swp (i:=m) (j:=x) om om);obtain⟨G,hG⟩:∃G:Nat→Int,∀t,G t=dk[t]!:=⟨fun t=>dk[t]!,fun _=>rfl⟩
         have hc:∀t,t<d.size→wc.cell? ⟨b,o+t,none⟩=some (.int .u64 (G t)):=fun t ht=>by rw[hG];exact hs.cell t ht
         have HG:=Aj hG;clear hs hG;rcases(show x<m∨m=x from om)with hxm|rfl
         all_goals
          go_wp2_with fail;go_region
          all_goals go_wp2
          go_ret2;rw[←HP.1,HPT.1,←HO.1,hp.1];refine⟨rfl,?_⟩;simp only[HG.1];exact HSW.1.drewN 1
        ·have hmk':¬(m:Int)< (k:Int):=by omega
         have hp:=Aj (part_go ltInt x i j dk HK.1 HM.1 om);have hlt:=part_scans_lt ltInt x i j dk om HK.1 HM.1 om;have hf:=hs.iJ;obtain⟨G,hG⟩:∃G:Nat→Int,∀t,G t=dk[t]!:=⟨fun t=>dk[t]!,fun _=>rfl⟩
         have hc:∀t,t<d.size→wc.cell? ⟨b,o+t,none⟩=some (.int .u64 (G t)):=fun t ht=>by rw[hG];exact hs.cell t ht
         have HG:=Aj hG;clear hs hG;go_wp2_with fail;go_region
         all_goals go_wp2
         go_roundw
         case rel=>
          refine⟨k+1,m-1,Sort.swp dk k m,by go_num,by congr 1;omega,om,om,om,?_,⟨by rw[←HO.1,hp.1]⟩⟩;rw[HG.1,HG.1];exact(HS.1.drewN _).swp (i:=k) (j:=m) om om
         case measure=>simp[intOf];omega
end
section
open Go.Shelf
theorem uP (a b:Nat) (ha:a<256) (hb:b<256):bits .or .u8 (a:Int) (b:Int)=((a|||b:Nat):Int):=by
 have hx:a|||b<2^8:=Nat.or_lt_two_pow om om
 have h1:(BitVec.ofInt 8 (a:Int)).toNat=a:=by
  rw[BitVec.ofInt_natCast,BitVec.toNat_ofNat];exact kS om
 have h2:(BitVec.ofInt 8 (b:Int)).toNat=b:=by
  rw[BitVec.ofInt_natCast,BitVec.toNat_ofNat];exact kS om
 show IntKind.u8.wrap ((BitVec.ofInt 8 (a:Int)|||BitVec.ofInt 8 (b:Int)).toNat:Int)=_;rw[BitVec.toNat_or,h1,h2,IntKind.wrap_u8];omega
theorem Tt (b:Bool) (j) (h:j≤7):b.toNat<<<j<256:=by
 rw[Ce];have h1:b.toNat≤1:=by cases b<;>simp
 have h2:2^j≤2^7:=kR Ah h;have:=Nat.mul_le_mul h1 h2;omega
theorem Xb (x m j old:Nat) (hx:x<18446744073709551616) (ho:old<256) (hj:j≤7):
  bits .or .u8 (old:Int) (bits .and .u64 ((x:Int)/2^m) 1%256*2^j%256)=((old|||((x.testBit m).toNat<<<j):Nat):Int):=by
 have e1:(x:Int)/2^m=((x/2^m:Nat):Int):=sm;have hd:x/2^m<18446744073709551616:=Em (Nat.div_le_self _ _) hx;have e2:bits .and .u64 ((x/2^m:Nat):Int) 1=(((x.testBit m).toNat:Nat):Int):=by
  rw[DC];generalize x/2^m=q at*;rw[and_one_u64 _ om om];rcases Df q with h|h
  ·simp[h];omega
  ·simp[h];omega
 have hs:=Tt (x.testBit m) j hj;rw[e1,e2];have e3:(((x.testBit m).toNat:Nat):Int)%256*2^j%256=(((x.testBit m).toNat<<<j:Nat):Int):=by
  rw[Ce]at hs⊢;have h1:(x.testBit m).toNat≤1:=by cases x.testBit m<;>simp
  have h4:(((x.testBit m).toNat:Nat):Int)%256=(((x.testBit m).toNat:Nat):Int):=om;rw[h4,show(2:Int)^j=((2^j:Nat):Int)from sm,←Int.natCast_mul];omega
 rw[e3,uP _ _ ho hs]
def ac9 (w:World) (k:Nat):Prop:=∀cs fr,w.heap[k]?≠some (.cells cs 5 fr)
structure Wk (base p:Nat) (w w':World):Prop where
 aZ:Below base w w'
 rest:∀k,k<w.heap.size→k≠p→ac9 w k→w'.heap[k]? =w.heap[k]?
theorem Wk.refl (base p w):Wk base p w w:=⟨Ae _ _,fun _ _ _ _=>rfl⟩
theorem Wk.trans {base p w w1 w2} (h:Wk base p w w1) (g:Wk base p w1 w2):Wk base p w w2:=
 ⟨h.aZ.trans g.aZ,fun k hk hp hb=>by
  have e:=h.rest k hk hp hb;refine(g.rest k (j6 hk h.aZ.size) hp ?_).trans e;intro cs fr;rw[e];exact hb cs fr⟩
theorem Wk.alloc {base p w w1} (h:Wk base p w w1) (o) (hb:base≤w1.heap.size):Wk base p w (w1.alloc o):=
 ⟨h.aZ.alloc hb o,fun k hk hp hn=>(Aw _ _ _ (j6 hk h.aZ.size)).trans (h.rest k hk hp hn)⟩
theorem au (w:World) (a v):w.grownBy (w.setCell a v) (some a.block):=
 ⟨rfl,rfl,rfl,sm,fun k _ hne=>AO w a v k (fun e=>hne (by rw[e]))⟩
theorem Wk.set {base p} (w k v) (hb:base≤p) (hp:p<w.heap.size):Wk base p w (w.setCell ⟨p,k,none⟩ v):=
 ⟨(Ae _ _).grown (au w ⟨p,k,none⟩ v) om (fun r e=>by cases e;exact hb),fun j hj hp _=>(au w ⟨p,k,none⟩ v).block j hj (fun e=>hp (by cases e;rfl))⟩
theorem Wk.drew {base p w w1} (h:Wk base p w w1):Wk base p w w1.drew:=⟨⟨h.aZ.os,h.aZ.tape,h.aZ.output,h.aZ.size,h.aZ.block⟩,h.rest⟩
theorem Wk.row {base p w w1 A n c l} (ho:ah w base A n c l) (hg:w.grownBy w1 (ab A)) (hb:base≤w.heap.size):Wk base p w w1:=
 ⟨(Ae _ _).grown hg hb (fun r e=>(ae ho r e).1),fun j hj _ hn=>hg.block j hj (fun e=>by
  rcases ho.2 with⟨hv,_⟩|⟨g,cap,cur,hv,_,hgb,_⟩
  ·injection hv with hv1;rw[hv1]at e;cases e
  ·injection hv with hv1
   rw[hv1]at e;obtain rfl:j=g:=by simpa[ab]using e
   exact hn _ _ hgb)⟩
theorem oG {w base n c g A l} (h:ah w base A n c l) {cs t fr} (hg:w.heap[g]? =some (.cells cs t fr)) (ht:t≠5):some g≠ab A:=by
 rcases h.2 with⟨hv,_⟩|⟨g2,cap,cur,hv,_,hgb,_⟩
 ·injection hv with hv1;rw[hv1];exact fun e=>by cases e
 ·injection hv with hv1
  rw[hv1];intro e;obtain rfl:g=g2:=by simpa[ab]using e
  rw[hg]at hgb;simp only[gT,DU]at hgb;exact ht hgb.2.1
def fJ (w:World) (base p:Nat) (bs:List Bool):Prop:=
 ∃A n c L,w.heap[p]? =some (.cells #[.slice A n c,.int .i64 (bs.length:Int)] 350 (0,0))∧ah w base A n c L∧Bt.Wr L bs∧base≤p
theorem fJ.lt {w base p bs} (h:fJ w base p bs):p<w.heap.size∧base≤p:=by
 obtain⟨A,n,c,L,h1,-,-,h2⟩:=h;exact⟨(Ge.1 h1).1,h2⟩
theorem cB (base p x n:Nat) (bs w) (h:fJ w base p bs) (hx:x<18446744073709551616) (hn:n≤64) (hl:bs.length≤1000000000):
  Calls prog 191 #[.pointer (some ⟨p,0,none⟩),.int .u64 (x:Int),.int .i64 (n:Int)] w fun e w'=>e= .returned (.int .i64 0)∧fJ w' base p (bs++Bt.bw n x)∧Wk base p w w':=by
 have H:=Aj h;have Hx:=Aj hx;have hpl:=h.lt;clear h hx;have hn0:¬(n:Int)<0:=om;have hn1:¬(64:Int)< (n:Int):=om;go_enter func191,ntmps191;go_wp2;go_loopw [19] (fun i wr=>∃k:Nat,k≤n∧i= .int .i64 k∧fJ wr base p (bs++(Bt.bw n x).take k)∧Wk base p w wr) (fun i _=>n-(intOf i).toNat)
 case atStart=>exact⟨0,om,rfl,by simpa using H.1,Wk.refl _ _ _⟩
 case round=>
  obtain⟨k,hk,rfl,hW,hK⟩:=hrel;have HK:=Aj hK;clear hK;by_cases hlt:k<n
  ·have hlt':(k:Int)< (n:Int):=by omega
   obtain⟨A,m,c,L,h1,ho,hwr,hb⟩:=hW;have hlen:(bs++(Bt.bw n x).take k).length=bs.length+k:=by rw[La,oV,Bt.aj];omega
   rw[hlen]at h1;obtain⟨at_,hat⟩:∃at_,at_=bs.length+k:=⟨_,rfl⟩
   rw[←hat]at h1 hlen;have ada:(at_:Int)≤2000000000:=om;have HL:=Aj hlen;clear hat hlen;have c0:=Co _ _ 0 _ _ _ h1;have c1:=Co _ _ 1 _ _ _ h1;have f0:=Fr _ _ 0 _ _ h1;have f1:=Fr _ _ 1 _ _ h1;have hm1:m≤300000000:=by have h1:=ho.len;have h2:=hwr.len;rw[HL.1]at h2;omega
   go_upto_if 28 with(fail)
   go_cut [] (fun wx=>∃A2 m2 c2 L2,wx.heap[p]? =some (.cells #[.slice A2 m2 c2,.int .i64 (at_:Int)] 350 (0,0))∧ah wx base A2 m2 c2 L2∧L2=(if at_%8=0 then L++[0]else L)∧Wk base p w wx)
   case first=>
    by_cases h8:at_%8=0
    ·have h8':((at_:Int)%8==0)=true:=by simp;omega
     have HO:=Aj (show ah (wr.alloc (.cells #[.int .u8 0] 5)) base A m c L from Oa ho _);have HR:=Aj (show bf (wr.alloc (.cells #[.int .u8 0] 5)) (wr.heap.size+1) (some ⟨wr.heap.size,0,none⟩) 1 1 [0]from bf.one wr 0);have hbs:base≤(wr.alloc (.cells #[.int .u8 0] 5)).heap.size:=by simp;have:=HK.1.aZ.size;omega
     have H1:=Aj (show(wr.alloc (.cells #[.int .u8 0] 5)).heap[p]? =_ from(Aw _ _ _ (Ge.1 h1).1).trans h1);have hpz:p< (wr.alloc (.cells #[.int .u8 0] 5)).heap.size:=(Ge.1 H1.1).1;have hne:some p≠ab A:=oG HO.1 H1.1 Ah;have H8:=Aj h8;clear ho h1 h8;go_wp2_with (at_builtin;refine eG rfl (.tmp 34) (.tmp 35) rfl base A m c L rfl HO.1 _ _ _ _ _ rfl HR.1 om hbs ?_;intro A4 c4 w5 av af cO;have O4:=Aj av;have G4:=Aj af;have e5:=(af.block p hpz hne).trans H1.1;have c5:=Co _ _ 0 _ _ _ e5;have f5:=Fr _ _ 0 _ _ e5;have E5:=Aj e5;clear av af e5);go_meet;have hz:=HK.1.aZ.size;refine⟨A4,m+1,c4,L++[0],?_,?_,by rw[Ps0 H8.1],?_⟩
     ·rw[Ag w5 p 0 _ _ _ E5.1];rfl
     ·exact O4.1.apart (au w5 ⟨p,0,none⟩ _) (fun r e=>by cases e;exact .inl (fun e2=>oG O4.1 E5.1 Ah e2.symm))
     ·exact(((HK.1.alloc _ om).trans (Wk.row HO.1 G4.1 hbs))).trans (Wk.set w5 0 _ hb (Ge.1 E5.1).1)
    ·have h8':((at_:Int)%8==0)=false:=by simp;omega
     go_wp2;go_meet;exact⟨A,m,c,L,h1,ho,by rw[Ng h8],HK.1⟩
   case rest=>
    obtain⟨A2,m2,c2,L2,g1,go2,hL2,K2⟩:=hcut;clear c0 c1 f0 f1;have hpush:=fun y=>hwr.push ((Bt.bw n x).getD k false) (y:=y) (L2:=L2) (by rw[HL.1];exact hL2)
    simp only[HL.1]at hpush;have uQ:at_/8<L2.length:=by
     have h2:=hwr.len;rw[HL.1]at h2;rw[hL2];split
     ·simp;omega
     ·omega
    have hm2:=go2.len;obtain⟨g,rfl,hg1,hg2⟩:=go2.pos om;have c0:wc.cell? ⟨p,0,none⟩=some (.slice (some ⟨g,0,none⟩) m2 c2):=Co _ _ 0 _ _ _ g1;have c1:wc.cell? ⟨p,1,none⟩=some (.int .i64 (at_:Int)):=Co _ _ 1 _ _ _ g1;have f1:=Fr _ _ 1 _ _ g1;obtain⟨cg,fg⟩:=go2.at_ uQ;have wM:¬g=p:=fun e=>oG go2 g1 Ah (by rw[e];rfl)
    have hi1:(at_:Int)/8< (m2:Int):=om;have hi0:(0:Int)≤(at_:Int)/8:=om;have hi2:((at_:Int)/8).toNat=at_/8:=om;have G1:=Aj g1;have GO:=Aj go2;have H2:=Aj hL2;have HM:=Aj hm2;have HP:=Aj hpush;obtain⟨old,hold⟩:∃old,old=L2[at_/8].toNat:=⟨_,rfl⟩
    rw[←hold]at cg;have HOLD:Kept (old=(L2.getD (at_/8) 0).toNat):=⟨by rw[hold,fZ,ja uQ];rfl⟩
    have HL2:=Aj uQ;have H1:=Aj h1;clear g1 go2 hL2 hm2 hpush hm1 h1 ho hold uQ hg1 hg2;have w1:IntKind.i64.wrap ((at_:Int)/8)=(at_:Int)/8:=by rw[Bq];omega
    have w2:IntKind.i64.wrap ((n:Int)-1)=(n:Int)-1:=by rw[Bq];omega
    have w3:IntKind.i64.wrap ((n:Int)-1-(k:Int))=(n:Int)-1-(k:Int):=by rw[Bq];omega
    have w4:(at_:Int).tmod 8=(at_:Int)%8:=Int.tmod_eq_emod_of_nonneg om;have w6:(7-(at_:Int)%8).toNat=7-at_%8:=om;have w7:¬7-(at_:Int)%8<0:=om;have w5:IntKind.i64.wrap (7-(at_:Int)%8)=7-(at_:Int)%8:=by rw[Bq];omega
    go_upto_region 10 with(fail)
    refine wp_region_still_tail 31 kr kr ?_;simp only[Cc,Eh,AY,Bp]
    repeat still_step
    refine wpStill_nil ?_
    change wpList _ _ _ _ _ wc.drew
    go_wp2;go_roundw
    case rel=>
     have hold:old<256:=by rw[HOLD.1];exact UInt8.toNat_lt _
     rw[Xb x (n-1-k) (7-at_%8) old Hx.1 hold om];have hkb:(Bt.bw n x).getD k false=x.testBit (n-1-k):=by
      have hk':k< (Bt.bw n x).length:=by rw[Bt.aj];exact hlt
      rw[fZ,ja hk',Bt.Jw];rfl
     have hy:(UInt8.ofNat (old|||((x.testBit (n-1-k)).toNat<<< (7-at_%8)))).toNat=old|||((x.testBit (n-1-k)).toNat<<< (7-at_%8)):=by
      rw[DI];exact kS (Nat.or_lt_two_pow (n:=8) hold (Tt _ _ om))
     obtain⟨-,hw2⟩:=HP.1 (UInt8.ofNat (old|||((x.testBit (n-1-k)).toNat<<< (7-at_%8)))) (by rw[hkb,←HOLD.1];exact hy);rw[←hy];generalize UInt8.ofNat (old|||((x.testBit (n-1-k)).toNat<<< (7-at_%8)))=y at*;have gs:=au wc ⟨g,at_/8,none⟩ (.int .u8 (y.toNat:Int));have hpz:=(Ge.1 G1.1).1;have e1:(wc.setCell ⟨g,at_/8,none⟩ (.int .u8 (y.toNat:Int))).heap[p]? =_:=(gs.block p hpz (fun e=>wM (by cases e;rfl))).trans G1.1;have o1:=GO.1.set (at_/8) y;have hK2:=K2.trans (Wk.row GO.1 gs (by have:=K2.aZ.size;omega));refine⟨k+1,om,by go_num,⟨some ⟨g,0,none⟩,m2,c2,L2.set (at_/8) y,?_,?_,?_,hb⟩,(hK2.trans (Wk.set _ 1 _ hb (Ge.1 e1).1)).drew⟩
     ·have hl3:(bs++(Bt.bw n x).take (k+1)).length=at_+1:=by
       have:=HL.1;simp only[La,oV,Bt.aj]at this⊢;omega
      rw[hl3];show((wc.setCell ⟨g,at_/8,none⟩ (.int .u8 (y.toNat:Int))).setCell ⟨p,1,none⟩ (.int .i64 ((at_:Int)+1))).heap[p]? =_;rw[Ag _ p 1 _ _ _ e1];rfl
     ·have o2:=ah.apart (row:=some p) o1 (au _ ⟨p,1,none⟩ (.int .i64 ((at_:Int)+1))) (fun r e=>by cases e;exact .inl (fun e2=>oG o1 e1 Ah e2.symm));exact o2
     ·rw[Af]at hw2;have:(Bt.bw n x).take (k+1)=(Bt.bw n x).take k++[(Bt.bw n x).getD k false]:=by
       have hk':k< (Bt.bw n x).length:=by rw[Bt.aj];exact hlt
       rw[Ts hk',fZ,ja hk'];rfl
      rw[this];exact hw2
    case measure=>simp[intOf];omega
  ·obtain rfl:k=n:=by omega
   have hW':fJ wr base p (bs++Bt.bw k x):=by rwa[iM (by rw[Bt.aj];omega)]at hW
   go_wp2;go_ret;exact⟨rfl,hW',HK.1⟩
end
end Go.Proofs.YtongopommlghgaaGreatDoor
