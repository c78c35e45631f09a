/- Part 15. -/
import Derived.Test.YtjcpmfphnodaaaaGreatDoorZTAN
namespace Go.Proofs.YtjcpmfphnodaaaaGreatDoor
set_option maxRecDepth 100000
set_option maxHeartbeats 0
open _root_.Go.Proofs.Tryz
section
section
open Go.RowKit Go.Shelf
attribute [local go_sem] Oper.semAt_some
def encS (s:ByteArray):Array Value:= #[.string s]
theorem dV {w w':World} {base n c sz} {A} {xs} {t} {row} (h:w.ownsRow base t sz (.slice A n c) n xs) (hg:w.grownBy w' row)
  (hr:∀r,row=some r→ab A≠some r∨∃o:Obj,w.heap[r]? =some o∧o.isCells=false):w'.ownsRow base t sz (.slice A n c) n xs:=by
 refine⟨h.1,?_⟩;rcases h.2 with hn|⟨g,cap,cur,hv,h1,h2,rest⟩
 ·exact .inl hn
 ·refine .inr ⟨g,cap,cur,hv,h1,?_,rest⟩;rw[hg.block g (Ge.1 h2).1]
  ·exact h2
  ·intro e';rcases hr g e'.symm with h3|⟨o,ho,hoc⟩
   ·injection hv with hv
    rw[hv]at h3;exact h3 rfl
   ·rw[h2]at ho;cases ho;cases hoc
theorem vK (n bx B) (A) (m c) (l) (w) (hw:Boxed w bx 134 (.slice A m c)) (hbx:bx<B) (hv:bM w B A m c l):
  Yields n prog 245 #[.pointer (some ⟨bx,0,none⟩)] encS (fun _=>False) (fun X Y=>Below B X Y) l w:=by
 intro q J Jx W hK hJ hJx bz h0;have hlc:=hv.1;have hcm:=hv.2.1;unfold maxLen at hcm;have hW:Boxed W bx 134 (.slice A m c):=(hK.block bx hbx).trans hw;have hn:=Aj hv.len;have V:=Aj (hv.below hK);have df:=Aj bz;have hc0:=hW.cell;clear hw hK bz hJ hJx hv;refine Bd.2 ?_;go_enter func245,ntmps245;go_wp2;go_loopw [7] (fun i wr=>∃k:Nat,k≤m∧i= .int .i64 k∧Below B W wr∧Kept (J (l.take k) wr)) (fun i _=>m-(intOf i).toNat)
 case atStart=>exact⟨0,om,rfl,Ae _ _,⟨h0⟩⟩
 case round=>
  clear h0 hc0 hW;obtain⟨k,hk,rfl,hb,hj⟩:=hrel;by_cases hlt:k<m
  ·have hkl:k<l.length:=by rw[←hn.1];exact hlt
   have ht:=Ts hkl;obtain⟨fn,tmps,assign,body,hy,qx⟩:=df.1 (l.take k) l[k] wr hj.1 ⟨l.drop (k+1),by rw[←ht,jC]⟩;unfold encS at hy;have HT:=Aj ht;obtain⟨b,off,rfl,-,c0⟩:=(V.1.below hb).at_ hkl;have BB:=Aj hb;clear ht hb hj;generalize l[k]=x at*;refine(Bl (n:=n)).1 ?_
   gi_wp2
   refine⟨(fun h=>by simp[Fence.wide]at h),qx.mono ?_⟩;rintro e W' (⟨rfl,hj',hb'⟩|⟨rfl,rW⟩)
   ·have B2:=Aj (BB.1.trans hb');have J2:=Aj hj';clear hj' hb' c0
    gi_wp2
    go_roundw
    case rel=>exact⟨k+1,om,by go_num,B2.1,⟨by rw[HT.1];exact J2.1⟩⟩
    case measure=>simp[intOf];omega
   ·have X2:=Aj rW;clear rW c0
    gi_wp2
    refine AQ (BI rfl _ _ _) rfl ⟨⟨_,rfl⟩,.inr ⟨_,⟨l.drop (k+1),?_⟩,X2.1⟩⟩;rw[←HT.1,jC]
  ·have J2:Kept (J l wr):=⟨by have:=hj.1;rwa[jY (by have:=hn.1;omega)]at this⟩
   clear hj;go_wp2;go_end0;exact⟨⟨_,rfl⟩,.inl J2.1⟩
def yM (w:World) (pre:List ByteArray) (W:World):Prop:=
 ∃A n c,Boxed W w.heap.size 134 (.slice A n c)∧aS W (w.heap.size+1) A n c pre∧Below w.heap.size w W
theorem yM.own {w}:aJ (w.heap.size+1) (fun _=>False) (yM w):=by
 rintro s W W' row ⟨A,n,c,hb,ho,hbel⟩ hg hr;have hrow:∀r,row=some r→w.heap.size<r:=fun r e=>by
  rcases hr r e with h|⟨h,_⟩
  ·exact h.elim
  ·omega
 refine⟨A,n,c,hb.kept hg (fun e=>by have:=hrow _ e.symm;omega),dV ho hg (fun r e=>?_),hbel.grown hg hbel.size (fun g e=>by have:=hrow g e;omega)⟩;rcases hr r e with h|⟨_,h⟩
 ·exact h.elim
 ·exact .inr h
theorem jO {w:World} {base n c sz} {A} {xs} {t} (h:w.ownsRow base t sz (.slice A n c) n xs):∀j o,ab A=some j→w.heap[j]? =some o→o.isCells=true:=by
 intro j o ej hj;rcases h.2 with⟨hv,_⟩|⟨g',cap,cur,hv,_,hgb,_⟩
 ·injection hv with hv1;rw[hv1]at ej;cases ej
 ·injection hv with hv1
  rw[hv1]at ej;obtain rfl:g'=j:=by simpa[ab]using ej
  rw[hgb]at hj;cases hj;rfl
theorem yM.push {w W w5} {A A4} {n c c4} {pre} {x} {tmp} (hW:w.heap.size+1≤W.heap.size) (hb:Boxed W w.heap.size 134 (.slice A n c)) (ho:aS W (w.heap.size+1) A n c pre) (hbel:Below w.heap.size w W)
  (hown:w5.ownsRow (w.heap.size+1) 9 1 (.slice A4 (n+1) c4) (n+1) (oF pre++[.string x])) (hg:(W.alloc tmp).grownBy w5 (ab A)):
  KeepsFrom (w.heap.size+1) W (w5.setCell ⟨w.heap.size,0,none⟩ (.slice A4 (n+1) c4))∧Below w.heap.size W (w5.setCell ⟨w.heap.size,0,none⟩ (.slice A4 (n+1) c4))∧yM w (pre++[x]) (w5.setCell ⟨w.heap.size,0,none⟩ (.slice A4 (n+1) c4)):=by
 have hlt:∀g,ab A=some g→w.heap.size+1≤g:=fun g e=>(ae ho g e).1
 have Gy:∀g,ab A4=some g→w.heap.size+1≤g:=fun g e=>(ae hown g e).1
 have hcl:∀j o,ab A=some j→(W.alloc tmp).heap[j]? =some o→o.isCells=true:=jO (Oa ho tmp);have gs:=grownBy_setCell' w5 w.heap.size (.slice A4 (n+1) c4);have hb1:Below w.heap.size W w5:=((Ae _ W).alloc om tmp).grown hg (by simp;omega) (fun g e=>by have:=hlt g e;omega);have hb2:Below w.heap.size W (w5.setCell ⟨w.heap.size,0,none⟩ (.slice A4 (n+1) c4)):=hb1.setCell (p:=⟨w.heap.size,0,none⟩) Ai _;refine⟨(((KeepsOthers.alloc W _).trans (KeepsOthers.of_grownBy hg hcl)).trans (KeepsOthers.setCell _ _ _)).from _,hb2,A4,n+1,c4,?_,?_,hbel.trans hb2⟩
 ·refine Boxed.set _ ((hb.alloc tmp).kept hg (fun e=>?_));have:=hlt _ e.symm;omega
 ·have e:oF pre++[.string x]=oF (pre++[x]):=by rw[mG];rfl
  rw[e]at hown;exact dV hown gs (fun r e=> .inl fun e2=>by cases e;have:=Gy _ e2;omega)
theorem vL (bx) (A) (m c) (l) (w) (hw:Boxed w bx 134 (.slice A m c)) (hv:bM w w.heap.size A m c l) (hm:m≤1000000):
  Calls prog 271 #[.slice none 0 0,.func (.func 245) #[] #[.pointer (some ⟨bx,0,none⟩)]] w fun e w'=>∃A2 n2 c2,e= .returned (.slice A2 n2 c2)∧aS w' w.heap.size A2 n2 c2 l∧Below w.heap.size w w':=by
 have hlen:=Aj hv.len;have hbx:=hw.lt;have YV:Kept (∀o,Yields 8 prog 245 #[.pointer (some ⟨bx,0,none⟩)] encS (fun _=>False) (fun X Y=>Below w.heap.size X Y) l (w.alloc o)):=⟨fun o=>vK 8 bx w.heap.size A m c l (w.alloc o) (hw.alloc o) hbx (hv.alloc Ai o)⟩
 clear hw hv;refine(Bd (n:=9)).1 ?_;refine callsIn_of_wp_marks func271 rfl trivial ?_ rfl;simp only[ntmps271,Ca,Lc,AB,Nat.reduceAdd,Nat.reduceSub,Cg,Ch,Cz,Cm,Ay,AU];refine Bl.2 ?_;go_wp2;have bB:=Boxed.new w 134 (.slice none 0 0);have hsz:(w.alloc (.cells #[.slice none 0 0] 134)).heap.size=w.heap.size+1:=sm;have g0:Below w.heap.size w (w.alloc (.cells #[.slice none 0 0] 134)):=(Ae _ _).alloc Ai _;have Y4:=YV.1 (.cells #[.slice none 0 0] 134);clear YV;generalize w.alloc (.cells #[.slice none 0 0] 134)=w4 at*;refine(Bl (n:=9)).1 ?_;refine rV Ah (gf:=245) (lb:= #[.pointer (some ⟨bx,0,none⟩)]) rfl (enters_of func245 kr rfl)
  (encs:=encS) (O:=fun _=>False) (Kp:=fun X Y=>Below w.heap.size X Y) (L:=l) Y4
  (fun _ h=>h.elim) (fun h k=>h.trans k) (fun W W' row hW hg hr=>(Ae _ W).grown hg om (fun g e=>by have:=hr g e;omega)) (fun _=>rfl)
  (yM w) (fun _ _ _=>False)
  (fun pre x a₁ W=>yM w pre W∧
   a₁={tmps:= #[.slice none 0 0,.func (.func 245) #[] #[.pointer (some ⟨bx,0,none⟩)],.pointer (some ⟨w.heap.size,0,none⟩),undef,.slice none 0 0,.string x,.func (.func 245) #[] #[.pointer (some ⟨bx,0,none⟩)],
    .string x,undef,undef,undef,undef,undef],defers:=[]})
  ?hI (fun _ _ _ _ _ h _ _=>h) ?hM ?h0 ?assign ?body ?done ?stop
 case hI=>rw[hsz];exact yM.own
 case hM=>
  rw[hsz];rintro pre p a₁ u W W' row ⟨hI,ha⟩ hgr hr;exact⟨yM.own _ _ _ _ hI hgr hr,ha⟩
 case h0=>exact⟨none,0,0,bB,AY _ _ _ _,g0⟩
 case assign=>
  rintro q pre x W hI hpre hW;unfold encS
  gi_wp2
  exact⟨⟨Nr _,fun _ _ _ h _=>h⟩,Ae _ _,hI,trivial⟩
 case body=>
  rintro q pre x a₁ W ⟨⟨A',n',c',hb,ho,hbel⟩,rfl⟩ hpre hW;have hl1:n'≤1000000:=by
   have h1:=ho.len;have h2:=hpre.length_le;have h3:=hlen.1;simp at h2;omega
  have hcO:=hb.cell;have Hb:=Aj hb;have vw:=Aj ho;have HB:=Aj hbel;have hlo:∀g,ab A'=some g→w.heap.size+1≤g:=fun g e=>(ae ho g e).1
  have HLO:=Aj hlo;clear hb ho hbel hlo;obtain⟨i0,hi0,hz0,hz1,hz2⟩:=AX Pf;have h1c:Kept (∀u∈[Value.string x],u.oneCell'=true):=⟨by simp;rfl⟩
  gi_wp2_with (gi_at_builtin;refine eF _ rfl (.tmp 8) (.tmp 10) _ rfl (w.heap.size+1) 9 i0 (.string ByteArray.empty) 1 16 underlying134 hi0 hz0 hz1 hz2 rfl Ah A' n' c' _ rfl (Oa vw.1 _) (W.heap.size+1) _ _ _ [.string x] rfl (bM.one W x) h1c.1 (by unfold maxLen;omega) om (by simp;omega) ?_;intro A4 c4 w5 ax aj di;have nA:Boxed w5 w.heap.size 134 (.slice A' n' c'):=(Hb.1.alloc _).kept aj (fun e=>by have:=HLO.1 _ e.symm;omega);have Tf:=nA.cell;have Tg:=nA.frozen)
  rw[hsz];exact yM.push om Hb.1 vw.1 HB.1 ax aj
 case done=>
  rintro D W hD ⟨A',n',c',hb,ho,hbel⟩ hK;have hc:=hb.cell;have vw:=Aj ho;have HB:=Aj hbel;clear ho hbel;go_wp2;refine⟨sm,.inl ⟨_,_,rfl,run_takeDeferred hK,?_⟩⟩;have hgo:W.grownBy (W.putObj D (.deferred none)) (some D):=grownBy_putObj' W D _;have hb2:=dV vw.1 hgo (fun r e=>by cases e;exact .inr ⟨_,hK,rfl⟩);refine⟨_,results_tmp rfl _ _ _,A',n',c',rfl,?_,HB.1.grown hgo HB.1.size (fun g e=>by cases e;omega)⟩;exact⟨hb2.1,hb2.2.imp id fun⟨g,cap,cur,h1,h2,h3⟩=>⟨g,cap,cur,h1,om,h3⟩⟩
 case stop=>
  rintro D c pre W _ _ h _;exact h.elim
end
end
section
section
open Go.RowKit Go.Shelf
attribute [local go_sem] Oper.semAt_some
namespace Sy
def eQ (l:List ByteArray):Bool:=l.any fun s=>decide (65535<s.size)
theorem mP {l}:eQ l=false↔∀s∈l,s.size≤65535:=by
 unfold eQ;rw[List.any_eq_false];exact⟨fun h s hs=>by have:=h s hs;simp at this;exact this,fun h s hs=>by have:=h s hs;simp;exact this⟩
theorem IL {l} {k} (hk:k<l.length) (h:65535<l[k].size):eQ l=true:=by
 unfold eQ;rw[List.any_eq_true];exact⟨l[k],ic hk,by simpa using h⟩
def pairs (l:List ByteArray):List (ByteArray×ByteArray):=l.zip l.tail
theorem pV (l):(pairs l).length=l.length-1:=by unfold pairs;rw[Dp,List.length_tail];omega
theorem Mo (l:List ByteArray) (k:Nat) (h:k+1<l.length):(pairs l)[k]'(by rw[pV];omega)=(l[k],l[k+1]):=by
 unfold pairs;rw[DT,List.getElem_tail]
theorem Mq {l}:gK l↔∀p∈pairs l,St.lt p.1 p.2=true:=by
 induction l with
 |nil=>exact⟨fun _ p hp=>by simp[pairs]at hp,fun _=>List.Pairwise.nil⟩
 |cons x l ih=>
  unfold gK at*;rw[Bo];cases l with
  |nil=>exact⟨fun _ p hp=>by simp[pairs]at hp,fun _=>⟨sm,List.Pairwise.nil⟩⟩
  |cons y l=>
   have e:pairs (x::y::l)=(x,y)::pairs (y::l):=by simp[pairs]
   rw[e];constructor
   ·rintro⟨h1,h2⟩ p hp;rcases iM.1 hp with rfl|hp
    ·exact h1 y sm
    ·exact ih.1 h2 p hp
   ·intro h;have h2:=ih.2 fun p hp=>h p (by simp[hp])
    refine⟨fun z hz=>?_,h2⟩;have hxy:=h (x,y) sm;rcases iM.1 hz with rfl|hz
    ·exact hxy
    ·exact St.trans hxy ((Bo.1 h2).1 z hz)
end Sy
theorem EF (s) (w) (_hs:s.size≤maxLen):Calls prog 143 #[.string s] w fun e w'=>e= .returned (.bool (decide (65535< (s.size:Int))))∧w=w':=by
 go_enter func143,ntmps143;go_wp2;go_ret;exact⟨rfl,rfl⟩
theorem vM (A) (n c) (l) (w) (hv:bM w w.heap.size A n c l) (hf:∀s∈l,s.size≤maxLen):
  Calls prog 197 #[.slice A n c,.func (.func 143) #[] #[]] w fun e w'=>∃v:Int,e= .returned (.int .i64 v)∧((0≤v∧Sy.eQ l=true)∨(v= -1∧Sy.eQ l=false))∧w=w':=by
 have hlc:=hv.1;have hcm:=hv.2.1;unfold maxLen at hcm;have hn:=Aj hv.len;have V:=Aj hv;have F:=Aj hf;clear hv hf;go_enter func197,ntmps197;go_wp2;go_loopw [8] (fun i wr=>∃k:Nat,k≤n∧i= .int .i64 k∧Kept (∀s∈l.take k,s.size≤65535)∧wr=w) (fun i _=>n-(intOf i).toNat)
 case atStart=>exact⟨0,om,rfl,⟨sm⟩,rfl⟩
 case round=>
  obtain⟨k,hk,rfl,hd,hw⟩:=hrel;subst hw;by_cases hlt:k<n
  ·have hkl:k<l.length:=by rw[←hn.1];exact hlt
   obtain⟨b,off,rfl,-,c0⟩:=V.1.at_ hkl;have hs:=F.1 _ (ic hkl);have HL:=Aj (fun h=>Sy.IL hkl h);have HN:Kept (l[k].size≤65535→∀s∈l.take (k+1),s.size≤65535):=⟨fun h=>by
    rw[Ts hkl];intro s hs;rcases jl.1 hs with hs|hs
    ·exact hd.1 s hs
    ·rw[iF.1 hs];exact h⟩
   have EL:=Aj (fun W=>EF l[k] W hs);clear hs hd;generalize l[k]=x at*;by_cases hx:65535<x.size
   ·have hL:=Aj (HL.1 hx);have hxb:decide (65535< (x.size:Int))=true:=by simp;omega
    rw[hxb]at EL;clear hx;go_wp2_with (go_at_call 143;refine(EL.1 _).mono ?_;rintro e w1 ⟨rfl,rfl⟩);go_ret;exact⟨k,rfl,.inl ⟨om,hL.1⟩,rfl⟩
   ·have hN:=Aj (HN.1 om);have hxb:decide (65535< (x.size:Int))=false:=by simp;omega
    rw[hxb]at EL;clear hx;go_wp2_with (go_at_call 143;refine(EL.1 _).mono ?_;rintro e w1 ⟨rfl,rfl⟩);go_roundw
    case rel=>exact⟨k+1,om,by go_num,hN,sm⟩
    case measure=>simp[intOf];omega
  ·have hL:Kept (Sy.eQ l=false):=⟨Sy.mP.2 (by have:=hd.1;rwa[jY (by have:=hn.1;omega)]at this)⟩
   clear hd;go_wp2;go_ret;exact⟨-1,rfl,.inr ⟨rfl,hL.1⟩,rfl⟩
theorem pW (A) (n c) (l) (w) (hv:bM w w.heap.size A n c l) (hf:∀s∈l,s.size≤maxLen):
  Calls prog 142 #[.slice A n c,.func (.func 143) #[] #[]] w fun e w'=>e= .returned (.bool (Sy.eQ l))∧w=w':=by
 have V:=Aj (vM A n c l w hv hf);clear hv hf;go_enter func142,ntmps142;go_wp2_with (go_at_call 197;refine V.1.mono ?_;rintro e w1 ⟨v,rfl,hv,rfl⟩;rcases hv with⟨h1,h2⟩|⟨rfl,h2⟩)
 all_goals go_ret
 all_goals exact⟨by rw[h2];rfl,rfl⟩
def Mr (p:ByteArray×ByteArray):Array Value:= #[.string p.1,.string p.2]
theorem vN (A) (n c) (w):Calls prog 144 #[.slice A n c] w fun e w'=>
  e= .returned (.func (.func 198) #[] #[.pointer (some ⟨w.heap.size,0,none⟩)])∧w'=w.alloc (.cells #[.slice A n c] 134):=by
 go_enter func144,ntmps144;go_wp2;go_ret;exact⟨rfl,rfl⟩
theorem pX (n bx B) (A) (m c) (l) (w) (hw:Boxed w bx 134 (.slice A m c)) (hbx:bx<B) (hv:bM w B A m c l):
  Yields n prog 198 #[.pointer (some ⟨bx,0,none⟩)] Mr (fun _=>False) (fun X Y=>Below B X Y) (Sy.pairs l) w:=by
 intro q J Jx W hK hJ hJx bz h0;have hlc:=hv.1;have hcm:=hv.2.1;unfold maxLen at hcm;have hW:Boxed W bx 134 (.slice A m c):=(hK.block bx hbx).trans hw;have hn:=Aj hv.len;have V:=Aj (hv.below hK);have df:=Aj bz;have HJ:=Aj hJ;have HW:=Aj hW;clear hw hK bz hJ hJx hv hW;refine Bd.2 ?_;go_enter func198,ntmps198;go_wp2;go_loopw [3] (fun i wr=>∃k:Nat,(k=0∨k<m)∧i= .int .i64 ((k:Int)+1)∧Below B W wr∧Kept (J ((Sy.pairs l).take k) wr)) (fun i _=>m-(intOf i).toNat)
 case atStart=>exact⟨0,.inl rfl,rfl,Ae _ _,⟨h0⟩⟩
 case round=>
  clear h0;obtain⟨k,hk,rfl,hb,hj⟩:=hrel;have hc0:wr.cell? ⟨bx,0,none⟩=some (.slice A m c):=Boxed.cell ((hb.block bx hbx).trans HW.1);by_cases hlt:k+1<m
  ·have hkl:k+1<l.length:=by rw[←hn.1];exact hlt
   have hkp:k< (Sy.pairs l).length:=by rw[Sy.pV];omega
   have ht:=Ts hkp;rw[Sy.Mo l k hkl]at ht;obtain⟨fn,tmps,assign,body,hy,qx⟩:=df.1 ((Sy.pairs l).take k) (l[k],l[k+1]) wr.drew (HJ.1 _ _ _ none hj.1 ⟨rfl,rfl,rfl,Nr _,fun _ _ _=>rfl⟩ (fun _ e=>by cases e)) ⟨(Sy.pairs l).drop (k+1),by rw[←ht,jC]⟩;unfold Mr at hy;have HT:=Aj ht;obtain⟨b,off,rfl,-,c0⟩:=(V.1.below hb).at_ (show k<l.length from om);obtain⟨b',off',e',-,c1⟩:=(V.1.below hb).at_ hkl;simp only[gV,BP,Bi]at e';obtain⟨rfl,rfl⟩:=e';have BB:=Aj hb;have hlt1:(k:Int)+1< (m:Int):=om;have hlt2:(k:Int)< (m:Int):=om;have hk0:(0:Int)≤(k:Int):=om;have hw1:IntKind.i64.wrap ((k:Int)+1-1)=(k:Int):=by rw[AV];omega
   have hw2:IntKind.i64.wrap (k:Int)=(k:Int):=by rw[AV];omega
   clear ht hb hj;generalize l[k]=x at*;generalize l[k+1]=y at*;go_wp2;refine(Bl (n:=n)).1 ?_;have RES:∀(e:Ending) (W':World),((e= .returned (.bool true)∧J ((Sy.pairs l).take k++[(x,y)]) W'∧Below B wr.drew W')∨(e= .returned (.bool false)∧Jx ((Sy.pairs l).take k++[(x,y)]) W'))→∃v,e= .returned (.bool v)∧Kept ((v=true∧J ((Sy.pairs l).take k++[(x,y)]) W'∧Below B wr.drew W')∨(v=false∧Jx ((Sy.pairs l).take k++[(x,y)]) W')):=by
    rintro e W' (⟨rfl,h⟩|⟨rfl,h⟩)
    ·exact⟨true,rfl,⟨.inl ⟨rfl,h⟩⟩⟩
    ·exact⟨false,rfl,⟨.inr ⟨rfl,h⟩⟩⟩
   have RES:=Aj RES
   gi_region_with ((refine⟨(fun h=>by simp[Fence.wide]at h),qx.mono ?_⟩;intro e W' hh;obtain⟨v,rfl,HV⟩:=RES.1 e W' hh;clear hh))
   all_goals
    rcases HV.1 with⟨rfl,hj',hb'⟩|⟨rfl,rW⟩
    ·have B2:=Aj (BB.1.trans (((Ae B wr).drew).trans hb'));have J2:=Aj hj';clear hj' hb' HV;go_wp2;go_roundw
     case rel=>exact⟨k+1,.inr hlt,by go_num,B2.1,⟨by rw[HT.1];exact J2.1⟩⟩
     case measure=>simp[intOf];omega
    ·have X2:=Aj rW;clear rW HV;go_wp2;refine AQ (BI rfl _ _ _) rfl ⟨⟨_,rfl⟩,.inr ⟨_,⟨(Sy.pairs l).drop (k+1),?_⟩,X2.1⟩⟩;rw[←HT.1,jC]
  ·have J2:Kept (J (Sy.pairs l) wr):=⟨by have:=hj.1;rwa[jY (by rw[Sy.pV];have:=hn.1;omega)]at this⟩
   have hge:(m:Int)≤(k:Int)+1:=om;clear hj;go_wp2;go_end0;exact⟨⟨_,rfl⟩,.inl J2.1⟩
end
end
section
section
open Go.RowKit Go.Shelf
attribute [local go_sem] Oper.semAt_some
namespace Sy
def EH (T:List ByteArray):Bool:=(pairs T).all fun p=>St.lt p.1 p.2
theorem Qd {T}:EH T=true↔gK T:=by
 rw[Mq];unfold EH;rw[Df]
def lW (s:ByteArray):List UInt8:=Wr.str s.data.toList
def aH (T:List ByteArray):List UInt8:=Vi.enc T.length++T.flatMap lW
def enc (T:List ByteArray):List UInt8×Int:=if eQ T=true then([],7)else if EH T=true then(aH T,0)else([],16)
theorem Uq {s} (h:s.size≤65535):(lW s).length≤65545:=by
 unfold lW;have h2:s.data.toList.length=s.size:=sm;have:=Wr.rC s.data.toList om;omega
theorem nV {T:List ByteArray} (h:∀s∈T,s.size≤65535):(T.flatMap lW).length≤T.length*65545:=by
 induction T with
 |nil=>simp
 |cons s T ih=>
  have h1:=Uq (h s sm);have h2:=ih fun t ht=>h t (by simp[ht])
  rw[Aq,La,Lc];omega
theorem Ur {T} (h:∀s∈T,s.size≤65535) (hl:T.length≤1000000):(aH T).length≤70000000000:=by
 have h1:=nV h;have h2:=Vi.bC T.length om;unfold aH;rw[La];omega
theorem Ut {T} {pre} (hp:pre<+:pairs T) {p} (h:p∈pre) (hn:St.lt p.1 p.2=false):EH T=false:=by
 unfold EH;rw[List.all_eq_false];exact⟨p,hp.subset h,by rw[hn];simp⟩
end Sy
theorem qJ {w:World} {base n c sz g k} {A} {xs} {t} {v} (h:w.ownsRow base t sz (.slice A n c) n xs) (hne:∀g',ab A=some g'→g'≠g):(w.setCell ⟨g,k,none⟩ v).ownsRow base t sz (.slice A n c) n xs:=
 af h (ag w ⟨g,k,none⟩ v) (by
  rcases hA:ab A with _|g'
  ·exact .inl rfl
  ·exact .inr fun e=>hne g' hA (Oj e))
def Ms (w:World) (pre:List (ByteArray×ByteArray)) (W:World):Prop:=
 (∀p∈pre,St.lt p.1 p.2=true)∧Boxed W w.heap.size 22 (.slice none 0 0)∧Boxed W (w.heap.size+1) 25 (.int .i64 0)∧Below w.heap.size w W
def Uu (w:World) (c:Code) (pre:List (ByteArray×ByteArray)) (W:World):Prop:=
 c= .ret∧(∃p∈pre,St.lt p.1 p.2=false)∧Boxed W w.heap.size 22 (.slice none 0 0)∧Boxed W (w.heap.size+1) 25 (.int .i64 16)∧Below w.heap.size w W
theorem Ms.own {w}:aJ (w.heap.size+3) (fun _=>False) (Ms w):=by
 rintro s W W' row ⟨h1,h2,h3,h4⟩ hg hr;have hrow:∀r,row=some r→w.heap.size+3≤r:=fun r e=>by
  rcases hr r e with h|⟨h,_⟩
  ·exact h.elim
  ·omega
 exact⟨h1,h2.kept hg (fun e=>by have:=hrow _ e.symm;omega),h3.kept hg (fun e=>by have:=hrow _ e.symm;omega),h4.grown hg h4.size (fun g e=>by have:=hrow g e;omega)⟩
theorem Uu.own {w} (c):aJ (w.heap.size+3) (fun _=>False) (Uu w c):=by
 rintro s W W' row ⟨h0,h1,h2,h3,h4⟩ hg hr;have hrow:∀r,row=some r→w.heap.size+3≤r:=fun r e=>by
  rcases hr r e with h|⟨h,_⟩
  ·exact h.elim
  ·omega
 exact⟨h0,h1,h2.kept hg (fun e=>by have:=hrow _ e.symm;omega),h3.kept hg (fun e=>by have:=hrow _ e.symm;omega),h4.grown hg h4.size (fun g e=>by have:=hrow g e;omega)⟩
theorem Qe {wr} {D g1 g2} {t1 t2} {u1 u2} (v1 v2) (h1:Boxed wr g1 t1 u1) (h2:Boxed wr g2 t2 u2) (h12:g1≠g2) (hD1:D≠g1) (hD2:D≠g2) (hK:wr.heap[D]? =some (.deferred (some []))):
  let W2:=(wr.setCell ⟨g1,0,none⟩ v1).setCell ⟨g2,0,none⟩ v2
  W2.heap[D]? =some (.deferred (some []))∧(W2.putObj D (.deferred none)).cell? ⟨g1,0,none⟩=some v1∧(W2.putObj D (.deferred none)).cell? ⟨g2,0,none⟩=some v2:=by
 intro W2;have b1:Boxed W2 g1 t1 v1:=(h1.set v1).other h12 v2;have b2:Boxed W2 g2 t2 v2:=(h2.other (Ne.symm h12) v1).set v2;have hgo:W2.grownBy (W2.putObj D (.deferred none)) (some D):=grownBy_putObj' W2 D _;exact⟨(AF _ _ _ _ (by show D≠g2;exact hD2)).trans ((AF _ _ _ _ (by show D≠g1;exact hD1)).trans hK),(b1.kept hgo (fun e=>hD1 (Oj e).symm)).cell,(b2.kept hgo (fun e=>hD2 (Oj e).symm)).cell⟩
theorem EI (A) (n c) (T) (w) (hv:bM w w.heap.size A n c T) (hf:∀s∈T,s.size≤maxLen) (hn:n≤1000000):
  Calls prog 86 #[.slice A n c] w fun e w'=>∃A3 n3 c3,e= .returned (.tuple #[.slice A3 n3 c3,.int .i64 (Sy.enc T).2])∧ah w' w.heap.size A3 n3 c3 (Sy.enc T).1∧Below w.heap.size w w':=by
 have hlc:=hv.1;have hcm:=hv.2.1;unfold maxLen at hcm;have HN:=Aj hv.len;have V:=Aj hv;obtain⟨M,hM⟩:∃M,M=Sy.enc T:=⟨_,rfl⟩
 rw[←hM];have CL:Kept (∀W,Below w.heap.size w W→Calls prog 142 #[.slice A n c,.func (.func 143) #[] #[]] W fun e w'=>e= .returned (.bool (Sy.eQ T))∧W=w'):=⟨fun W hW=>pW A n c T W ((hv.below hW).more hW.size) hf⟩
 cases hlong:Sy.eQ T with
 |true=>
  have HM:Kept (M=([],7)):=⟨by rw[hM,Sy.enc,Ps0 hlong]⟩
  rw[hlong]at CL;clear hv hM hlong hf;go_enter func86,ntmps86;go_wp2_with (go_at_call 142;refine(CL.1 _ (((Ae _ _).alloc Ai _).alloc sm _)).mono ?_;rintro e w1 ⟨rfl,rfl⟩);refine AQ (v:= .tuple #[.slice none 0 0,.int .i64 7]) (by simp[results,Tryz.results86,go_sem]) rfl ⟨none,0,0,by rw[HM.1],by rw[HM.1];exact ah.nil _ _,?_⟩;exact((Ae _ _).alloc Ai _).alloc sm _
 |false=>
  have hsz:=Sy.mP.1 hlong;have HM:Kept (M=if Sy.EH T=true then(Sy.aH T,0)else([],16)):=⟨by rw[hM,Sy.enc,Ng (by rw[hlong];simp)]⟩
  have HSZ:=Aj hsz;rw[hlong]at CL;clear hv hM hlong hf hsz;refine(Bd (n:=9)).1 ?_;refine callsIn_of_wp_marks func86 rfl trivial ?_ rfl;simp only[ntmps86,Ca,Lc,AB,Nat.reduceAdd,Nat.reduceSub,Cg,Ch,Cz,Cm,Ay,AU];refine Bl.2 ?_;go_wp2_with (first
   |(go_at_call 142;refine(CL.1 _ (((Ae _ _).alloc Ai _).alloc sm _)).mono ?_;rintro e w1 ⟨rfl,rfl⟩)
   |(go_at_call 144;refine(vN A n c _).mono ?_;rintro e w2 ⟨rfl,rfl⟩))
  have b1:Boxed (((w.alloc (.cells #[.slice none 0 0] 22)).alloc (.cells #[.int .i64 0] 25)).alloc (.cells #[.slice A n c] 134)) w.heap.size 22 (.slice none 0 0):=((Boxed.new w _ _).alloc _).alloc _;have b2:Boxed (((w.alloc (.cells #[.slice none 0 0] 22)).alloc (.cells #[.int .i64 0] 25)).alloc (.cells #[.slice A n c] 134)) (w.heap.size+1) 25 (.int .i64 0):=by
   have:=(Boxed.new (w.alloc (.cells #[.slice none 0 0] 22)) 25 (.int .i64 0)).alloc (.cells #[.slice A n c] 134);simpa using this
  have b3:Boxed (((w.alloc (.cells #[.slice none 0 0] 22)).alloc (.cells #[.int .i64 0] 25)).alloc (.cells #[.slice A n c] 134)) (w.heap.size+1+1) 134 (.slice A n c):=by
   have:=Boxed.new ((w.alloc (.cells #[.slice none 0 0] 22)).alloc (.cells #[.int .i64 0] 25)) 134 (.slice A n c);simpa using this
  have hb:Below w.heap.size w (((w.alloc (.cells #[.slice none 0 0] 22)).alloc (.cells #[.int .i64 0] 25)).alloc (.cells #[.slice A n c] 134)):=(((Ae _ _).alloc Ai _).alloc sm _).alloc (by simp;omega) _;have hsz:(((w.alloc (.cells #[.slice none 0 0] 22)).alloc (.cells #[.int .i64 0] 25)).alloc (.cells #[.slice A n c] 134)).heap.size=w.heap.size+3:=sm;generalize ((w.alloc (.cells #[.slice none 0 0] 22)).alloc (.cells #[.int .i64 0] 25)).alloc (.cells #[.slice A n c] 134)=w4 at*;have Y4:=pX 8 (w.heap.size+1+1) (w.heap.size+3) A n c T w4 b3 om ((V.1.below hb).more om);have HB:=Aj hb;clear hb;refine(Bl (n:=9)).1 ?_;refine rV Ah (gf:=198) (lb:= #[.pointer (some ⟨w.heap.size+1+1,0,none⟩)]) rfl (enters_of func198 kr rfl)
   (encs:=Mr) (O:=fun _=>False) (Kp:=fun X Y=>Below (w.heap.size+3) X Y) (L:=Sy.pairs T) Y4
   (fun _ h=>h.elim) (fun h k=>h.trans k) (fun W W' row hW hg hr=>(Ae _ W).grown hg om (fun g e=>by have:=hr g e;omega)) (fun _=>rfl)
   (Ms w) (Uu w)
   (fun pre x a₁ W=>Ms w pre W∧
    a₁={tmps:= #[.slice A n c,undef,.pointer (some ⟨w.heap.size,0,none⟩),.pointer (some ⟨w.heap.size+1,0,none⟩),.string x.1,.string x.2,undef,undef,undef,.slice A n c,.bool false,.slice A n c,.func (.func 198) #[] #[.pointer (some ⟨w.heap.size+1+1,0,none⟩)],
     .string x.1,.string x.2,undef,undef,undef,undef,undef,undef,undef,undef,undef,undef,undef,undef,undef,undef,undef,undef,undef,undef],defers:=[]})
   ?hI ?hIx ?hM ?h0 ?assign ?body ?done ?stop
  case hI=>rw[hsz];exact Ms.own
  case hIx=>rw[hsz];exact Uu.own
  case hM=>
   rw[hsz];rintro pre p a₁ u W W' row ⟨hI,ha⟩ hgr hr;exact⟨Ms.own _ _ _ _ hI hgr hr,ha⟩
  case h0=>exact⟨sm,b1,b2,HB.1⟩
  case assign=>
   rintro q pre ⟨x,y⟩ W hI hpre hW;unfold Mr
   gi_wp2
   exact⟨⟨Nr _,fun _ _ _ h _=>h⟩,Ae _ _,hI,trivial⟩
  case body=>
   rintro q pre ⟨x,y⟩ a₁ W ⟨⟨h1,h2,h3,h4⟩,rfl⟩ hpre hW;have hc1:=h2.cell;have hf1:=h2.frozen;have hc2:=h3.cell;have hf2:=h3.frozen;have B1:=Aj h2;have B2:=Aj h3;have BB:=Aj h4;have H1:=Aj h1;have Qf:Op.bytesLess x.toList y.toList=St.lt x y:=rfl;clear h1 h2 h3 h4;cases hxy:St.lt x y with
   |true=>
    rw[hxy]at Qf;have HX:=Aj hxy;clear hxy
    gi_wp2
    refine⟨⟨Nr _,fun _ _ _ h _=>h⟩,Ae _ _,fun p hp=>?_,B1.1,B2.1,BB.1⟩;rcases jl.1 hp with hp|hp
    ·exact H1.1 p hp
    ·rw[iF.1 hp];exact HX.1
   |false=>
    rw[hxy]at Qf;have HX:=Aj hxy;clear hxy
    gi_wp2
    exact⟨((KeepsOthers.setCell _ _ _).trans (KeepsOthers.setCell _ _ _)).from _,rfl,⟨(x,y),sm,HX.1⟩,(B1.1.set _).other om _,(B2.1.other om _).set _,
     (BB.1.setCell (p:=⟨w.heap.size,0,none⟩) Ai _).setCell (p:=⟨w.heap.size+1,0,none⟩) (by show _≤_+1;omega) _⟩
  case done=>
   rintro D W hD ⟨h1,h2,h3,h4⟩ hK;have hasc:Sy.EH T=true:=by unfold Sy.EH;rw[Df];exact h1
   obtain⟨E,hE⟩:∃E,E=Sy.aH T:=⟨_,rfl⟩
   have cZ:Kept (M=(E,0)):=⟨by rw[HM.1,Ps0 hasc,hE]⟩
   have hle:E.length≤70000000000:=by rw[hE];exact Sy.Ur HSZ.1 (by have:=HN.1;omega)
   have HE:=Aj hE;have LE:=Aj hle;have hwn:=wrap_u64 (n:Int) om om;have B1:=Aj h2;have B2:=Aj h3;have BB:=Aj h4;have HK:=Aj hK;have hDs:=(Ge.1 hK).1;have hbz:=h4.size;clear h1 h2 h3 h4 hK hasc hE hle b1 b2 b3 Y4;go_wp2_with (go_at_call 145;refine(dh none 0 0 W.heap.size n [] W (ah.nil _ _) Ai om om).mono ?_;rintro e w1 ⟨A1,n1,c1,rfl,ho1,hg1,-⟩;have O1:=Aj ho1;have G1:=Aj (aF (ah.nil W W.heap.size) Ai hg1);clear ho1 hg1);go_loopw [6,24] (fun b i wr=>∃k:Nat,k≤n∧i= .int .i64 k∧∃A2 n2 c2 bl,b= .slice A2 n2 c2∧ah wr W.heap.size A2 n2 c2 bl∧Below W.heap.size W wr∧Kept (bl++(T.drop k).flatMap Sy.lW=E)) (fun _ i _=>n-(intOf i).toNat)
   case atStart=>exact⟨0,om,rfl,A1,n1,c1,_,rfl,O1.1,G1.1,⟨by rw[HE.1,Sy.aH,HN.1];simp⟩⟩
   case round=>
    clear O1 G1;obtain⟨k,hk,rfl,A2,n2,c2,bl,rfl,ho,hb,hd⟩:=hrel;by_cases hlt:k<n
    ·have hkl:k<T.length:=by rw[←HN.1];exact hlt
     have hsk:=HSZ.1 _ (ic hkl);have hd1:=hd.1;have hn2:n2≤70000000000:=by
      have e1:=ho.len;have e2:=LE.1;rw[←hd1,La]at e2;omega
     rw[oN hkl,Aq,←Af]at hd1;have HD:=Aj hd1;obtain⟨b,off,rfl,-,c0⟩:=((V.1.below (BB.1.trans (hb.mono hbz))).more Ai).at_ hkl;have O:=Aj ho;have B:=Aj hb;have hse:Sy.lW T[k]=Wr.str T[k].data.toList:=rfl;rw[hse]at HD;clear ho hb hd hd1 hse;generalize T[k]=x at*;go_wp2_with (go_at_call 146;refine(jZ A2 n2 c2 W.heap.size bl x wr O.1 B.1.size om).mono ?_;rintro e w2 ⟨A3,n3,c3,rfl,ho,hb⟩;have O3:=Aj ho;have B3:=Aj (B.1.trans hb);clear ho hb);go_roundw
     case rel=>exact⟨k+1,om,by go_num,A3,n3,c3,_,rfl,O3.1,B3.1,HD⟩
     case measure=>simp[intOf];omega
    ·have hd1:Kept (bl=E):=⟨by have:=hd.1;rwa[oL (by have:=HN.1;omega),CR,AZ]at this⟩
     have X1:Boxed wr w.heap.size 22 (.slice none 0 0):=(hb.block _ om).trans B1.1;have X2:Boxed wr (w.heap.size+1) 25 (.int .i64 0):=(hb.block _ om).trans B2.1;have XK:wr.heap[D]? =some (.deferred (some [])):=(hb.block _ hDs).trans HK.1;have hc1:=X1.cell;have hf1:=X1.frozen;have hc2:=X2.cell;have hf2:=X2.frozen;have Z1:=Aj X1;have Z2:=Aj X2;have ZK:=Aj XK;have O:=Aj ho;have B:=Aj hb;clear ho hb hd X1 X2 XK;go_wp2;obtain⟨q0,q1,q2⟩:=Qe (.slice A2 n2 c2) (.int .i64 0) Z1.1 Z2.1 om om om ZK.1;refine⟨sm,.inl ⟨_,_,rfl,run_takeDeferred q0,?_⟩⟩;refine⟨.tuple #[.slice A2 n2 c2,.int .i64 0],by simp[results,Tryz.results86,go_sem,q1,q2],A2,n2,c2,?_,?_,?_⟩
     ·rw[cZ.1]
     ·rw[cZ.1];have h1:ah wr w.heap.size A2 n2 c2 E:=by rw[←hd1.1];exact O.1.base hbz
      have gs1:=qJ h1 (g:=w.heap.size) (k:=0) (v:= .slice A2 n2 c2) (fun g e=>by have:=(ae O.1 g e).1;omega);have gs2:=qJ gs1 (g:=w.heap.size+1) (k:=0) (v:= .int .i64 0) (fun g e=>by have:=(ae O.1 g e).1;omega);exact dV gs2 (grownBy_putObj' _ D _) (fun r e=>by cases e;exact .inr ⟨_,q0,rfl⟩)
     ·exact(((BB.1.trans (B.1.mono hbz)).setCell (p:=⟨w.heap.size,0,none⟩) Ai _).setCell (p:=⟨w.heap.size+1,0,none⟩) (by show _≤_+1;omega) _).grown (grownBy_putObj' _ D _) (by simp;have:=B.1.size;omega) (fun g e=>by cases e;omega)
  case stop=>
   rintro D c pre W hD hpre ⟨rfl,⟨p,hp,hp2⟩,h2,h3,h4⟩ hK;have cZ:Kept (M=([],16)):=⟨by rw[HM.1,Ng (by rw[Sy.Ut hpre hp hp2];simp)]⟩
   have hc1:=h2.cell;have hc2:=h3.cell;have B1:=Aj h2;have B2:=Aj h3;have BB:=Aj h4;have HK:=Aj hK;clear h2 h3 h4 hK hp hp2
   gi_wp2
   have hgo:W.grownBy (W.putObj D (.deferred none)) (some D):=grownBy_putObj' W D _;have q1:=(B1.1.kept hgo (fun e=>by have:=Oj e;omega)).cell;have q2:=(B2.1.kept hgo (fun e=>by have:=Oj e;omega)).cell;refine⟨sm,.inl ⟨_,_,rfl,run_takeDeferred HK.1,?_⟩⟩;refine⟨.tuple #[.slice none 0 0,.int .i64 16],by simp[results,Tryz.results86,go_sem,q1,q2],none,0,0,?_,?_,BB.1.grown hgo BB.1.size (fun g e=>by cases e;omega)⟩
   ·rw[cZ.1]
   ·rw[cZ.1];exact ah.nil _ _
end
end
end Go.Proofs.YtjcpmfphnodaaaaGreatDoor
