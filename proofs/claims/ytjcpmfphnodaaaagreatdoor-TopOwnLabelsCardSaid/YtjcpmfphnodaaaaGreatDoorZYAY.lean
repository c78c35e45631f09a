/- Part 25. -/
import Derived.Test.YtjcpmfphnodaaaaGreatDoorZYAX
import Derived.Shelf.Spec.TrailingZeros
namespace Go.Proofs.YtjcpmfphnodaaaaGreatDoor
set_option maxRecDepth 100000
set_option maxHeartbeats 0
open _root_.Go.Proofs.Tryz
open Go.RowKit
section
open Go.Shelf
attribute [local go_sem] Oper.semAt_some
def encR (x:Nat×Nat):Array Value:= #[.agg #[.int .u64 (x.1:Int),.int .i64 (x.2:Int)]]
theorem Ru.xB:∀(l),∀p∈(Ru.runs l).head?,l.head? =some p.1
 |[],p,h=>by simp[Ru.runs]at h
 |x::l,p,h=>by
  have ih:=Ru.xB l;rw[Ru.runs]at h;cases hr:Ru.runs l with
  |nil=>rw[hr]at h;simp at h;rw[←h];rfl
  |cons q rs=>
   obtain⟨y,c⟩:=q;rw[hr]at h;simp only[]at h;split at h
   ·rename_i hxy;simp at h;rw[←h,hxy];rfl
   ·simp at h;rw[←h];rfl
theorem Ru.LU {l:List Nat} {a b:Nat} (h1:a<b) (h2:b≤l.length) (h3:∀(j:Nat) (hj:j<l.length),a≤j→j<b→l[j]=l[a]) (h4:∀(hb:b<l.length),l[b]≠l[a]):
  Ru.runs (l.drop a)=(l[a],b-a)::Ru.runs (l.drop b):=by
 have e:l.drop a=List.replicate (b-a-1+1) l[a]++l.drop b:=by
  apply Ef
  ·simp;omega
  ·intro i i1 i2;rw[DZ];by_cases hi:i<b-a
   ·rw[sU (by simp;omega),List.getElem_replicate];exact h3 _ _ om om
   ·rw[List.getElem_append_right (by simp;omega),DZ]
    congr 1;simp;omega
 rw[e,Ru.pE (Ru.runs (l.drop b)) rfl (fun p hp=>?_)]
 ·rw[show b-a-1+1=b-a from om]
 ·have:=Ru.xB _ p hp;rw[List.head?_drop]at this;by_cases hb:b<l.length
  ·rw[kK hb]at this;have h5:=h4 hb;intro e2;exact h5 (by rw[Oj this,e2])
  ·rw[BM om]at this;cases this
theorem qN (n bx B m c A l w X) (hw:Boxed w bx 284 (.slice A m c)) (hr:kD w B A m c l) (hm:m≤128)
  (hX:∀pre W,¬X pre W):
  rC n prog 281 #[.pointer (some ⟨bx,0,none⟩)] encR (fun _=>False) (zP B bx) (Ru.runs l) w X:=by
 intro lp J Jx W hK hJ hJx Po aU h0;have hW:Boxed W bx 284 (.slice A m c):=hK.2.trans hw;have hR:kD W B A m c l:=hr.below hK.1;have bJ:=Aj aU;have HX:Kept (∀pre W,¬Jx pre W):=⟨fun pre W h=>hX pre W (Po pre W h)⟩
 have hln:=Aj hr.len;have hc1:=hr.1;have hc2:=hr.2.1;unfold maxLen at hc2;have HJ:=Aj hJ;clear hw hK aU hJ hX Po hr hJx;refine Bj.2 ?_;go_enter func281,ntmps281;go_wp2;go_loopw [3] (fun i wr=>∃(pre:List (Nat×Nat)) (k:Nat),i= .int .i64 k∧Boxed wr bx 284 (.slice A m c)∧kD wr B A m c l∧k≤m∧
  Kept (Ru.runs l=pre++Ru.runs (l.drop k))∧Kept (J pre wr)) (fun i _=>m-(intOf i).toNat)
 case atStart=>exact⟨[],0,rfl,hW,hR,om,⟨rfl⟩,⟨h0⟩⟩
 case round=>
  clear hW hR h0;obtain⟨pre,k,rfl,hb,hr,hk,hm1,hj⟩:=hrel;have hc:=hb.cell;have Hb:=Aj hb;have Hr:=Aj hr;clear hb hr;by_cases hlt:k<m
  ·have hlt':(k:Int)< (m:Int):=by omega
   have hkl:k<l.length:=by have:=hln.1;omega
   obtain⟨b,off,rfl,jT,hck⟩:=Hr.1.at_ hkl;have ZF:Kept (∀(j:Nat) (hj:j<l.length),wr.cell? ⟨b,off+j,none⟩=some (.int .u64 (l[j]:Int))):=⟨fun j hj=>by
    obtain⟨b',off',e,_,hc⟩:=Hr.1.at_ hj;simp only[gK,Ce,BI]at e;obtain⟨rfl,rfl⟩:=e;exact hc⟩
   obtain⟨x,hx⟩:∃x,x=l[k]:=⟨_,rfl⟩
   rw[←hx]at hck;have HXk:=Aj hx;clear hx;go_upto_block 2 with(fail)
   go_cut [4] (fun tv wx=>∃(t q:Nat),tv= .int .i64 t∧k<t∧t≤m∧wx=wr.drewN q∧Kept (Ru.runs (l.drop k)=(x,t-k)::Ru.runs (l.drop t)))
   case first=>
    go_wp2;go_loopw [4] (fun i w2=>∃(t q:Nat),i= .int .i64 t∧k<t∧t≤m∧w2=wr.drewN q∧Kept (∀(j:Nat) (hj:j<l.length),k≤j→j<t→l[j]=l[k])) (fun i _=>m-(intOf i).toNat)
    case atStart=>exact⟨k+1,0,by go_num,om,om,rfl,⟨fun j hj h1 h2=>by congr 1;omega⟩⟩
    case round=>
     obtain⟨t,q,rfl,h1,h2,rfl,h3⟩:=hrel;by_cases htm:t<m
     ·have htl:t<l.length:=by have:=hln.1;omega
      have hct:=ZF.1 t htl;have g1:decide ((t:Int)< (m:Int))=true:=Bi om;have g2:(t:Int)< (m:Int):=om;have g3:decide ((t:Int)-(k:Int)<128)=true:=Bi om;have g4:(t:Int)-(k:Int)<128:=om;obtain⟨y,hy⟩:∃y,y=l[t]:=⟨_,rfl⟩
      rw[←hy]at hct;by_cases hyx:y=x
      ·have h3':Kept (∀(j:Nat) (hj:j<l.length),k≤j→j<t+1→l[j]=l[k]):=⟨fun j hj a1 a2=>by
        rcases Nat.lt_or_eq_of_le (Nat.le_of_lt_succ a2)with h|h
        ·exact h3.1 j hj a1 h
        ·subst h;rw[←hy,hyx,HXk.1]⟩
       have g5:((y:Int)==(x:Int))=true:=by simp;omega
       clear hy hyx h3 htl;go_wp2;go_quiet (fail);go_wp2;go_roundw
       case rel=>exact⟨t+1,_,by go_num,om,om,by first|rfl|exact jE _ _ _,h3'⟩
       case measure=>simp[intOf];omega
      ·have hR2:Kept (Ru.runs (l.drop k)=(x,t-k)::Ru.runs (l.drop t)):=⟨by
        rw[Ru.LU h1 (by have:=hln.1;omega) h3.1 (fun hb e=>hyx (by rw[hy,e,HXk.1])),←HXk.1]⟩
       have g5:((y:Int)==(x:Int))=false:=by simp;omega
       clear hy hyx h3 htl;go_wp2;go_quiet (fail);go_wp2;go_meet;exact⟨t,_,rfl,h1,h2,by first|rfl|exact jE _ _ _,hR2⟩
     ·obtain rfl:t=m:=by omega
      have hR2:Kept (Ru.runs (l.drop k)=(x,t-k)::Ru.runs (l.drop t)):=⟨by
       rw[Ru.LU h1 (by have:=hln.1;omega) h3.1 (fun hb e=>by have:=hln.1;omega),←HXk.1]⟩
      have g1:decide ((t:Int)< (t:Int))=false:=AF om;clear h3;go_wp2;go_quiet (fail);go_wp2;go_meet;exact⟨t,_,rfl,h1,h2,by first|rfl|exact jE _ _ _,hR2⟩
   case rest=>
    rename World=>wx
    obtain⟨t,q,rfl,h1,h2,rfl,hR2⟩:=hcut;obtain⟨w2,hw2⟩:∃w2,w2=wr.drewN q:=⟨_,rfl⟩
    have hgd:wr.grownBy w2 none:=by rw[hw2];exact⟨rfl,rfl,rfl,Nr _,fun _ _ _=>rfl⟩
    have hj2:=Aj (HJ.1 _ _ _ none hj.1 hgd (fun r e=>by cases e));have hb2:Boxed w2 bx 284 (.slice (some ⟨b,off,none⟩) m c):=by rw[hw2];exact Hb.1
    have akV:=Boxed.cell hb2;have akW:w2.cell? ⟨b,off+k,none⟩=some (.int .u64 (x:Int)):=by rw[hw2];exact hck
    have Hb2:=Aj hb2;have V8:=Aj (show kD w2 B _ m c l from by rw[hw2];exact Hr.1.drewN q);have hm2:Kept (Ru.runs l=pre++[(x,t-k)]++Ru.runs (l.drop t)):=⟨by rw[hm1.1,hR2.1];simp⟩
    rw[←hw2];clear hw2 hgd hc hck hj Hb Hr hb2;obtain⟨fn,tmps,assign,body,hy,ow⟩:=bJ.1 pre (x,t-k) w2 hj2.1 ⟨_,hm2.1.symm⟩;unfold encR at hy;have ee:((t-k:Nat):Int)=(t:Int)-(k:Int):=om;simp only[ee]at hy;clear ee;go_upto_region 5 with(fail)
    refine(Bu (n:=n)).1 ?_
    gi_wp2
    refine⟨(fun h=>by simp[Fence.wide]at h),ow.mono ?_⟩;rintro e W' (⟨rfl,hj',hb'⟩|⟨rfl,qQ⟩)
    ·have Hb3:=Aj (show Boxed W' bx 284 _ from hb'.2.trans Hb2.1);have Hr3:=Aj (V8.1.below hb'.1);have Xy:=Aj hj';clear hj' hb' ow hy
     gi_wp2
     go_wp2;go_roundw
     case rel=>exact⟨pre++[(x,t-k)],t,rfl,Hb3.1,Hr3.1,h2,hm2,Xy⟩
     case measure=>simp[intOf];omega
    ·exact absurd qQ (HX.1 _ _)
  ·obtain rfl:k=m:=by omega
   have hm2:Kept (Ru.runs l=pre):=⟨by
    rw[hm1.1,qR (by have:=hln.1;omega)];simp[Ru.runs]⟩
   go_wp2;go_end0;exact⟨⟨_,rfl⟩,.inl (by rw[hm2.1];exact hj.1)⟩
theorem Gp (A n c w):Calls prog 258 #[.slice A n c] w fun e w'=>
  e= .returned (.func (.func 281) #[] #[.pointer (some ⟨w.heap.size,0,none⟩)])∧w'=w.alloc (.cells #[.slice A n c] 284):=by
 go_enter func258,ntmps258;go_wp2;go_ret;exact⟨rfl,rfl⟩
end
section
open Go.Shelf
attribute [local go_sem] Oper.semAt_some
theorem Ru.bq (l):(Ru.enc l).length=71*(Ru.runs l).length:=by
 unfold Ru.enc;generalize Ru.runs l=rs
 induction rs with
 |nil=>rfl
 |cons p rs ih=>rw[Au,La,ih];simp only[Ru.one,La,Bt.aj,Lc];omega
theorem Ru.LV (l):(Ru.runs l).length≤l.length:=by
 induction l with
 |nil=>simp[Ru.runs]
 |cons x l ih=>
  rw[Ru.runs];cases hr:Ru.runs l with
  |nil=>simp
  |cons q rs=>
   obtain⟨y,c⟩:=q;rw[hr]at ih;simp only[]at*;split<;>simp at* <;>omega
def JK (w:World) (bn bx:Nat) (v:Value) (pre:List (Nat×Nat)) (W:World):Prop:=
 Boxed W bn 3 (.int .i64 ((71*pre.length:Nat):Int))∧Below w.heap.size w W∧Boxed W bx 284 v
theorem JK.own {w bn bx N v} (hb:bn<N) (hN:w.heap.size≤N) (hx:bx<N):aH N (fun _=>False) (JK w bn bx v):=by
 rintro s W W' row ⟨h1,h2,h3⟩ hg hr;have hrow:∀r,row=some r→N≤r:=fun r e=>by
  rcases hr r e with h|h
  ·exact h.elim
  ·exact h.1
 exact⟨h1.kept hg (fun e=>by have:=hrow _ e.symm;omega),h2.grown hg h2.size (fun r e=>by have:=hrow r e;omega),h3.kept hg (fun e=>by have:=hrow _ e.symm;omega)⟩
theorem NQ (A n c B l w) (hr:kD w B A n c l) (hB:B≤w.heap.size) (hn:n≤128):
  Calls prog 218 #[.slice A n c] w fun e w'=>e= .returned (.int .i64 (((Ru.enc l).length:Nat):Int))∧Below w.heap.size w w':=by
 have hln:=Aj hr.len;have hle:=Ru.LV l;have R0:=Aj hr;have hbx:=Bb w 3 (.int .i64 0);obtain⟨W0,hW0⟩:∃W0,W0=w.alloc (.cells #[.int .i64 0] 3):=⟨_,rfl⟩
 have hz0:W0.heap.size=w.heap.size+1:=by rw[hW0];simp
 have hb0:Below w.heap.size w W0:=by rw[hW0];exact(Ae _ w).alloc Ai _
 have HW0:=Aj hW0.symm;rw[←hW0]at hbx;clear hW0 hr;refine(Bj (n:=9)).1 ?_;refine Cu func218 rfl trivial ?_ rfl;simp only[ntmps218,Cf,Lc,AZ,Nat.reduceAdd,Nat.reduceSub,Ch,Ci,CW,Cv,Az,Ba];refine Bu.2 ?_;go_wp2_with (go_at_call 258;refine(Gp _ _ _ _).mono ?_;rintro e w3 ⟨rfl,hw3⟩;rw[HW0.1]at hw3;have HW3:=Aj hw3;clear hw3);have hz3:w3.heap.size=W0.heap.size+1:=by rw[HW3.1];simp
 have g3:W0.grownBy w3 none:=by rw[HW3.1];exact Ga _ _ _
 have b3:Boxed w3 (w.heap.size+1) 284 (.slice A n c):=by rw[HW3.1,←hz0];exact Bb _ _ _
 have hI0:JK w w.heap.size (w.heap.size+1) (.slice A n c) [] w3:=⟨Boxed.kept hbx g3 (fun e=>by cases e),hb0.grown g3 om (fun r e=>by cases e),b3⟩
 have r3:kD w3 B A n c l:=R0.1.below (hI0.2.1.mono hB);clear hbx;refine(Bu (n:=9)).1 ?_;refine jg Ah (gf:=281) (lb:= #[.pointer (some ⟨w.heap.size+1,0,none⟩)]) rfl (enters_of func281 kr rfl)
  (encs:=encR) (O:=fun _=>False) (Kp:=zP B (w.heap.size+1)) (L:=Ru.runs l)
  (by rintro r h;exact h.elim) (fun h k=>h.trans k) (fun W W' row hW hg hr=>zP.grown hW om om hg hr) (fun _=>rfl)
  (JK w w.heap.size (w.heap.size+1) (.slice A n c)) (fun _ _ _=>False)
  (fun pre x a₁ W=>JK w w.heap.size (w.heap.size+1) (.slice A n c) pre W∧
   a₁={tmps:= #[.slice A n c,undef,.int .i64 0,.pointer (some ⟨w.heap.size,0,none⟩),.slice A n c,.func (.func 281) #[] #[.pointer (some ⟨w.heap.size+1,0,none⟩)],.agg #[.int .u64 (x.1:Int),.int .i64 (x.2:Int)],undef,undef,undef],defers:=[]})
  (qN 8 (w.heap.size+1) B n c A l w3 _ b3 r3 hn (fun pre W ⟨_,h⟩=>h))
  ?hI (fun _ _ _ _ _ h _ _=>h) ?hM hI0 ?assign ?body ?done ?stop
 case hI=>exact JK.own om om om
 case hM=>
  rintro pre x a₁ u W W' row ⟨hI,ha⟩ hgr hr;exact⟨JK.own om om om _ _ _ _ hI hgr hr,ha⟩
 case assign=>
  rintro lp pre x W hI hpre hW;unfold encR
  gi_wp2
  exact⟨⟨Nr _,fun _ _ _ h _=>h⟩,⟨Ae _ _,rfl⟩,hI,sm⟩
 case body=>
  rintro lp pre x a₁ W ⟨⟨hb1,hk1,hb2⟩,rfl⟩ hpre hW;have hlx:=hpre.length_le;rw[La,DF]at hlx;have hl3:=hln.1;have hp2:pre.length≤128:=om;have c1:=Boxed.cell hb1;have f1:=Boxed.frozen hb1;obtain⟨k,hk⟩:∃k,k=71*pre.length:=⟨_,rfl⟩
  rw[←hk]at c1;have hk3:k≤9088:=om;have HK:=Aj hk;have B1:=Aj hb1;have K1:=Aj hk1;have B2:=Aj hb2;clear hb1 hk1 hb2 hk hlx
  gi_wp2
  have gs:=au W ⟨w.heap.size,0,none⟩ (.int .i64 ((k:Int)+71));have hz1:=Boxed.lt B1.1;refine⟨KeepsOthers.from (Ct _ _ _) _,⟨(Ae B W).grown gs om (fun r e=>by cases e;exact hB),gs.block _ om (fun e=>by have:=Oj e;simp only at this;omega)⟩,?_,K1.1.grown gs om (fun r e=>by cases e;exact Nr _),Boxed.kept B2.1 gs (fun e=>by have:=Oj e;simp only at this;omega)⟩;have:=Boxed.set (.int .i64 ((k:Int)+71)) B1.1;have e:((71*(pre++[x]).length:Nat):Int)=(k:Int)+71:=by rw[HK.1];simp;omega
  rw[e];exact this
 case done=>
  rintro D W hD ⟨hb1,hk1,hb2⟩ hK;have c1:=Boxed.cell hb1;have K1:=Aj hk1;have hE:=Aj (Ru.bq l);rw[←hE.1]at c1;clear hk1 hb1 hb2;go_wp2;refine⟨sm,.inl ⟨_,_,rfl,CU hK,?_⟩⟩;have hgo:W.grownBy (W.putObj D (.deferred none)) (some D):=Bd W D _;exact⟨_,results_tmp rfl _ _ _,rfl,K1.1.grown hgo (K1.1.size) (fun r e=>by cases e;omega)⟩
 case stop=>
  rintro D c pre W _ _ h _;exact h.elim
theorem Ru.Gq:∀{rs} {last},Ru.Good last rs→∀q∈rs,1≤q.2∧q.2≤128∧q.1<2^64
 |[],_,_,q,h=>by simp at h
 |p::rs,_,⟨_,h1,h2,h3,h4⟩,q,h=>by
  rcases dV.1 h with rfl|h
  ·exact⟨h1,h2,h3⟩
  ·exact Ru.Gq h4 q h
def Gs {X:Type} (ty:TypeId) (f:X→List Bool) (w:World) (base p:Nat) (bs:List Bool) (bx:Nat) (v:Value) (pre:List X) (W:World):Prop:=
 fC W base p (bs++pre.flatMap f)∧Wk base p w W∧Boxed W w.heap.size 302 (.pointer (some ⟨p,0,none⟩))∧Boxed W bx ty v
theorem Gs.own {X ty} {f:X→List Bool} {w base p N bx v bs} (hb:base≤w.heap.size) (hN:w.heap.size<N) (hx:bx<N):aH N (fun _=>False) (Gs ty f w base p bs bx v):=by
 rintro s W W' row ⟨h1,h2,h3,h4⟩ hg hr;have hrow:∀r,row=some r→N≤r∧∃o:Obj,W.heap[r]? =some o∧o.isCells=false:=fun r e=>by
  rcases hr r e with h|h
  ·exact h.elim
  ·exact h
 exact⟨h1.apart hg (fun r e=>(hrow r e).2),h2.more hg hb (fun r e=>by have:=(hrow r e).1;omega),h3.kept hg (fun e=>by have:=(hrow _ e.symm).1;omega),h4.kept hg (fun e=>by have:=(hrow _ e.symm).1;omega)⟩
theorem Sm (base p B bs A n c l w) (h:fC w base p bs) (hr:kD w B A n c l) (hB:B≤base) (hin:∀x∈l,x<2^64) (hn:n≤128) (hl:bs.length≤100000000):
  Calls prog 219 #[.pointer (some ⟨p,0,none⟩),.slice A n c] w fun e w'=>e= .returned (.int .i64 0)∧fC w' base p (bs++Ru.enc l)∧Wk base p w w':=by
 have hln:=Aj hr.len;have hgood:=Aj (Ru.Gq (Ru.pz l (by have:=hr.len;omega) hin));have hle:=Ru.LV l;have hz:=h.lt;have XH:p≠w.heap.size:=om;have hbx:=Bb w 302 (.pointer (some ⟨p,0,none⟩));have H0:=Aj (h.alloc (.cells #[.pointer (some ⟨p,0,none⟩)] 302));have K0:=Aj ((Wk.refl base p w).alloc (.cells #[.pointer (some ⟨p,0,none⟩)] 302) om);have R0:=Aj hr;obtain⟨W0,hW0⟩:∃W0,W0=w.alloc (.cells #[.pointer (some ⟨p,0,none⟩)] 302):=⟨_,rfl⟩
 have hz0:W0.heap.size=w.heap.size+1:=by rw[hW0];simp
 have HW0:=Aj hW0.symm;rw[←hW0]at hbx H0 K0;have hc0:=hbx.cell;have HBX:=Aj hbx;clear h hr hW0 hbx hin;refine(Bj (n:=9)).1 ?_;refine Cu func219 rfl trivial ?_ rfl;simp only[ntmps219,Cf,Lc,AZ,Nat.reduceAdd,Nat.reduceSub,Ch,Ci,CW,Cv,Az,Ba];refine Bu.2 ?_;go_wp2_with (go_at_call 258;refine(Gp _ _ _ _).mono ?_;rintro e w3 ⟨rfl,hw3⟩;rw[HW0.1]at hw3;have HW3:=Aj hw3;clear hw3);have hz3:w3.heap.size=w.heap.size+1+1:=by rw[HW3.1,AU,hz0]
 have g3:W0.grownBy w3 none:=by rw[HW3.1];exact Ga _ _ _
 have hI0:Gs 284 Ru.one w base p bs (w.heap.size+1) (.slice A n c) [] w3:=⟨by rw[Dq,Bg];exact H0.1.apart g3 (fun r e=>by cases e),K0.1.more g3 om (fun r e=>by cases e),Boxed.kept HBX.1 g3 (fun e=>by cases e),by rw[HW3.1,←hz0];exact Bb _ _ _⟩
 have b3:=hI0.2.2.2;have r3:kD w3 B A n c l:=R0.1.below (hI0.2.1.aX.mono hB);clear HBX H0 K0 HW0 hc0;refine(Bu (n:=9)).1 ?_;refine jg Ah (gf:=281) (lb:= #[.pointer (some ⟨w.heap.size+1,0,none⟩)]) rfl (enters_of func281 kr rfl)
  (encs:=encR) (O:=fun _=>False) (Kp:=zP B (w.heap.size+1)) (L:=Ru.runs l)
  (by rintro r h;exact h.elim) (fun h k=>h.trans k) (fun W W' row hW hg hr=>zP.grown hW om om hg hr) (fun _=>rfl)
  (Gs 284 Ru.one w base p bs (w.heap.size+1) (.slice A n c)) (fun _ _ _=>False)
  (fun pre x a₁ W=>Gs 284 Ru.one w base p bs (w.heap.size+1) (.slice A n c) pre W∧
   ∃g,w3.heap.size≤g∧W.heap[g]? =some (.cells #[.int .u64 (x.1:Int),.int .i64 (x.2:Int)] 378 (0,0))∧
   a₁={tmps:= #[.pointer (some ⟨p,0,none⟩),.slice A n c,.pointer (some ⟨w.heap.size,0,none⟩),undef,.int .i64 0,.pointer (some ⟨g,0,none⟩),.pointer (some ⟨p,0,none⟩),.bool false,.slice A n c,.func (.func 281) #[] #[.pointer (some ⟨w.heap.size+1,0,none⟩)],
    .agg #[.int .u64 (x.1:Int),.int .i64 (x.2:Int)],undef,undef,undef,undef,undef,undef,undef,undef,undef,undef],defers:=[]})
  (qN 8 (w.heap.size+1) B n c A l w3 _ b3 r3 hn (fun pre W ⟨_,h⟩=>h))
  ?hI (fun _ _ _ _ _ h _ _=>h) ?hM hI0 ?assign ?body ?done ?stop
 case hI=>exact Gs.own om om om
 case hM=>
  rintro pre x a₁ u W W' row ⟨hI,g,hg1,hg2,ha⟩ hgr hr;refine⟨Gs.own om om om _ _ _ _ hI hgr hr,g,hg1,(hgr.block g (Ge.1 hg2).1 (fun e=>?_)).trans hg2,ha⟩;rcases hr g e.symm with h|⟨_,o,ho,hc⟩
  ·exact h.elim
  ·rw[hg2]at ho;cases ho;cases hc
 case assign=>
  rintro lp pre x W hI hpre hW;unfold encR
  gi_wp2
  refine⟨KeepsOthers.from (DY W _) _,⟨(Ae B W).alloc om _,Aw _ _ _ om⟩,?_,W.heap.size,hW,Av W _,rfl⟩;exact Gs.own (N:=W.heap.size) om om om _ _ _ none hI (Ga _ _ _) (fun r e=>by cases e)
 case body=>
  rintro lp pre x a₁ W ⟨⟨hw1,hk1,hb1,hb2⟩,g,hg1,hg2,rfl⟩ hpre hW;obtain⟨hx1,hx2,hx3⟩:=hgood.1 x (hpre.subset sm);have hlx:=hpre.length_le;rw[La,DF]at hlx;have hlb:Kept ((bs++pre.flatMap Ru.one).length≤900000000):=⟨by
   have h1:=Ck.nQ (f:=Ru.one) (B:=71) (fun x=>by simp only[Ru.one,La,Bt.aj];omega) pre;have h3:=hln.1;simp only[La];omega⟩
  have hone:Kept (Ru.one x=Bt.bw 64 x.1++Bt.bw 7 (x.2-1)):=⟨rfl⟩
  obtain⟨y,cn⟩:=x;simp only[]at*;have e1:IntKind.u64.wrap ((cn:Int)-1)=((cn-1:Nat):Int):=by rw[Bv];omega
  have c1:=Boxed.cell hb1;have d0:W.cell? ⟨g,0,none⟩=some (.int .u64 (y:Int)):=Co _ _ 0 _ _ _ hg2;have vZ:g≠p:=om;have H1:=Aj hw1;have K1:=Aj hk1;have X1:=Aj hb1;have Z1:=Aj hb2;have Y1:=Aj hg2;have tf2:Fence.wide.fn 191:=trivial;have WB:=Aj (CallsIn.inRound lp (Bj (n:=6).2 (bY base p y 64 _ W hw1 om om (by have:=hlb.1;omega))));have WC:=Aj (fun(w1:World) (h1:fC w1 base p (bs++pre.flatMap Ru.one++Bt.bw 64 y))=>CallsIn.inRound lp (Bj (n:=6).2 (bY base p (cn-1) 7 _ w1 h1 om om (by have:=hlb.1;rw[La,Bt.aj];omega))));clear hw1 hk1 hb1 hb2 hg2
  gi_wp2_with (first
   |(gi_at_call 191;refine(WC.1 w5 H5.1).mono ?_;rintro e w4 ⟨rfl,hw4,hk4⟩;have H4:=Aj hw4;have K4:=Aj (K5.1.trans hk4);have X4:=Aj (Boxed.wk X5.1 hk4 XH.symm Ah);clear hw4 hk4)
   |(gi_at_call 191;refine WB.1.mono ?_;rintro e w5 ⟨rfl,hw3,hk3⟩;have H5:=Aj hw3;have K5:=Aj hk3;have X5:=Aj (Boxed.wk X1.1 hk3 XH.symm Ah);have d0:=Boxed.cell X5.1;have d1:w5.cell? ⟨g,1,none⟩=some (.int .i64 (cn:Int)):=Co _ _ 1 _ _ _ (Wk.kept hk3 Y1.1 vZ Ah);clear hw3 hk3))
  have hxp:w.heap.size+1≠p:=om;refine⟨K4.1.keeps H1.1.cells,⟨K4.1.aX.mono hB,(Wk.kept K4.1 Z1.1 hxp Ah).trans Z1.1.symm⟩,?_,K1.1.trans K4.1,X4.1,Wk.kept K4.1 Z1.1 hxp Ah⟩;have:=H4.1;rw[Af,←hone.1,Af]at this;rw[oL,List.flatMap_singleton];exact this
 case done=>
  rintro D W hD ⟨hw1,hk1,hb1,-⟩ hK;have H1:=Aj hw1;have K1:=Aj hk1;clear hw1 hk1 hb1;go_wp2;refine⟨sm,.inl ⟨_,_,rfl,CU hK,?_⟩⟩;have hgo:W.grownBy (W.putObj D (.deferred none)) (some D):=Bd W D _;exact⟨_,results_tmp rfl _ _ _,rfl,H1.1.apart hgo (fun r e=>by cases e;exact⟨_,hK,rfl⟩),K1.1.more hgo om (fun r e=>by cases e;omega)⟩
 case stop=>
  rintro D c pre W _ _ h _;exact h.elim
end
abbrev Wt:=Nat×Nat
def ZG (x:Wt):List Value:=[.int .u64 (x.1:Int),.int .i64 (x.2:Int)]
def LW (L:List Wt):List Value:=L.flatMap ZG
theorem uL (L):(LW L).length=L.length*2:=by
 unfold LW
 induction L with
 |nil=>rfl
 |cons x L ih=>rw[Au,La,ih,Lc];simp[ZG];omega
theorem LX (L i k) (h:i<L.length) (hk:k<2):(LW L)[i*2+k]? =(ZG L[i])[k]?:=by
 unfold LW
 induction L generalizing i with
 |nil=>simp at h
 |cons x L ih=>
  rw[Au];have hx:(ZG x).length=2:=rfl;cases i with
  |zero=>rw[Dl om];simp
  |succ i=>
   rw[Bl om,hx,show(i+1)*2+k-2=i*2+k from om];exact ih i (by simpa using h)
theorem Wu (L):∀u∈LW L,u.oneCell'=true:=by
 intro u hu;obtain⟨c,_,hc⟩:=mK.1 hu;simp[ZG]at hc;rcases hc with rfl|rfl<;>rfl
theorem JL (a b):LW (a++b)=LW a++LW b:=by simp[LW]
def qa (w:World) (B:Nat) (A:Option Addr) (n c:Nat) (l:List Wt):Prop:=Rd w B 2 A n c (LW l)
theorem qa.len {w B n c A l} (h:qa w B A n c l):n=l.length:=by have:=h.2.2.1;rw[uL]at this;omega
section
variable {w w':World} {B n c:Nat} {A:Option Addr} {l:List Wt}
theorem qa.below (h:qa w B A n c l) (hb:Below B w w'):qa w' B A n c l:=Rd.below h hb
end
theorem qa.at_ {w B n c k A l} (h:qa w B A n c l) (hk:k<l.length):∃b off,A=some ⟨b,off,none⟩∧b<B∧w.cell? ⟨b,off+k*2,none⟩=some (.int .u64 (l[k].1:Int))∧w.cell? ⟨b,off+(k*2+1),none⟩=some (.int .i64 (l[k].2:Int)):=by
 obtain⟨b,off,e,hb,hc⟩:=h.2.2.2 (by have:=h.len;omega);refine⟨b,off,e,hb,hc _ _ ?_,hc _ _ ?_⟩
 ·have:=LX l k 0 hk om;simpa[ZG]using this
 ·have:=LX l k 1 hk om;simpa[ZG]using this
def og (w:World) (base:Nat) (A:Option Addr) (n c:Nat) (l:List Wt):Prop:=w.ownsRow base 378 2 (.slice A n c) n (LW l)
theorem og.rd {w base n c A l} (h:og w base A n c l):qa w w.heap.size A n c l:=Rd.bC h
theorem og.len {w base n c A l} (h:og w base A n c l):n=l.length:=h.rd.len
theorem ZH:(prog.info? 378).map (fun i=>(i.zero,i.size,i.bytes))=some (some (.agg #[.int .u64 0,.int .i64 0]),2,16):=kr
theorem qa.lit (w:World) (l fr) (h:l.length≤9223372036854775807):qa (w.alloc (.cells (LW l).toArray 378 fr)) (w.heap.size+1) (some ⟨w.heap.size,0,none⟩) l.length l.length l:=
 ⟨Nr _,by unfold maxLen;omega,by rw[uL],fun _=>⟨_,0,rfl,om,fun i u hu=>by
  rw[bZ];exact(Ao w _ _ _ i).trans (by simpa using hu)⟩⟩
section
open Go.Shelf
def Ru.gtr (r:List Bool):(Nat×Nat)×List Bool×Int:=
 if(Tm.rd 64 r).2.2≠0 then((0,0),(Tm.rd 64 r).2)else(((Tm.rd 64 r).1,(Tm.rd 7 (Tm.rd 64 r).2.1).1+1),(Tm.rd 7 (Tm.rd 64 r).2.1).2)
theorem NR {w:World} {base n c g sz e A xs} (h:w.ownsRow base e sz (.slice A n c) n xs) {cs t fr} (hg:w.heap[g]? =some (.cells cs t fr)) (ht:t≠e):some g≠ab A:=by
 rcases h.2 with⟨hv,_⟩|⟨g2,cap,cur,hv,_,hgb,_⟩
 ·injection hv with hv1;rw[hv1];exact fun e=>by cases e
 ·injection hv with hv1
  rw[hv1];intro e;obtain rfl:g=g2:=by simpa[ab]using e
  rw[hg]at hgb;simp only[gK,DU]at hgb;exact ht hgb.2.1
def wy (w:World) (g:Nat) (a b:Value):World:=(w.setCell ⟨g,0,none⟩ a).setCell ⟨g,1,none⟩ b
theorem lh (w g a b) {cs t} (h:w.heap[g]? =some (.cells cs t (0,0))) (hs:cs.size=2):(wy w g a b).heap[g]? =some (.cells #[a,b] t (0,0)):=by
 unfold wy;rw[Ag _ g 1 _ _ _ (Ag _ g 0 _ _ _ h)];obtain⟨l⟩:=cs
 match l,hs with
 |[x,y],_=>simp
theorem dX (w:World) (g a b):w.grownBy (wy w g a b) (some g):=(au w ⟨g,0,none⟩ a).trans (au _ ⟨g,1,none⟩ b)
theorem JM (p r w) (h:Br w p r):
  Calls prog 259 #[.pointer (some ⟨p,0,none⟩)] w fun e w'=>e= .returned (.tuple #[.agg #[.int .u64 ((Ru.gtr r).1.1:Int),.int .i64 ((Ru.gtr r).1.2:Int)],.int .i64 (Ru.gtr r).2.2])∧Br w' p (Ru.gtr r).2.1∧w.grownBy w' (some p):=by
 have hp:=h.lt;obtain⟨W0,hW0⟩:∃W0,W0=w.alloc (.cells #[.int .u64 0,.int .i64 0] 378):=⟨_,rfl⟩
 have hg0:W0.heap[w.heap.size]? =some (.cells #[.int .u64 0,.int .i64 0] 378 (0,0)):=by rw[hW0];exact Av w _
 have gr0:w.grownBy W0 (some p):=by rw[hW0];exact Ga _ _ _
 have H0:=Aj (h.grown (row:=none) (show w.grownBy W0 none by rw[hW0];exact Ga _ _ _) (fun g e=>by cases e));have RB:=Aj (dG p 64 r W0 H0.1 om);have hgt:Kept (Ru.gtr r=if(Tm.rd 64 r).2.2≠0 then((0,0),(Tm.rd 64 r).2)else(((Tm.rd 64 r).1,(Tm.rd 7 (Tm.rd 64 r).2.1).1+1),(Tm.rd 7 (Tm.rd 64 r).2.1).2)):=⟨rfl⟩
 obtain⟨G,hG⟩:∃G,G=Ru.gtr r:=⟨_,rfl⟩
 rw[←hG]at hgt⊢;have her:=Tm.p8 64 r;obtain⟨X,hX⟩:∃X,X=Tm.rd 64 r:=⟨_,rfl⟩
 rw[←hX]at RB her hgt;obtain⟨x,r1,e1⟩:=X;simp only[]at RB her hgt;have HW0:=Aj hW0.symm;have HG0:=Aj hg0;have GR0:=Aj gr0;have hwz:Kept (p<w.heap.size):=⟨hp⟩
 clear hX hG h hW0 hg0 gr0;rcases her with rfl|rfl
 ·rw[Ng sm]at hgt;have hr7:=Tm.jF 7 r1;have R7:=Aj (fun(w1:World) (hb:Br w1 p r1)=>dG p 7 r1 w1 hb om);obtain⟨X,hX⟩:∃X,X=Tm.rd 7 r1:=⟨_,rfl⟩
  rw[←hX]at R7 hgt hr7;obtain⟨cn,r2,e2⟩:=X;simp only[]at R7 hgt hr7;have hw1:wrap64 (cn:Int)=(cn:Int):=by unfold wrap64;omega
  clear hX;go_enter func259,ntmps259;go_wp2_with (first
   |(go_at_call 213;refine(R7.1 w1 B1.1).mono ?_;rintro e w2 ⟨rfl,hb2,hg2⟩;have B2:=Aj hb2;have G2:=Aj (G1.1.trans hg2);have C2:=Aj ((hg2.block _ (Ge.1 C1.1).1 (fun e=>by have:=Oj e;have:=hwz.1;omega)).trans C1.1);have f0:=Fr _ _ 0 _ _ C2.1;have f1:=Fr _ _ 1 _ _ C2.1;have k0:=Co _ _ 0 _ _ _ C2.1;have k1:=Co _ _ 1 _ _ _ C2.1;clear hb2 hg2)
   |(go_at_call 213;rw[HW0.1];refine RB.1.mono ?_;rintro e w1 ⟨rfl,hb1,hg1⟩;have B1:=Aj hb1;have G1:=Aj (GR0.1.trans hg1);have C1:=Aj ((hg1.block _ (Ge.1 HG0.1).1 (fun e=>by have:=Oj e;have:=hwz.1;omega)).trans HG0.1);clear hb1 hg1))
  rw[hgt.1];refine Bh (v:= .tuple #[.agg #[.int .u64 (x:Int),.int .i64 ((cn:Int)+1)],.int .i64 e2]) ?_ rfl ⟨rfl,B2.1.grown (dX w2 w.heap.size (.int .u64 (x:Int)) (.int .i64 ((cn:Int)+1))) (fun g e=>by cases e;exact hwz.1),?_⟩
  ·exact cZ (fn:=Tryz.f259) (a:=2) (u:=3) (T1:=378) rfl _ _ w.heap.size _ _ _ _ rfl (lh w2 w.heap.size (.int .u64 (x:Int)) (.int .i64 ((cn:Int)+1)) C2.1 rfl) underlying378 rfl kr
  ·exact G2.1.andThen (dX w2 w.heap.size (.int .u64 (x:Int)) (.int .i64 ((cn:Int)+1))) (fun j hj=> .inl (by cases hj;exact Nr _))
 ·rw[Ps0 sm]at hgt;go_enter func259,ntmps259;go_wp2_with (go_at_call 213;rw[HW0.1];refine RB.1.mono ?_;rintro e w1 ⟨rfl,hb1,hg1⟩;have B1:=Aj hb1;have G1:=Aj (GR0.1.trans hg1);have C1:=Aj ((hg1.block _ (Ge.1 HG0.1).1 (fun e=>by have:=Oj e;have:=hwz.1;omega)).trans HG0.1);have f0:=Fr _ _ 0 _ _ C1.1;have f1:=Fr _ _ 1 _ _ C1.1;have k0:=Co _ _ 0 _ _ _ C1.1;have k1:=Co _ _ 1 _ _ _ C1.1;clear hb1 hg1);rw[hgt.1];refine Bh (v:= .tuple #[.agg #[.int .u64 0,.int .i64 0],.int .i64 3]) ?_ rfl ⟨rfl,B1.1.grown (dX w1 w.heap.size (.int .u64 0) (.int .i64 0)) (fun g e=>by cases e;exact hwz.1),?_⟩
  ·exact cZ (fn:=Tryz.f259) (a:=2) (u:=3) (T1:=378) rfl _ _ w.heap.size _ _ _ _ rfl (lh w1 w.heap.size (.int .u64 0) (.int .i64 0) C1.1 rfl) underlying378 rfl kr
  ·exact G1.1.andThen (dX w1 w.heap.size (.int .u64 0) (.int .i64 0)) (fun j hj=> .inl (by cases hj;exact Nr _))
theorem NS (A n c B rs w) (hr:qa w B A n c rs) (hB:B≤w.heap.size) (hc:∀q∈rs,q.2≤128) (ht:Ru.tot rs≤1000000):
  Calls prog 260 #[.slice A n c] w fun e w'=>∃A2 n2 c2,e= .returned (.slice A2 n2 c2)∧aI w' w.heap.size A2 n2 c2 (Ru.join rs)∧Below w.heap.size w w':=by
 have hln:=Aj hr.len;have hlc:=hr.1;have hcm:=hr.2.1;unfold maxLen at hcm;have R0:=Aj hr;have HC:=Aj hc;clear hr hc;go_enter func260,ntmps260;go_wp2;go_loopw [3,8] (fun v i wr=>∃(k:Nat) (A2:Option Addr) (n2 c2:Nat),k≤n∧i= .int .i64 k∧v= .slice A2 n2 c2∧aI wr w.heap.size A2 n2 c2 (Ru.join (rs.take k))∧Below w.heap.size w wr) (fun _ i _=>n-(intOf i).toNat)
 case atStart=>exact⟨0,none,0,0,om,rfl,rfl,⟨rfl,.inl ⟨rfl,rfl⟩⟩,Ae _ _⟩
 case round=>
  obtain⟨k,A2,n2,c2,hk,rfl,rfl,ho,hb⟩:=hrel;by_cases hlt:k<n
  ·have hlt':(k:Int)< (n:Int):=by omega
   have hkl:k<rs.length:=by have:=hln.1;omega
   have hrr:=(R0.1.below (hb.mono hB))
   obtain⟨b,off,rfl,jT,hc0,hc1⟩:=hrr.at_ hkl;have hcn:=HC.1 _ (gP hkl);obtain⟨q,hq⟩:∃q,q=rs[k]:=⟨_,rfl⟩
   rw[←hq]at hc0 hc1 hcn;obtain⟨x,cn⟩:=q;simp only[]at hc0 hc1 hcn;rw[←fE]at hc1;have hcn':¬(128:Int)< (cn:Int):=om;have hz:=hb.size;have HO:=Aj ho;have HB:=Aj hb;have HQ:=Aj hq;clear ho hb hrr hq;go_wp2;have hnew:=Av wr (.cells #[.int .u64 (x:Int),.int .i64 (cn:Int)] 378);have hO1:aI (wr.alloc (.cells #[.int .u64 (x:Int),.int .i64 (cn:Int)] 378)) w.heap.size A2 n2 c2 (Ru.join (rs.take k)):=Oa HO.1 _;have hB1:=HB.1.alloc hz (.cells #[.int .u64 (x:Int),.int .i64 (cn:Int)] 378);have hjl:Kept ((Ru.join (rs.take k)).length+cn≤1000000):=⟨by
    have e:=congrArg Ru.tot (jH k rs);rw[oJ hkl,←HQ.1]at e;simp only[Ru.tot,dW,Dx,AA,Bp]at e ht;rw[Ru.nO];unfold Ru.tot;omega⟩
   generalize wr.alloc (.cells #[.int .u64 (x:Int),.int .i64 (cn:Int)] 378)=W1 at*;generalize wr.heap.size=g at*;clear hc0 hc1;go_loopw [3,17] (fun v i wi=>∃(j:Nat) (A3:Option Addr) (n3 c3:Nat),j≤cn∧i= .int .i64 j∧v= .slice A3 n3 c3∧aI wi w.heap.size A3 n3 c3 (Ru.join (rs.take k)++List.replicate j x)∧Below w.heap.size w wi∧
    Kept (wi.heap[g]? =some (.cells #[.int .u64 (x:Int),.int .i64 (cn:Int)] 378 (0,0)))) (fun _ i _=>cn-(intOf i).toNat)
   case atStart=>exact⟨0,A2,n2,c2,om,rfl,rfl,by simpa using hO1,hB1,⟨hnew⟩⟩
   case round=>
    obtain⟨j,A3,n3,c3,hj,rfl,rfl,ho3,hb3,hc3⟩:=hrel;by_cases hjc:j<cn
    ·have akY:(j:Int)< (cn:Int):=by omega
     have k0:=Co _ _ 0 _ _ _ hc3.1;have hl3:=ho3.len;have nz:n3≤1000000:=by rw[hl3,La,Eo];have:=hjl.1;omega
     have O3:=Aj ho3;have B3:=Aj hb3;have hz3:=hb3.size;clear ho3 hb3 hl3;have hal:=Ga wr (.cells #[.int .u64 (x:Int)] 125) none;have hzb:w.heap.size≤(wr.alloc (.cells #[.int .u64 (x:Int)] 125)).heap.size:=by simp;omega
     have hc4:=Aj ((hal.block g (Ge.1 hc3.1).1 (fun e=>by cases e)).trans hc3.1);go_wp2_with (at_builtin;refine dF rfl (.tmp 19) (.tmp 22) rfl w.heap.size A3 n3 c3 _ rfl (Oa O3.1 _) _ _ _ _ _ rfl (kD.one wr x) om hzb ?_;intro A4 c4 w5 av af cu;have O4:=Aj av;have G4:=Aj af;clear av af);go_roundw
     case rel=>
      refine⟨j+1,A4,n3+1,c4,om,by go_num,rfl,?_,((B3.1.alloc hz3 _).grown G4.1 hzb (fun r e=>(ae O3.1 r e).1)),⟨(G4.1.block g (Ge.1 hc4.1).1 (NR (Oa O3.1 _) hc4.1 Ah)).trans hc4.1⟩⟩;have:=O4.1;rw[Af,show List.replicate j x++[x]=List.replicate (j+1) x by rw[List.replicate_succ']]at this;exact this
     case measure=>simp[intOf];omega
    ·obtain rfl:j=cn:=by omega
     have O3:=Aj ho3;have B3:=Aj hb3;clear ho3 hb3;go_wp2;go_roundw
     case rel=>
      refine⟨k+1,A3,n3,c3,om,by go_num,rfl,?_,B3.1⟩;have e:Ru.join (rs.take (k+1))=Ru.join (rs.take k)++List.replicate j x:=by
       rw[Ts hkl,←HQ.1];simp[Ru.join]
      rw[e];exact O3.1
     case measure=>simp[intOf];omega
  ·obtain rfl:k=n:=by omega
   have e:rs.take k=rs:=iL (by have:=hln.1;omega);rw[e]at ho;have HO:=Aj ho;have HB:=Aj hb;clear ho hb;go_wp2;go_ret;exact⟨A2,n2,c2,rfl,HO.1,HB.1⟩
theorem JN {w ops o a K Q E} (hgd:o.guard=none) (s x)
  (ho:o.op= .call {callee:= .builtin .append,args:= #[s,x],argTypes:= #[379,379]})
  (base A n c l) (hs:a.eval s= .slice A n c) (hown:og w base A n c l)
  (B S m d k) (hx:a.eval x= .slice S m d) (hr:qa w B S m d k)
  (hlen:n+m≤4398046511104) (hbase:base≤w.heap.size)
  (h:∀A2 c2 w',og w' base A2 (n+m) c2 (l++k)→w.grownBy w' (ab A)→(ab A2=ab A∨ab A2=some w.heap.size)→K (a.put o.dst (.slice A2 (n+m) c2)) w'):
  if Region.wanted o (yielded ops a.tmps)=true then Oper.wp prog o a w K Q else E:=by
 have hw:Region.wanted o (yielded ops a.tmps)=true:=by simp[Region.wanted,hgd]
 rw[Ps0 hw];obtain⟨i0,hi0,hz0,hz1,hz2⟩:=AX ZH;refine mr w s x _ ho base 378 i0 (.agg #[.int .u64 0,.int .i64 0]) 2 16 underlying379 hi0 hz0 hz1 hz2 rfl Ah A n c (LW l) hs hown B S m d (LW k) hx hr (Wu k) (by unfold maxLen;omega) om hbase ?_;rw[←JL];exact h
theorem Ru.Wv (f last acc r):Ru.gr f 0 last acc r=(acc,r,0):=by cases f<;>simp[Ru.gr]
theorem Ru.Ww {f m} (hm:0<m) (hf:m≤f) (last acc r):
  Ru.gr f m last acc r=if(Ru.gtr r).2.2≠0 then([],(Ru.gtr r).2)else if m< (Ru.gtr r).1.2∨last=some (Ru.gtr r).1.1 then([],(Ru.gtr r).2.1,8)else Ru.gr (f-1) (m-(Ru.gtr r).1.2) (some (Ru.gtr r).1.1) (acc++[(Ru.gtr r).1]) (Ru.gtr r).2.1:=by
 obtain⟨f,rfl⟩:∃g,f=g+1:=⟨f-1,om⟩
 rw[Ru.gr,Ng om];unfold Ru.gtr;by_cases h:(Tm.rd 64 r).2.2≠0
 ·rw[Ps0 h,Ps0 h,Ps0 h]
 ·rw[Ng h,Ng h];simp only[Bz]
structure LY (w:World) (p n gl:Nat) (Q:List Wt×List Bool×Int) (m:Nat) (A2:Option Addr) (n2 c2:Nat) (W:World) (f:Nat) (last:Option Nat) (acc:List Wt) (r2:List Bool) (lv lc:Nat):Prop where
 fuel:m≤f
 tot:Ru.tot acc+m=n
 all:∀q∈acc,1≤q.2∧q.2≤128
 gr:Ru.gr f m last acc r2=Q
 own:og W w.heap.size A2 n2 c2 acc
 br:Br W p r2
 grown:w.grownBy W (some p)
 row:W.heap[gl]? =some (.cells #[.int .u64 (lv:Int),.int .i64 (lc:Int)] 378 (0,0))
 j5:(last=none∧lc=128)∨(last=some lv∧lc<128)
 apart:ab A2≠some gl
theorem Ru.LZ:∀{acc:List Wt},(∀q∈acc,1≤q.2∧q.2≤128)→acc.length≤Ru.tot acc
 |[],_=>sm
 |q::acc,h=>by
  have h1:=Ru.LZ (acc:=acc) (fun q hq=>h q (kF _ hq));have h2:=(h q jO).1;unfold Ru.tot at*;simp only[Lc,AA,Bp];omega
theorem NT {w wr w2 p n m n2 c2 f lv lc x cn A2 Q last acc r2 r3}
  (I:LY w p n w.heap.size Q m A2 n2 c2 wr f last acc r2 lv lc) (hst:Q=Ru.gr (f-1) (m-cn) (some x) (acc++[(x,cn)]) r3) (h1:1≤cn) (h2:cn≤128) (hcm:cn≤m) (hp:p<w.heap.size)
  (hb2:Br w2 p r3) (hg2:wr.grownBy w2 (some p)) (hr2:(w2.alloc (.cells #[.int .u64 (x:Int),.int .i64 (cn:Int)] 378)).heap[w.heap.size]? =some (.cells #[.int .u64 (lv:Int),.int .i64 (lc:Int)] 378 (0,0))):
  ∀(o) (A4) (c4) (w5),og w5 w.heap.size A4 (n2+1) c4 (acc++[(x,cn)])→((w2.alloc (.cells #[.int .u64 (x:Int),.int .i64 (cn:Int)] 378)).alloc o).grownBy w5 (ab A2)→
   (ab A4=ab A2∨ab A4=some (w2.heap.size+1+1))→cn<128→LY w p n w.heap.size Q (m-cn) A4 (n2+1) c4 (wy w5 w.heap.size (.int .u64 (x:Int)) (.int .i64 (cn:Int))) (f-1) (some x) (acc++[(x,cn)]) r3 x cn:=by
 intro o A4 c4 w5 hown hgr hat hlt;have hz:=I.grown.size;have hz2:=hg2.size;have hgl:=(Ge.1 I.row).1;have ha2:∀g,ab A2=some g→w.heap.size<g∧g<wr.heap.size:=fun g e=>by
  have h:=ae I.own g e;have h3:g≠w.heap.size:=fun e2=>I.apart (by rw[e,e2])
  omega
 have ga:w2.grownBy ((w2.alloc (.cells #[.int .u64 (x:Int),.int .i64 (cn:Int)] 378)).alloc o) none:=(Ga w2 (.cells #[.int .u64 (x:Int),.int .i64 (cn:Int)] 378) none).trans (Ga _ o none);have hap:ab A4≠some w.heap.size:=fun e=>by
  rcases hat with h|h
  ·exact I.apart (h.symm.trans e)
  ·have:=Oj (h.symm.trans e);omega
 have gp:=dX w5 w.heap.size (.int .u64 (x:Int)) (.int .i64 (cn:Int));have Kv:=(hgr.block w.heap.size (by simp;omega) (fun e=>(I.apart e.symm))).trans ((Aw (w2.alloc (.cells #[.int .u64 (x:Int),.int .i64 (cn:Int)] 378)) o _ (by simp;omega)).trans hr2);refine⟨by have:=I.fuel;omega,?_,?_,hst.symm,ag hown gp (.inr hap),?_,?_,lh w5 w.heap.size _ _ Kv rfl,.inr ⟨rfl,hlt⟩,hap⟩
 ·have:=I.tot;unfold Ru.tot at*;simp only[dW,Dx,AA,List.map_nil,Bp,List.sum_nil];omega
 ·intro q hq;rcases ja.1 hq with h|h
  ·exact I.all q h
  ·rw[gz.1 h];exact⟨h1,h2⟩
 ·exact((hb2.grown ga (fun g e=>by cases e)).grown hgr (fun g e=>by have:=(ha2 g e).1;omega)).grown gp (fun g e=>by cases e;exact hp)
 ·have h1:w.grownBy w2 (some p):=I.grown.trans hg2;have h2:w.grownBy ((w2.alloc (.cells #[.int .u64 (x:Int),.int .i64 (cn:Int)] 378)).alloc o) (some p):=h1.andThen ga (fun j hj=>by cases hj);exact(h2.andThen hgr (fun j hj=> .inl (by have:=(ha2 j hj).1;omega))).andThen gp (fun j hj=> .inl (by cases hj;exact Nr _))
theorem Sn (p n:Nat) (r w) (h:Br w p r) (hn:n≤127):
  Calls prog 220 #[.pointer (some ⟨p,0,none⟩),.int .i64 (n:Int)] w fun e w'=>∃A2 n2 c2,e= .returned (.tuple #[.slice A2 n2 c2,.int .i64 (Ru.dec n r).2.2])∧aI w' w.heap.size A2 n2 c2 (Ru.dec n r).1∧Br w' p (Ru.dec n r).2.1∧w.grownBy w' (some p):=by
 have l9:=h.lt;obtain⟨W0,hW0⟩:∃W0,W0=w.alloc (.cells #[.int .u64 0,.int .i64 128] 378):=⟨_,rfl⟩
 have gn0:w.grownBy W0 none:=by rw[hW0];exact Ga _ _ _
 have gp0:w.grownBy W0 (some p):=by rw[hW0];exact Ga _ _ _
 obtain⟨Q,hQ⟩:∃Q,Ru.gr n n none [] r=Q:=⟨_,rfl⟩
 have hD:Ru.dec n r=(Ru.join Q.1,Q.2):=by unfold Ru.dec;rw[hQ]
 have I0:LY w p n w.heap.size Q n none 0 0 W0 n none [] r 0 128:=
  ⟨Nr _,by simp[Ru.tot],sm,hQ,⟨rfl,.inl ⟨rfl,rfl⟩⟩,h.grown gn0 (fun g e=>by cases e),gp0,by rw[hW0];exact Av w _,.inl ⟨rfl,rfl⟩,by simp[ab]⟩
 rw[hD];have HW0:=Aj hW0.symm;have hn0:¬(n:Int)<0:=om;have hwz:Kept (p<w.heap.size):=⟨l9⟩
 clear h hW0 gn0 gp0 hQ hD;go_enter func220,ntmps220;go_wp2;rw[HW0.1];go_loopw [1,6] (fun mv v wr=>∃(m:Nat) (A2:Option Addr) (n2 c2 f:Nat) (last:Option Nat) (acc:List Wt) (r2:List Bool) (lv lc:Nat),mv= .int .i64 m∧v= .slice A2 n2 c2∧m≤n∧LY w p n w.heap.size Q m A2 n2 c2 wr f last acc r2 lv lc) (fun mv _ _=>(intOf mv).toNat)
 case atStart=>exact⟨n,none,0,0,n,none,[],r,0,128,rfl,rfl,Nr _,I0⟩
 case round=>
  clear I0 HW0;obtain⟨m,A2,n2,c2,f,last,acc,r2,lv,lc,rfl,rfl,hmn,I⟩:=hrel;have HI:=Aj I;clear I;by_cases hm0:m=0
  ·subst hm0;have hq:Kept (Q=(acc,r2,0)):=⟨by rw[←HI.1.gr,Ru.Wv]⟩
   have J:=Aj (NS A2 n2 c2 _ acc wr HI.1.own.rd Ai (fun q hq=>(HI.1.all q hq).2) (by have:=HI.1.tot;omega));go_wp2_with (go_at_call 260;refine J.1.mono ?_;rintro e w1 ⟨A3,n3,c3,rfl,ho,hb⟩;have O1:=Aj ho;have B1:=Aj hb;clear ho hb);go_ret2;rw[hq.1];exact⟨A3,n3,c3,rfl,JF O1.1 HI.1.grown.size,HI.1.br.below B1.1 HI.1.br.lt,HI.1.grown.andThen (row':=none) ⟨B1.1.os,B1.1.tape,B1.1.output,B1.1.size,fun k hk _=>B1.1.block k hk⟩ (fun j hj=>by cases hj)⟩
  ·have hm':(0:Int)< (m:Int):=by omega
   have GR:=Aj (JM p r2 wr HI.1.br);have hst:=Aj (Ru.Ww om HI.1.fuel last acc r2);rw[HI.1.gr]at hst;have Wx:(Ru.gtr r2).2.2=0→1≤(Ru.gtr r2).1.2∧(Ru.gtr r2).1.2≤128:=fun h=>by
    unfold Ru.gtr at h⊢;have h7:=Tm.jF 7 (Tm.rd 64 r2).2.1;by_cases h0:(Tm.rd 64 r2).2.2≠0
    ·rw[Ps0 h0]at h;exact absurd h h0
    ·rw[Ng h0];simp only[];omega
   obtain⟨X,hX⟩:∃X,X=Ru.gtr r2:=⟨_,rfl⟩
   rw[←hX]at GR hst Wx;clear hX;obtain⟨⟨x,cn⟩,r3,e1⟩:=X;simp only[]at GR hst Wx;by_cases he:e1=0
   ·subst he;rw[Ng sm]at hst;obtain⟨hc1,hc2⟩:=Wx rfl;by_cases hbad:m<cn∨last=some x
    ·rw[Ps0 hbad]at hst;have hcs:(m:Int)< (cn:Int)∨(¬(m:Int)< (cn:Int)∧((x:Int)==(lv:Int))=true∧(lc:Int)<128):=by
      rcases hbad with h|h
      ·exact .inl om
      ·by_cases h1:(m:Int)< (cn:Int)
       ·exact .inl h1
       ·rcases HI.1.j5 with⟨h2,_⟩|⟨h2,h3⟩
        ·rw[h2]at h;cases h
        ·rw[h2]at h;exact .inr ⟨h1,by simp;rw[Oj h],om⟩
     clear hbad;rcases hcs with hcs|⟨hcs1,hcs2,akZ⟩
     all_goals
      go_wp2_with (go_at_call 259;refine GR.1.mono ?_;rintro e w2 ⟨rfl,hb2,hg2⟩;have B2:=Aj hb2;have G2:=Aj (HI.1.grown.trans hg2);have hrow:=(hg2.block _ (Ge.1 HI.1.row).1 (fun e=>by have:=Oj e;have:=hwz.1;omega)).trans HI.1.row;have ga:=Ga w2 (.cells #[.int .u64 (x:Int),.int .i64 (cn:Int)] 378) none;have hrow2:=(ga.block _ (Ge.1 hrow).1 (fun e=>by cases e)).trans hrow;have k0:=Co _ _ 0 _ _ _ hrow2;have k1:=Co _ _ 1 _ _ _ hrow2;have BA:=Aj (B2.1.grown ga (fun g e=>by cases e));have GA:=Aj (G2.1.trans (Ga w2 (.cells #[.int .u64 (x:Int),.int .i64 (cn:Int)] 378) _));clear hb2 hg2 hrow ga hrow2);go_ret2;rw[hst.1];exact⟨none,0,0,rfl,⟨rfl,.inl ⟨rfl,rfl⟩⟩,BA.1,GA.1⟩
    ·rw[Ng hbad]at hst;have hcm:cn≤m:=om;have hcs:((x:Int)==(lv:Int))=false∨(((x:Int)==(lv:Int))=true∧lc=128):=by
      by_cases h:x=lv
      ·rcases HI.1.j5 with⟨_,h2⟩|⟨h2,_⟩
       ·exact .inr ⟨by simp[h],h2⟩
       ·exact absurd (.inr (by rw[h2,h])) hbad
      ·exact .inl (by simp;omega)
     have hcm1:¬(m:Int)< (cn:Int):=om;clear hbad;rcases hcs with hcs|⟨hcs1,hcs2⟩
     all_goals
      go_upto_region 13 with(go_at_call 259;refine GR.1.mono ?_;rintro e w2 ⟨rfl,hb2,hg2⟩;have B2:=Aj hb2;have G2:=Aj hg2;have hrow:=(hg2.block _ (Ge.1 HI.1.row).1 (fun e=>by have:=Oj e;have:=hwz.1;omega)).trans HI.1.row;have ga:=Ga w2 (.cells #[.int .u64 (x:Int),.int .i64 (cn:Int)] 378) none;have hrow2:=(ga.block _ (Ge.1 hrow).1 (fun e=>by cases e)).trans hrow;have k0:=Co _ _ 0 _ _ _ hrow2;have k1:=Co _ _ 1 _ _ _ hrow2;have HR2:=Aj hrow2;clear hb2 hg2 hrow ga hrow2)
      obtain⟨gx,hgx⟩:∃gx,gx=w2.heap.size:=⟨_,rfl⟩
      have T:=Aj (NT HI.1 hst.1 hc1 hc2 hcm l9 B2.1 G2.1 HR2.1);rw[←hgx]at T;have hn0:=Av w2 (.cells #[.int .u64 (x:Int),.int .i64 (cn:Int)] 378);rw[←hgx]at hn0⊢;have hzx:w.heap.size<gx:=by rw[hgx];have h1:=HI.1.grown.size;have h2:=G2.1.size;have h3:=(Ge.1 HI.1.row).1;omega
      have hlA:∀g,ab A2=some g→g<gx∧g≠w.heap.size:=fun g e=>⟨by rw[hgx];have h1:=(ae HI.1.own g e).2;have h2:=G2.1.size;omega,fun e2=>HI.1.apart (by rw[e,e2])⟩
      have hO3:=Aj (show og (w2.alloc (.cells #[.int .u64 (x:Int),.int .i64 (cn:Int)] 378)) w.heap.size A2 n2 c2 acc from Oa (lg HI.1.own G2.1 l9) _);have hz3:(w2.alloc (.cells #[.int .u64 (x:Int),.int .i64 (cn:Int)] 378)).heap.size=gx+1:=by rw[hgx];simp
      have hn2:n2≤127:=by
       have h1:=HI.1.own.len;have h2:=Ru.LZ HI.1.all;have h3:=HI.1.tot;omega
      have hst':=hst;clear hgx k0 k1 hst;generalize w2.alloc (.cells #[.int .u64 (x:Int),.int .i64 (cn:Int)] 378)=W3 at*;have hz5:Kept (∀o,(W3.alloc o).heap.size=gx+1+1):=⟨fun o=>by simp;omega⟩
      have hcn:Kept (cn<128):=⟨om⟩
      have d0:W3.cell? ⟨gx,0,none⟩=some (.int .u64 (x:Int)):=Co _ _ 0 _ _ _ hn0;have d1:W3.cell? ⟨gx,1,none⟩=some (.int .i64 (cn:Int)):=Co _ _ 1 _ _ _ hn0;have e0:∀o,(W3.alloc o).cell? ⟨gx,0,none⟩=some (.int .u64 (x:Int)):=fun o=>(AB _ _ ⟨gx,0,none⟩ (by show gx<_;omega)).trans d0
      have e1:∀o,(W3.alloc o).cell? ⟨gx,1,none⟩=some (.int .i64 (cn:Int)):=fun o=>(AB _ _ ⟨gx,1,none⟩ (by show gx<_;omega)).trans d1
      have f0:=Fr _ _ 0 _ _ HR2.1;have f1:=Fr _ _ 1 _ _ HR2.1;have k0:W3.cell? ⟨w.heap.size,0,none⟩=some (.int .u64 (lv:Int)):=Co _ _ 0 _ _ _ HR2.1;have k1:W3.cell? ⟨w.heap.size,1,none⟩=some (.int .i64 (lc:Int)):=Co _ _ 1 _ _ _ HR2.1;go_region_held3 (fun w'=>w'.cell? ⟨gx,0,none⟩=some (.int .u64 (x:Int))∧w'.cell? ⟨gx,1,none⟩=some (.int .i64 (cn:Int))) (first|exact⟨d0,d1⟩|exact⟨e0 _,e1 _⟩|exact k9|exact k10 _ _)
       ((refine JN ?g1 (.tmp 43) (.tmp 45) ?g2 w.heap.size A2 n2 c2 acc ?g3 ?g4 (gx+1+1) (some ⟨gx+1,0,none⟩) 1 1 [(x,cn)] ?g5 ?g6 ?g7 ?g8 ?_;(case g1=>rfl);(case g2=>rfl);(case g3=>rfl);(case g5=>(rw[←hz3];rfl));(case g4=>exact Oa hO3.1 _);(case g6=>(rw[←hz3];exact qa.lit W3 [(x,cn)] (0,0) sm));(case g7=>omega);(case g8=>(simp;omega));intro A4 c4 w5 hown hgrow hat;have vX:(W3.alloc (.cells #[.int .u64 (x:Int),.int .i64 (cn:Int)] 378)).grownBy w5 (ab A2):=⟨hgrow.os,hgrow.tape,hgrow.output,hgrow.size,hgrow.block⟩;have hx5:w5.heap[gx]? =(W3.alloc (.cells #[.int .u64 (x:Int),.int .i64 (cn:Int)] 378)).heap[gx]?:=vX.block gx (by simp;omega) (fun e=>absurd (hlA gx e.symm).1 (Eu _));have k9:w5.cell? ⟨gx,0,none⟩=some (.int .u64 (x:Int))∧w5.cell? ⟨gx,1,none⟩=some (.int .i64 (cn:Int)):=⟨(AR (a:=⟨gx,0,none⟩) hx5).trans (e0 _),(AR (a:=⟨gx,1,none⟩) hx5).trans (e1 _)⟩;have k10:∀a b:Value,((w5.setCell ⟨w.heap.size,0,none⟩ a).setCell ⟨w.heap.size,1,none⟩ b).cell? ⟨gx,0,none⟩=some (.int .u64 (x:Int))∧((w5.setCell ⟨w.heap.size,0,none⟩ a).setCell ⟨w.heap.size,1,none⟩ b).cell? ⟨gx,1,none⟩=some (.int .i64 (cn:Int)):=fun a b=>⟨(AR (a:=⟨gx,0,none⟩) ((dX w5 w.heap.size a b).block gx (Bc w5 ⟨gx,0,none⟩ k9.1) (fun e=>by have:=Oj e;omega))).trans k9.1,(AR (a:=⟨gx,1,none⟩) ((dX w5 w.heap.size a b).block gx (Bc w5 ⟨gx,0,none⟩ k9.1) (fun e=>by have:=Oj e;omega))).trans k9.2⟩;have Kv:=(vX.block w.heap.size (by simp;omega) (fun e=>(hlA _ e.symm).2 rfl)).trans ((Aw W3 _ _ om).trans HR2.1);have g0:=Fr _ _ 0 _ _ Kv;have g1:=Fr _ _ 1 _ _ Kv;have q0:w5.cell? ⟨w.heap.size,0,none⟩=some (.int .u64 (lv:Int)):=Co _ _ 0 _ _ _ Kv;have q1:w5.cell? ⟨w.heap.size,1,none⟩=some (.int .i64 (lc:Int)):=Co _ _ 1 _ _ _ Kv;have T5:=Aj (T.1 _ A4 c4 w5 hown vX (by rcases hat with h|h<;>rw[h]<;>simp[hz3]) hcn.1);have X5:=Aj hx5;have XG:=Aj vX;clear hown hgrow vX hx5 Kv hat))
      obtain⟨kx,kc⟩:=k10 (.int .u64 (x:Int)) (.int .i64 (cn:Int));go_wp2;go_roundw
      case rel=>exact⟨m-cn,A4,n2+1,c4,f-1,some x,acc++[(x,cn)],r3,x,cn,congrArg (Value.int .i64) (show(m:Int)-(cn:Int)=((m-cn:Nat):Int)from om),rfl,om,T5.1⟩
      case measure=>simp[intOf];omega
   ·rw[Ps0 he]at hst;have hne:(e1 !=0)=true:=by simpa using he
    clear he Wx;go_wp2_with (go_at_call 259;refine GR.1.mono ?_;rintro e w2 ⟨rfl,hb2,hg2⟩;have B2:=Aj hb2;have G2:=Aj (HI.1.grown.trans hg2);have ga:=Ga w2 (.cells #[.int .u64 (x:Int),.int .i64 (cn:Int)] 378) none;have BA:=Aj (B2.1.grown ga (fun g e=>by cases e));have GA:=Aj (G2.1.trans (Ga w2 (.cells #[.int .u64 (x:Int),.int .i64 (cn:Int)] 378) _));clear hb2 hg2 ga);go_ret2;rw[hst.1];exact⟨none,0,0,rfl,⟨rfl,.inl ⟨rfl,rfl⟩⟩,BA.1,GA.1⟩
end
section
open Go.Shelf
def wB (w:World):Prop:=TabAt 2 Lib.deBruijn64tab w
theorem Wy (x:Nat) (hx:x<18446744073709551616) (w):
  Calls prog 238 #[.int .u64 (x:Int)] w fun e w'=>e= .returned (.int .i64 ((Di.bl x:Nat):Int))∧w'=w:=by
 have h:=Any.bits_Len64 (P:=prog) (ρ:=Tryz.sortS_ren) {Tryz.sortS with} (x:Int) w om om;rw[kg,bitLen_eq _ hx]at h;exact h
theorem acz (x:Nat) (hx:x<18446744073709551616) (w):
  Calls prog 294 #[.int .u64 (x:Int)] w fun e w'=>e= .returned (.int .i64 ((Xo.lz x:Nat):Int))∧w'=w:=by
 have L:=Aj (Wy x hx w);have hb:Di.bl x≤64:=Xo.Qv (n:=64) om;have he:Kept (((Xo.lz x:Nat):Int)=64-((Di.bl x:Nat):Int)):=⟨by unfold Xo.lz;omega⟩
 rw[he.1];generalize Di.bl x=q at*;go_enter func294,ntmps294;go_wp2_with (go_at_call 238;refine L.1.mono ?_;rintro e w1 ⟨rfl,rfl⟩);go_ret;exact⟨rfl,rfl⟩
theorem Gt:∀(f x),Lib.ctzFrom f x=Xo.tz f x
 |0,_=>rfl
 |f+1,x=>by rw[Lib.ctzFrom,Xo.tz,Gt f]
theorem L6:∀f:Nat,Xo.tz f 0=f
 |0=>rfl
 |f+1=>by rw[Xo.tz,Ng Ah,Nat.zero_div,L6 f];omega
theorem ZI (f x):Lib.ctz f x=Xo.tz f x:=by
 unfold Lib.ctz;by_cases h:x=0
 ·subst h;rw[Ps0 rfl,L6]
 ·rw[Ng h,Gt]
theorem Sq (x k idx:Nat) (w) (hx0:((x:Int)==0)=false)
  (key:IntKind.u64.wrap (bits BinOp.and IntKind.u64 (x:Int) (IntKind.u64.wrap (-(x:Int)))*285870213051353865)/288230376151711744=(idx:Int))
  (hi:idx<64) (hk:k<64) (hcell:w.cell? ⟨2,idx,none⟩=some (.int .u8 k)):
  Calls prog 295 #[.int .u64 (x:Int)] w fun e w'=>e= .returned (.int .i64 k)∧w'=w:=by
 go_enter func295,ntmps295;go_wp2_with (simp only[key]);go_ret;exact⟨rfl,rfl⟩
theorem Wz (w):Calls prog 295 #[.int .u64 0] w fun e w'=>e= .returned (.int .i64 64)∧w'=w:=by
 go_enter func295,ntmps295;go_wp2;go_ret;exact⟨rfl,rfl⟩
theorem acA (x:Nat) (hx:x<18446744073709551616) (w) (hT:wB w):
  Calls prog 295 #[.int .u64 (x:Int)] w fun e w'=>e= .returned (.int .i64 ((Xo.tz 64 x:Nat):Int))∧w'=w:=by
 rw[←ZI];by_cases h0:x=0
 ·subst h0;exact Wz w
 ·obtain⟨hlow,hk⟩:=Lib.lowest_bit 64 x h0 hx;obtain⟨hi,htab⟩:=Lib.deBruijn64_at _ hk;have hcell:=hT _ hi;rw[htab]at hcell;exact Sq x _ _ w (by simp;omega) (tz64_key x _ hx h0 hlow) hi hk hcell
def wv (c:Nat×Nat):Value:= .agg #[.int .i64 (c.1:Int),.int .i64 (c.2:Int)]
theorem bD {P:Program} {fn:Func} {a:Tmp} {T1:TypeId} (h:fn.results= #[.cell a T1]) (tmps:Array Value) (w:World) (g1:Nat) (cs1:Array Value) (t1:TypeId) (f1:Nat×Nat) (d1:TypeDesc)
  (ha:tmps.getD a undef= .pointer (some ⟨g1,0,none⟩)) (hg1:w.heap[g1]? =some (.cells cs1 t1 f1))
  (hu1:P.underlying T1=some d1) (hd1:(match d1 with| .struct _| .array _ _=>true|_=>false)=true) (hi1:(P.info? T1).map (·.size)=some cs1.size):
  (results fn tmps).run P w= .ok (.agg cs1) w:=by
 have ha':tmps[a]?.getD undef= .pointer (some ⟨g1,0,none⟩):=by simpa using ha
 simp[results,h,ha',asAddr,run_loadVar_row w g1 t1 T1 cs1 f1 d1 hg1 hu1 hd1 hi1]
theorem Gr.Sr (w t x y a b):Gr w (wy (w.alloc (.cells #[x,y] t)) w.heap.size a b):=by
 refine⟨0,#[.cells #[a,b] t],?_⟩;have e:∀(p q:Value) (k:Nat) (v:Value),(w.alloc (.cells #[p,q] t)).setCell ⟨w.heap.size,k,none⟩ v=w.alloc (.cells (#[p,q].setIfInBounds k v) t):=fun p q k v=>by
  unfold World.setCell World.alloc
  congr 1
  apply Array.ext_getElem?;intro j;simp only[DI,Array.getElem?_push];by_cases hj:w.heap.size=j
  ·subst hj;simp
  ·simp[hj,show¬j=w.heap.size from om]
 unfold wy;rw[e x y 0 a];have h0:(#[x,y].setIfInBounds 0 a)= #[a,y]:=sm;rw[h0,e a y 1 b];have h1:(#[a,y].setIfInBounds 1 b)= #[a,b]:=sm;rw[h1,←Sort.alloc_eq_grow]
 rfl
theorem jX (x:Nat) (hx:x<18446744073709551616) (h0:x≠0) (w) (hT:wB w) (hg:2<w.heap.size):
  Calls prog 279 #[.int .u64 (x:Int)] w fun e w'=>e= .returned (wv (Xo.win x))∧Gr w w':=by
 obtain⟨W0,hW0⟩:∃W0,W0=w.alloc (.cells #[.int .i64 0,.int .i64 0] 368):=⟨_,rfl⟩
 have hT0:wB W0:=fun j hj=>by rw[hW0];exact(AB _ _ ⟨_,j,none⟩ hg).trans (hT j hj)
 have hr0:W0.heap[w.heap.size]? =some (.cells #[.int .i64 0,.int .i64 0] 368 (0,0)):=by rw[hW0];exact Av w _
 have C1:=Aj (acz x hx W0);have C2:=Aj (acA x hx W0 hT0);obtain⟨w1,w2,w3,w4,-⟩:=Xo.kU (x:=x) hx h0;have ht:=Xo.Qu 64 x;have hwn:Xo.win x=(Xo.lz x,64-Xo.lz x-Xo.tz 64 x):=rfl;have hwd:(64:Int)-((Xo.lz x:Nat):Int)-((Xo.tz 64 x:Nat):Int)=(((Xo.win x).2:Nat):Int):=by
  rw[hwn]at w1 w2 w3⊢;simp only[]at w1 w2 w3⊢;omega
 have hl:Xo.lz x=(Xo.win x).1:=rfl;rw[hl]at C1 hwd;generalize Xo.win x=c at*;obtain⟨a,b⟩:=c;simp only[]at*;generalize Xo.tz 64 x=t at*;have hGR:=Aj (Gr.Sr w 368 (.int .i64 0) (.int .i64 0) (.int .i64 (a:Int)) (.int .i64 (b:Int)));rw[←hW0]at hGR;have k0:=Fr _ _ 0 _ _ hr0;have k1:=Fr _ _ 1 _ _ hr0;have c0:=Co _ _ 0 _ _ _ hr0;have c1:=Co _ _ 1 _ _ _ hr0;have HR0:=Aj hr0;have HW0:=Aj hW0.symm;clear hwn hT hT0 hr0 hW0 hx h0 hl w4;go_enter func279,ntmps279;go_wp2_with (first
  |(go_at_call 295;refine C2.1.mono ?_;rintro e w1 ⟨rfl,rfl⟩)
  |(go_at_call 294;rw[HW0.1];refine C1.1.mono ?_;rintro e w1 ⟨rfl,rfl⟩))
 refine Bh (v:= .agg #[.int .i64 (a:Int),.int .i64 (b:Int)]) ?_ rfl ⟨rfl,hGR.1⟩;exact bD (fn:=Tryz.f279) (a:=2) (T1:=368) rfl _ _ w.heap.size _ _ _ _ rfl (lh _ w.heap.size (.int .i64 (a:Int)) (.int .i64 (b:Int)) HR0.1 rfl) underlying368 rfl kr
theorem ib (c) (hc:c.1+c.2≤64) (w):
  Calls prog 278 #[wv c] w fun e w'=>e= .returned (.int .i64 ((Xo.trail c:Nat):Int))∧Gr w w':=by
 obtain⟨a,b⟩:=c;have ht:Kept (((Xo.trail (a,b):Nat):Int)=64-(a:Int)-(b:Int)):=⟨by unfold Xo.trail;simp only[]at*;omega⟩
 rw[ht.1];simp only[]at hc;unfold wv;have G0:=Aj ((Gr.refl w).alloc (.cells #[.int .i64 (a:Int),.int .i64 (b:Int)] 368));go_enter func278,ntmps278;go_wp2;go_ret;exact⟨rfl,G0.1⟩
end
end Go.Proofs.YtjcpmfphnodaaaaGreatDoor
