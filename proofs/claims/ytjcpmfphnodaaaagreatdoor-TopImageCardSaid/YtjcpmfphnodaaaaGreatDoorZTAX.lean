/- Part 24. -/
import Derived.Test.YtjcpmfphnodaaaaGreatDoorZTAW
namespace Go.Proofs.YtjcpmfphnodaaaaGreatDoor
set_option maxRecDepth 100000
set_option maxHeartbeats 0
open _root_.Go.Proofs.Tryz
open Go.RowKit Go.Shelf
section
attribute [local go_sem] Oper.semAt_some
theorem Tm.zw (x):wrap64 x=Tm.sw x:=by unfold wrap64 Tm.sw;omega
def Tm.uA:List Int→List Int
 |[]=>[]
 |t::l=>Tm.yw t 0 l
theorem Tm.Q5:∀(l) (t d),∀x∈Tm.yw t d l,Tm.In x
 |[],_,_,x,h=>by simp[Tm.yw]at h
 |u::l,t,d,x,h=>by
  rw[Tm.yw]at h;rcases iM.1 h with rfl|h
  ·exact Tm.qE _
  ·exact Tm.Q5 l _ _ x h
theorem Tm.U3 (l):∀x∈Tm.uA l,Tm.In x:=by
 cases l with
 |nil=>simp[Tm.uA]
 |cons t l=>exact Tm.Q5 l t 0
def U4 (x:Int):Array Value:= #[.int .i64 x]
theorem uB (n bx B N m c) (A) (l) (w) (X) (hw:Boxed w bx 281 (.slice A m c)) (hr:vF w B A m c l) (hN:N≤w.heap.size)
  (hX:∀pre W,¬X pre W):
  ru n prog 270 #[.pointer (some ⟨bx,0,none⟩)] U4 (fun _=>False) (zJ B bx) (Tm.uA l) w X:=by
 intro lp J Jx W hK hJ hJx NZ bz h0;have hW:Boxed W bx 281 (.slice A m c):=hK.2.trans hw;have hR:vF W B A m c l:=hr.below hK.1;have hNW:N≤W.heap.size:=Lt hN hK.1.size;have df:=Aj bz;have HX:Kept (∀pre W,¬Jx pre W):=⟨fun pre W h=>hX pre W (NZ pre W h)⟩
 have hln:=Aj hr.len;have hc1:=hr.1;have hc2:=hr.2.1;unfold maxLen at hc2;have HJ:=Aj hJ;clear hw hK hN bz hJ hX NZ hr hJx;refine Bd.2 ?_;go_enter func270,ntmps270;go_wp2;go_loopw [3,4] (fun d i wr=>∃(pre:List Int) (k:Nat) (dd:Int),i= .int .i64 k∧d= .int .i64 dd∧Boxed wr bx 281 (.slice A m c)∧vF wr B A m c l∧N≤wr.heap.size∧1≤k∧(k≤m∨k=1)∧
  Kept (Tm.uA l=pre++Tm.yw (l.getD (k-1) 0) dd (l.drop k))∧Kept (J pre wr)) (fun _ i _=>m+1-(intOf i).toNat)
 case atStart=>
  refine⟨[],1,0,rfl,rfl,hW,hR,hNW,om,.inr rfl,⟨?_⟩,⟨h0⟩⟩;cases l with
  |nil=>rfl
  |cons t l=>rfl
 case round=>
  clear hW hR h0 hNW;obtain⟨pre,k,dd,rfl,rfl,hb,hr,hNr,hk1,hk,hm1,hj⟩:=hrel;have hc:=hb.cell;have Hb:=Aj hb;have Hr:=Aj hr;clear hb hr;by_cases hlt:k<m
  ·have hlt':(k:Int)< (m:Int):=by omega
   have hkl:k<l.length:=by have:=hln.1;omega
   obtain⟨b,off,rfl,lX,hck⟩:=Hr.1.at_ hkl;obtain⟨b',off',e,_,abr⟩:=Hr.1.at_ (k:=k-1) om;simp only[gV,BP,Bi]at e;obtain⟨rfl,rfl⟩:=e;have i1:(0:Int)≤(k:Int)-1:=om;have i2:((k:Int)-1).toNat=k-1:=om;have i3:(k:Int)-1< (m:Int):=om;obtain⟨u,hu⟩:∃u,u=l[k]:=⟨_,rfl⟩
   obtain⟨t,ht⟩:∃t,t=l[k-1]:=⟨_,rfl⟩
   have hm2:Kept (Tm.uA l=pre++[Tm.sw (Tm.sw (u-t)-dd)]++Tm.yw (l.getD (k+1-1) 0) (Tm.sw (u-t)) (l.drop (k+1))):=⟨by
    rw[hm1.1,oN hkl,Tm.yw];have e1:l.getD (k-1) 0=t:=by rw[ht,ku,l8 om];rfl
    have e2:l.getD (k+1-1) 0=u:=by rw[hu,Bn,ku,l8 hkl];rfl
    rw[e1,e2,←hu];simp⟩
   rw[←hu]at hck;rw[←ht]at abr;clear hu ht hkl;go_wp2;go_quiet (fail);obtain⟨w2,hw2⟩:∃w2,w2=wr.drewN nq:=⟨_,rfl⟩
   have hgd:wr.grownBy w2 none:=by rw[hw2];exact⟨rfl,rfl,rfl,Nr _,fun _ _ _=>rfl⟩
   have hj2:=Aj (HJ.1 _ _ _ none hj.1 hgd (fun r e=>by cases e));have Hb2:=Aj (show Boxed w2 bx 281 _ from by rw[hw2];exact Hb.1);have ZY:=Aj (show vF w2 B _ m c l from by rw[hw2];exact Hr.1.drewN nq);have hN2:N≤w2.heap.size:=by rw[hw2];exact hNr
   rw[←hw2];clear hw2 hgd hc hck abr hj Hb Hr hNr;obtain⟨fn,tmps,assign,body,hy,qx⟩:=df.1 pre (Tm.sw (Tm.sw (u-t)-dd)) w2 hj2.1 ⟨_,hm2.1.symm⟩;unfold U4 at hy;simp only[←Tm.zw]at hy qx hm2;go_upto_region 5 with(fail)
   refine(Bl (n:=n)).1 ?_
   gi_wp2
   refine⟨(fun h=>by simp[Fence.wide]at h),qx.mono ?_⟩;rintro e W' (⟨rfl,hj',hb'⟩|⟨rfl,rW⟩)
   ·have Hb3:=Aj (show Boxed W' bx 281 _ from hb'.2.trans Hb2.1);have ZZ:=Aj (ZY.1.below hb'.1);have hz:=hb'.1.size;have V3:=Aj hj';clear hj' hb' qx hy
    gi_wp2
    go_wp2;go_roundw
    case rel=>exact⟨pre++[wrap64 (wrap64 (u-t)-dd)],k+1,wrap64 (u-t),by go_num,rfl,Hb3.1,ZZ.1,om,om,om,⟨hm2.1⟩,V3⟩
    case measure=>simp[intOf];omega
   ·exact absurd rW (HX.1 _ _)
  ·have hm2:Kept (Tm.uA l=pre):=⟨by
    rw[hm1.1,oL (by have:=hln.1;omega),Tm.yw,AZ]⟩
   have hge':(m:Int)≤(k:Int):=om;go_wp2;go_end0;exact⟨⟨_,rfl⟩,.inl (by rw[hm2.1];exact hj.1)⟩
theorem Fz (A) (n c) (w):Calls prog 241 #[.slice A n c] w fun e w'=>
  e= .returned (.func (.func 270) #[] #[.pointer (some ⟨w.heap.size,0,none⟩)])∧w'=w.alloc (.cells #[.slice A n c] 281):=by
 go_enter func241,ntmps241;go_wp2;go_ret;exact⟨rfl,rfl⟩
end
theorem Gr.grown {w w'} (h:Gr w w') (row):w.grownBy w' row:=by
 have hb:=h.below;exact⟨hb.os,hb.tape,hb.output,hb.size,fun k hk _=>hb.block k hk⟩
theorem qc.grown {w w'} {p} (h:qc w) (hg:w.grownBy w' (some p)) (hp:0<p):qc w':=fun i v hi=>
 (AL (hg.block _ h.lt (fun e=>by have h1:0=p:=Oj e;omega))).trans (h i v hi)
theorem Br.gr {w w'} {p} {r} (h:Br w p r) (hg:Gr w w'):Br w' p r:=h.below hg.below h.lt
theorem Br.grown {w w'} {p} {r} (h:Br w p r) {row} (hg:w.grownBy w' row) (hr:∀g,row=some g→p<g):Br w' p r:=by
 have hp:=h.lt;obtain⟨A,n,c,L,at_,h1,h2,h3,h4,h5⟩:=h;exact⟨A,n,c,L,at_,(hg.block p hp (fun e=>by have:=hr _ e.symm;omega)).trans h1,h2.grown hg om (fun g e=>by have:=hr _ e;omega),h3,h4,h5⟩
theorem qc.past {w w'} (h:qc w) {row} (hg:w.grownBy w' row) (hr:∀g,row=some g→0<g):qc w':=fun i v hi=>
 (AL (hg.block _ h.lt (fun e=>by have:=hr _ e.symm;exact absurd this (DU _)))).trans (h i v hi)
theorem Tm.jr (n) (r):(Tm.rd n r).1<2^n:=by
 unfold Tm.rd;split
 ·exact Nat.pow_pos Ah
 ·have h:=Bt.yt (r.take n);have:(r.take n).length=n:=by rw[lQ];omega
  rwa[this]at h
theorem Tm.qd (n) (r):(Tm.rd n r).2.2=0∨(Tm.rd n r).2.2=3:=by unfold Tm.rd;split<;>simp
theorem FB (p) (r) (w) (h:Br w p r):
  Calls prog 251 #[.pointer (some ⟨p,0,none⟩)] w fun e w'=>e= .returned (.tuple #[.int .i64 (((Tm.gf 4 0 r).1:Nat):Int),.int .i64 (Tm.gf 4 0 r).2.2])∧Br w' p (Tm.gf 4 0 r).2.1∧w.grownBy w' (some p):=by
 obtain⟨Q,hQ⟩:∃Q,Tm.gf 4 0 r=Q:=⟨_,rfl⟩
 rw[hQ];have H:=Aj h;have HQ:=Aj hQ;clear h hQ;go_enter func251,ntmps251;go_wp2;go_loopw [7] (fun i wr=>∃(k:Nat) (r2:List Bool),k≤4∧i= .int .i64 k∧Kept (Br wr p r2)∧Kept (Tm.gf (4-k) k r2=Q)∧w.grownBy wr (some p)) (fun i _=>4-(intOf i).toNat)
 case atStart=>exact⟨0,r,om,rfl,H,HQ,CQ _ _⟩
 case round=>
  obtain⟨k,r2,hk,rfl,hB,hq,hG⟩:=hrel;have HG:=Aj hG;clear hG;by_cases hlt:k<4
  ·have hlt':(k:Int)<4:=by omega
   have BT:=Aj (dF p 1 r2 wr hB.1 om);have hstep:Kept ((if(Tm.rd 1 r2).2.2≠0∨(Tm.rd 1 r2).1=0 then(k,(Tm.rd 1 r2).2)else Tm.gf (4-(k+1)) (k+1) (Tm.rd 1 r2).2.1)=Q):=⟨by
    have:=hq.1;rw[show 4-k=(4-(k+1))+1 from om,Tm.gf]at this;exact this⟩
   obtain⟨X,hX⟩:∃X,X=Tm.rd 1 r2:=⟨_,rfl⟩
   rw[←hX]at BT hstep;clear hX hq;obtain⟨x,r3,e⟩:=X;simp only[]at BT hstep;by_cases he:e≠0∨x=0
   ·have hs2:Kept ((k,r3,e)=Q):=⟨by have:=hstep.1;rwa[Ps0 he]at this⟩
    have hor:((e !=0)||((x:Int)==0))=true:=by rcases he with h|h<;>simp[h]
    by_cases he0:e=0
    ·subst he0;obtain rfl:x=0:=by simpa using he
     clear hstep he;go_wp2_with (go_at_call 213;refine BT.1.mono ?_;rintro e w1 ⟨rfl,hb1,hg1⟩;have B1:=Aj hb1;have G1:=Aj hg1;clear hb1 hg1);go_ret2;exact⟨by rw[←hs2.1];rfl,by rw[←hs2.1];exact B1.1,HG.1.trans G1.1⟩
    ·have hne:(e !=0)=true:=by simpa using he0
     clear hstep he he0;go_wp2_with (go_at_call 213;refine BT.1.mono ?_;rintro e w1 ⟨rfl,hb1,hg1⟩;have B1:=Aj hb1;have G1:=Aj hg1;clear hb1 hg1);go_ret2;exact⟨by rw[←hs2.1];rfl,by rw[←hs2.1];exact B1.1,HG.1.trans G1.1⟩
   ·have hs2:Kept (Tm.gf (4-(k+1)) (k+1) r3=Q):=⟨by have:=hstep.1;rwa[Ng he]at this⟩
    have he0:e=0:=by
     by_cases h:e=0
     ·exact h
     ·exact absurd (.inl h) he
    subst he0;have hx0:((x:Int)==0)=false:=by simp;intro h;exact he (.inr h)
    clear hstep he;go_wp2_with (go_at_call 213;refine BT.1.mono ?_;rintro e w1 ⟨rfl,hb1,hg1⟩;have B1:=Aj hb1;have G1:=Aj hg1;clear hb1 hg1);go_roundw
    case rel=>exact⟨k+1,r3,om,by go_num,B1,hs2,HG.1.trans G1.1⟩
    case measure=>simp[intOf];omega
  ·obtain rfl:k=4:=by omega
   have hs2:Kept ((4,r2,0)=Q):=⟨hq.1⟩
   go_wp2;go_ret2;exact⟨by rw[←hs2.1];rfl,by rw[←hs2.1];exact hB.1,HG.1⟩
theorem Tm.abt (k i) (r):i≤(Tm.gf k i r).1∧(Tm.gf k i r).1≤i+k:=by
 induction k generalizing i r with
 |zero=>simp[Tm.gf]
 |succ k ih=>
  rw[Tm.gf];split
  ·simp
  ·have:=ih (i+1) (Tm.rd 1 r).2.1;omega
theorem Tm.W9 (i):Tm.fw i≤64:=by unfold Tm.fw;split<;>omega
theorem vU (p) (r) (w) (h:Br w p r) (hF:qc w) (hp:0<p):
  Calls prog 214 #[.pointer (some ⟨p,0,none⟩)] w fun e w'=>e= .returned (.tuple #[.int .i64 (Tm.gc r).1,.int .i64 (Tm.gc r).2.2])∧Br w' p (Tm.gc r).2.1∧w.grownBy w' (some p):=by
 have GF:=Aj (FB p r w h);have HF:=Aj hF;have hle:=Tm.abt 4 0 r;have hgc:Kept (Tm.gc r=if(Tm.gf 4 0 r).2.2≠0 then(0,(Tm.gf 4 0 r).2)else(Tm.ex (Tm.rd (Tm.fw (Tm.gf 4 0 r).1) (Tm.gf 4 0 r).2.1).1 (Tm.fw (Tm.gf 4 0 r).1),(Tm.rd (Tm.fw (Tm.gf 4 0 r).1) (Tm.gf 4 0 r).2.1).2.1,
  if(Tm.rd (Tm.fw (Tm.gf 4 0 r).1) (Tm.gf 4 0 r).2.1).2.2≠0 then(Tm.rd (Tm.fw (Tm.gf 4 0 r).1) (Tm.gf 4 0 r).2.1).2.2 else if Tm.fm (Tm.ex (Tm.rd (Tm.fw (Tm.gf 4 0 r).1) (Tm.gf 4 0 r).2.1).1 (Tm.fw (Tm.gf 4 0 r).1))≠(Tm.gf 4 0 r).1 then 8 else 0)):=⟨rfl⟩
 obtain⟨Q,hQ⟩:∃Q,Tm.gf 4 0 r=Q:=⟨_,rfl⟩
 rw[hQ]at GF hle hgc;clear h hF hQ;obtain⟨i,r1,e1⟩:=Q;simp only[]at GF hle hgc;obtain⟨G,hG⟩:∃G,Tm.gc r=G:=⟨_,rfl⟩
 rw[hG]at hgc⊢;clear hG;by_cases he1:e1=0
 ·subst he1;rw[Ng sm]at hgc;have hw64:=Tm.W9 i;have RB:=Aj (fun(w1:World) (hb:Br w1 p r1)=>dF p (Tm.fw i) r1 w1 hb hw64);have hul:=Aj (jB (Tm.jr (Tm.fw i) r1) (j5 Ah hw64));have her:=Tm.qd (Tm.fw i) r1;have hi4:i≤4:=om;have hi5:(i:Int)<5:=om;have hcell:Kept (∀w1,qc w1→w1.cell? ⟨0,i*3+2,none⟩=some (.int .i64 ((Tm.fw i:Nat):Int))):=⟨fun w1 h1=>by
   rcases(by omega:i=0∨i=1∨i=2∨i=3∨i=4)with rfl|rfl|rfl|rfl|rfl
   ·exact h1 2 _ rfl
   ·exact h1 5 _ rfl
   ·exact h1 8 _ rfl
   ·exact h1 11 _ rfl
   ·exact h1 14 _ rfl⟩
  obtain⟨X,hX⟩:∃X,X=Tm.rd (Tm.fw i) r1:=⟨_,rfl⟩
  rw[←hX]at RB hul her hgc;obtain⟨u,r2,e2⟩:=X;simp only[]at RB hul her hgc;have EX:=Aj (fun w=>uy u i w hul.1 hi4);have FO:=Aj (fun(w1:World) (h1:qc w1)=>uz (Tm.ex u (Tm.fw i)) w1 (Tm.Ws hw64) h1);obtain⟨y,hy⟩:∃y,y=Tm.ex u (Tm.fw i):=⟨_,rfl⟩
  rw[←hy]at EX FO hgc;clear hy hX;rcases her with he2|he2
  ·subst he2;rw[Ng sm]at hgc;by_cases hfi:Tm.fm y=i
   ·rw[Ng (by simpa using hfi)]at hgc;have hb:(((Tm.fm y:Nat):Int)==(i:Int))=true:=by simp;omega
    have Q6:=hgc;clear hgc hfi;go_enter func214,ntmps214;go_wp2_with (first
    |(go_at_call 242;refine(FO.1 w2 F2.1).mono ?_;rintro e w3 ⟨rfl,hg3⟩;have B3:=Aj (B2.1.gr hg3);have G3:=Aj (G2.1.trans (hg3.grown _));clear hg3)
    |(go_at_call 252;refine(EX.1 _).mono ?_;rintro e w3 ⟨rfl,hw⟩;obtain rfl:=hw)
    |(go_at_call 213;refine(RB.1 w1 B1.1).mono ?_;rintro e w2 ⟨rfl,hb2,hg2⟩;have B2:=Aj hb2;have G2:=Aj (G1.1.trans hg2);have F2:=Aj (F1.1.grown hg2 hp);have c2:=hcell.1 _ F2.1;clear hb2 hg2)
    |(go_at_call 251;refine GF.1.mono ?_;rintro e w1 ⟨rfl,hb1,hg1⟩;have B1:=Aj hb1;have G1:=Aj hg1;have F1:=Aj (HF.1.grown hg1 hp);have c1:=hcell.1 _ F1.1;clear hb1 hg1))
    go_ret2;exact⟨by rw[Q6.1];rfl,by rw[Q6.1];exact B3.1,G3.1⟩
   ·rw[Ps0 hfi]at hgc;have hb:(((Tm.fm y:Nat):Int)==(i:Int))=false:=by simp;omega
    have Q6:=hgc;clear hgc hfi;go_enter func214,ntmps214;go_wp2_with (first
    |(go_at_call 242;refine(FO.1 w2 F2.1).mono ?_;rintro e w3 ⟨rfl,hg3⟩;have B3:=Aj (B2.1.gr hg3);have G3:=Aj (G2.1.trans (hg3.grown _));clear hg3)
    |(go_at_call 252;refine(EX.1 _).mono ?_;rintro e w3 ⟨rfl,hw⟩;obtain rfl:=hw)
    |(go_at_call 213;refine(RB.1 w1 B1.1).mono ?_;rintro e w2 ⟨rfl,hb2,hg2⟩;have B2:=Aj hb2;have G2:=Aj (G1.1.trans hg2);have F2:=Aj (F1.1.grown hg2 hp);have c2:=hcell.1 _ F2.1;clear hb2 hg2)
    |(go_at_call 251;refine GF.1.mono ?_;rintro e w1 ⟨rfl,hb1,hg1⟩;have B1:=Aj hb1;have G1:=Aj hg1;have F1:=Aj (HF.1.grown hg1 hp);have c1:=hcell.1 _ F1.1;clear hb1 hg1))
    go_ret2;exact⟨by rw[Q6.1];rfl,by rw[Q6.1];exact B3.1,G3.1⟩
  ·subst he2;rw[Ps0 sm]at hgc;have Q6:=hgc;clear hgc;go_enter func214,ntmps214;go_wp2_with (first
    |(go_at_call 242;refine(FO.1 w2 F2.1).mono ?_;rintro e w3 ⟨rfl,hg3⟩;have B3:=Aj (B2.1.gr hg3);have G3:=Aj (G2.1.trans (hg3.grown _));clear hg3)
    |(go_at_call 252;refine(EX.1 _).mono ?_;rintro e w3 ⟨rfl,hw⟩;obtain rfl:=hw)
    |(go_at_call 213;refine(RB.1 w1 B1.1).mono ?_;rintro e w2 ⟨rfl,hb2,hg2⟩;have B2:=Aj hb2;have G2:=Aj (G1.1.trans hg2);have F2:=Aj (F1.1.grown hg2 hp);have c2:=hcell.1 _ F2.1;clear hb2 hg2)
    |(go_at_call 251;refine GF.1.mono ?_;rintro e w1 ⟨rfl,hb1,hg1⟩;have B1:=Aj hb1;have G1:=Aj hg1;have F1:=Aj (HF.1.grown hg1 hp);have c1:=hcell.1 _ F1.1;clear hb1 hg1))
   go_ret2;exact⟨by rw[Q6.1];rfl,by rw[Q6.1];exact B2.1,G2.1⟩
 ·rw[Ps0 he1]at hgc;have Q6:=hgc;have hne:(e1 !=0)=true:=by simpa using he1
  clear hgc he1;go_enter func214,ntmps214;go_wp2_with (go_at_call 251;refine GF.1.mono ?_;rintro e w1 ⟨rfl,hb1,hg1⟩;have B1:=Aj hb1;have G1:=Aj hg1;clear hb1 hg1);go_ret2;exact⟨by rw[Q6.1];rfl,by rw[Q6.1];exact B1.1,G1.1⟩
theorem Jf {w:World} {b1 b2 sz n c} {A} {xs} {e} (h:w.ownsRow b1 e sz (.slice A n c) n xs) (hb:b2≤b1):w.ownsRow b2 e sz (.slice A n c) n xs:=
 ⟨h.1,h.2.imp id fun⟨g,cap,cur,h1,h2,h3⟩=>⟨g,cap,cur,h1,om,h3⟩⟩
theorem kX {w w':World} {base n c sz p} {A} {xs} {e} (h:w.ownsRow base e sz (.slice A n c) n xs) (hg:w.grownBy w' (some p)) (hp:p<base):w'.ownsRow base e sz (.slice A n c) n xs:=
 af h hg (by
  rcases hA:ab A with _|g
  ·exact .inl rfl
  ·refine .inr fun e=>?_
   have:=(ae h g hA).1;have:=Oj e;omega)
theorem eG.Xv (w:World) (x):eG (w.alloc (.cells #[.int .i64 x] 2)) w.heap.size (some ⟨w.heap.size,0,none⟩) 1 1 [x]:=
 ⟨rfl,.inr ⟨w.heap.size,1,#[.int .i64 x],rfl,Nr _,Av w _,Nr _,by unfold maxLen;omega,rfl,rfl⟩⟩
theorem Q7 (p n:Nat) (r) (w) (h:Br w p r) (hF:qc w) (hp:0<p) (hn:n≤1000000):
  Calls prog 178 #[.pointer (some ⟨p,0,none⟩),.int .i64 (n:Int)] w fun e w'=>∃A2 n2 c2,e= .returned (.tuple #[.slice A2 n2 c2,.int .i64 (Tm.dec n r).2.2])∧eG w' w.heap.size A2 n2 c2 (Tm.dec n r).1∧Br w' p (Tm.dec n r).2.1∧w.grownBy w' (some p):=by
 have lY:=h.lt;by_cases hn0:n=0
 ·subst hn0;have hd:Tm.dec 0 r=([],r,0):=by unfold Tm.dec;rw[Ps0 rfl]
  rw[hd];go_enter func178,ntmps178;go_wp2;go_ret2;exact⟨none,0,0,rfl,⟨rfl,.inl ⟨rfl,rfl⟩⟩,h,CQ _ _⟩
 ·have hdec:Kept (Tm.dec n r=if(Tm.rd 64 r).2.2≠0 then([],(Tm.rd 64 r).2)else Tm.gt (n-1) (Tm.sw (Tm.rd 64 r).1) 0 [Tm.sw (Tm.rd 64 r).1] (Tm.rd 64 r).2.1):=⟨by unfold Tm.dec;rw[Ng hn0]⟩
  have RB:=Aj (dF p 64 r w h om);have her:=Tm.qd 64 r;have HF:=Aj hF;obtain⟨X,hX⟩:∃X,X=Tm.rd 64 r:=⟨_,rfl⟩
  rw[←hX]at RB her hdec;clear hX h hF;obtain⟨u,r1,e1⟩:=X;simp only[]at RB her hdec;obtain⟨D,hD⟩:∃D,D=Tm.dec n r:=⟨_,rfl⟩
  rw[←hD]at hdec⊢;clear hD;have hn1:¬(n:Int)<0:=om;have hn2:((n:Int)==0)=false:=by simp;omega
  rcases her with rfl|rfl
  ·rw[Ng sm]at hdec;go_enter func178,ntmps178;go_wp2_with (go_at_call 213;refine RB.1.mono ?_;rintro e w1 ⟨rfl,hb1,hg1⟩;have B1:=Aj hb1;have G1:=Aj hg1;have F1:=Aj (HF.1.grown hg1 hp);clear hb1 hg1);have hz1:w.heap.size≤w1.heap.size:=G1.1.size;go_loopw [8,9,10,36] (fun t d v i wr=>∃(k:Nat) (tt dd:Int) (acc:List Int) (r2:List Bool) (A2:Option Addr) (c2:Nat),k≤n-1∧i= .int .i64 k∧t= .int .i64 tt∧d= .int .i64 dd∧v= .slice A2 (k+1) c2∧
    Kept (Tm.gt (n-1-k) tt dd acc r2=D)∧eG wr w.heap.size A2 (k+1) c2 acc∧Kept (Br wr p r2)∧Kept (qc wr)∧w.grownBy wr (some p)) (fun _ _ _ i _=>n-(intOf i).toNat)
   case atStart=>
    refine⟨0,wrap64 u,0,[wrap64 u],r1,_,1,om,rfl,rfl,rfl,rfl,⟨by rw[Tm.zw,Nat.sub_zero];exact hdec.1.symm⟩,?_,⟨?_⟩,⟨?_⟩,?_⟩
    ·exact Jf (eG.Xv w1 _) hz1
    ·exact B1.1.below ((Ae _ w1).alloc Ai _) B1.1.lt
    ·exact F1.1.below ((Ae _ w1).alloc Ai _)
    ·exact G1.1.trans (Ga _ _ _)
   case round=>
    obtain⟨k,tt,dd,acc,r2,A2,c2,hk,rfl,rfl,rfl,rfl,hq,ho,hB,hF2,hG⟩:=hrel;have HG:=Aj hG;have HO:=Aj ho;clear hG ho;by_cases hlt:k<n-1
    ·have hlt':(k:Int)< (n:Int)-1:=by omega
     have hstep:Kept ((if(Tm.gc r2).2.2≠0 then([],(Tm.gc r2).2)else Tm.gt (n-1-(k+1)) (Tm.sw (tt+Tm.sw (dd+(Tm.gc r2).1))) (Tm.sw (dd+(Tm.gc r2).1)) (acc++[Tm.sw (tt+Tm.sw (dd+(Tm.gc r2).1))]) (Tm.gc r2).2.1)=D):=⟨by
      have:=hq.1;rw[show n-1-k=(n-1-(k+1))+1 from om,Tm.gt]at this;exact this⟩
     have GC:=Aj (vU p r2 wr hB.1 hF2.1 hp);obtain⟨X,hX⟩:∃X,X=Tm.gc r2:=⟨_,rfl⟩
     rw[←hX]at GC hstep;clear hX hq;obtain⟨x,r3,e⟩:=X;simp only[]at GC hstep;by_cases he:e=0
     ·subst he;rw[Ng sm]at hstep;go_wp2_with (first
       |(at_builtin;refine Eh rfl (.tmp 52) (.tmp 54) rfl w.heap.size A2 (k+1) c2 acc rfl (Oa O2.1 _) _ _ _ _ _ rfl (vF.one w2 _) om aeO ?_;intro A4 c4 w5 ax aj di;have O4:=Aj ax;have G4:=Aj aj;clear ax aj)
       |(go_at_call 214;refine GC.1.mono ?_;rintro e w2 ⟨rfl,hb2,hg2⟩;have B2:=Aj hb2;have G2:=Aj (HG.1.trans hg2);have F2:=Aj (hF2.1.grown hg2 hp);have O2:=Aj (kX HO.1 hg2 lY);have aeO:w.heap.size≤(w2.alloc (.cells #[.int .i64 (wrap64 (tt+wrap64 (dd+x)))] 2)).heap.size:=(by have:=G2.1.size;simp;omega);clear hb2 hg2))
      go_roundw
      case rel=>
       have hbp:∀g,ab A2=some g→w.heap.size≤g:=fun g e=>(ae O2.1 g e).1
       have hgz:=qc.lt HF.1;have ga:=Ga w2 (.cells #[.int .i64 (wrap64 (tt+wrap64 (dd+x)))] 2) none;simp only[←Tm.zw]at hstep;refine⟨k+1,_,_,_,r3,A4,c4,om,by go_num,rfl,rfl,rfl,hstep,O4.1,⟨?_⟩,⟨?_⟩,?_⟩
       ·exact(B2.1.grown ga (fun g e=>by cases e)).grown G4.1 (fun g e=>by have:=hbp g e;omega)
       ·exact(F2.1.past ga (fun g e=>by cases e)).past G4.1 (fun g e=>by have:=hbp g e;omega)
       ·exact((G2.1.trans (Ga w2 _ _)).andThen G4.1 (fun j hj=> .inl (by have:=hbp j hj;omega)))
      case measure=>simp[intOf];omega
     ·rw[Ps0 he]at hstep;have hne:(e !=0)=true:=by simpa using he
      clear he;go_wp2_with (go_at_call 214;refine GC.1.mono ?_;rintro e w2 ⟨rfl,hb2,hg2⟩;have B2:=Aj hb2;have G2:=Aj (HG.1.trans hg2);clear hb2 hg2);go_ret2;rw[←hstep.1];exact⟨none,0,0,rfl,⟨rfl,.inl ⟨rfl,rfl⟩⟩,B2.1,G2.1⟩
    ·obtain rfl:k=n-1:=by omega
     have hs2:Kept ((acc,r2,0)=D):=⟨by have:=hq.1;rwa[CZ]at this⟩
     have hge:(n:Int)-1≤((n-1:Nat):Int):=om;go_wp2;go_ret2;rw[←hs2.1];exact⟨A2,_,c2,rfl,HO.1,hB.1,HG.1⟩
  ·rw[Ps0 sm]at hdec;go_enter func178,ntmps178;go_wp2_with (go_at_call 213;refine RB.1.mono ?_;rintro e w1 ⟨rfl,hb1,hg1⟩;have B1:=Aj hb1;have G1:=Aj hg1;clear hb1 hg1);go_ret2;rw[hdec.1];exact⟨none,0,0,rfl,⟨rfl,.inl ⟨rfl,rfl⟩⟩,B1.1,G1.1⟩
section
open Go.Maps (Keyed)
theorem U5:Keyed prog 125:=Go.Maps.int_keyed underlying125
def kl (x:Nat):Lit:= .int .u64 (x:Int)
theorem Q8 {x y} (h:kl x=kl y):x=y:=by unfold kl at h;injection h with _ h;exact Int.ofNat.inj h
theorem Q9 {x:Nat} (h:x<2^64):keyOf prog 125 (.int .u64 (x:Int))=some (kl x):=
 Go.Maps.keyOf_int_mk underlying125 (by
  have h1:IntKind.u64.min=0:=rfl;have h2:IntKind.u64.max=18446744073709551615:=rfl;simp only[Lit.wf,h1,h2,BV,decide_eq_true_eq];omega)
theorem ng {H} {P} {e} (he:P.underlying e=some .bool) {v} {z:DataW H×List MemPlace} (h:plainElem P e v=some z):∃x,v= .bool x∧z=(.lit (.bool x),[]):=by
 unfold plainElem at h;rw[he]at h;split at h
 ·cases h;exact⟨_,rfl,rfl⟩
 ·rename_i h1;cases h1
 ·rename_i h1;cases h1
 ·cases h
def Km (w:World) (b n:Nat) (D:DataW Unit) (ks:List Nat):Prop:=
 w.ownsMap prog 125 (plainElem prog 4) b n D∧∃E:List (Lit×DataW Unit),D= .map E∧(E.map (·.1)).Perm (ks.map kl)∧ks.Nodup
theorem Km.made (w:World):Km (w.alloc (.map #[] 0)) w.heap.size 0 (.map []) []:=⟨World.ownsMap_made _ _ _ _,[],rfl,List.Perm.nil,List.nodup_nil⟩
theorem Km.size {w} {b n} {D} {ks} (h:Km w b n D ks):Go.Maps.size D=ks.length:=by
 obtain⟨_,E,rfl,hp,_⟩:=h;have:=hp.length_eq;simpa[Go.Maps.size]using this
theorem Km.kept {w w'} {b n} {D} {ks} {row} (h:Km w b n D ks) (hg:w.grownBy w' row) (hne:some b≠row):Km w' b n D ks:=⟨h.1.kept hg hne,h.2⟩
theorem Km.put {w w'} {b n} {D d} {ks} (h:Km w b n D ks) (x) (ho:w'.ownsMap prog 125 (plainElem prog 4) b (n+1) (D.put (kl x) d)):
  Km w' b (n+1) (D.put (kl x) d) (x::ks.filter (· ≠x)):=by
 obtain⟨_,E,rfl,hp,hn⟩:=h;refine⟨ho,ChangeMaps.putKey (kl x) d E,rfl,?_,?_⟩
 ·unfold ChangeMaps.putKey;refine((WideShapes.insert_perm (kl x,d) _).map (·.1)).trans ?_;rw[AA,AA];refine List.Perm.cons _ ?_;have e1:(E.filter (ChangeMaps.notKey (kl x))).map (·.1)=(E.map (·.1)).filter (fun l=>!l.sameKey (kl x)):=by
   rw[List.filter_map];rfl
  have e2:(ks.filter (· ≠x)).map kl=(ks.map kl).filter (fun l=>!l.sameKey (kl x)):=by
   rw[List.filter_map]
   congr 1
   apply List.filter_congr;intro z _;simp only[Function.comp,kl,Lit.sameKey];by_cases hz:z=x
   ·subst hz;simp
   ·have:¬(z:Int)=(x:Int):=by omega
    simp[hz,this]
  rw[e1,e2];exact hp.filter _
 ·refine List.nodup_cons.2 ⟨sm,hn.filter _⟩
theorem Km.has {w} {b n} {D} {ks} (h:Km w b n D ks) (l):Go.Maps.has D l=true↔∃x∈ks,kl x=l:=by
 obtain⟨_,E,rfl,hp,_⟩:=h;rw[Go.Maps.has_eq,List.any_eq_true];constructor
 ·rintro⟨p,hpE,hs⟩;have e:=WideAt.sameKey_eq hs;have hm:p.1∈ks.map kl:=hp.mem_iff.1 (dM.2 ⟨p,hpE,rfl⟩);obtain⟨x,hx,hk⟩:=dM.1 hm;exact⟨x,hx,hk.trans e⟩
 ·rintro⟨x,hx,rfl⟩;have hm:kl x∈E.map (·.1):=hp.mem_iff.2 (dM.2 ⟨x,hx,rfl⟩);obtain⟨p,hpE,he⟩:=dM.1 hm;exact⟨p,hpE,by rw[he];exact WideAt.sameKey_self (by unfold kl;trivial)⟩
def Jg (D:DataW Unit) (acc:List Nat) (l:Lit):Bool:=Go.Maps.has D l&&!(acc.any fun x=>(kl x).sameKey l)
theorem Jg.nil (D):Jg D []=Go.Maps.has D:=by funext l;simp[Jg]
theorem zx (a b:Lit):a.sameKey b=b.sameKey a:=by
 cases a<;>cases b<;>simp[Lit.sameKey,Bool.beq_comm,eq_comm]
theorem Jg.snoc (D) (acc) (x):Jg D (acc++[x])=fun z=>Jg D acc z&&!z.sameKey (kl x):=by
 funext z
 simp only[Jg,List.any_append,List.any_cons,List.any_nil,Bool.or_false,Bool.not_or];rw[zx (kl x) z,Bool.and_assoc]
theorem abu {l m} (h1:l.Pairwise (· ≤ ·)) (h2:l.Nodup) (h3:∀z,z∈l↔z∈m):l=Di.dZ m:=by
 refine Di.PI ?_ (Di.pJ m) (fun z=>(h3 z).trans (Di.eO m z).symm);exact(h1.and h2).imp fun⟨a,b⟩=>om
theorem Jh (n):Go.Sort.bitsLen n=Di.bl n:=rfl
theorem qf (k:Nat) (hk:k<4611686018427387904) (w):
  Calls prog 262 #[.int .i64 (k:Int)] w fun e w'=>e= .returned (.int .i64 ((Di.mI k:Nat):Int))∧w'=w:=by
 unfold Di.mI;by_cases h0:k<1
 ·obtain rfl:k=0:=by omega
  go_enter func262,ntmps262;go_wp2;go_ret;exact⟨rfl,rfl⟩
 ·have h0':¬(k:Int)<1:=by omega
  have hb:=Aj (QX (k-1) om w);rw[show((k-1:Nat):Int)=(k:Int)-1 from om]at hb;rw[Jh]at hb;go_enter func262,ntmps262;go_wp2_with (go_at_call 185;refine hb.1.mono ?_;rintro e w1 ⟨rfl,rfl⟩);go_ret;exact⟨rfl,rfl⟩
end
section
open Go.Maps (Keyed)
theorem ma {w:World} {base n c sz} {A} {xs} {e} (h:w.ownsRow base e sz (.slice A n c) n xs) {g} (hg:ab A=some g):∃cs fr,w.heap[g]? =some (.cells cs e fr):=by
 rcases h.2 with⟨hv,_⟩|⟨g2,cap,cur,hv,_,hb,_⟩
 ·injection hv with hv1;rw[hv1]at hg;cases hg
 ·injection hv with hv1
  rw[hv1]at hg;obtain rfl:g2=g:=by simpa[ab]using hg
  exact⟨_,_,hb⟩
theorem FC {w:World} {base n c sz b m} {A} {xs} {e k} {P} {R:Value→Option (DataW Unit×List MemPlace)} {D} (h:w.ownsRow base e sz (.slice A n c) n xs) (hm:w.ownsMap P k R b m D):some b≠ab A:=fun e=>by
 obtain⟨cs,fr,hg⟩:=ma h e.symm;obtain⟨es,cl,hb,_⟩:=hm;rw[hg]at hb;cases hb
theorem jT {w:World} {base n c sz b r m cnt} {A} {xs} {e k} {P} {R:Value→Option (DataW Unit×List MemPlace)} {D} {left} (h:w.ownsRow base e sz (.slice A n c) n xs) (hm:w.ranges P k R b r m D left cnt):some r≠ab A:=fun e=>by
 obtain⟨cs,fr,hg⟩:=ma h e.symm;obtain⟨es,cl,si,se,c0,h1,h2,h3,h4,h5,_⟩:=hm;rw[hg]at h5;cases h5
structure YC (w:World) (l:List Nat) (D:DataW Unit) (r n:Nat) (A:Option Addr) (c:Nat) (W:World) (acc:List Nat) (cnt:Nat):Prop where
 rg:W.ranges prog 125 (plainElem prog 4) w.heap.size r n D (Jg D acc) cnt
 own:aG W w.heap.size A acc.length c acc
 nd:acc.Nodup
 sub:∀z∈acc,z∈l
 aU:Below w.heap.size w W
theorem iD:∀{l m:List Nat},l.Nodup→(∀x∈l,x∈m)→l.length≤m.length
 |[],m,_,_=>bE _
 |x::l,m,h,hs=>by
  obtain⟨h1,h2⟩:=List.nodup_cons.1 h;have hx:=hs x jM;have:=iD (m:=m.erase x) h2 (fun y hy=>(List.mem_erase_of_ne (fun e=>h1 (by rw[←e];exact hy))).2 (hs y (nS _ hy)));rw[List.length_erase_of_mem hx]at this;have:=List.length_pos_of_mem hx;simp only[Lc];omega
theorem Ra {w} {base n c} {A} {xs} (h:aG w base A n c xs) (hA:ab A≠none):∃g,A=some ⟨g,0,none⟩:=by
 rcases h.2 with⟨hv,_⟩|⟨g2,cap,cur,hv,_⟩
 ·injection hv with hv1;rw[hv1]at hA;exact absurd rfl hA
 ·injection hv with hv1;exact⟨g2,hv1⟩
theorem YC.done {w W} {l} {D} {r n c cnt k m} {A} {acc ks} {wm} (I:YC w l D r n A c W acc cnt) (hl:∀z,Jg D acc z=false) (hm:Km wm k m D ks) (hk:∀z,z∈ks↔z∈l):∀z,z∈acc↔z∈l:=fun z=>by
 refine⟨I.sub z,fun hz=>?_⟩;have h1:=hl (kl z);have h2:Go.Maps.has D (kl z)=true:=(hm.has _).2 ⟨z,(hk z).2 hz,rfl⟩;unfold Jg at h1;rw[h2,Bool.true_and,Bool.not_eq_false']at h1;obtain⟨x,hx,he⟩:=List.any_eq_true.1 h1;rw[←Q8 (WideAt.sameKey_eq he)];exact hx
theorem YC.next {w W w1 w5} {l} {D} {r n c cnt k m x cnt1 c4} {A A4} {acc ks} {wm} (I:YC w l D r n A c W acc cnt) (hm:Km wm k m D ks) (hk:∀z,z∈ks↔z∈l) (hwr:w.heap.size≤r)
  (hlx:Jg D acc (kl x)=true) (hrg:w1.ranges prog 125 (plainElem prog 4) w.heap.size r n D (fun z=>Jg D acc z&&!z.sameKey (kl x)) cnt1) (hg1:W.grownBy w1 (some r)) (o)
  (h5:aG w5 w.heap.size A4 (acc.length+1) c4 (acc++[x])) (hg5:(w1.alloc o).grownBy w5 (ab A)):YC w l D r n A4 c4 w5 (acc++[x]) cnt1:=by
 have U6:=hlx;unfold Jg at U6;rw[BV,Bool.not_eq_true']at U6;obtain⟨y,hy,he⟩:=(hm.has _).1 U6.1;have hyx:=Q8 he;subst hyx;have hnx:y∉acc:=fun h=>by
  have:=List.any_eq_false.1 U6.2 y h;exact this (WideAt.sameKey_self (by unfold kl;trivial))
 have hown1:aG w1 w.heap.size A acc.length c acc:=af I.own hg1 (.inr (fun e=>jT I.own I.rg e.symm));have hra:=hrg.alloc o;have hb:=I.aU;have hz:=hb.size;have hlA:∀g,ab A=some g→w.heap.size≤g:=fun g e=>(ae I.own g e).1
 refine⟨?_,by simpa using h5,?_,?_,?_⟩
 ·rw[Jg.snoc];exact hra.kept hg5 (fun e=>FC hown1 hrg.owns e) (fun e=>jT hown1 hrg e)
 ·exact List.nodup_append.2 ⟨I.nd,sm,fun a ha b hb'=>by obtain rfl:=iF.1 hb';exact fun e=>hnx (e▸ha)⟩
 ·intro z hz2;rcases jl.1 hz2 with h|h
  ·exact I.sub z h
  ·rw[iF.1 h];exact(hk y).1 hy
 ·have b1:=hb.grown hg1 hz (fun g e=>by cases e;exact hwr);exact(b1.alloc b1.size o).grown hg5 (by simp;have:=b1.size;omega) hlA
theorem FD (A) (n c B) (l) (w) (hr:kg w B A n c l) (hB:B≤w.heap.size) (hx:∀x∈l,x<2^64) (hn:n≤1000000):
  Calls prog 261 #[.slice A n c] w fun e w'=>∃A2 c2,e= .returned (.slice A2 (Di.dZ l).length c2)∧aG w' w.heap.size A2 (Di.dZ l).length c2 (Di.dZ l)∧Below w.heap.size w w':=by
 have hln:=Aj hr.len;have hlc:=hr.1;have hcm:=hr.2.1;unfold maxLen at hcm;have R0:=Aj hr;have HX:=Aj hx;clear hr hx;have hmm:= @run_makeMap prog;go_enter func261,ntmps261;go_wp2;go_loopw [11] (fun i wr=>∃(k:Nat) (D:DataW Unit) (ks:List Nat),k≤n∧i= .int .i64 (k:Int)∧Km wr w.heap.size k D ks∧Kept (∀z,z∈ks↔z∈l.take k)∧Below w.heap.size w wr) (fun i _=>n-(intOf i).toNat)
 case atStart=>exact⟨0,.map [],[],om,rfl,Km.made w,⟨sm⟩,(Ae _ _).alloc Ai _⟩
 case round=>
  obtain⟨k,D,ks,hk,rfl,hm,HK,hb⟩:=hrel;by_cases hlt:k<n
  ·have hlt':(k:Int)< (n:Int):=by omega
   have hkl:k<l.length:=by have:=hln.1;omega
   obtain⟨bb,off,rfl,lX,hc0⟩:=((R0.1.below (hb.mono hB))).at_ hkl;have hxk:=HX.1 _ (ic hkl);obtain⟨x,hq⟩:∃x,x=l[k]:=⟨_,rfl⟩
   rw[←hq]at hc0 hxk;have HQ:=Aj hq;have MP:=Aj hm;have HB:=Aj hb;have HKY:=Aj (Q9 hxk);have hz:=hb.size;clear hm hb hq;go_wp2_with (at_mapUpdate;refine wpList_mapUpdate_own _ rfl _ _ _ 386 rfl 125 4 U5 underlying386 _ w.heap.size k _ rfl MP.1.1 (by unfold maxLen;omega) _ _ _ rfl rfl HKY.1 _ [] (plainElem_bool underlying4 true) ?_;intro w1 hown1 hgrow1;have M1:=Aj (MP.1.put x hown1);have B1:=Aj (HB.1.grown hgrow1 hz (fun g e=>by cases e;exact Nr _));clear hown1 hgrow1);go_roundw
   case rel=>
    refine⟨k+1,_,_,om,by go_num,M1.1,⟨fun z=>?_⟩,B1.1⟩;rw[Ts hkl,←HQ.1,jl,iM,DW,HK.1 z];by_cases hzx:z=x<;>simp[hzx]
   case measure=>simp[intOf];omega
  ·obtain rfl:k=n:=by omega
   have hall:∀z,z∈ks↔z∈l:=fun z=>by rw[HK.1 z,jY (by have:=hln.1;omega)]
   have hsl:ks.length≤1000000:=Lt (iD hm.2.choose_spec.2.2 (fun x h=>(hall x).1 h)) (by have:=hln.1;omega);have HA:=Aj hall;have MP:=Aj hm;have HB:=Aj hb;have hsz:=Aj hm.size;have hz:=hb.size;clear hm hb HK;have hlen:=MP.1.1.len underlying386 3;rw[hsz.1]at hlen;have ajM:(ks.length:Int)≤1000000:=om;obtain⟨i0,hi0,hz0,hz1,hz2⟩:=AX Wl;obtain⟨wm,hmk,hown0,U7⟩:=run_make_own wr w.heap.size 284 125 i0 _ 1 underlying284 hi0 hz0 hz1 .i64 .i64 ks.length (by rw[hz2];omega) (by unfold maxLen;omega) hz;have MPm:=Aj (MP.1.kept U7 sm);have HBm:=Aj (HB.1.grown U7 hz (fun g e=>by cases e));have HO0:=Aj hown0;have hzm:=U7.size;clear hi0 hz0 hz1 hz2 hown0 U7;go_wp2_with (at_range;refine wpList_range_own _ rfl _ 386 rfl 125 4 U5 underlying386 _ w.heap.size k _ rfl MPm.1.1 ?_;intro w0 hrg0 hg0 hs0;have RG0:=Aj hrg0;have G0:=Aj hg0;have hzz:=Nat.le_of_eq hs0.symm;clear hrg0 hg0 hs0);obtain⟨r,hrr⟩:∃r,r=wm.heap.size:=⟨_,rfl⟩
   rw[←hrr]at RG0⊢;have hrm:Kept (r=wm.heap.size):=⟨hrr⟩
   have hwr:w.heap.size≤r:=om;clear hrr hmk hlen MP HB;have I0:YC w l D r k (some ⟨wr.heap.size,0,none⟩) ks.length w0 [] (Go.Maps.size D):=
    ⟨by rw[Jg.nil];exact RG0.1,af HO0.1 G0.1 (.inr (by simp[ab])),List.nodup_nil,sm,HBm.1.grown G0.1 om (fun g e=>by cases e)⟩
   go_frame;go_loopw [6] (fun v W=>∃(A2:Option Addr) (c2:Nat) (acc:List Nat) (cnt:Nat),v= .slice A2 acc.length c2∧YC w l D r k A2 c2 W acc cnt∧ab A2≠none) (fun _ W=>W.rangeLeft w.heap.size r)
   case atStart=>exact⟨_,_,[],_,rfl,I0,by simp[ab]⟩
   case round=>
    clear RG0 G0 HBm HO0 I0;obtain⟨A2,c2,acc,cnt,rfl,I,hA2⟩:=hrel;have HI:=Aj I;have rE:=Aj I.rg.left_eq;clear I;go_wp2_with (at_next;refine wpList_next_ranges (α:=Nat) (β:=Bool) _ rfl _ rfl 125 U5 _ (fun x=> .int .u64 (x:Int)) Value.bool ?_ ?_ w.heap.size r k _ _ _ rfl HI.1.rg ?_ ?_)
    ·intro key l0 h;obtain⟨z,rfl,_,hw⟩:=Go.Maps.keyOf_int_inv underlying125 h;have h1:IntKind.u64.min=0:=rfl;have h0:0≤z:=by
      simp only[Lit.wf,h1,BV,decide_eq_true_eq]at hw;exact hw.1
     exact⟨z.toNat,by rw[Int.toNat_of_nonneg h0]⟩
    ·intro v y h;obtain⟨z,rfl,_⟩:=ng underlying4 h;exact⟨z,rfl⟩
    ·intro hc0 hl0;obtain⟨g,rfl⟩:=Ra HI.1.own hA2;have hmem:=HI.1.done hl0 MPm.1 HA.1;have hal:acc.length≤1000000:=Lt (iD HI.1.nd HI.1.sub) (by have:=hln.1;omega);have SO:=Aj (MU w.heap.size g acc.length c2 acc wr HI.1.own om);have HM:=Aj hmem;have HNd:=Aj HI.1.nd;have HB2:=Aj HI.1.aU;have hgl:=(ae HI.1.own g rfl).1;clear hmem hall;go_wp2_with (go_at_call 282;refine SO.1.mono ?_;rintro e w9 ⟨rfl,l',hp,hu,ho,hg⟩;have HP:=Aj hp;have HU:=Aj hu;have HO9:=Aj ho;have HG9:=Aj hg;clear hp hu ho hg);go_ret;have el:l'=Di.dZ l:=abu HU.1 (HP.1.nodup_iff.2 HNd.1) (fun z=>HP.1.mem_iff.trans (HM.1 z));have ell:acc.length=(Di.dZ l).length:=by rw[←el];exact HP.1.length_eq.symm
     have ho:=HO9.1;rw[el,ell]at ho;exact⟨_,c2,by rw[ell];rfl,ho,HB2.1.grown HG9.1 HB2.1.size (fun j e=>by cases e;exact hgl)⟩
    ·intro x;refine⟨?_,?_⟩
     all_goals
      intro l0 a0 b0 w1 cnt1 hkey hlx hRv hat hrg1 hlt1 hg1 hs1 hen;have hl0:l0=kl x:=by
       obtain⟨z,e,rfl,_⟩:=Go.Maps.keyOf_int_inv underlying125 hkey
       injection e with _ e
       rw[←e];rfl
      subst hl0;have NX:=Aj (fun(o:Obj) (w5:World) (A4:Option Addr) (c4:Nat)=>HI.1.next (w5:=w5) (A4:=A4) (c4:=c4) MPm.1 HA.1 hwr hlx hrg1 hg1 o);have O1:=Aj (show aG w1 w.heap.size A2 acc.length c2 acc from af HI.1.own hg1 (.inr (fun e=>jT HI.1.own HI.1.rg e.symm)));have hal:acc.length≤1000000:=Lt (iD HI.1.nd HI.1.sub) (by have:=hln.1;omega);have hz1:w.heap.size≤w1.heap.size:=by rw[hs1];exact HI.1.aU.size
      have hzb:w.heap.size≤(w1.alloc (.cells #[.int .u64 (x:Int)] 125)).heap.size:=by simp;omega
      have hmr:=rE.1;clear hkey hlx hRv hat hrg1 hg1 hs1 hall;go_wp2_with (at_builtin;refine dC rfl (.tmp 27) (.tmp 29) rfl w.heap.size A2 acc.length c2 _ rfl (Oa O1.1 _) _ _ _ _ _ rfl (kg.one w1 x) om hzb ?_;intro A4 c4 w5 ax aj di;have O4:=Aj ax;have G4:=Aj aj;have AT:=Aj di;clear ax aj di);have IX:=NX.1 _ _ _ _ O4.1 G4.1;go_roundw
      case rel=>exact⟨A4,c4,acc++[x],cnt1,sm,IX,by rcases AT.1 with h|h<;>rw[h]<;>simp[hA2]⟩
      case measure=>rw[IX.rg.left_eq,hmr];exact hlt1
end
theorem Di.Rb {d} (h:Di.Up d) {i j} (hi:i<d.length) (hj:j<d.length):d[i]<d[j]↔i<j:=by
 have P:=BM.1 h;constructor
 ·intro hd;rcases Dr i j with q|q|q
  ·exact q
  ·subst q;omega
  ·have:=P _ _ hj hi q;omega
 ·intro q;exact P _ _ hi hj q
theorem FF (A) (n c B q x) (d) (w) (hr:kg w B A n c d) (_hB:B≤w.heap.size) (hq:q<d.length) (hx:x=d[q]) (hu:Di.Up d) (hn:n≤1000000):
  Calls prog 263 #[.slice A n c,.int .u64 (x:Int)] w fun e w'=>e= .returned (.tuple #[.int .i64 (q:Int),.bool true])∧∃m,w'=w.drewN m:=by
 have hln:=Aj hr.len;have hlc:=hr.1;have hcm:=hr.2.1;unfold maxLen at hcm;have hqn:q<n:=by rw[hr.len];exact hq
 obtain⟨bb,off,rfl,lX,-⟩:=hr.at_ hq;have hcell:∀t,t<n→∃v,w.cell? ⟨bb,off+t,none⟩=some (.int .u64 (v:Nat))∧(v<x↔t<q)∧(t=q→v=x):=fun t ht=>by
  have htl:t<d.length:=by have:=hln.1;omega
  obtain⟨b2,o2,e2,_,h2⟩:=hr.at_ htl;simp only[gV,BP]at e2;obtain⟨rfl,rfl,-⟩:=e2;exact⟨d[t],h2,by rw[hx];exact Di.Rb hu htl hq,fun e=>by subst e;exact hx.symm⟩
 have HC:=Aj hcell;clear hr hcell hx hq;go_enter func263,ntmps263;go_wp2;go_loopw [7,8] (fun vi vj wr=>∃i j m:Nat,vi= .int .i64 (i:Int)∧vj= .int .i64 (j:Int)∧i≤q∧q≤j∧j≤n∧i≤j∧wr=w.drewN m) (fun vi vj _=>(intOf vj-intOf vi).toNat)
 case atStart=>exact⟨0,n,0,rfl,rfl,om,om,Nr _,om,rfl⟩
 case round=>
  obtain⟨i,j,m,rfl,rfl,hi,hj,hjn,hij,rfl⟩:=hrel;by_cases hlt:i<j
  ·have hlt':(i:Int)< (j:Int):=by omega
   obtain⟨h,hh⟩:∃h,h=(i+j)/2:=⟨_,rfl⟩
   have hh1:((i:Int)+(j:Int))/2=(h:Int):=om;have hhn:h<n:=om;have hh2:i≤h∧h<j:=om;obtain⟨v,hc,hv,-⟩:=HC.1 h hhn;have hcd:(w.drewN m).cell? ⟨bb,off+h,none⟩=some (.int .u64 (v:Nat)):=hc;clear hh hc;by_cases hvx:v<x
   ·have hl:Sort.ltInt (v:Int) (x:Int)=true:=by simp[Sort.ltInt];omega
    have hhq:=hv.1 hvx;have L:=Aj (au (v:Int) (x:Int) (w.drewN m));rw[hl]at L;go_wp2_with (go_at_call 283;refine L.1.mono ?_;rintro e w1 ⟨rfl,rfl⟩);go_roundw
    case rel=>exact⟨h+1,j,m,by go_num,rfl,om,hj,hjn,om,rfl⟩
    case measure=>simp[intOf];omega
   ·have hl:Sort.ltInt (v:Int) (x:Int)=false:=by simp[Sort.ltInt];omega
    have hhq:¬h<q:=fun e=>hvx (hv.2 e)
    have L:=Aj (au (v:Int) (x:Int) (w.drewN m));rw[hl]at L;go_wp2_with (go_at_call 283;refine L.1.mono ?_;rintro e w1 ⟨rfl,rfl⟩);go_roundw
    case rel=>exact⟨i,h,m,rfl,rfl,hi,om,om,om,rfl⟩
    case measure=>simp[intOf];omega
  ·obtain rfl:i=q:=by omega
   have hji:j=i:=om;subst hji;obtain⟨v,hc,-,hv⟩:=HC.1 _ hqn;obtain rfl:=hv rfl;have hcd:(w.drewN m).cell? ⟨bb,off+j,none⟩=some (.int .u64 (v:Nat)):=hc;have ajS:(j:Int)< (n:Int):=om;clear hc hv;go_wp2_with fail;go_ret2;exact⟨rfl,m,rfl⟩
theorem w64 {z} (h0:0≤z) (h1:z≤10000000000):wrap64 z=z:=by unfold wrap64;omega
theorem MX {z} (h0:0≤z) (h1:z≤10000000000):IntKind.i64.wrap z=z:=by
 have h:=w64 h0 h1;unfold wrap64 at h;rw[AV];exact h
def Di.Ji (l:List Nat):Int:=if 128< (Di.dZ l).length then-1 else if(Di.dZ l).length=0 then 0 else 7+(Di.dZ l).length*64+l.length*Di.mI (Di.dZ l).length
theorem Di.Jj {k} (h:k≤128):Di.mI k≤7:=by
 have:=(Go.Sort.bitsLen_le_iff (k-1) 7).2 om;exact this
theorem M0 (A) (n c B) (l) (w) (hr:kg w B A n c l) (hB:B≤w.heap.size) (hx:∀x∈l,x<2^64) (hn:n≤1000000):
  Calls prog 221 #[.slice A n c] w fun e w'=>e= .returned (.int .i64 (Di.Ji l))∧Below w.heap.size w w':=by
 have D0:=Aj (FD A n c B l w hr hB hx hn);have hln:=Aj hr.len;have hkl:(Di.dZ l).length≤1000000:=Lt (iD ((Di.pJ l).imp fun h=>Nat.ne_of_lt h) (fun x h=>(Di.eO l x).1 h)) (by have:=hln.1;omega);unfold Di.Ji;generalize Di.dZ l=d at*;obtain⟨k,hk⟩:∃k,d.length=k:=⟨_,rfl⟩
 rw[hk]at D0 hkl⊢;have hnl:Kept ((l.length:Int)=(n:Int)):=⟨by have:=hln.1;omega⟩
 rw[hnl.1];clear hr hk hx;have vH:k<4611686018427387904:=om;have W0:=Aj (fun w=>qf k vH w);have hw7:k≤128→Di.mI k≤7:=Di.Jj;generalize Di.mI k=v at*;by_cases h1:128<k
 ·rw[Ps0 h1];have h1':(128:Int)< (k:Int):=om;go_enter func221,ntmps221;go_wp2_with (go_at_call 261;refine D0.1.mono ?_;rintro e w1 ⟨A2,c2,rfl,ho,hb⟩;have B1:=Aj hb;clear ho hb);go_ret;exact⟨rfl,B1.1⟩
 ·have h1':¬(128:Int)< (k:Int):=by omega
  rw[Ng h1];by_cases h2:k=0
  ·subst h2;rw[Ps0 rfl];go_enter func221,ntmps221;go_wp2_with (go_at_call 261;refine D0.1.mono ?_;rintro e w1 ⟨A2,c2,rfl,ho,hb⟩;have B1:=Aj hb;clear ho hb);go_ret;exact⟨rfl,B1.1⟩
  ·rw[Ng h2];have h2':¬(k:Int)=0:=om;have hv:=hw7 om;have hnv:n*v≤7000000:=Nat.mul_le_mul hn hv;have abv:(n:Int)*(v:Int)=((n*v:Nat):Int):=by rw[Int.natCast_mul]
   have e0:0≤(n:Int)*(v:Int)∧(n:Int)*(v:Int)≤7000000:=by rw[abv];omega
   have e1:IntKind.i64.wrap ((k:Int)*64)=(k:Int)*64:=MX om om;have e2:IntKind.i64.wrap ((n:Int)*(v:Int))=(n:Int)*(v:Int):=MX e0.1 om;have e3:wrap64 ((n:Int)*(v:Int))=(n:Int)*(v:Int):=w64 e0.1 om;have e4:wrap64 (7+(k:Int)*64+(n:Int)*(v:Int))=7+(k:Int)*64+(n:Int)*(v:Int):=w64 om om;have e5:IntKind.i64.wrap (7+(k:Int)*64+(n:Int)*(v:Int))=7+(k:Int)*64+(n:Int)*(v:Int):=MX om om;clear abv;go_enter func221,ntmps221;go_wp2_with (first
    |(go_at_call 262;refine(W0.1 _).mono ?_;rintro e w1 ⟨rfl,rfl⟩)
    |(go_at_call 261;refine D0.1.mono ?_;rintro e w1 ⟨A2,c2,rfl,ho,hb⟩;have B1:=Aj hb;clear ho hb))
   go_ret;exact⟨rfl,B1.1⟩
def Di.FH (r:List Bool):List Nat×List Bool×Int:=if(Tm.rd 7 r).2.2≠0 then([],(Tm.rd 7 r).2)else Di.gd ((Tm.rd 7 r).1+1) [] (Tm.rd 7 r).2.1
structure GdI (w:World) (p K:Nat) (Q:List Nat×List Bool×Int) (i:Nat) (A:Option Addr) (c:Nat) (W:World) (acc:List Nat) (r:List Bool):Prop where
 gd:Di.gd (K-i) acc r=Q
 len:acc.length=i
 own:aG W w.heap.size A i c acc
 br:Br W p r
 grown:w.grownBy W (some p)
theorem Di.U8 (acc) (r):Di.gd 0 acc r=(acc,r,0):=by simp[Di.gd]
theorem Di.U9 {m} (hm:0<m) (acc) (r):Di.gd m acc r=if(Tm.rd 64 r).2.2≠0 then([],(Tm.rd 64 r).2)else if∃y∈acc.getLast?,(Tm.rd 64 r).1≤y then([],(Tm.rd 64 r).2.1,8)else Di.gd (m-1) (acc++[(Tm.rd 64 r).1]) (Tm.rd 64 r).2.1:=by
 obtain⟨k,rfl⟩:∃k,m=k+1:=⟨m-1,om⟩
 rw[Di.gd];rfl
theorem Na (p) (r) (w) (h:Br w p r):
  Calls prog 264 #[.pointer (some ⟨p,0,none⟩)] w fun e w'=>∃A2 n2 c2,e= .returned (.tuple #[.slice A2 n2 c2,.int .i64 (Di.FH r).2.2])∧aG w' w.heap.size A2 n2 c2 (Di.FH r).1∧Br w' p (Di.FH r).2.1∧w.grownBy w' (some p):=by
 have hp:=h.lt;have RB:=Aj (dF p 7 r w h om);have hlt:=Tm.jr 7 r;have mq:=Tm.qd 7 r;obtain⟨X,hX⟩:∃X,X=Di.FH r:=⟨_,rfl⟩
 rw[←hX];unfold Di.FH at hX;generalize Tm.rd 7 r=Y at*;obtain⟨k,r1,e1⟩:=Y;simp only[]at RB hlt mq hX;clear h;rcases mq with rfl|rfl
 ·rw[Ng sm]at hX;have HX:=Aj hX.symm;obtain⟨K,hK⟩:∃K,K=k+1:=⟨_,rfl⟩
  rw[←hK]at HX;have hki:(k:Int)+1=(K:Int):=om;have hks:IntKind.i64.wrap (k:Int)=(k:Int):=MX om om;have hK1:K≤128:=om;clear hX hK;go_enter func264,ntmps264;go_wp2_with (go_at_call 213;refine RB.1.mono ?_;rintro e w1 ⟨rfl,hb,hg⟩;have B1:=Aj hb;have G1:=Aj hg;clear hb hg);go_loopw [6,21] (fun v iv wr=>∃(i:Nat) (A2:Option Addr) (c2:Nat) (acc:List Nat) (r2:List Bool),v= .slice A2 i c2∧iv= .int .i64 (i:Int)∧i≤K∧GdI w p K X i A2 c2 wr acc r2) (fun _ iv _=>K-(intOf iv).toNat)
  case atStart=>exact⟨0,none,0,[],r1,rfl,rfl,bE _,HX.1,rfl,⟨rfl,.inl ⟨rfl,rfl⟩⟩,B1.1,G1.1⟩
  case round=>
   clear B1 G1 HX;obtain⟨i,A2,c2,acc,r2,rfl,rfl,hiK,I⟩:=hrel;have HI:=Aj I;clear I;by_cases hi:i<K
   ·have hi':(i:Int)< (K:Int):=by omega
    have RB2:=Aj (dF p 64 r2 wr HI.1.br om);have hst:=Aj (Di.U9 (m:=K-i) om acc r2);rw[HI.1.gd]at hst;have mq:=Tm.qd 64 r2;have hlt2:=Tm.jr 64 r2;generalize Tm.rd 64 r2=Y at*;obtain⟨x,r3,e3⟩:=Y;simp only[]at RB2 hst mq hlt2;have O1:=Aj (show∀w2,wr.grownBy w2 (some p)→aG w2 w.heap.size A2 i c2 acc from fun w2 hg=>kX HI.1.own hg hp);rcases mq with rfl|rfl
    ·rw[Ng sm]at hst;have hwr:=HI.1.grown.size;by_cases hi0:i=0
     ·subst hi0;have ha:acc=[]:=vg HI.1.len;subst ha;rw[Ng sm]at hst;go_wp2_with (first
       |(at_builtin;refine dC rfl (.tmp 45) (.tmp 47) rfl w.heap.size A2 0 c2 _ rfl (Oa O2.1 _) _ _ _ _ _ rfl (kg.one w2 x) om (by have:=G2.1.size;simp;omega) ?_;intro A4 c4 w5 ax aj di;have O4:=Aj ax;have B4:=Aj ((B2.1.grown (Ga w2 _ none) (fun g e=>by cases e)).grown aj (fun g e=>by have:=(ae O2.1 g e).1;omega));have G4:=Aj ((G2.1.andThen (Ga w2 _ none) (fun j hj=>by cases hj)).andThen aj (fun j hj=> .inl (ae O2.1 j hj).1));clear ax aj di)
       |(go_at_call 213;refine RB2.1.mono ?_;rintro e w2 ⟨rfl,hb,hg⟩;have B2:=Aj hb;have G2:=Aj (HI.1.grown.trans hg);have O2:=Aj (O1.1 w2 hg);clear hb hg))
      go_roundw
      case rel=>
       refine⟨1,A4,c4,[x],r3,rfl,by go_num,om,?_,rfl,O4.1,B4.1,G4.1⟩;rw[show K-1=K-0-1 from om];exact hst.1.symm
      case measure=>simp[intOf];omega
     ·have hl:=HI.1.len;have hil:i-1<acc.length:=om;have hlast:acc.getLast? =some acc[i-1]:=by
       rw[List.getLast?_eq_getElem?,hl];exact l8 hil
      rw[hlast]at hst;obtain⟨g,rfl,hg1,hg2⟩:=HI.1.own.pos om;have CE:=Aj (fun(w2:World) (hg:wr.grownBy w2 (some p))=>((O1.1 w2 hg).at_ hil).1);have hx0:(0:Int)< (i:Int):=om;have hcap:=HI.1.own.rd.1;generalize acc[i-1]=y at*;clear hlast hil;by_cases hxy:x≤y
      ·rw[Ps0 ⟨y,rfl,hxy⟩]at hst;have hxy':(x:Int)≤(y:Int):=om;go_wp2_with (go_at_call 213;refine RB2.1.mono ?_;rintro e w2 ⟨rfl,hb,hg⟩;have B2:=Aj hb;have G2:=Aj (HI.1.grown.trans hg);have k0:=CE.1 w2 hg;clear hb hg);go_ret2;rw[hst.1];exact⟨none,0,0,rfl,⟨rfl,.inl ⟨rfl,rfl⟩⟩,B2.1,G2.1⟩
      ·rw[Ng (by rintro⟨z,hz,hxz⟩;cases hz;exact hxy hxz)]at hst;have hxy':¬(x:Int)≤(y:Int):=om;go_wp2_with (first
        |(at_builtin;refine dC rfl (.tmp 45) (.tmp 47) rfl w.heap.size (some ⟨g,0,none⟩) i c2 _ rfl (Oa O2.1 _) _ _ _ _ _ rfl (kg.one w2 x) om (by have:=G2.1.size;simp;omega) ?_;intro A4 c4 w5 ax aj di;have O4:=Aj ax;have B4:=Aj ((B2.1.grown (Ga w2 _ none) (fun g e=>by cases e)).grown aj (fun g e=>by have:=(ae O2.1 g e).1;omega));have G4:=Aj ((G2.1.andThen (Ga w2 _ none) (fun j hj=>by cases hj)).andThen aj (fun j hj=> .inl (ae O2.1 j hj).1));clear ax aj di)
        |(go_at_call 213;refine RB2.1.mono ?_;rintro e w2 ⟨rfl,hb,hg⟩;have B2:=Aj hb;have G2:=Aj (HI.1.grown.trans hg);have O2:=Aj (O1.1 w2 hg);have k0:=CE.1 w2 hg;clear hb hg))
       go_roundw
       case rel=>
        refine⟨i+1,A4,c4,acc++[x],r3,rfl,by go_num,om,?_,by simp[HI.1.len],O4.1,B4.1,G4.1⟩;rw[show K-(i+1)=K-i-1 from om];exact hst.1.symm
       case measure=>simp[intOf];omega
    ·rw[Ps0 sm]at hst;go_wp2_with (go_at_call 213;refine RB2.1.mono ?_;rintro e w2 ⟨rfl,hb,hg⟩;have B2:=Aj hb;have G2:=Aj (HI.1.grown.trans hg);clear hb hg);go_ret2;rw[hst.1];exact⟨none,0,0,rfl,⟨rfl,.inl ⟨rfl,rfl⟩⟩,B2.1,G2.1⟩
   ·obtain rfl:i=K:=by omega
    have hq:Kept (X=(acc,r2,0)):=⟨by rw[←HI.1.gd,CZ,Di.U8]⟩
    go_wp2;go_ret2;rw[hq.1];exact⟨A2,i,c2,rfl,HI.1.own,HI.1.br,HI.1.grown⟩
 ·rw[Ps0 sm]at hX;have HX:=Aj hX;clear hX;go_enter func264,ntmps264;go_wp2_with (go_at_call 213;refine RB.1.mono ?_;rintro e w1 ⟨rfl,hb,hg⟩;have B1:=Aj hb;have G1:=Aj hg;clear hb hg);go_ret2;rw[HX.1];exact⟨none,0,0,rfl,⟨rfl,.inl ⟨rfl,rfl⟩⟩,B1.1,G1.1⟩
end Go.Proofs.YtjcpmfphnodaaaaGreatDoor
