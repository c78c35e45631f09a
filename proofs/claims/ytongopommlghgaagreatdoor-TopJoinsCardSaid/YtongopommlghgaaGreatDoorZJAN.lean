/- Part 14. -/
import Derived.Test.YtongopommlghgaaGreatDoorZJAM
namespace Go.Proofs.YtongopommlghgaaGreatDoor
set_option maxRecDepth 100000
set_option maxHeartbeats 0
open _root_.Go.Proofs.Tryz
open Go.RowKit
section
open Go.Shelf
theorem Gr.grown {w w'} (h:Gr w w') (row):w.grownBy w' row:=by
 have hb:=h.below;exact⟨hb.os,hb.tape,hb.output,hb.size,fun k hk _=>hb.block k hk⟩
theorem qb.grown {w w' p} (h:qb w) (hg:w.grownBy w' (some p)) (hp:0<p):qb w':=fun i v hi=>
 (AU (hg.block _ h.lt (fun e=>by have h1:0=p:=Oj e;omega))).trans (h i v hi)
theorem Br.gr {w w' p r} (h:Br w p r) (hg:Gr w w'):Br w' p r:=h.below hg.below h.lt
theorem Br.grown {w w' p r} (h:Br w p r) {row} (hg:w.grownBy w' row) (hr:∀g,row=some g→p<g):Br w' p r:=by
 have hp:=h.lt;obtain⟨A,n,c,L,at_,h1,h2,h3,h4,h5⟩:=h;exact⟨A,n,c,L,at_,(hg.block p hp (fun e=>by have:=hr _ e.symm;omega)).trans h1,h2.grown hg om (fun g e=>by have:=hr _ e;omega),h3,h4,h5⟩
theorem qb.past {w w'} (h:qb w) {row} (hg:w.grownBy w' row) (hr:∀g,row=some g→0<g):qb w':=fun i v hi=>
 (AU (hg.block _ h.lt (fun e=>by have:=hr _ e.symm;exact absurd this (Et _)))).trans (h i v hi)
theorem Tm.jC (n r):(Tm.rd n r).1<2^n:=by
 unfold Tm.rd;split
 ·exact Nat.pow_pos Ai
 ·have h:=Bt.yK (r.take n);have:(r.take n).length=n:=by rw[jD];omega
  rwa[this]at h
theorem Tm.qc (n r):(Tm.rd n r).2.2=0∨(Tm.rd n r).2.2=3:=by unfold Tm.rd;split<;>simp
theorem GJ (p r w) (h:Br w p r):
  Calls prog 251 #[.pointer (some ⟨p,0,none⟩)] w fun e w'=>e= .returned (.tuple #[.int .i64 (((Tm.gf 4 0 r).1:Nat):Int),.int .i64 (Tm.gf 4 0 r).2.2])∧Br w' p (Tm.gf 4 0 r).2.1∧w.grownBy w' (some p):=by
 obtain⟨Q,hQ⟩:∃Q,Tm.gf 4 0 r=Q:=⟨_,rfl⟩
 rw[hQ];have H:=Al h;have HQ:=Al hQ;clear h hQ;go_enter func251,ntmps251;go_wp2;go_loopw [7] (fun i wr=>∃(k:Nat) (r2:List Bool),k≤4∧i= .int .i64 k∧Kept (Br wr p r2)∧Kept (Tm.gf (4-k) k r2=Q)∧w.grownBy wr (some p)) (fun i _=>4-(intOf i).toNat)
 case atStart=>exact⟨0,r,om,rfl,H,HQ,Ci _ _⟩
 case round=>
  obtain⟨k,r2,hk,rfl,hB,hq,hG⟩:=hrel;have HG:=Al hG;clear hG;by_cases hlt:k<4
  ·have hlt':(k:Int)<4:=by omega
   have BT:=Al (dG p 1 r2 wr hB.1 om);have hstep:Kept ((if(Tm.rd 1 r2).2.2≠0∨(Tm.rd 1 r2).1=0 then(k,(Tm.rd 1 r2).2)else Tm.gf (4-(k+1)) (k+1) (Tm.rd 1 r2).2.1)=Q):=⟨by
    have:=hq.1;rw[show 4-k=(4-(k+1))+1 from om,Tm.gf]at this;exact this⟩
   obtain⟨X,hX⟩:∃X,X=Tm.rd 1 r2:=⟨_,rfl⟩
   rw[←hX]at BT hstep;clear hX hq;obtain⟨x,r3,e⟩:=X;simp only[]at BT hstep;by_cases he:e≠0∨x=0
   ·have hs2:Kept ((k,r3,e)=Q):=⟨by have:=hstep.1;rwa[Ps0 he]at this⟩
    have hor:((e !=0)||((x:Int)==0))=true:=by rcases he with h|h<;>simp[h]
    by_cases he0:e=0
    ·subst he0;obtain rfl:x=0:=by simpa using he
     clear hstep he;go_wp2_with (go_at_call 213;refine BT.1.mono ?_;rintro e w1 ⟨rfl,hb1,hg1⟩;have B1:=Al hb1;have G1:=Al hg1;clear hb1 hg1);go_ret2;exact⟨by rw[←hs2.1];rfl,by rw[←hs2.1];exact B1.1,HG.1.trans G1.1⟩
    ·have hne:(e !=0)=true:=by simpa using he0
     clear hstep he he0;go_wp2_with (go_at_call 213;refine BT.1.mono ?_;rintro e w1 ⟨rfl,hb1,hg1⟩;have B1:=Al hb1;have G1:=Al hg1;clear hb1 hg1);go_ret2;exact⟨by rw[←hs2.1];rfl,by rw[←hs2.1];exact B1.1,HG.1.trans G1.1⟩
   ·have hs2:Kept (Tm.gf (4-(k+1)) (k+1) r3=Q):=⟨by have:=hstep.1;rwa[Ng he]at this⟩
    have he0:e=0:=by
     by_cases h:e=0
     ·exact h
     ·exact absurd (.inl h) he
    subst he0;have hx0:((x:Int)==0)=false:=by simp;intro h;exact he (.inr h)
    clear hstep he;go_wp2_with (go_at_call 213;refine BT.1.mono ?_;rintro e w1 ⟨rfl,hb1,hg1⟩;have B1:=Al hb1;have G1:=Al hg1;clear hb1 hg1);go_roundw
    case rel=>exact⟨k+1,r3,om,by go_num,B1,hs2,HG.1.trans G1.1⟩
    case measure=>simp[intOf];omega
  ·obtain rfl:k=4:=by omega
   have hs2:Kept ((4,r2,0)=Q):=⟨hq.1⟩
   go_wp2;go_ret2;exact⟨by rw[←hs2.1];rfl,by rw[←hs2.1];exact hB.1,HG.1⟩
theorem Tm.acY (k i r):i≤(Tm.gf k i r).1∧(Tm.gf k i r).1≤i+k:=by
 induction k generalizing i r with
 |zero=>simp[Tm.gf]
 |succ k ih=>
  rw[Tm.gf];split
  ·simp
  ·have:=ih (i+1) (Tm.rd 1 r).2.1;omega
theorem Tm.YI (i):Tm.fw i≤64:=by unfold Tm.fw;split<;>omega
theorem wF (p r w) (h:Br w p r) (hF:qb w) (hp:0<p):
  Calls prog 214 #[.pointer (some ⟨p,0,none⟩)] w fun e w'=>e= .returned (.tuple #[.int .i64 (Tm.gc r).1,.int .i64 (Tm.gc r).2.2])∧Br w' p (Tm.gc r).2.1∧w.grownBy w' (some p):=by
 have GF:=Al (GJ p r w h);have HF:=Al hF;have hle:=Tm.acY 4 0 r;have hgc:Kept (Tm.gc r=if(Tm.gf 4 0 r).2.2≠0 then(0,(Tm.gf 4 0 r).2)else(Tm.ex (Tm.rd (Tm.fw (Tm.gf 4 0 r).1) (Tm.gf 4 0 r).2.1).1 (Tm.fw (Tm.gf 4 0 r).1),(Tm.rd (Tm.fw (Tm.gf 4 0 r).1) (Tm.gf 4 0 r).2.1).2.1,
  if(Tm.rd (Tm.fw (Tm.gf 4 0 r).1) (Tm.gf 4 0 r).2.1).2.2≠0 then(Tm.rd (Tm.fw (Tm.gf 4 0 r).1) (Tm.gf 4 0 r).2.1).2.2 else if Tm.fm (Tm.ex (Tm.rd (Tm.fw (Tm.gf 4 0 r).1) (Tm.gf 4 0 r).2.1).1 (Tm.fw (Tm.gf 4 0 r).1))≠(Tm.gf 4 0 r).1 then 8 else 0)):=⟨rfl⟩
 obtain⟨Q,hQ⟩:∃Q,Tm.gf 4 0 r=Q:=⟨_,rfl⟩
 rw[hQ]at GF hle hgc;clear h hF hQ;obtain⟨i,r1,e1⟩:=Q;simp only[]at GF hle hgc;obtain⟨G,hG⟩:∃G,Tm.gc r=G:=⟨_,rfl⟩
 rw[hG]at hgc⊢;clear hG;by_cases he1:e1=0
 ·subst he1;rw[Ng Ah]at hgc;have hw64:=Tm.YI i;have RB:=Al (fun(w1:World) (hb:Br w1 p r1)=>dG p (Tm.fw i) r1 w1 hb hw64);have YJ:=Al (jE (Tm.jC (Tm.fw i) r1) (kF Ai hw64));have her:=Tm.qc (Tm.fw i) r1;have hi4:i≤4:=om;have hi5:(i:Int)<5:=om;have hcell:Kept (∀w1,qb w1→w1.cell? ⟨0,i*3+2,none⟩=some (.int .i64 ((Tm.fw i:Nat):Int))):=⟨fun w1 h1=>by
   rcases(by omega:i=0∨i=1∨i=2∨i=3∨i=4)with rfl|rfl|rfl|rfl|rfl
   ·exact h1 2 _ rfl
   ·exact h1 5 _ rfl
   ·exact h1 8 _ rfl
   ·exact h1 11 _ rfl
   ·exact h1 14 _ rfl⟩
  obtain⟨X,hX⟩:∃X,X=Tm.rd (Tm.fw i) r1:=⟨_,rfl⟩
  rw[←hX]at RB YJ her hgc;obtain⟨u,r2,e2⟩:=X;simp only[]at RB YJ her hgc;have EX:=Al (fun w=>uL u i w YJ.1 hi4);have FO:=Al (fun(w1:World) (h1:qb w1)=>uM (Tm.ex u (Tm.fw i)) w1 (Tm.Yf hw64) h1);obtain⟨y,hy⟩:∃y,y=Tm.ex u (Tm.fw i):=⟨_,rfl⟩
  rw[←hy]at EX FO hgc;clear hy hX;rcases her with he2|he2
  ·subst he2;rw[Ng Ah]at hgc;by_cases hfi:Tm.fm y=i;rw[Ng (by simpa using hfi)]at hgc;have hb:(((Tm.fm y:Nat):Int)==(i:Int))=true:=by simp;omega
   rotate_left
   rw[Ps0 hfi]at hgc;have hb:(((Tm.fm y:Nat):Int)==(i:Int))=false:=by simp;omega
   rotate_left
   all_goals
    have YK:=hgc;clear hgc hfi;go_enter func214,ntmps214;go_wp2_with (first
    |(go_at_call 242;refine(FO.1 w2 F2.1).mono ?_;rintro e w3 ⟨rfl,hg3⟩;have B3:=Al (B2.1.gr hg3);have G3:=Al (G2.1.trans (hg3.grown _));clear hg3)
    |(go_at_call 252;refine(EX.1 _).mono ?_;rintro e w3 ⟨rfl,hw⟩;obtain rfl:=hw)
    |(go_at_call 213;refine(RB.1 w1 B1.1).mono ?_;rintro e w2 ⟨rfl,hb2,hg2⟩;have B2:=Al hb2;have G2:=Al (G1.1.trans hg2);have F2:=Al (F1.1.grown hg2 hp);have c2:=hcell.1 _ F2.1;clear hb2 hg2)
    |(go_at_call 251;refine GF.1.mono ?_;rintro e w1 ⟨rfl,hb1,hg1⟩;have B1:=Al hb1;have G1:=Al hg1;have F1:=Al (HF.1.grown hg1 hp);have c1:=hcell.1 _ F1.1;clear hb1 hg1))
    go_ret2;exact⟨by rw[YK.1];rfl,by rw[YK.1];exact B3.1,G3.1⟩
  ·subst he2;rw[Ps0 Ah]at hgc;have YK:=hgc;clear hgc;go_enter func214,ntmps214;go_wp2_with (first
    |(go_at_call 242;refine(FO.1 w2 F2.1).mono ?_;rintro e w3 ⟨rfl,hg3⟩;have B3:=Al (B2.1.gr hg3);have G3:=Al (G2.1.trans (hg3.grown _));clear hg3)
    |(go_at_call 252;refine(EX.1 _).mono ?_;rintro e w3 ⟨rfl,hw⟩;obtain rfl:=hw)
    |(go_at_call 213;refine(RB.1 w1 B1.1).mono ?_;rintro e w2 ⟨rfl,hb2,hg2⟩;have B2:=Al hb2;have G2:=Al (G1.1.trans hg2);have F2:=Al (F1.1.grown hg2 hp);have c2:=hcell.1 _ F2.1;clear hb2 hg2)
    |(go_at_call 251;refine GF.1.mono ?_;rintro e w1 ⟨rfl,hb1,hg1⟩;have B1:=Al hb1;have G1:=Al hg1;have F1:=Al (HF.1.grown hg1 hp);have c1:=hcell.1 _ F1.1;clear hb1 hg1))
   go_ret2;exact⟨by rw[YK.1];rfl,by rw[YK.1];exact B2.1,G2.1⟩
 ·rw[Ps0 he1]at hgc;have YK:=hgc;have hne:(e1 !=0)=true:=by simpa using he1
  clear hgc he1;go_enter func214,ntmps214;go_wp2_with (go_at_call 251;refine GF.1.mono ?_;rintro e w1 ⟨rfl,hb1,hg1⟩;have B1:=Al hb1;have G1:=Al hg1;clear hb1 hg1);go_ret2;exact⟨by rw[YK.1];rfl,by rw[YK.1];exact B1.1,G1.1⟩
theorem JW {w:World} {b1 b2 sz n c A xs e} (h:w.ownsRow b1 e sz (.slice A n c) n xs) (hb:b2≤b1):w.ownsRow b2 e sz (.slice A n c) n xs:=
 ⟨h.1,h.2.imp id fun⟨g,cap,cur,h1,h2,h3⟩=>⟨g,cap,cur,h1,om,h3⟩⟩
theorem kW {w w':World} {base n c sz p A xs e} (h:w.ownsRow base e sz (.slice A n c) n xs) (hg:w.grownBy w' (some p)) (hp:p<base):w'.ownsRow base e sz (.slice A n c) n xs:=
 ag h hg (by
  rcases hA:ab A with _|g
  ·exact .inl rfl
  ·refine .inr fun e=>?_
   have:=(ae h g hA).1;have:=Oj e;omega)
theorem eZ.Y8 (w:World) (x):eZ (w.alloc (.cells #[.int .i64 x] 2)) w.heap.size (some ⟨w.heap.size,0,none⟩) 1 1 [x]:=
 ⟨rfl,.inr ⟨w.heap.size,1,#[.int .i64 x],rfl,Nr _,Aw w _,Nr _,by unfold maxLen;omega,rfl,rfl⟩⟩
theorem SL (p n:Nat) (r w) (h:Br w p r) (hF:qb w) (hp:0<p) (hn:n≤1000000):
  Calls prog 178 #[.pointer (some ⟨p,0,none⟩),.int .i64 (n:Int)] w fun e w'=>∃A2 n2 c2,e= .returned (.tuple #[.slice A2 n2 c2,.int .i64 (Tm.dec n r).2.2])∧eZ w' w.heap.size A2 n2 c2 (Tm.dec n r).1∧Br w' p (Tm.dec n r).2.1∧w.grownBy w' (some p):=by
 have l9:=h.lt;by_cases hn0:n=0
 ·subst hn0;have hd:Tm.dec 0 r=([],r,0):=by unfold Tm.dec;rw[Ps0 rfl]
  rw[hd];go_enter func178,ntmps178;go_wp2;go_ret2;exact⟨none,0,0,rfl,⟨rfl,.inl ⟨rfl,rfl⟩⟩,h,Ci _ _⟩
 ·have hdec:Kept (Tm.dec n r=if(Tm.rd 64 r).2.2≠0 then([],(Tm.rd 64 r).2)else Tm.gt (n-1) (Tm.sw (Tm.rd 64 r).1) 0 [Tm.sw (Tm.rd 64 r).1] (Tm.rd 64 r).2.1):=⟨by unfold Tm.dec;rw[Ng hn0]⟩
  have RB:=Al (dG p 64 r w h om);have her:=Tm.qc 64 r;have HF:=Al hF;obtain⟨X,hX⟩:∃X,X=Tm.rd 64 r:=⟨_,rfl⟩
  rw[←hX]at RB her hdec;clear hX h hF;obtain⟨u,r1,e1⟩:=X;simp only[]at RB her hdec;obtain⟨D,hD⟩:∃D,D=Tm.dec n r:=⟨_,rfl⟩
  rw[←hD]at hdec⊢;clear hD;have hn1:¬(n:Int)<0:=om;have hn2:((n:Int)==0)=false:=by simp;omega
  rcases her with rfl|rfl
  ·rw[Ng Ah]at hdec;go_enter func178,ntmps178;go_wp2_with (go_at_call 213;refine RB.1.mono ?_;rintro e w1 ⟨rfl,hb1,hg1⟩;have B1:=Al hb1;have G1:=Al hg1;have F1:=Al (HF.1.grown hg1 hp);clear hb1 hg1);have hz1:w.heap.size≤w1.heap.size:=G1.1.size;go_loopw [8,9,10,36] (fun t d v i wr=>∃(k:Nat) (tt dd:Int) (acc:List Int) (r2:List Bool) (A2:Option Addr) (c2:Nat),k≤n-1∧i= .int .i64 k∧t= .int .i64 tt∧d= .int .i64 dd∧v= .slice A2 (k+1) c2∧
    Kept (Tm.gt (n-1-k) tt dd acc r2=D)∧eZ wr w.heap.size A2 (k+1) c2 acc∧Kept (Br wr p r2)∧Kept (qb wr)∧w.grownBy wr (some p)) (fun _ _ _ i _=>n-(intOf i).toNat)
   case atStart=>
    refine⟨0,wrap64 u,0,[wrap64 u],r1,_,1,om,rfl,rfl,rfl,rfl,⟨by rw[Tm.zG,Nat.sub_zero];exact hdec.1.symm⟩,?_,⟨?_⟩,⟨?_⟩,?_⟩
    ·exact JW (eZ.Y8 w1 _) hz1
    ·exact B1.1.below ((Ae _ w1).alloc Aj _) B1.1.lt
    ·exact F1.1.below ((Ae _ w1).alloc Aj _)
    ·exact G1.1.trans (Ga _ _ _)
   case round=>
    obtain⟨k,tt,dd,acc,r2,A2,c2,hk,rfl,rfl,rfl,rfl,hq,ho,hB,hF2,hG⟩:=hrel;have HG:=Al hG;have HO:=Al ho;clear hG ho;by_cases hlt:k<n-1
    ·have hlt':(k:Int)< (n:Int)-1:=by omega
     have hstep:Kept ((if(Tm.gc r2).2.2≠0 then([],(Tm.gc r2).2)else Tm.gt (n-1-(k+1)) (Tm.sw (tt+Tm.sw (dd+(Tm.gc r2).1))) (Tm.sw (dd+(Tm.gc r2).1)) (acc++[Tm.sw (tt+Tm.sw (dd+(Tm.gc r2).1))]) (Tm.gc r2).2.1)=D):=⟨by
      have:=hq.1;rw[show n-1-k=(n-1-(k+1))+1 from om,Tm.gt]at this;exact this⟩
     have GC:=Al (wF p r2 wr hB.1 hF2.1 hp);obtain⟨X,hX⟩:∃X,X=Tm.gc r2:=⟨_,rfl⟩
     rw[←hX]at GC hstep;clear hX hq;obtain⟨x,r3,e⟩:=X;simp only[]at GC hstep;by_cases he:e=0
     ·subst he;rw[Ng Ah]at hstep;go_wp2_with (first
       |(at_builtin;refine Fg rfl (.tmp 52) (.tmp 54) rfl w.heap.size A2 (k+1) c2 acc rfl (Oa O2.1 _) _ _ _ _ _ rfl (vP.one w2 _) om agh ?_;intro A4 c4 w5 au af bT;have O4:=Al au;have G4:=Al af;clear au af)
       |(go_at_call 214;refine GC.1.mono ?_;rintro e w2 ⟨rfl,hb2,hg2⟩;have B2:=Al hb2;have G2:=Al (HG.1.trans hg2);have F2:=Al (hF2.1.grown hg2 hp);have O2:=Al (kW HO.1 hg2 l9);have agh:w.heap.size≤(w2.alloc (.cells #[.int .i64 (wrap64 (tt+wrap64 (dd+x)))] 2)).heap.size:=(by have:=G2.1.size;simp;omega);clear hb2 hg2))
      go_roundw
      case rel=>
       have hbp:∀g,ab A2=some g→w.heap.size≤g:=fun g e=>(ae O2.1 g e).1
       have hgz:=qb.lt HF.1;have ga:=Ga w2 (.cells #[.int .i64 (wrap64 (tt+wrap64 (dd+x)))] 2) none;simp only[←Tm.zG]at hstep;refine⟨k+1,_,_,_,r3,A4,c4,om,by go_num,rfl,rfl,rfl,hstep,O4.1,⟨?_⟩,⟨?_⟩,?_⟩
       ·exact(B2.1.grown ga (fun g e=>by cases e)).grown G4.1 (fun g e=>by have:=hbp g e;omega)
       ·exact(F2.1.past ga (fun g e=>by cases e)).past G4.1 (fun g e=>by have:=hbp g e;omega)
       ·exact((G2.1.trans (Ga w2 _ _)).andThen G4.1 (fun j hj=> .inl (by have:=hbp j hj;omega)))
      case measure=>simp[intOf];omega
     ·rw[Ps0 he]at hstep;have hne:(e !=0)=true:=by simpa using he
      clear he;go_wp2_with (go_at_call 214;refine GC.1.mono ?_;rintro e w2 ⟨rfl,hb2,hg2⟩;have B2:=Al hb2;have G2:=Al (HG.1.trans hg2);clear hb2 hg2);go_ret2;rw[←hstep.1];exact⟨none,0,0,rfl,⟨rfl,.inl ⟨rfl,rfl⟩⟩,B2.1,G2.1⟩
    ·obtain rfl:k=n-1:=by omega
     have hs2:Kept ((acc,r2,0)=D):=⟨by have:=hq.1;rwa[Dz]at this⟩
     have hge:(n:Int)-1≤((n-1:Nat):Int):=om;go_wp2;go_ret2;rw[←hs2.1];exact⟨A2,_,c2,rfl,HO.1,hB.1,HG.1⟩
  ·rw[Ps0 Ah]at hdec;go_enter func178,ntmps178;go_wp2_with (go_at_call 213;refine RB.1.mono ?_;rintro e w1 ⟨rfl,hb1,hg1⟩;have B1:=Al hb1;have G1:=Al hg1;clear hb1 hg1);go_ret2;rw[hdec.1];exact⟨none,0,0,rfl,⟨rfl,.inl ⟨rfl,rfl⟩⟩,B1.1,G1.1⟩
end
section
open Go.Shelf
open Go.Maps (Keyed)
theorem WJ:Keyed prog 125:=Go.Maps.int_keyed underlying125
def kl (x:Nat):Lit:= .int .u64 (x:Int)
theorem SV {x y} (h:kl x=kl y):x=y:=by unfold kl at h;injection h with _ h;exact Int.ofNat.inj h
theorem SX {x:Nat} (h:x<2^64):keyOf prog 125 (.int .u64 (x:Int))=some (kl x):=
 Go.Maps.keyOf_int_mk underlying125 (by
  have h1:IntKind.u64.min=0:=rfl;have h2:IntKind.u64.max=18446744073709551615:=rfl;simp only[Lit.wf,h1,h2,DK,decide_eq_true_eq];omega)
theorem nA {H P e} (he:P.underlying e=some .bool) {v} {z:DataW H×List MemPlace} (h:plainElem P e v=some z):∃x,v= .bool x∧z=(.lit (.bool x),[]):=by
 unfold plainElem at h;rw[he]at h;split at h
 ·cases h;exact⟨_,rfl,rfl⟩
 ·rename_i h1;cases h1
 ·rename_i h1;cases h1
 ·cases h
def Km (w:World) (b n:Nat) (D:DataW Unit) (ks:List Nat):Prop:=
 w.ownsMap prog 125 (plainElem prog 4) b n D∧∃E:List (Lit×DataW Unit),D= .map E∧(E.map (·.1)).Perm (ks.map kl)∧ks.Nodup
theorem Km.made (w:World):Km (w.alloc (.map #[] 0)) w.heap.size 0 (.map []) []:=⟨World.ownsMap_made _ _ _ _,[],rfl,List.Perm.nil,List.nodup_nil⟩
theorem Km.size {w b n D ks} (h:Km w b n D ks):Go.Maps.size D=ks.length:=by
 obtain⟨_,E,rfl,hp,_⟩:=h;have:=hp.length_eq;simpa[Go.Maps.size]using this
theorem Km.kept {w w' b n D ks row} (h:Km w b n D ks) (hg:w.grownBy w' row) (hne:some b≠row):Km w' b n D ks:=⟨h.1.kept hg hne,h.2⟩
theorem Km.put {w w' b n D d ks} (h:Km w b n D ks) (x) (ho:w'.ownsMap prog 125 (plainElem prog 4) b (n+1) (D.put (kl x) d)):
  Km w' b (n+1) (D.put (kl x) d) (x::ks.filter (· ≠x)):=by
 obtain⟨_,E,rfl,hp,hn⟩:=h;refine⟨ho,ChangeMaps.putKey (kl x) d E,rfl,?_,?_⟩
 ·unfold ChangeMaps.putKey;refine((WideShapes.insert_perm (kl x,d) _).map (·.1)).trans ?_;rw[AJ,AJ];refine List.Perm.cons _ ?_;have e1:(E.filter (ChangeMaps.notKey (kl x))).map (·.1)=(E.map (·.1)).filter (fun l=>!l.sameKey (kl x)):=by
   rw[List.filter_map];rfl
  have e2:(ks.filter (· ≠x)).map kl=(ks.map kl).filter (fun l=>!l.sameKey (kl x)):=by
   rw[List.filter_map]
   congr 1
   apply List.filter_congr;intro z _;simp only[Function.comp,kl,Lit.sameKey];by_cases hz:z=x
   ·subst hz;simp
   ·have:¬(z:Int)=(x:Int):=by omega
    simp[hz,this]
  rw[e1,e2];exact hp.filter _
 ·refine List.nodup_cons.2 ⟨Ah,hn.filter _⟩
theorem Km.has {w b n D ks} (h:Km w b n D ks) (l):Go.Maps.has D l=true↔∃x∈ks,kl x=l:=by
 obtain⟨_,E,rfl,hp,_⟩:=h;rw[Go.Maps.has_eq,List.any_eq_true];constructor
 ·rintro⟨p,hpE,hs⟩;have e:=WideAt.sameKey_eq hs;have hm:p.1∈ks.map kl:=hp.mem_iff.1 (dV.2 ⟨p,hpE,rfl⟩);obtain⟨x,hx,hk⟩:=dV.1 hm;exact⟨x,hx,hk.trans e⟩
 ·rintro⟨x,hx,rfl⟩;have hm:kl x∈E.map (·.1):=hp.mem_iff.2 (dV.2 ⟨x,hx,rfl⟩);obtain⟨p,hpE,he⟩:=dV.1 hm;exact⟨p,hpE,by rw[he];exact WideAt.sameKey_self (by unfold kl;trivial)⟩
def JX (D:DataW Unit) (acc:List Nat) (l:Lit):Bool:=Go.Maps.has D l&&!(acc.any fun x=>(kl x).sameKey l)
theorem JX.nil (D):JX D []=Go.Maps.has D:=by funext l;simp[JX]
theorem zH (a b:Lit):a.sameKey b=b.sameKey a:=by
 cases a<;>cases b<;>simp[Lit.sameKey,Bool.beq_comm,eq_comm]
theorem JX.snoc (D acc x):JX D (acc++[x])=fun z=>JX D acc z&&!z.sameKey (kl x):=by
 funext z
 simp only[JX,List.any_append,List.any_cons,List.any_nil,Bool.or_false,Bool.not_or];rw[zH (kl x) z,Bool.and_assoc]
theorem acZ {l m} (h1:l.Pairwise (· ≤ ·)) (h2:l.Nodup) (h3:∀z,z∈l↔z∈m):l=Di.eQ m:=by
 refine Di.QI ?_ (Di.pG m) (fun z=>(h3 z).trans (Di.fA m z).symm);exact(h1.and h2).imp fun⟨a,b⟩=>om
theorem JY (n):Go.Sort.bitsLen n=Di.bl n:=rfl
theorem qd (k:Nat) (hk:k<4611686018427387904) (w):
  Calls prog 262 #[.int .i64 (k:Int)] w fun e w'=>e= .returned (.int .i64 ((Di.mU k:Nat):Int))∧w'=w:=by
 unfold Di.mU;by_cases h0:k<1
 ·obtain rfl:k=0:=by omega
  go_enter func262,ntmps262;go_wp2;go_ret;exact⟨rfl,rfl⟩
 ·have h0':¬(k:Int)<1:=by omega
  have hb:=Al (Sr (k-1) om w);rw[show((k-1:Nat):Int)=(k:Int)-1 from om]at hb;rw[JY]at hb;go_enter func262,ntmps262;go_wp2_with (go_at_call 185;refine hb.1.mono ?_;rintro e w1 ⟨rfl,rfl⟩);go_ret;exact⟨rfl,rfl⟩
end
section
open Go.Shelf
open Go.Maps (Keyed)
theorem mq {w:World} {base n c sz A xs e} (h:w.ownsRow base e sz (.slice A n c) n xs) {g} (hg:ab A=some g):∃cs fr,w.heap[g]? =some (.cells cs e fr):=by
 rcases h.2 with⟨hv,_⟩|⟨g2,cap,cur,hv,_,hb,_⟩
 ·injection hv with hv1;rw[hv1]at hg;cases hg
 ·injection hv with hv1
  rw[hv1]at hg;obtain rfl:g2=g:=by simpa[ab]using hg
  exact⟨_,_,hb⟩
theorem GK {w:World} {base n c sz b m A xs e k P} {R:Value→Option (DataW Unit×List MemPlace)} {D} (h:w.ownsRow base e sz (.slice A n c) n xs) (hm:w.ownsMap P k R b m D):some b≠ab A:=fun e=>by
 obtain⟨cs,fr,hg⟩:=mq h e.symm;obtain⟨es,cl,hb,_⟩:=hm;rw[hg]at hb;cases hb
theorem jT {w:World} {base n c sz b r m cnt A xs e k P} {R:Value→Option (DataW Unit×List MemPlace)} {D left} (h:w.ownsRow base e sz (.slice A n c) n xs) (hm:w.ranges P k R b r m D left cnt):some r≠ab A:=fun e=>by
 obtain⟨cs,fr,hg⟩:=mq h e.symm;obtain⟨es,cl,si,se,c0,h1,h2,h3,h4,h5,_⟩:=hm;rw[hg]at h5;cases h5
structure DcI (w:World) (l:List Nat) (D:DataW Unit) (r n:Nat) (A:Option Addr) (c:Nat) (W:World) (acc:List Nat) (cnt:Nat):Prop where
 rg:W.ranges prog 125 (plainElem prog 4) w.heap.size r n D (JX D acc) cnt
 own:aG W w.heap.size A acc.length c acc
 nd:acc.Nodup
 sub:∀z∈acc,z∈l
 aX:Below w.heap.size w W
theorem iO:∀{l m:List Nat},l.Nodup→(∀x∈l,x∈m)→l.length≤m.length
 |[],m,_,_=>bf _
 |x::l,m,h,hs=>by
  obtain⟨h1,h2⟩:=List.nodup_cons.1 h;have hx:=hs x jO;have:=iO (m:=m.erase x) h2 (fun y hy=>(List.mem_erase_of_ne (fun e=>h1 (by rw[←e];exact hy))).2 (hs y (nU _ hy)));rw[List.length_erase_of_mem hx]at this;have:=List.length_pos_of_mem hx;simp only[Lc];omega
theorem Ta {w base n c A xs} (h:aG w base A n c xs) (hA:ab A≠none):∃g,A=some ⟨g,0,none⟩:=by
 rcases h.2 with⟨hv,_⟩|⟨g2,cap,cur,hv,_⟩
 ·injection hv with hv1;rw[hv1]at hA;exact absurd rfl hA
 ·injection hv with hv1;exact⟨g2,hv1⟩
theorem DcI.done {w W l D r n c cnt k m A acc ks wm} (I:DcI w l D r n A c W acc cnt) (hl:∀z,JX D acc z=false) (hm:Km wm k m D ks) (hk:∀z,z∈ks↔z∈l):∀z,z∈acc↔z∈l:=fun z=>by
 refine⟨I.sub z,fun hz=>?_⟩;have h1:=hl (kl z);have h2:Go.Maps.has D (kl z)=true:=(hm.has _).2 ⟨z,(hk z).2 hz,rfl⟩;unfold JX at h1;rw[h2,Bool.true_and,Bool.not_eq_false']at h1;obtain⟨x,hx,he⟩:=List.any_eq_true.1 h1;rw[←SV (WideAt.sameKey_eq he)];exact hx
theorem DcI.next {w W w1 w5 l D r n c cnt k m x cnt1 c4 A A4 acc ks wm} (I:DcI w l D r n A c W acc cnt) (hm:Km wm k m D ks) (hk:∀z,z∈ks↔z∈l) (hwr:w.heap.size≤r)
  (hlx:JX D acc (kl x)=true) (hrg:w1.ranges prog 125 (plainElem prog 4) w.heap.size r n D (fun z=>JX D acc z&&!z.sameKey (kl x)) cnt1) (hg1:W.grownBy w1 (some r)) (o)
  (h5:aG w5 w.heap.size A4 (acc.length+1) c4 (acc++[x])) (hg5:(w1.alloc o).grownBy w5 (ab A)):DcI w l D r n A4 c4 w5 (acc++[x]) cnt1:=by
 have WK:=hlx;unfold JX at WK;rw[DK,Bool.not_eq_true']at WK;obtain⟨y,hy,he⟩:=(hm.has _).1 WK.1;have hyx:=SV he;subst hyx;have hnx:y∉acc:=fun h=>by
  have:=List.any_eq_false.1 WK.2 y h;exact this (WideAt.sameKey_self (by unfold kl;trivial))
 have hown1:aG w1 w.heap.size A acc.length c acc:=ag I.own hg1 (.inr (fun e=>jT I.own I.rg e.symm));have hra:=hrg.alloc o;have hb:=I.aX;have hz:=hb.size;have hlA:∀g,ab A=some g→w.heap.size≤g:=fun g e=>(ae I.own g e).1
 refine⟨?_,by simpa using h5,?_,?_,?_⟩
 ·rw[JX.snoc];exact hra.kept hg5 (fun e=>GK hown1 hrg.owns e) (fun e=>jT hown1 hrg e)
 ·exact List.nodup_append.2 ⟨I.nd,Ah,fun a ha b hb'=>by obtain rfl:=iP.1 hb';exact fun e=>hnx (e▸ha)⟩
 ·intro z hz2;rcases gY.1 hz2 with h|h
  ·exact I.sub z h
  ·rw[iP.1 h];exact(hk y).1 hy
 ·have b1:=hb.grown hg1 hz (fun g e=>by cases e;exact hwr);exact(b1.alloc b1.size o).grown hg5 (by simp;have:=b1.size;omega) hlA
theorem GM (A n c B l w) (hr:j6 w B A n c l) (hB:B≤w.heap.size) (hx:∀x∈l,x<2^64) (hn:n≤1000000):
  Calls prog 261 #[.slice A n c] w fun e w'=>∃A2 c2,e= .returned (.slice A2 (Di.eQ l).length c2)∧aG w' w.heap.size A2 (Di.eQ l).length c2 (Di.eQ l)∧Below w.heap.size w w':=by
 have hln:=Al hr.len;have hlc:=hr.1;have hcm:=hr.2.1;unfold maxLen at hcm;have R0:=Al hr;have HX:=Al hx;clear hr hx;have hmm:= @run_makeMap prog;go_enter func261,ntmps261;go_wp2;go_loopw [11] (fun i wr=>∃(k:Nat) (D:DataW Unit) (ks:List Nat),k≤n∧i= .int .i64 (k:Int)∧Km wr w.heap.size k D ks∧Kept (∀z,z∈ks↔z∈l.take k)∧Below w.heap.size w wr) (fun i _=>n-(intOf i).toNat)
 case atStart=>exact⟨0,.map [],[],om,rfl,Km.made w,⟨Ah⟩,(Ae _ _).alloc Aj _⟩
 case round=>
  obtain⟨k,D,ks,hk,rfl,hm,HK,hb⟩:=hrel;by_cases hlt:k<n
  ·have hlt':(k:Int)< (n:Int):=by omega
   have hkl:k<l.length:=by have:=hln.1;omega
   obtain⟨bb,off,rfl,ni,hc0⟩:=((R0.1.below (hb.mono hB))).at_ hkl;have hxk:=HX.1 _ (dR hkl);obtain⟨x,hq⟩:∃x,x=l[k]:=⟨_,rfl⟩
   rw[←hq]at hc0 hxk;have HQ:=Al hq;have MP:=Al hm;have HB:=Al hb;have HKY:=Al (SX hxk);have hz:=hb.size;clear hm hb hq;go_wp2_with (at_mapUpdate;refine wpList_mapUpdate_own _ rfl _ _ _ 386 rfl 125 4 WJ underlying386 _ w.heap.size k _ rfl MP.1.1 (by unfold maxLen;omega) _ _ _ rfl rfl HKY.1 _ [] (plainElem_bool underlying4 true) ?_;intro w1 hown1 hgrow1;have M1:=Al (MP.1.put x hown1);have B1:=Al (HB.1.grown hgrow1 hz (fun g e=>by cases e;exact Nr _));clear hown1 hgrow1);go_roundw
   case rel=>
    refine⟨k+1,_,_,om,by go_num,M1.1,⟨fun z=>?_⟩,B1.1⟩;rw[Ts hkl,←HQ.1,gY,iW,EH,HK.1 z];by_cases hzx:z=x<;>simp[hzx]
   case measure=>simp[intOf];omega
  ·obtain rfl:k=n:=by omega
   have hall:∀z,z∈ks↔z∈l:=fun z=>by rw[HK.1 z,jc (by have:=hln.1;omega)]
   have hsl:ks.length≤1000000:=Lt (iO hm.2.choose_spec.2.2 (fun x h=>(hall x).1 h)) (by have:=hln.1;omega);have HA:=Al hall;have MP:=Al hm;have HB:=Al hb;have hsz:=Al hm.size;have hz:=hb.size;clear hm hb HK;have hlen:=MP.1.1.len underlying386 3;rw[hsz.1]at hlen;have aln:(ks.length:Int)≤1000000:=om;obtain⟨i0,hi0,hz0,hz1,hz2⟩:=AY Yd;obtain⟨wm,hmk,hown0,WL⟩:=run_make_own wr w.heap.size 284 125 i0 _ 1 underlying284 hi0 hz0 hz1 .i64 .i64 ks.length (by rw[hz2];omega) (by unfold maxLen;omega) hz;have MPm:=Al (MP.1.kept WL Ah);have HBm:=Al (HB.1.grown WL hz (fun g e=>by cases e));have HO0:=Al hown0;have hzm:=WL.size;clear hi0 hz0 hz1 hz2 hown0 WL;go_wp2_with (at_range;refine wpList_range_own _ rfl _ 386 rfl 125 4 WJ underlying386 _ w.heap.size k _ rfl MPm.1.1 ?_;intro w0 hrg0 hg0 hs0;have RG0:=Al hrg0;have G0:=Al hg0;have hzz:=Nat.le_of_eq hs0.symm;clear hrg0 hg0 hs0);obtain⟨r,hrr⟩:∃r,r=wm.heap.size:=⟨_,rfl⟩
   rw[←hrr]at RG0⊢;have hrm:Kept (r=wm.heap.size):=⟨hrr⟩
   have hwr:w.heap.size≤r:=om;clear hrr hmk hlen MP HB;have I0:DcI w l D r k (some ⟨wr.heap.size,0,none⟩) ks.length w0 [] (Go.Maps.size D):=
    ⟨by rw[JX.nil];exact RG0.1,ag HO0.1 G0.1 (.inr (by simp[ab])),List.nodup_nil,Ah,HBm.1.grown G0.1 om (fun g e=>by cases e)⟩
   go_frame;go_loopw [6] (fun v W=>∃(A2:Option Addr) (c2:Nat) (acc:List Nat) (cnt:Nat),v= .slice A2 acc.length c2∧DcI w l D r k A2 c2 W acc cnt∧ab A2≠none) (fun _ W=>W.rangeLeft w.heap.size r)
   case atStart=>exact⟨_,_,[],_,rfl,I0,by simp[ab]⟩
   case round=>
    clear RG0 G0 HBm HO0 I0;obtain⟨A2,c2,acc,cnt,rfl,I,hA2⟩:=hrel;have HI:=Al I;have vz:=Al I.rg.left_eq;clear I;go_wp2_with (at_next;refine wpList_next_ranges (α:=Nat) (β:=Bool) _ rfl _ rfl 125 WJ _ (fun x=> .int .u64 (x:Int)) Value.bool ?_ ?_ w.heap.size r k _ _ _ rfl HI.1.rg ?_ ?_)
    ·intro key l0 h;obtain⟨z,rfl,_,hw⟩:=Go.Maps.keyOf_int_inv underlying125 h;have h1:IntKind.u64.min=0:=rfl;have h0:0≤z:=by
      simp only[Lit.wf,h1,DK,decide_eq_true_eq]at hw;exact hw.1
     exact⟨z.toNat,by rw[Int.toNat_of_nonneg h0]⟩
    ·intro v y h;obtain⟨z,rfl,_⟩:=nA underlying4 h;exact⟨z,rfl⟩
    ·intro hc0 hl0;obtain⟨g,rfl⟩:=Ta HI.1.own hA2;have hmem:=HI.1.done hl0 MPm.1 HA.1;have hal:acc.length≤1000000:=Lt (iO HI.1.nd HI.1.sub) (by have:=hln.1;omega);have SO:=Al (Oe w.heap.size g acc.length c2 acc wr HI.1.own om);have HM:=Al hmem;have HNd:=Al HI.1.nd;have HB2:=Al HI.1.aX;have hgl:=(ae HI.1.own g rfl).1;clear hmem hall;go_wp2_with (go_at_call 282;refine SO.1.mono ?_;rintro e w9 ⟨rfl,l',hp,hu,ho,hg⟩;have HP:=Al hp;have HU:=Al hu;have HO9:=Al ho;have HG9:=Al hg;clear hp hu ho hg);go_ret;have el:l'=Di.eQ l:=acZ HU.1 (HP.1.nodup_iff.2 HNd.1) (fun z=>HP.1.mem_iff.trans (HM.1 z));have ell:acc.length=(Di.eQ l).length:=by rw[←el];exact HP.1.length_eq.symm
     have ho:=HO9.1;rw[el,ell]at ho;exact⟨_,c2,by rw[ell];rfl,ho,HB2.1.grown HG9.1 HB2.1.size (fun j e=>by cases e;exact hgl)⟩
    ·intro x;refine⟨?_,?_⟩
     all_goals
      intro l0 a0 b0 w1 cnt1 hkey hlx hRv hat hrg1 hlt1 hg1 hs1 hen;have hl0:l0=kl x:=by
       obtain⟨z,e,rfl,_⟩:=Go.Maps.keyOf_int_inv underlying125 hkey
       injection e with _ e
       rw[←e];rfl
      subst hl0;have NX:=Al (fun(o:Obj) (w5:World) (A4:Option Addr) (c4:Nat)=>HI.1.next (w5:=w5) (A4:=A4) (c4:=c4) MPm.1 HA.1 hwr hlx hrg1 hg1 o);have O1:=Al (show aG w1 w.heap.size A2 acc.length c2 acc from ag HI.1.own hg1 (.inr (fun e=>jT HI.1.own HI.1.rg e.symm)));have hal:acc.length≤1000000:=Lt (iO HI.1.nd HI.1.sub) (by have:=hln.1;omega);have hz1:w.heap.size≤w1.heap.size:=by rw[hs1];exact HI.1.aX.size
      have hzb:w.heap.size≤(w1.alloc (.cells #[.int .u64 (x:Int)] 125)).heap.size:=by simp;omega
      have hmr:=vz.1;clear hkey hlx hRv hat hrg1 hg1 hs1 hall;go_wp2_with (at_builtin;refine dF rfl (.tmp 27) (.tmp 29) rfl w.heap.size A2 acc.length c2 _ rfl (Oa O1.1 _) _ _ _ _ _ rfl (j6.one w1 x) om hzb ?_;intro A4 c4 w5 au af bT;have O4:=Al au;have G4:=Al af;have AT:=Al bT;clear au af bT);have IX:=NX.1 _ _ _ _ O4.1 G4.1;go_roundw
      case rel=>exact⟨A4,c4,acc++[x],cnt1,Ah,IX,by rcases AT.1 with h|h<;>rw[h]<;>simp[hA2]⟩
      case measure=>rw[IX.rg.left_eq,hmr];exact hlt1
end
section
open Go.Shelf
theorem Di.Tc {d} (h:Di.Up d) {i j} (hi:i<d.length) (hj:j<d.length):d[i]<d[j]↔i<j:=by
 have P:=AF.1 h;constructor
 ·intro hd;rcases Dj i j with q|q|q
  ·exact q
  ·subst q;omega
  ·have:=P _ _ hj hi q;omega
 ·intro q;exact P _ _ hi hj q
theorem GN (A n c B q x d w) (hr:j6 w B A n c d) (_hB:B≤w.heap.size) (hq:q<d.length) (hx:x=d[q]) (hu:Di.Up d) (hn:n≤1000000):
  Calls prog 263 #[.slice A n c,.int .u64 (x:Int)] w fun e w'=>e= .returned (.tuple #[.int .i64 (q:Int),.bool true])∧∃m,w'=w.drewN m:=by
 have hln:=Al hr.len;have hlc:=hr.1;have hcm:=hr.2.1;unfold maxLen at hcm;have hqn:q<n:=by rw[hr.len];exact hq
 obtain⟨bb,off,rfl,ni,-⟩:=hr.at_ hq;have hcell:∀t,t<n→∃v,w.cell? ⟨bb,off+t,none⟩=some (.int .u64 (v:Nat))∧(v<x↔t<q)∧(t=q→v=x):=fun t ht=>by
  have htl:t<d.length:=by have:=hln.1;omega
  obtain⟨b2,o2,e2,_,h2⟩:=hr.at_ htl;simp only[gU,Ce]at e2;obtain⟨rfl,rfl,-⟩:=e2;exact⟨d[t],h2,by rw[hx];exact Di.Tc hu htl hq,fun e=>by subst e;exact hx.symm⟩
 have HC:=Al hcell;clear hr hcell hx hq;go_enter func263,ntmps263;go_wp2;go_loopw [7,8] (fun vi vj wr=>∃i j m:Nat,vi= .int .i64 (i:Int)∧vj= .int .i64 (j:Int)∧i≤q∧q≤j∧j≤n∧i≤j∧wr=w.drewN m) (fun vi vj _=>(intOf vj-intOf vi).toNat)
 case atStart=>exact⟨0,n,0,rfl,rfl,om,om,Nr _,om,rfl⟩
 case round=>
  obtain⟨i,j,m,rfl,rfl,hi,hj,hjn,hij,rfl⟩:=hrel;by_cases hlt:i<j
  ·have hlt':(i:Int)< (j:Int):=by omega
   obtain⟨h,hh⟩:∃h,h=(i+j)/2:=⟨_,rfl⟩
   have hh1:((i:Int)+(j:Int))/2=(h:Int):=om;have hhn:h<n:=om;have hh2:i≤h∧h<j:=om;obtain⟨v,hc,hv,-⟩:=HC.1 h hhn;have hcd:(w.drewN m).cell? ⟨bb,off+h,none⟩=some (.int .u64 (v:Nat)):=hc;clear hh hc;by_cases hvx:v<x
   ·have hl:Sort.ltInt (v:Int) (x:Int)=true:=by simp[Sort.ltInt];omega
    have hhq:=hv.1 hvx;have L:=Al (aB (v:Int) (x:Int) (w.drewN m));rw[hl]at L;go_wp2_with (go_at_call 283;refine L.1.mono ?_;rintro e w1 ⟨rfl,rfl⟩);go_roundw
    case rel=>exact⟨h+1,j,m,by go_num,rfl,om,hj,hjn,om,rfl⟩
    case measure=>simp[intOf];omega
   ·have hl:Sort.ltInt (v:Int) (x:Int)=false:=by simp[Sort.ltInt];omega
    have hhq:¬h<q:=fun e=>hvx (hv.2 e)
    have L:=Al (aB (v:Int) (x:Int) (w.drewN m));rw[hl]at L;go_wp2_with (go_at_call 283;refine L.1.mono ?_;rintro e w1 ⟨rfl,rfl⟩);go_roundw
    case rel=>exact⟨i,h,m,rfl,rfl,hi,om,om,om,rfl⟩
    case measure=>simp[intOf];omega
  ·obtain rfl:i=q:=by omega
   have hji:j=i:=om;subst hji;obtain⟨v,hc,-,hv⟩:=HC.1 _ hqn;obtain rfl:=hv rfl;have hcd:(w.drewN m).cell? ⟨bb,off+j,none⟩=some (.int .u64 (v:Nat)):=hc;have aal:(j:Int)< (n:Int):=om;clear hc hv;go_wp2_with fail;go_ret2;exact⟨rfl,m,rfl⟩
theorem w64 {z} (h0:0≤z) (h1:z≤10000000000):wrap64 z=z:=by unfold wrap64;omega
theorem Oh {z} (h0:0≤z) (h1:z≤10000000000):IntKind.i64.wrap z=z:=by
 have h:=w64 h0 h1;unfold wrap64 at h;rw[AZ];exact h
def Di.JZ (l:List Nat):Int:=if 128< (Di.eQ l).length then-1 else if(Di.eQ l).length=0 then 0 else 7+(Di.eQ l).length*64+l.length*Di.mU (Di.eQ l).length
theorem Di.J3 {k} (h:k≤128):Di.mU k≤7:=by
 have:=(Go.Sort.bitsLen_le_iff (k-1) 7).2 om;exact this
theorem Oi (A n c B l w) (hr:j6 w B A n c l) (hB:B≤w.heap.size) (hx:∀x∈l,x<2^64) (hn:n≤1000000):
  Calls prog 221 #[.slice A n c] w fun e w'=>e= .returned (.int .i64 (Di.JZ l))∧Below w.heap.size w w':=by
 have D0:=Al (GM A n c B l w hr hB hx hn);have hln:=Al hr.len;have hkl:(Di.eQ l).length≤1000000:=Lt (iO ((Di.pG l).imp fun h=>Nat.ne_of_lt h) (fun x h=>(Di.fA l x).1 h)) (by have:=hln.1;omega);unfold Di.JZ;generalize Di.eQ l=d at*;obtain⟨k,hk⟩:∃k,d.length=k:=⟨_,rfl⟩
 rw[hk]at D0 hkl⊢;have hnl:Kept ((l.length:Int)=(n:Int)):=⟨by have:=hln.1;omega⟩
 rw[hnl.1];clear hr hk hx;have vQ:k<4611686018427387904:=om;have W0:=Al (fun w=>qd k vQ w);have hw7:k≤128→Di.mU k≤7:=Di.J3;generalize Di.mU k=v at*;by_cases h1:128<k
 ·rw[Ps0 h1];have h1':(128:Int)< (k:Int):=om;go_enter func221,ntmps221;go_wp2_with (go_at_call 261;refine D0.1.mono ?_;rintro e w1 ⟨A2,c2,rfl,ho,hb⟩;have B1:=Al hb;clear ho hb);go_ret;exact⟨rfl,B1.1⟩
 ·have h1':¬(128:Int)< (k:Int):=by omega
  rw[Ng h1];by_cases h2:k=0
  ·subst h2;rw[Ps0 rfl];go_enter func221,ntmps221;go_wp2_with (go_at_call 261;refine D0.1.mono ?_;rintro e w1 ⟨A2,c2,rfl,ho,hb⟩;have B1:=Al hb;clear ho hb);go_ret;exact⟨rfl,B1.1⟩
  ·rw[Ng h2];have h2':¬(k:Int)=0:=om;have hv:=hw7 om;have hnv:n*v≤7000000:=Nat.mul_le_mul hn hv;have ac1:(n:Int)*(v:Int)=((n*v:Nat):Int):=by rw[Int.natCast_mul]
   have e0:0≤(n:Int)*(v:Int)∧(n:Int)*(v:Int)≤7000000:=by rw[ac1];omega
   have e1:IntKind.i64.wrap ((k:Int)*64)=(k:Int)*64:=Oh om om;have e2:IntKind.i64.wrap ((n:Int)*(v:Int))=(n:Int)*(v:Int):=Oh e0.1 om;have e3:wrap64 ((n:Int)*(v:Int))=(n:Int)*(v:Int):=w64 e0.1 om;have e4:wrap64 (7+(k:Int)*64+(n:Int)*(v:Int))=7+(k:Int)*64+(n:Int)*(v:Int):=w64 om om;have e5:IntKind.i64.wrap (7+(k:Int)*64+(n:Int)*(v:Int))=7+(k:Int)*64+(n:Int)*(v:Int):=Oh om om;clear ac1;go_enter func221,ntmps221;go_wp2_with (first
    |(go_at_call 262;refine(W0.1 _).mono ?_;rintro e w1 ⟨rfl,rfl⟩)
    |(go_at_call 261;refine D0.1.mono ?_;rintro e w1 ⟨A2,c2,rfl,ho,hb⟩;have B1:=Al hb;clear ho hb))
   go_ret;exact⟨rfl,B1.1⟩
end
section
open Go.Shelf
def Di.GQ (r:List Bool):List Nat×List Bool×Int:=if(Tm.rd 7 r).2.2≠0 then([],(Tm.rd 7 r).2)else Di.gd ((Tm.rd 7 r).1+1) [] (Tm.rd 7 r).2.1
structure GdI (w:World) (p K:Nat) (Q:List Nat×List Bool×Int) (i:Nat) (A:Option Addr) (c:Nat) (W:World) (acc:List Nat) (r:List Bool):Prop where
 gd:Di.gd (K-i) acc r=Q
 len:acc.length=i
 own:aG W w.heap.size A i c acc
 br:Br W p r
 grown:w.grownBy W (some p)
theorem Di.WM (acc r):Di.gd 0 acc r=(acc,r,0):=by simp[Di.gd]
theorem Di.WN {m} (hm:0<m) (acc r):Di.gd m acc r=if(Tm.rd 64 r).2.2≠0 then([],(Tm.rd 64 r).2)else if∃y∈acc.getLast?,(Tm.rd 64 r).1≤y then([],(Tm.rd 64 r).2.1,8)else Di.gd (m-1) (acc++[(Tm.rd 64 r).1]) (Tm.rd 64 r).2.1:=by
 obtain⟨k,rfl⟩:∃k,m=k+1:=⟨m-1,om⟩
 rw[Di.gd];rfl
theorem Ol (p r w) (h:Br w p r):
  Calls prog 264 #[.pointer (some ⟨p,0,none⟩)] w fun e w'=>∃A2 n2 c2,e= .returned (.tuple #[.slice A2 n2 c2,.int .i64 (Di.GQ r).2.2])∧aG w' w.heap.size A2 n2 c2 (Di.GQ r).1∧Br w' p (Di.GQ r).2.1∧w.grownBy w' (some p):=by
 have hp:=h.lt;have RB:=Al (dG p 7 r w h om);have hlt:=Tm.jC 7 r;have mM:=Tm.qc 7 r;obtain⟨X,hX⟩:∃X,X=Di.GQ r:=⟨_,rfl⟩
 rw[←hX];unfold Di.GQ at hX;generalize Tm.rd 7 r=Y at*;obtain⟨k,r1,e1⟩:=Y;simp only[]at RB hlt mM hX;clear h;rcases mM with rfl|rfl
 ·rw[Ng Ah]at hX;have HX:=Al hX.symm;obtain⟨K,hK⟩:∃K,K=k+1:=⟨_,rfl⟩
  rw[←hK]at HX;have hki:(k:Int)+1=(K:Int):=om;have hks:IntKind.i64.wrap (k:Int)=(k:Int):=Oh om om;have hK1:K≤128:=om;clear hX hK;go_enter func264,ntmps264;go_wp2_with (go_at_call 213;refine RB.1.mono ?_;rintro e w1 ⟨rfl,hb,hg⟩;have B1:=Al hb;have G1:=Al hg;clear hb hg);go_loopw [6,21] (fun v iv wr=>∃(i:Nat) (A2:Option Addr) (c2:Nat) (acc:List Nat) (r2:List Bool),v= .slice A2 i c2∧iv= .int .i64 (i:Int)∧i≤K∧GdI w p K X i A2 c2 wr acc r2) (fun _ iv _=>K-(intOf iv).toNat)
  case atStart=>exact⟨0,none,0,[],r1,rfl,rfl,bf _,HX.1,rfl,⟨rfl,.inl ⟨rfl,rfl⟩⟩,B1.1,G1.1⟩
  case round=>
   clear B1 G1 HX;obtain⟨i,A2,c2,acc,r2,rfl,rfl,hiK,I⟩:=hrel;have HI:=Al I;clear I;by_cases hi:i<K
   ·have hi':(i:Int)< (K:Int):=by omega
    have RB2:=Al (dG p 64 r2 wr HI.1.br om);have hst:=Al (Di.WN (m:=K-i) om acc r2);rw[HI.1.gd]at hst;have mM:=Tm.qc 64 r2;have hlt2:=Tm.jC 64 r2;generalize Tm.rd 64 r2=Y at*;obtain⟨x,r3,e3⟩:=Y;simp only[]at RB2 hst mM hlt2;have O1:=Al (show∀w2,wr.grownBy w2 (some p)→aG w2 w.heap.size A2 i c2 acc from fun w2 hg=>kW HI.1.own hg hp);rcases mM with rfl|rfl
    ·rw[Ng Ah]at hst;have hwr:=HI.1.grown.size;by_cases hi0:i=0
     ·subst hi0;have ha:acc=[]:=qU HI.1.len;subst ha;rw[Ng Ah]at hst;go_wp2_with (first
       |(at_builtin;refine dF rfl (.tmp 45) (.tmp 47) rfl w.heap.size A2 0 c2 _ rfl (Oa O2.1 _) _ _ _ _ _ rfl (j6.one w2 x) om (by have:=G2.1.size;simp;omega) ?_;intro A4 c4 w5 au af bT;have O4:=Al au;have B4:=Al ((B2.1.grown (Ga w2 _ none) (fun g e=>by cases e)).grown af (fun g e=>by have:=(ae O2.1 g e).1;omega));have G4:=Al ((G2.1.andThen (Ga w2 _ none) (fun j hj=>by cases hj)).andThen af (fun j hj=> .inl (ae O2.1 j hj).1));clear au af bT)
       |(go_at_call 213;refine RB2.1.mono ?_;rintro e w2 ⟨rfl,hb,hg⟩;have B2:=Al hb;have G2:=Al (HI.1.grown.trans hg);have O2:=Al (O1.1 w2 hg);clear hb hg))
      go_roundw
      case rel=>
       refine⟨1,A4,c4,[x],r3,rfl,by go_num,om,?_,rfl,O4.1,B4.1,G4.1⟩;rw[show K-1=K-0-1 from om];exact hst.1.symm
      case measure=>simp[intOf];omega
     ·have hl:=HI.1.len;have hil:i-1<acc.length:=om;have hlast:acc.getLast? =some acc[i-1]:=by
       rw[List.getLast?_eq_getElem?,hl];exact kC hil
      rw[hlast]at hst;obtain⟨g,rfl,hg1,hg2⟩:=HI.1.own.pos om;have CE:=Al (fun(w2:World) (hg:wr.grownBy w2 (some p))=>((O1.1 w2 hg).at_ hil).1);have hx0:(0:Int)< (i:Int):=om;have hcap:=HI.1.own.rd.1;generalize acc[i-1]=y at*;clear hlast hil;by_cases hxy:x≤y
      ·rw[Ps0 ⟨y,rfl,hxy⟩]at hst;have hxy':(x:Int)≤(y:Int):=om;go_wp2_with (go_at_call 213;refine RB2.1.mono ?_;rintro e w2 ⟨rfl,hb,hg⟩;have B2:=Al hb;have G2:=Al (HI.1.grown.trans hg);have k0:=CE.1 w2 hg;clear hb hg);go_ret2;rw[hst.1];exact⟨none,0,0,rfl,⟨rfl,.inl ⟨rfl,rfl⟩⟩,B2.1,G2.1⟩
      ·rw[Ng (by rintro⟨z,hz,hxz⟩;cases hz;exact hxy hxz)]at hst;have hxy':¬(x:Int)≤(y:Int):=om;go_wp2_with (first
        |(at_builtin;refine dF rfl (.tmp 45) (.tmp 47) rfl w.heap.size (some ⟨g,0,none⟩) i c2 _ rfl (Oa O2.1 _) _ _ _ _ _ rfl (j6.one w2 x) om (by have:=G2.1.size;simp;omega) ?_;intro A4 c4 w5 au af bT;have O4:=Al au;have B4:=Al ((B2.1.grown (Ga w2 _ none) (fun g e=>by cases e)).grown af (fun g e=>by have:=(ae O2.1 g e).1;omega));have G4:=Al ((G2.1.andThen (Ga w2 _ none) (fun j hj=>by cases hj)).andThen af (fun j hj=> .inl (ae O2.1 j hj).1));clear au af bT)
        |(go_at_call 213;refine RB2.1.mono ?_;rintro e w2 ⟨rfl,hb,hg⟩;have B2:=Al hb;have G2:=Al (HI.1.grown.trans hg);have O2:=Al (O1.1 w2 hg);have k0:=CE.1 w2 hg;clear hb hg))
       go_roundw
       case rel=>
        refine⟨i+1,A4,c4,acc++[x],r3,rfl,by go_num,om,?_,by simp[HI.1.len],O4.1,B4.1,G4.1⟩;rw[show K-(i+1)=K-i-1 from om];exact hst.1.symm
       case measure=>simp[intOf];omega
    ·rw[Ps0 Ah]at hst;go_wp2_with (go_at_call 213;refine RB2.1.mono ?_;rintro e w2 ⟨rfl,hb,hg⟩;have B2:=Al hb;have G2:=Al (HI.1.grown.trans hg);clear hb hg);go_ret2;rw[hst.1];exact⟨none,0,0,rfl,⟨rfl,.inl ⟨rfl,rfl⟩⟩,B2.1,G2.1⟩
   ·obtain rfl:i=K:=by omega
    have hq:Kept (X=(acc,r2,0)):=⟨by rw[←HI.1.gd,Dz,Di.WM]⟩
    go_wp2;go_ret2;rw[hq.1];exact⟨A2,i,c2,rfl,HI.1.own,HI.1.br,HI.1.grown⟩
 ·rw[Ps0 Ah]at hX;have HX:=Al hX;clear hX;go_enter func264,ntmps264;go_wp2_with (go_at_call 213;refine RB.1.mono ?_;rintro e w1 ⟨rfl,hb,hg⟩;have B1:=Al hb;have G1:=Al hg;clear hb hg);go_ret2;rw[HX.1];exact⟨none,0,0,rfl,⟨rfl,.inl ⟨rfl,rfl⟩⟩,B1.1,G1.1⟩
end
section
open Go.Shelf
theorem Di.aam {r} (h:(Di.GQ r).2.2=0):Di.Up (Di.GQ r).1∧(∀x∈(Di.GQ r).1,x<2^64)∧1≤(Di.GQ r).1.length∧(Di.GQ r).1.length≤128:=by
 unfold Di.GQ at*;have h7:=Tm.jC 7 r;by_cases h0:(Tm.rd 7 r).2.2≠0
 ·rw[Ps0 h0]at h;exact absurd h h0
 ·rw[Ng h0]at h⊢;obtain⟨m,hm,hl,hu,hx,-⟩:=Di.QL ((Tm.rd 7 r).1+1) [] (Tm.rd 7 r).2.1 _ _ List.Pairwise.nil (show Di.gd ((Tm.rd 7 r).1+1) [] (Tm.rd 7 r).2.1=(_,_,0)by rw[←h]);refine⟨hu,?_,?_,?_⟩
  ·rw[hm];simpa using hx
  ·rw[hm];simp;omega
  ·rw[hm];simp;omega
theorem Di.WR (n r):Di.dec n r=if n=0 then([],r,0)else if(Di.GQ r).2.2≠0 then([],(Di.GQ r).2)else Di.vS n (Di.GQ r).1 (Di.GQ r).2.1:=by
 unfold Di.dec Di.GQ;by_cases h0:(Tm.rd 7 r).2.2≠0
 ·simp only[Ps0 h0]
 ·simp only[Ng h0]
theorem Di.WT {m} (hm:0<m) (d acc r):Di.gv d m acc r=if(Tm.rd (Di.mU d.length) r).2.2≠0 then([],(Tm.rd (Di.mU d.length) r).2)else if d.length≤(Tm.rd (Di.mU d.length) r).1 then([],(Tm.rd (Di.mU d.length) r).2.1,8)else Di.gv d (m-1) (acc++[d.getD (Tm.rd (Di.mU d.length) r).1 0]) (Tm.rd (Di.mU d.length) r).2.1:=by
 obtain⟨k,rfl⟩:∃k,m=k+1:=⟨m-1,om⟩
 rw[Di.gv];rfl
theorem Di.count {d acc ks:List Nat} (hu:Di.Up d) (hk:∀i∈ks,i<d.length) (hn:ks.Nodup) (hm:∀z,z∈acc↔∃i∈ks,d.getD i 0=z):(Di.eQ acc).length=ks.length:=by
 have e:∀i (h:i<d.length),d.getD i 0=d[i]:=fun i h=>by rw[jN,kC h];rfl
 have hnd:(ks.map fun i=>d.getD i 0).Nodup:=by
  refine Ea.2 (hn.imp_of_mem fun{i j} hi hj hne hij=>hne ?_);rw[e i (hk i hi),e j (hk j hj)]at hij;rcases Dj i j with q|q|q
  ·have:=(Di.Tc hu (hk i hi) (hk j hj)).2 q;omega
  ·exact q
  ·have:=(Di.Tc hu (hk j hj) (hk i hi)).2 q;omega
 have h1:(Di.eQ acc).Nodup:=(Di.pG acc).imp fun h=>Nat.ne_of_lt h
 have hs:∀z,z∈Di.eQ acc↔z∈ks.map fun i=>d.getD i 0:=fun z=>by
  rw[Di.fA,hm z,dV]
 have a:=iO h1 (fun z h=>(hs z).1 h);have b:=iO hnd (fun z h=>(hs z).2 h);rw[fM]at a b;omega
structure DgI (w:World) (p n b K:Nat) (A2:Option Addr) (c2:Nat) (d:List Nat) (Q:List Nat×List Bool×Int) (j:Nat) (A:Option Addr) (c:Nat) (W:World) (acc:List Nat) (r:List Bool) (D:DataW Unit) (ks:List Nat):Prop where
 gv:Di.gv d (n-j) acc r=Q
 len:acc.length=j
 own:aG W (b+1) A j c acc
 eQ:aG W w.heap.size A2 K c2 d
 below:∀g,ab A2=some g→g<b
 km:Km W b j D ks
 mem:∀z,z∈acc↔∃i∈ks,d.getD i 0=z
 idx:∀i∈ks,i<K
 br:Br W p r
 grown:w.grownBy W (some p)
 le:w.heap.size≤b
theorem DgI.next {w W w2 w3 w5 p n b K c2 j c i c4 A2 A A4 d acc ks Q r r4 D E} (I:DgI w p n b K A2 c2 d Q j A c W acc r D ks)
  (hp:p<w.heap.size) (hst:Q=Di.gv d (n-j-1) (acc++[d.getD i 0]) r4) (hi:i<K) (_:j<n) (hb2:Br w2 p r4) (hg2:W.grownBy w2 (some p)) (Jy:w3.ownsMap prog 125 (plainElem prog 4) b (j+1) (D.put (kl i) E)) (hg3:w2.grownBy w3 (some b)) (o)
  (h5:aG w5 (b+1) A4 (j+1) c4 (acc++[d.getD i 0])) (hg5:(w3.alloc o).grownBy w5 (ab A)):DgI w p n b K A2 c2 d Q (j+1) A4 c4 w5 (acc++[d.getD i 0]) r4 (D.put (kl i) E) (i::ks.filter (· ≠i)):=by
 have hlb:=I.le;have hlA:∀g,ab A=some g→b+1≤g:=fun g e=>(ae I.own g e).1
 have hga:w3.grownBy (w3.alloc o) none:=Ga w3 o none;have hd2:aG w2 w.heap.size A2 K c2 d:=kW I.eQ hg2 hp;have hd3:aG w3 w.heap.size A2 K c2 d:=ag hd2 hg3 (by
  rcases hA:ab A2 with _|g
  ·exact .inl rfl
  ·exact .inr fun e=>by have:=I.below g hA;have:=Oj e;omega)
 have hd4:aG (w3.alloc o) w.heap.size A2 K c2 d:=Oa hd3 o;have hd5:aG w5 w.heap.size A2 K c2 d:=ag hd4 hg5 (by
  rcases hA:ab A2 with _|g
  ·exact .inl rfl
  ·refine .inr fun e=>?_
   have h1:=I.below g hA;have h2:=hlA g e.symm;omega)
 have ZC:Km w3 b (j+1) (D.put (kl i) E) (i::ks.filter (· ≠i)):=(I.km.kept hg2 (fun e=>by have:=Oj e;omega)).put i Jy;have Ql:=(ZC.kept hga Ah).kept hg5 (fun e=>by have:=hlA b e.symm;omega);have hb5:=(((hb2.grown hg3 (fun g e=>by cases e;omega)).grown hga (fun g e=>by cases e)).grown hg5 (fun g e=>by have:=hlA g e;omega))
 have hgr:=(((I.grown.trans hg2).andThen hg3 (fun j hj=> .inl (by cases hj;exact hlb))).andThen hga (fun j hj=>by cases hj)).andThen hg5 (fun j hj=> .inl (by have:=hlA j hj;omega));refine⟨by rw[show n-(j+1)=n-j-1 from om];exact hst.symm,by simp[I.len],h5,hd5,I.below,Ql,fun z=>?_,fun q hq=>?_,hb5,hgr,hlb⟩
 ·rw[gY,I.mem z,iP];constructor
  ·rintro(⟨q,hq,rfl⟩|rfl)
   ·by_cases hqi:q=i
    ·exact⟨i,Ah,by rw[hqi]⟩
    ·exact⟨q,by simp[hq,hqi],rfl⟩
   ·exact⟨i,Ah,rfl⟩
  ·rintro⟨q,hq,rfl⟩;rcases iW.1 hq with rfl|hq
   ·exact .inr rfl
   ·exact .inl ⟨q,(EH.1 hq).1,rfl⟩
 ·rcases iW.1 hq with rfl|hq
  ·exact hi
  ·exact I.idx q (EH.1 hq).1
theorem Td (p n:Nat) (r w) (h:Br w p r) (hn:n≤1000000):
  Calls prog 223 #[.pointer (some ⟨p,0,none⟩),.int .i64 (n:Int)] w fun e w'=>∃A2 n2 c2,e= .returned (.tuple #[.slice A2 n2 c2,.int .i64 (Di.dec n r).2.2])∧aG w' w.heap.size A2 n2 c2 (Di.dec n r).1∧Br w' p (Di.dec n r).2.1∧w.grownBy w' (some p):=by
 have hp:=h.lt;have GD:=Al (Ol p r w h);have hok:= @Di.aam r;obtain⟨X,hX⟩:∃X,X=Di.dec n r:=⟨_,rfl⟩
 rw[←hX];rw[Di.WR]at hX;generalize Di.GQ r=Y at*;obtain⟨d,r1,e1⟩:=Y;simp only[]at GD hok hX;have H0:=Al h;clear h;have hnn:¬(n:Int)<0:=om;by_cases hn0:n=0
 ·subst hn0;rw[Ps0 rfl]at hX;have HX:=Al hX;clear hX;go_enter func223,ntmps223;go_wp2;go_ret2;rw[HX.1];exact⟨none,0,0,rfl,⟨rfl,.inl ⟨rfl,rfl⟩⟩,H0.1,⟨rfl,rfl,rfl,Nr _,fun _ _ _=>rfl⟩⟩
 ·have hn1:¬(n:Int)=0:=by omega
  rw[Ng hn0]at hX;by_cases he:e1=0
  ·subst he;rw[Ng Ah]at hX;obtain⟨hu,ma,hK0,hK1⟩:=hok rfl;obtain⟨Q,hQ⟩:∃Q,Di.gv d n [] r1=Q:=⟨_,rfl⟩
   obtain⟨K,hKd⟩:∃K,d.length=K:=⟨_,rfl⟩
   have HX:Kept (X=if Q.2.2≠0 then([],Q.2)else if(Di.eQ Q.1).length<K then([],Q.2.1,8)else Q):=⟨by rw[hX];unfold Di.vS;rw[hQ,hKd]⟩
   rw[hKd]at hK0 hK1;have HQ:=Al hQ;have HU:=Al hu;have HKd:=Al hKd;have W0:=Al (fun w=>qd K om w);have hv7:Di.mU K≤7:=Di.J3 hK1;have hmm:= @run_makeMap prog;clear hX hok hQ hu ma;have hKu:IntKind.u64.wrap (K:Int)=(K:Int):=by rw[Bw];omega
   go_enter func223,ntmps223;go_wp2_with (go_at_call 264;refine GD.1.mono ?_;rintro e w1 ⟨A2,n2,c2,rfl,ho,hb,hg⟩;obtain rfl:n2=K:=ho.len.trans hKd;have B1:=Al hb;have G1:=Al hg;have O1:=Al ho;clear ho hb hg);obtain⟨v,hv⟩:∃v,Di.mU n2=v:=⟨_,rfl⟩
   rw[hv]at W0 hv7;have HV:=Al hv;have hA2:∃g,A2=some ⟨g,0,none⟩∧w.heap.size≤g∧g<w1.heap.size:=O1.1.pos om;obtain⟨g,rfl,hg1,hg2⟩:=hA2;have hcap:=O1.1.rd.1;have hwb:=G1.1.size;have I0:DgI w p n w1.heap.size n2 (some ⟨g,0,none⟩) c2 d Q 0 none 0 (w1.alloc (.map #[] 0)) [] r1 (.map []) []:=
    ⟨HQ.1,rfl,⟨rfl,.inl ⟨rfl,rfl⟩⟩,Oa O1.1 _,fun q e=>by have:=(show g=q by simpa[ab]using e);omega,Km.made w1,Ah,Ah,B1.1.grown (Ga w1 _ none) (fun g e=>by cases e),G1.1.andThen (Ga w1 _ none) (fun j hj=>by cases hj),hwb⟩
   clear hv hKd B1 G1 O1 GD H0 HQ;go_loopw [8,31] (fun u iv wr=>∃(j:Nat) (A3:Option Addr) (c3:Nat) (acc:List Nat) (r2:List Bool) (D:DataW Unit) (ks:List Nat),u= .slice A3 j c3∧iv= .int .i64 (j:Int)∧j≤n∧DgI w p n w1.heap.size n2 (some ⟨g,0,none⟩) c2 d Q j A3 c3 wr acc r2 D ks) (fun _ iv _=>n-(intOf iv).toNat)
   case atStart=>exact⟨0,none,0,[],r1,.map [],[],rfl,rfl,bf _,I0⟩
   case round=>
    clear I0;obtain⟨j,A3,c3,acc,r2,D,ks,rfl,rfl,hjn,I⟩:=hrel;have HI:=Al I;have hwz:=I.grown.size;have alv:w1.heap.size<wr.heap.size:=I.km.1.lt;clear I;by_cases hjl:j<n
    ·have agr:(j:Int)< (n:Int):=by omega
     have RB:=Al (dG p v r2 wr HI.1.br om);have hst:=Al (Di.WT (m:=n-j) om d acc r2);rw[HI.1.gv,HKd.1,HV.1]at hst;have mM:=Tm.qc v r2;have hlt2:(Tm.rd v r2).1<2^64:=jE (Tm.jC v r2) (kF Ai om);generalize Tm.rd v r2=Y at*;obtain⟨i,r4,e4⟩:=Y;simp only[]at RB hst mM hlt2;rcases mM with rfl|rfl
     ·rw[Ng Ah]at hst;by_cases hik:n2≤i
      ·rw[Ps0 hik]at hst;have ags:(n2:Int)≤(i:Int):=om;have hx:Kept (X=([],r4,8)):=⟨by rw[HX.1,hst.1];simp⟩
       go_wp2_with (first
        |(go_at_call 262;refine(W0.1 _).mono ?_;rintro e w2 ⟨rfl,rfl⟩)
        |(go_at_call 213;refine RB.1.mono ?_;rintro e w2 ⟨rfl,hb,hg⟩;have B2:=Al hb;have G2:=Al (HI.1.grown.trans hg);clear hb hg))
       go_ret2;rw[hx.1];exact⟨none,0,0,rfl,⟨rfl,.inl ⟨rfl,rfl⟩⟩,B2.1,G2.1⟩
      ·rw[Ng hik]at hst;have ags:¬(n2:Int)≤(i:Int):=om;have hid:i<d.length:=by have:=HKd.1;omega
       have HKY:=Al (SX hlt2);have CE:=Al (show∀w2 w3,wr.grownBy w2 (some p)→w2.grownBy w3 (some w1.heap.size)→w3.cell? ⟨g,i,none⟩=some (.int .u64 ((d.getD i 0:Nat):Int))from fun w2 w3 h2 h3=>by
        have hd2:aG w2 w.heap.size (some ⟨g,0,none⟩) n2 c2 d:=kW HI.1.eQ h2 hp;have hd3:aG w3 w.heap.size (some ⟨g,0,none⟩) n2 c2 d:=ag hd2 h3 (.inr (fun e=>by have:=(show g=w1.heap.size by simpa[ab]using e);omega));have e:d.getD i 0=d[i]:=by rw[jN,kC hid];rfl
        rw[e];exact(hd3.at_ hid).1)
       have OA:=Al (show∀w2 w3,wr.grownBy w2 (some p)→w2.grownBy w3 (some w1.heap.size)→aG w3 (w1.heap.size+1) A3 j c3 acc from fun w2 w3 h2 h3=>ag (kW HI.1.own h2 om) h3 (by
        rcases hA:ab A3 with _|q
        ·exact .inl rfl
        ·exact .inr fun e=>by have:=(ae HI.1.own q hA).1;have:=Oj e;omega))
       have KM2:=Al (show∀w2,wr.grownBy w2 (some p)→Km w2 w1.heap.size j D ks from fun w2 h2=>HI.1.km.kept h2 (fun e=>by have:=Oj e;omega));have hin2:i<n2:=om;have NX:=Al (fun(w2 w3 w5:World) (A4:Option Addr) (c4:Nat) (E:DataW Unit) (o:Obj) (hb2:Br w2 p r4) (hg2:wr.grownBy w2 (some p)) (Jy:w3.ownsMap prog 125 (plainElem prog 4) w1.heap.size (j+1) (D.put (kl i) E)) (hg3:w2.grownBy w3 (some w1.heap.size)) h5 h6=>HI.1.next (w5:=w5) (A4:=A4) (c4:=c4) (E:=E) hp hst.1 hin2 hjl hb2 hg2 Jy hg3 o h5 h6);clear hid hlt2;generalize d.getD i 0=x at*;go_wp2_with (first
        |(go_at_call 262;refine(W0.1 _).mono ?_;rintro e w2 ⟨rfl,rfl⟩)
        |(at_mapUpdate;refine wpList_mapUpdate_own _ rfl _ _ _ 386 rfl 125 4 WJ underlying386 _ w1.heap.size j _ rfl (KM2.1 w2 G2.1).1 (by unfold maxLen;omega) _ _ _ rfl rfl HKY.1 _ [] (plainElem_bool underlying4 true) ?_;intro w3 hown3 hgrow3;have k0:=CE.1 w2 w3 G2.1 hgrow3;have M3:=Al hown3;have G3:=Al hgrow3;have O3:=Al (OA.1 w2 w3 G2.1 hgrow3);have hz3:=hgrow3.size;clear hown3 hgrow3)
        |(at_builtin;refine dF rfl (.tmp 53) (.tmp 58) rfl (w1.heap.size+1) A3 j c3 _ rfl (Oa O3.1 _) _ _ _ _ _ rfl (j6.one w3 x) om (by simp;omega) ?_;intro A4 c4 w5 au af bT;have IX:=Al (NX.1 w2 w3 w5 A4 c4 _ _ B2.1 G2.1 M3.1 G3.1 au af);clear au af bT)
        |(go_at_call 213;refine RB.1.mono ?_;rintro e w2 ⟨rfl,hb,hg⟩;have B2:=Al hb;have G2:=Al hg;have hz2:=hg.size;clear hb hg))
       go_roundw
       case rel=>exact⟨j+1,A4,c4,_,_,_,_,rfl,by go_num,om,IX.1⟩
       case measure=>simp[intOf];omega
     ·rw[Ps0 Ah]at hst;have hx:Kept (X=([],r4,3)):=⟨by rw[HX.1,hst.1];simp⟩
      go_wp2_with (first
       |(go_at_call 262;refine(W0.1 _).mono ?_;rintro e w2 ⟨rfl,rfl⟩)
       |(go_at_call 213;refine RB.1.mono ?_;rintro e w2 ⟨rfl,hb,hg⟩;have B2:=Al hb;have G2:=Al (HI.1.grown.trans hg);clear hb hg))
      go_ret2;rw[hx.1];exact⟨none,0,0,rfl,⟨rfl,.inl ⟨rfl,rfl⟩⟩,B2.1,G2.1⟩
    ·obtain rfl:j=n:=by omega
     have hq:Q=(acc,r2,0):=by rw[←HI.1.gv,Dz];simp[Di.gv]
     have hcnt:=Di.count HU.1 (fun i hi=>by rw[HKd.1];exact HI.1.idx i hi) HI.1.km.2.choose_spec.2.2 HI.1.mem;have hx:Kept (X=if ks.length<n2 then([],r2,8)else(acc,r2,0)):=⟨by rw[HX.1,hq];simp[hcnt]⟩
     have hlen:=HI.1.km.1.len underlying386 3;rw[HI.1.km.size]at hlen;clear hcnt hq;by_cases hks:ks.length<n2
     ·rw[Ps0 hks]at hx;have agu:(ks.length:Int)< (n2:Int):=om;go_wp2;go_ret2;rw[hx.1];exact⟨none,0,0,rfl,⟨rfl,.inl ⟨rfl,rfl⟩⟩,HI.1.br,HI.1.grown⟩
     ·rw[Ng hks]at hx;have agu:¬(ks.length:Int)< (n2:Int):=om;go_wp2;go_ret2;rw[hx.1];exact⟨A3,j,c3,rfl,JW HI.1.own om,HI.1.br,HI.1.grown⟩
  ·rw[Ps0 he]at hX;have HX:=Al hX;clear hX hok;have hne:(e1 !=0)=true:=by simpa using he
   clear he;go_enter func223,ntmps223;go_wp2_with (go_at_call 264;refine GD.1.mono ?_;rintro e w1 ⟨A2,n2,c2,rfl,ho,hb,hg⟩;have B1:=Al hb;have G1:=Al hg;clear ho hb hg);go_ret2;rw[HX.1];exact⟨none,0,0,rfl,⟨rfl,.inl ⟨rfl,rfl⟩⟩,B1.1,G1.1⟩
end
section
open Go.Shelf
attribute [local go_sem] Oper.semAt_some
theorem qb.wk {w w' base p} (h:qb w) (hk:Wk base p w w') (hg:0<base):qb w':=fun i v hi=>(hk.aX.cell (p:=⟨_,i,none⟩) hg).trans (h i v hi)
theorem Boxed.wk {w w' base p bx t v} (h:Boxed w bx t v) (hk:Wk base p w w') (hne:bx≠p) (ht:t≠5):Boxed w' bx t v:=
 (hk.rest bx h.lt hne (fun cs fr e=>by
  have e2:=(show w.heap[bx]? =some (.cells #[v] t (0,0))from h).symm.trans e;simp only[gU,DY]at e2;exact ht e2.2.1)).trans h
theorem Wk.kept {w w' base p g cs t fr} (hk:Wk base p w w') (hg:w.heap[g]? =some (.cells cs t fr)) (hne:g≠p) (ht:t≠5):w'.heap[g]? =some (.cells cs t fr):=
 (hk.rest g (Ge.1 hg).1 hne (fun cs2 fr2 e=>by
  have e2:=hg.symm.trans e;simp only[gU,DY]at e2;exact ht e2.2.1)).trans hg
theorem Wk.keeps {base p B w w'} (h:Wk base p w w') (hp:∀o,w.heap[p]? =some o→o.isCells=true):KeepsFrom B w w':=
 ⟨h.aX.size,fun r _ o ho hc=>(h.rest r (Ge.1 ho).1 (fun e=>by subst e;rw[hp _ ho]at hc;cases hc) (fun cs fr e=>by rw[ho]at e;cases e;cases hc)).trans ho⟩
theorem fG.cells {w base p bs} (h:fG w base p bs):∀o,w.heap[p]? =some o→o.isCells=true:=by
 obtain⟨A,n,c,L,h1,-⟩:=h;intro o ho;rw[h1]at ho;cases ho;rfl
theorem fG.gr {w w' base p bs} (h:fG w base p bs) (hg:Gr w w'):fG w' base p bs:=by
 obtain⟨A,n,c,L,h1,h2,h3,h4⟩:=h;have hp:=(Ge.1 h1).1;exact⟨A,n,c,L,(hg.below.block p hp).trans h1,own_below h2 hg.below (fun g e=>(ae h2 g e).2),h3,h4⟩
theorem Wk.gr {base p w w'} (h:Gr w w') (hb:base≤w.heap.size):Wk base p w w':=⟨h.below.mono hb,fun k hk _ _=>h.below.block k hk⟩
theorem fG.alloc {w base p bs} (h:fG w base p bs) (o):fG (w.alloc o) base p bs:=h.gr ((Gr.refl w).alloc o)
theorem fG.apart {w w' base p bs row} (h:fG w base p bs) (hg:w.grownBy w' row) (hr:∀r,row=some r→∃o:Obj,w.heap[r]? =some o∧o.isCells=false):fG w' base p bs:=by
 obtain⟨A,n,c,L,h1,h2,h3,h4⟩:=h;refine⟨A,n,c,L,(hg.block p (Ge.1 h1).1 (fun e=>?_)).trans h1,h2.apart hg (fun r e=> .inr (hr r e)),h3,h4⟩;obtain⟨o,ho,hc⟩:=hr p e.symm;rw[h1]at ho;cases ho;cases hc
theorem Wk.more {base p w W W' row} (h:Wk base p w W) (hg:W.grownBy W' row) (hb:base≤w.heap.size) (hr:∀r,row=some r→w.heap.size≤r):Wk base p w W':=
 ⟨h.aX.grown hg (by have:=h.aX.size;omega) (fun r e=>by have:=hr r e;omega),fun k hk hp hn=>(hg.block k (by have:=h.aX.size;omega) (fun e=>by have:=hr k e.symm;omega)).trans (h.rest k hk hp hn)⟩
def uP (w:World) (base p:Nat) (bs:List Bool) (bx:Nat) (v:Value) (pre:List Int) (W:World):Prop:=
 fG W base p (bs++pre.flatMap Tm.ch)∧Wk base p w W∧Boxed W w.heap.size 302 (.pointer (some ⟨p,0,none⟩))∧Boxed W bx 281 v
theorem uP.own {w base p N bx v bs} (hb:base≤w.heap.size) (hN:w.heap.size<N) (hx:bx<N):aI N (fun _=>False) (uP w base p bs bx v):=by
 rintro s W W' row ⟨h1,h2,h3,h4⟩ hg hr;have hrow:∀r,row=some r→N≤r∧∃o:Obj,W.heap[r]? =some o∧o.isCells=false:=fun r e=>by
  rcases hr r e with h|h
  ·exact h.elim
  ·exact h
 exact⟨h1.apart hg (fun r e=>(hrow r e).2),h2.more hg hb (fun r e=>by have:=(hrow r e).1;omega),h3.kept hg (fun e=>by have:=(hrow _ e.symm).1;omega),h4.kept hg (fun e=>by have:=(hrow _ e.symm).1;omega)⟩
def Tm.fst:List Int→List Bool
 |[]=>[]
 |t::_=>Bt.bw 64 (Tm.wd t)
theorem Tm.WU (l):(Tm.fst l).length≤64:=by cases l<;>simp[Tm.fst,Bt.aj]
theorem Tm.Te (l):(Tm.uN l).length≤l.length:=by
 cases l with
 |nil=>simp[Tm.uN]
 |cons t l=>rw[Tm.uN,Ck.yP];simp
theorem Tm.WV (l:List Int):(l.flatMap Tm.ch).length≤68*l.length:=Ck.nX (f:=Tm.ch) (B:=68) (fun x=>by
 unfold Tm.ch;rw[La,Bt.aj,Bt.aj];exact Ck.Yl (Tm.Fz x)) l
theorem Tf (base p B bs A n c l w) (h:fG w base p bs) (hr:vP w B A n c l) (hB:B≤base) (hF:qb w) (hg:0<base)
  (hin:∀x∈l,Tm.In x) (hn:n≤1000000) (hl:bs.length≤100000000):
  Calls prog 192 #[.pointer (some ⟨p,0,none⟩),.slice A n c] w fun e w'=>e= .returned (.int .i64 0)∧fG w' base p (bs++Tm.enc l)∧Wk base p w w':=by
 have hln:=Al hr.len;have hlc:=hr.1;have hcm:=hr.2.1;unfold maxLen at hcm;have hz:=h.lt;have henc:Kept (Tm.enc l=Tm.fst l++(Tm.uN l).flatMap Tm.ch):=⟨by cases l<;>rfl⟩
 have yI:p≠w.heap.size:=om;have hbx:=Bo w 302 (.pointer (some ⟨p,0,none⟩));have H0:=Al (h.alloc (.cells #[.pointer (some ⟨p,0,none⟩)] 302));have K0:=Al ((Wk.refl base p w).alloc (.cells #[.pointer (some ⟨p,0,none⟩)] 302) om);have R0:=Al hr;obtain⟨W0,hW0⟩:∃W0,W0=w.alloc (.cells #[.pointer (some ⟨p,0,none⟩)] 302):=⟨_,rfl⟩
 have hz0:W0.heap.size=w.heap.size+1:=by rw[hW0];simp
 have HW0:=Al hW0.symm;rw[←hW0]at hbx H0 K0;have hc0:=hbx.cell;have HBX:=Al hbx;have HF:=Al hF;clear h hr hW0 hbx hF;refine(Bu (n:=9)).1 ?_;refine CG func192 rfl trivial ?_ rfl;simp only[ntmps192,Cq,Lc,Ba,Nat.reduceAdd,Nat.reduceSub,Cv,Cx,Da,CJ,AB,Bc];refine BM.2 ?_;go_upto_if 11 with(fail)
 rw[HW0.1];go_cut []from 5 (fun wx=>fG wx base p (bs++Tm.fst l)∧Wk base p w wx∧Boxed wx w.heap.size 302 (.pointer (some ⟨p,0,none⟩)))
 case first=>
  cases l with
  |nil=>
   have hn0:n=0:=hln.1;subst hn0;go_wp2;go_meet;exact⟨by simpa[Tm.fst]using H0.1,K0.1,HBX.1⟩
  |cons t l=>
   obtain⟨b,off,rfl,ni,hck⟩:=R0.1.at_ (k:=0) Ah;simp only[DD,DI]at hck;have hwl:=Tm.KZ t;have hwd:=Tm.zF t;have hpos:(0:Int)< (n:Int):=by have:=hln.1;simp at this;omega
   have alx:W0.cell? ⟨b,off,none⟩=some (.int .i64 t):=by
    rw[←HW0.1];exact(AR _ _ ⟨b,off,none⟩ (by show b<_;omega)).trans hck
   clear hck;go_upto_region 4 with(fail)
   refine Du 5 kr kr ?_;simp only[Cb,Eg,BP,Ct]
   repeat still_step
   refine wpStill_nil ?_
   change wpList _ _ _ _ _ W0.drew
   go_wp2_with (go_at_call 191;refine(cB base p (Tm.wd t) 64 bs _ (by exact H0.1) hwl om om).mono ?_;rintro e w2 ⟨rfl,hw2,hk2⟩;have H2:=Al hw2;have K2:=Al (K0.1.drew.trans hk2);have X2:=Al (show Boxed w2 w.heap.size _ _ from Boxed.wk (show Boxed W0.drew w.heap.size _ _ from HBX.1) hk2 yI.symm Ai);clear hw2 hk2);go_meet;exact⟨H2.1,K2.1,X2.1⟩
 case rest=>
  rename World=>wx
  obtain⟨hwx,hkx,hbx⟩:=hcut;clear hc0 HBX H0 K0 HW0 hz0;go_wp2_with (go_at_call 241;refine(GI _ _ _ wx).mono ?_;rintro e w3 ⟨rfl,hw3⟩;have HW3:=Al hw3;clear hw3);have hzx:=hkx.aX.size;have hz3:w3.heap.size=wx.heap.size+1:=by rw[HW3.1];simp
  have g3:wx.grownBy w3 none:=by rw[HW3.1];exact Ga _ _ _
  have hI0:uP w base p (bs++Tm.fst l) wx.heap.size (.slice A n c) [] w3:=⟨by rw[Dm,Bh];exact hwx.apart g3 (fun r e=>by cases e),hkx.more g3 om (fun r e=>by cases e),hbx.kept g3 (fun e=>by cases e),by rw[HW3.1];exact Bo _ _ _⟩
  have b3:Boxed w3 wx.heap.size 281 (.slice A n c):=by rw[HW3.1];exact Bo _ _ _
  have r3:vP w3 B A n c l:=(R0.1.below (hkx.aX.mono hB)).below ((Ae B wx).grown g3 om (fun r e=>by cases e));have HFx:=Al (HF.1.wk hkx hg);clear hwx hkx hbx;refine(BM (n:=9)).1 ?_;refine jd Ai (gf:=270) (lb:= #[.pointer (some ⟨wx.heap.size,0,none⟩)]) rfl (BR func270 kr rfl)
   (encs:=WI) (O:=fun _=>False) (Kp:=zV B wx.heap.size) (L:=Tm.uN l)
   (by rintro r h;exact h.elim) (fun h k=>h.trans k) (fun W W' row hW hg hr=>zV.grown hW om om hg hr) (fun _=>rfl)
   (uP w base p (bs++Tm.fst l) wx.heap.size (.slice A n c)) (fun _ _ _=>False)
   (fun pre x a₁ W=>uP w base p (bs++Tm.fst l) wx.heap.size (.slice A n c) pre W∧
    a₁={tmps:= #[.pointer (some ⟨p,0,none⟩),.slice A n c,.pointer (some ⟨w.heap.size,0,none⟩),undef,.int .i64 0,.int .i64 x,u6,u7,u8,u9,u10,u11,u12,u13,u14,u15,u16,u17,.slice A n c,.func (.func 270) #[] #[.pointer (some ⟨wx.heap.size,0,none⟩)],.int .i64 x,u21,u22,u23,u24,u25,u26,u27,u28,u29,u30,u31,u32,u33,u34,u35,u36],defers:=[]})
   (uO 8 wx.heap.size B 0 n c A l w3 _ b3 r3 (bf _) (fun pre W ⟨_,h⟩=>h))
   ?hI (fun _ _ _ _ _ h _ _=>h) ?hM hI0 ?assign ?body ?done ?stop
  case hI=>rw[hz3];exact uP.own om om om
  case hM=>
   rw[hz3];rintro pre x a₁ u W W' row ⟨hI,ha⟩ hgr hr;exact⟨uP.own om om om _ _ _ _ hI hgr hr,ha⟩
  case assign=>
   rintro lp pre x W hI hpre hW;unfold WI
   gi_wp2
   exact⟨⟨Nr _,fun _ _ _ h _=>h⟩,⟨Ae _ _,rfl⟩,hI,trivial⟩
  case body=>
   rintro lp pre x a₁ W ⟨⟨hw1,hk1,hb1,hb2⟩,rfl⟩ hpre hW;have hx:Tm.In x:=Tm.WH l x (hpre.subset Ah);have hlx:=hpre.length_le;rw[La,DT]at hlx;have hcl:=Tm.Te l;have hlb:Kept ((bs++Tm.fst l++pre.flatMap Tm.ch).length≤900000000):=⟨by
    have h1:=Tm.WV pre;have h2:=Tm.WU l;have h3:=hln.1;simp only[La];omega⟩
   have HF1:=HF.1.wk hk1 hg;have hi4:=Tm.Fz x;have hwl:=Tm.KZ x;have hwd:=Tm.zF x;have hfw:=Tm.YI (Tm.fm x);have hfl:Tm.fl (Tm.fm x)≤4:=by unfold Tm.fl;split<;>omega
   have Fx:Tm.fb (Tm.fm x)≤15:=by unfold Tm.fb;split<;>omega
   have hcell:Kept (∀w1,qb w1→w1.cell? ⟨0,Tm.fm x*3,none⟩=some (.int .u64 ((Tm.fb (Tm.fm x):Nat):Int))∧w1.cell? ⟨0,Tm.fm x*3+1,none⟩=some (.int .i64 ((Tm.fl (Tm.fm x):Nat):Int))∧
     w1.cell? ⟨0,Tm.fm x*3+2,none⟩=some (.int .i64 ((Tm.fw (Tm.fm x):Nat):Int))):=⟨fun w1 h1=>by
    rcases(by omega:Tm.fm x=0∨Tm.fm x=1∨Tm.fm x=2∨Tm.fm x=3∨Tm.fm x=4)with h|h|h|h|h<;>rw[h]
    ·exact⟨h1 0 _ rfl,h1 1 _ rfl,h1 2 _ rfl⟩
    ·exact⟨h1 3 _ rfl,h1 4 _ rfl,h1 5 _ rfl⟩
    ·exact⟨h1 6 _ rfl,h1 7 _ rfl,h1 8 _ rfl⟩
    ·exact⟨h1 9 _ rfl,h1 10 _ rfl,h1 11 _ rfl⟩
    ·exact⟨h1 12 _ rfl,h1 13 _ rfl,h1 14 _ rfl⟩⟩
   have FO:=Al (Bu (n:=6).2 (uM x W hx HF1));have hch:Kept (Tm.ch x=Bt.bw (Tm.fl (Tm.fm x)) (Tm.fb (Tm.fm x))++Bt.bw (Tm.fw (Tm.fm x)) (Tm.wd x)):=⟨rfl⟩
   generalize hi:Tm.fm x=i at*;have hi5:(i:Int)<5:=om;have H1:=Al hw1;have K1:=Al hk1;have X1:=Al hb1;have Z1:=Al hb2;have F1:=Al HF1;clear hw1 hk1 hb1 hb2 HF1 hi;have tf1:Fence.wide.fn 242:=trivial;have tf2:Fence.wide.fn 191:=trivial;have WB:=Al (fun(w1:World) (h1:fG w1 base p (bs++Tm.fst l++pre.flatMap Tm.ch))=>CallsIn.inRound lp (Bu (n:=6).2 (cB base p (Tm.fb i) (Tm.fl i) _ w1 h1 om om (by have:=hlb.1;omega))));have WC:=Al (fun(w1:World) (h1:fG w1 base p (bs++Tm.fst l++pre.flatMap Tm.ch++Bt.bw (Tm.fl i) (Tm.fb i)))=>CallsIn.inRound lp (Bu (n:=6).2 (cB base p (Tm.wd x) (Tm.fw i) _ w1 h1 hwl om (by have:=hlb.1;rw[La,Bt.aj];omega))))
   gi_wp2_with (first
    |(gi_at_call 191;refine(WC.1 w3 H3.1).mono ?_;rintro e w4 ⟨rfl,hw4,hk4⟩;have H4:=Al hw4;have K4:=Al (K3.1.trans hk4);have X4:=Al (Boxed.wk X3.1 hk4 yI.symm Ai);clear hw4 hk4)
    |(gi_at_call 191;refine(WB.1 _ H2.1).mono ?_;rintro e w3 ⟨rfl,hw3,hk3⟩;have H3:=Al hw3;have K3:=Al (K2.1.trans hk3);have X3:=Al (Boxed.wk X2.1 hk3 yI.symm Ai);have d0:=Boxed.cell X3.1;have d1:=Co _ _ 2 _ _ _ (Wk.kept hk3 Y2.1 hy1 Ai);clear hw3 hk3)
    |(gi_at_call 242;refine(CallsIn.inRound lp FO.1).mono ?_;rintro e w1 ⟨rfl,hg1⟩;obtain⟨c0,c1,c2⟩:=hcell.1 _ (F1.1.gr hg1);have hg2:=(hg1.alloc (.cells #[.int .u64 ((Tm.fb i:Nat):Int),.int .i64 ((Tm.fl i:Nat):Int),.int .i64 ((Tm.fw i:Nat):Int)] 355));have H2:=Al (H1.1.gr hg2);have k12:=(Wk.gr (base:=base) (p:=p) hg2 (by have:=K1.1.aX.size;omega));have K2:=Al k12;have X2:=Al (Boxed.wk X1.1 k12 yI.symm Ai);clear hg2 k12;have d2:=Boxed.cell X2.1;have hy1:w1.heap.size≠p:=(by have h1:=hg1.size;have h2:=H1.1.lt;omega);have Y2:=Al (Aw w1 (.cells #[.int .u64 ((Tm.fb i:Nat):Int),.int .i64 ((Tm.fl i:Nat):Int),.int .i64 ((Tm.fw i:Nat):Int)] 355));clear hg1))
   have hxp:wx.heap.size≠p:=om;refine⟨K4.1.keeps H1.1.cells,⟨K4.1.aX.mono hB,(Wk.kept K4.1 Z1.1 hxp Ai).trans Z1.1.symm⟩,?_,K1.1.trans K4.1,X4.1,Wk.kept K4.1 Z1.1 hxp Ai⟩;have:=H4.1;rw[Af,←hch.1,Af]at this;rw[nH,List.flatMap_singleton];exact this
  case done=>
   rintro D W hD ⟨hw1,hk1,hb1,-⟩ hK;have H1:=Al hw1;have K1:=Al hk1;clear hw1 hk1 hb1;go_wp2;refine⟨Ah,.inl ⟨_,_,rfl,CV hK,?_⟩⟩;have hgo:W.grownBy (W.putObj D (.deferred none)) (some D):=Bn W D _;refine⟨_,results_tmp rfl _ _ _,rfl,?_,K1.1.more hgo om (fun r e=>by cases e;omega)⟩;rw[henc.1,←Af];exact H1.1.apart hgo (fun r e=>by cases e;exact⟨_,hK,rfl⟩)
  case stop=>
   rintro D c pre W _ _ h _;exact h.elim
end
section
open Go.Shelf
attribute [local go_sem] Oper.semAt_some
def encR (x:Nat×Nat):Array Value:= #[.agg #[.int .u64 (x.1:Int),.int .i64 (x.2:Int)]]
theorem Ru.xI:∀(l),∀p∈(Ru.runs l).head?,l.head? =some p.1
 |[],p,h=>by simp[Ru.runs]at h
 |x::l,p,h=>by
  have ih:=Ru.xI l;rw[Ru.runs]at h;cases hr:Ru.runs l with
  |nil=>rw[hr]at h;simp at h;rw[←h];rfl
  |cons q rs=>
   obtain⟨y,c⟩:=q;rw[hr]at h;simp only[]at h;split at h
   ·rename_i hxy;simp at h;rw[←h,hxy];rfl
   ·simp at h;rw[←h];rfl
theorem Ru.Mg {l:List Nat} {a b:Nat} (h1:a<b) (h2:b≤l.length) (h3:∀(j:Nat) (hj:j<l.length),a≤j→j<b→l[j]=l[a]) (h4:∀(hb:b<l.length),l[b]≠l[a]):
  Ru.runs (l.drop a)=(l[a],b-a)::Ru.runs (l.drop b):=by
 have e:l.drop a=List.replicate (b-a-1+1) l[a]++l.drop b:=by
  apply CW
  ·simp;omega
  ·intro i i1 i2;rw[Dc];by_cases hi:i<b-a
   ·rw[pF (by simp;omega),List.getElem_replicate];exact h3 _ _ om om
   ·rw[Dk (by simp;omega),Dc]
    congr 1;simp;omega
 rw[e,Ru.pJ (Ru.runs (l.drop b)) rfl (fun p hp=>?_)]
 ·rw[show b-a-1+1=b-a from om]
 ·have:=Ru.xI _ p hp;rw[List.head?_drop]at this;by_cases hb:b<l.length
  ·rw[kC hb]at this;have h5:=h4 hb;intro e2;exact h5 (by rw[Oj this,e2])
  ·rw[Ca om]at this;cases this
theorem qQ (n bx B m c A l w X) (hw:Boxed w bx 284 (.slice A m c)) (hr:j6 w B A m c l) (hm:m≤128)
  (hX:∀pre W,¬X pre W):
  rA n prog 281 #[.pointer (some ⟨bx,0,none⟩)] encR (fun _=>False) (zV B bx) (Ru.runs l) w X:=by
 intro lp J Jx W hK hJ hJx PQ bC h0;have hW:Boxed W bx 284 (.slice A m c):=hK.2.trans hw;have hR:j6 W B A m c l:=hr.below hK.1;have dh:=Al bC;have HX:Kept (∀pre W,¬Jx pre W):=⟨fun pre W h=>hX pre W (PQ pre W h)⟩
 have hln:=Al hr.len;have hc1:=hr.1;have hc2:=hr.2.1;unfold maxLen at hc2;have HJ:=Al hJ;clear hw hK bC hJ hX PQ hr hJx;refine Bu.2 ?_;go_enter func281,ntmps281;go_wp2;go_loopw [3] (fun i wr=>∃(pre:List (Nat×Nat)) (k:Nat),i= .int .i64 k∧Boxed wr bx 284 (.slice A m c)∧j6 wr B A m c l∧k≤m∧
  Kept (Ru.runs l=pre++Ru.runs (l.drop k))∧Kept (J pre wr)) (fun i _=>m-(intOf i).toNat)
 case atStart=>exact⟨[],0,rfl,hW,hR,om,⟨rfl⟩,⟨h0⟩⟩
 case round=>
  clear hW hR h0;obtain⟨pre,k,rfl,hb,hr,hk,hm1,hj⟩:=hrel;have hc:=hb.cell;have Hb:=Al hb;have Hr:=Al hr;clear hb hr;by_cases hlt:k<m
  ·have hlt':(k:Int)< (m:Int):=by omega
   have hkl:k<l.length:=by have:=hln.1;omega
   obtain⟨b,off,rfl,ni,hck⟩:=Hr.1.at_ hkl;have aan:Kept (∀(j:Nat) (hj:j<l.length),wr.cell? ⟨b,off+j,none⟩=some (.int .u64 (l[j]:Int))):=⟨fun j hj=>by
    obtain⟨b',off',e,_,hc⟩:=Hr.1.at_ hj;simp only[gU,Ce,BO]at e;obtain⟨rfl,rfl⟩:=e;exact hc⟩
   obtain⟨x,hx⟩:∃x,x=l[k]:=⟨_,rfl⟩
   rw[←hx]at hck;have HXk:=Al hx;clear hx;go_upto_block 2 with(fail)
   go_cut [4] (fun tv wx=>∃(t q:Nat),tv= .int .i64 t∧k<t∧t≤m∧wx=wr.drewN q∧Kept (Ru.runs (l.drop k)=(x,t-k)::Ru.runs (l.drop t)))
   case first=>
    go_wp2;go_loopw [4] (fun i w2=>∃(t q:Nat),i= .int .i64 t∧k<t∧t≤m∧w2=wr.drewN q∧Kept (∀(j:Nat) (hj:j<l.length),k≤j→j<t→l[j]=l[k])) (fun i _=>m-(intOf i).toNat)
    case atStart=>exact⟨k+1,0,by go_num,om,om,rfl,⟨fun j hj h1 h2=>by congr 1;omega⟩⟩
    case round=>
     obtain⟨t,q,rfl,h1,h2,rfl,h3⟩:=hrel;by_cases htm:t<m
     ·have htl:t<l.length:=by have:=hln.1;omega
      have hct:=aan.1 t htl;have g1:decide ((t:Int)< (m:Int))=true:=BI om;have g2:(t:Int)< (m:Int):=om;have g3:decide ((t:Int)-(k:Int)<128)=true:=BI om;have g4:(t:Int)-(k:Int)<128:=om;obtain⟨y,hy⟩:∃y,y=l[t]:=⟨_,rfl⟩
      rw[←hy]at hct;by_cases hyx:y=x
      ·have h3':Kept (∀(j:Nat) (hj:j<l.length),k≤j→j<t+1→l[j]=l[k]):=⟨fun j hj a1 a2=>by
        rcases Nat.lt_or_eq_of_le (Nat.le_of_lt_succ a2)with h|h
        ·exact h3.1 j hj a1 h
        ·subst h;rw[←hy,hyx,HXk.1]⟩
       have g5:((y:Int)==(x:Int))=true:=by simp;omega
       clear hy hyx h3 htl;go_wp2;go_quiet (fail);go_wp2;go_roundw
       case rel=>exact⟨t+1,_,by go_num,om,om,by first|rfl|exact jB _ _ _,h3'⟩
       case measure=>simp[intOf];omega
      ·have hR2:Kept (Ru.runs (l.drop k)=(x,t-k)::Ru.runs (l.drop t)):=⟨by
        rw[Ru.Mg h1 (by have:=hln.1;omega) h3.1 (fun hb e=>hyx (by rw[hy,e,HXk.1])),←HXk.1]⟩
       have g5:((y:Int)==(x:Int))=false:=by simp;omega
       clear hy hyx h3 htl;go_wp2;go_quiet (fail);go_wp2;go_meet;exact⟨t,_,rfl,h1,h2,by first|rfl|exact jB _ _ _,hR2⟩
     ·obtain rfl:t=m:=by omega
      have hR2:Kept (Ru.runs (l.drop k)=(x,t-k)::Ru.runs (l.drop t)):=⟨by
       rw[Ru.Mg h1 (by have:=hln.1;omega) h3.1 (fun hb e=>by have:=hln.1;omega),←HXk.1]⟩
      have g1:decide ((t:Int)< (t:Int))=false:=AA om;clear h3;go_wp2;go_quiet (fail);go_wp2;go_meet;exact⟨t,_,rfl,h1,h2,by first|rfl|exact jB _ _ _,hR2⟩
   case rest=>
    rename World=>wx
    obtain⟨t,q,rfl,h1,h2,rfl,hR2⟩:=hcut;obtain⟨w2,hw2⟩:∃w2,w2=wr.drewN q:=⟨_,rfl⟩
    have hgd:wr.grownBy w2 none:=by rw[hw2];exact⟨rfl,rfl,rfl,Nr _,fun _ _ _=>rfl⟩
    have hj2:=Al (HJ.1 _ _ _ none hj.1 hgd (fun r e=>by cases e));have hb2:Boxed w2 bx 284 (.slice (some ⟨b,off,none⟩) m c):=by rw[hw2];exact Hb.1
    have alz:=Boxed.cell hb2;have alA:w2.cell? ⟨b,off+k,none⟩=some (.int .u64 (x:Int)):=by rw[hw2];exact hck
    have Hb2:=Al hb2;have Hr2:=Al (show j6 w2 B _ m c l from by rw[hw2];exact Hr.1.drewN q);have hm2:Kept (Ru.runs l=pre++[(x,t-k)]++Ru.runs (l.drop t)):=⟨by rw[hm1.1,hR2.1];simp⟩
    rw[←hw2];clear hw2 hgd hc hck hj Hb Hr hb2;obtain⟨fn,tmps,assign,body,hy,qx⟩:=dh.1 pre (x,t-k) w2 hj2.1 ⟨_,hm2.1.symm⟩;unfold encR at hy;have ee:((t-k:Nat):Int)=(t:Int)-(k:Int):=om;simp only[ee]at hy;clear ee;go_upto_region 5 with(fail)
    refine(BM (n:=n)).1 ?_
    gi_wp2
    refine⟨(fun h=>by simp[Fence.wide]at h),qx.mono ?_⟩;rintro e W' (⟨rfl,hj',hb'⟩|⟨rfl,qV⟩)
    ·have Hb3:=Al (show Boxed W' bx 284 _ from hb'.2.trans Hb2.1);have Hr3:=Al (Hr2.1.below hb'.1);have XY:=Al hj';clear hj' hb' qx hy
     gi_wp2
     go_wp2;go_roundw
     case rel=>exact⟨pre++[(x,t-k)],t,rfl,Hb3.1,Hr3.1,h2,hm2,XY⟩
     case measure=>simp[intOf];omega
    ·exact absurd qV (HX.1 _ _)
  ·obtain rfl:k=m:=by omega
   have hm2:Kept (Ru.runs l=pre):=⟨by
    rw[hm1.1,qW (by have:=hln.1;omega)];simp[Ru.runs]⟩
   go_wp2;go_end0;exact⟨⟨_,rfl⟩,.inl (by rw[hm2.1];exact hj.1)⟩
theorem GU (A n c w):Calls prog 258 #[.slice A n c] w fun e w'=>
  e= .returned (.func (.func 281) #[] #[.pointer (some ⟨w.heap.size,0,none⟩)])∧w'=w.alloc (.cells #[.slice A n c] 284):=by
 go_enter func258,ntmps258;go_wp2;go_ret;exact⟨rfl,rfl⟩
end
section
open Go.Shelf
attribute [local go_sem] Oper.semAt_some
theorem Ru.bF (l):(Ru.enc l).length=71*(Ru.runs l).length:=by
 unfold Ru.enc;generalize Ru.runs l=rs
 induction rs with
 |nil=>rfl
 |cons p rs ih=>rw[Av,La,ih];simp only[Ru.one,La,Bt.aj,Lc];omega
theorem Ru.Mh (l):(Ru.runs l).length≤l.length:=by
 induction l with
 |nil=>simp[Ru.runs]
 |cons x l ih=>
  rw[Ru.runs];cases hr:Ru.runs l with
  |nil=>simp
  |cons q rs=>
   obtain⟨y,c⟩:=q;rw[hr]at ih;simp only[]at*;split<;>simp at* <;>omega
def J4 (w:World) (bn bx:Nat) (v:Value) (pre:List (Nat×Nat)) (W:World):Prop:=
 Boxed W bn 3 (.int .i64 ((71*pre.length:Nat):Int))∧Below w.heap.size w W∧Boxed W bx 284 v
theorem J4.own {w bn bx N v} (hb:bn<N) (hN:w.heap.size≤N) (hx:bx<N):aI N (fun _=>False) (J4 w bn bx v):=by
 rintro s W W' row ⟨h1,h2,h3⟩ hg hr;have hrow:∀r,row=some r→N≤r:=fun r e=>by
  rcases hr r e with h|h
  ·exact h.elim
  ·exact h.1
 exact⟨h1.kept hg (fun e=>by have:=hrow _ e.symm;omega),h2.grown hg h2.size (fun r e=>by have:=hrow r e;omega),h3.kept hg (fun e=>by have:=hrow _ e.symm;omega)⟩
theorem Om (A n c B l w) (hr:j6 w B A n c l) (hB:B≤w.heap.size) (hn:n≤128):
  Calls prog 218 #[.slice A n c] w fun e w'=>e= .returned (.int .i64 (((Ru.enc l).length:Nat):Int))∧Below w.heap.size w w':=by
 have hln:=Al hr.len;have hle:=Ru.Mh l;have R0:=Al hr;have hbx:=Bo w 3 (.int .i64 0);obtain⟨W0,hW0⟩:∃W0,W0=w.alloc (.cells #[.int .i64 0] 3):=⟨_,rfl⟩
 have hz0:W0.heap.size=w.heap.size+1:=by rw[hW0];simp
 have hb0:Below w.heap.size w W0:=by rw[hW0];exact(Ae _ w).alloc Aj _
 have HW0:=Al hW0.symm;rw[←hW0]at hbx;clear hW0 hr;refine(Bu (n:=9)).1 ?_;refine CG func218 rfl trivial ?_ rfl;simp only[ntmps218,Cq,Lc,Ba,Nat.reduceAdd,Nat.reduceSub,Cv,Cx,Da,CJ,AB,Bc];refine BM.2 ?_;go_wp2_with (go_at_call 258;refine(GU _ _ _ _).mono ?_;rintro e w3 ⟨rfl,hw3⟩;rw[HW0.1]at hw3;have HW3:=Al hw3;clear hw3);have hz3:w3.heap.size=W0.heap.size+1:=by rw[HW3.1];simp
 have g3:W0.grownBy w3 none:=by rw[HW3.1];exact Ga _ _ _
 have b3:Boxed w3 (w.heap.size+1) 284 (.slice A n c):=by rw[HW3.1,←hz0];exact Bo _ _ _
 have hI0:J4 w w.heap.size (w.heap.size+1) (.slice A n c) [] w3:=⟨Boxed.kept hbx g3 (fun e=>by cases e),hb0.grown g3 om (fun r e=>by cases e),b3⟩
 have r3:j6 w3 B A n c l:=R0.1.below (hI0.2.1.mono hB);clear hbx;refine(BM (n:=9)).1 ?_;refine jd Ai (gf:=281) (lb:= #[.pointer (some ⟨w.heap.size+1,0,none⟩)]) rfl (BR func281 kr rfl)
  (encs:=encR) (O:=fun _=>False) (Kp:=zV B (w.heap.size+1)) (L:=Ru.runs l)
  (by rintro r h;exact h.elim) (fun h k=>h.trans k) (fun W W' row hW hg hr=>zV.grown hW om om hg hr) (fun _=>rfl)
  (J4 w w.heap.size (w.heap.size+1) (.slice A n c)) (fun _ _ _=>False)
  (fun pre x a₁ W=>J4 w w.heap.size (w.heap.size+1) (.slice A n c) pre W∧
   a₁={tmps:= #[.slice A n c,undef,.int .i64 0,.pointer (some ⟨w.heap.size,0,none⟩),.slice A n c,.func (.func 281) #[] #[.pointer (some ⟨w.heap.size+1,0,none⟩)],.agg #[.int .u64 (x.1:Int),.int .i64 (x.2:Int)],undef,undef,undef],defers:=[]})
  (qQ 8 (w.heap.size+1) B n c A l w3 _ b3 r3 hn (fun pre W ⟨_,h⟩=>h))
  ?hI (fun _ _ _ _ _ h _ _=>h) ?hM hI0 ?assign ?body ?done ?stop
 case hI=>exact J4.own om om om
 case hM=>
  rintro pre x a₁ u W W' row ⟨hI,ha⟩ hgr hr;exact⟨J4.own om om om _ _ _ _ hI hgr hr,ha⟩
 case assign=>
  rintro lp pre x W hI hpre hW;unfold encR
  gi_wp2
  exact⟨⟨Nr _,fun _ _ _ h _=>h⟩,⟨Ae _ _,rfl⟩,hI,Ah⟩
 case body=>
  rintro lp pre x a₁ W ⟨⟨hb1,hk1,hb2⟩,rfl⟩ hpre hW;have hlx:=hpre.length_le;rw[La,DT]at hlx;have hl3:=hln.1;have hp2:pre.length≤128:=om;have c1:=Boxed.cell hb1;have f1:=Boxed.frozen hb1;obtain⟨k,hk⟩:∃k,k=71*pre.length:=⟨_,rfl⟩
  rw[←hk]at c1;have hk3:k≤9088:=om;have HK:=Al hk;have B1:=Al hb1;have K1:=Al hk1;have B2:=Al hb2;clear hb1 hk1 hb2 hk hlx
  gi_wp2
  have gs:=av W ⟨w.heap.size,0,none⟩ (.int .i64 ((k:Int)+71));have hz1:=Boxed.lt B1.1;refine⟨KeepsOthers.from (CB _ _ _) _,⟨(Ae B W).grown gs om (fun r e=>by cases e;exact hB),gs.block _ om (fun e=>by have:=Oj e;simp only at this;omega)⟩,?_,K1.1.grown gs om (fun r e=>by cases e;exact Nr _),Boxed.kept B2.1 gs (fun e=>by have:=Oj e;simp only at this;omega)⟩;have:=Boxed.set (.int .i64 ((k:Int)+71)) B1.1;have e:((71*(pre++[x]).length:Nat):Int)=(k:Int)+71:=by rw[HK.1];simp;omega
  rw[e];exact this
 case done=>
  rintro D W hD ⟨hb1,hk1,hb2⟩ hK;have c1:=Boxed.cell hb1;have K1:=Al hk1;have hE:=Al (Ru.bF l);rw[←hE.1]at c1;clear hk1 hb1 hb2;go_wp2;refine⟨Ah,.inl ⟨_,_,rfl,CV hK,?_⟩⟩;have hgo:W.grownBy (W.putObj D (.deferred none)) (some D):=Bn W D _;exact⟨_,results_tmp rfl _ _ _,rfl,K1.1.grown hgo (K1.1.size) (fun r e=>by cases e;omega)⟩
 case stop=>
  rintro D c pre W _ _ h _;exact h.elim
theorem Ru.GV:∀{rs} {last},Ru.Good last rs→∀q∈rs,1≤q.2∧q.2≤128∧q.1<2^64
 |[],_,_,q,h=>by simp at h
 |p::rs,_,⟨_,h1,h2,h3,h4⟩,q,h=>by
  rcases iW.1 h with rfl|h
  ·exact⟨h1,h2,h3⟩
  ·exact Ru.GV h4 q h
def GX {X:Type} (ty:TypeId) (f:X→List Bool) (w:World) (base p:Nat) (bs:List Bool) (bx:Nat) (v:Value) (pre:List X) (W:World):Prop:=
 fG W base p (bs++pre.flatMap f)∧Wk base p w W∧Boxed W w.heap.size 302 (.pointer (some ⟨p,0,none⟩))∧Boxed W bx ty v
theorem GX.own {X ty} {f:X→List Bool} {w base p N bx v bs} (hb:base≤w.heap.size) (hN:w.heap.size<N) (hx:bx<N):aI N (fun _=>False) (GX ty f w base p bs bx v):=by
 rintro s W W' row ⟨h1,h2,h3,h4⟩ hg hr;have hrow:∀r,row=some r→N≤r∧∃o:Obj,W.heap[r]? =some o∧o.isCells=false:=fun r e=>by
  rcases hr r e with h|h
  ·exact h.elim
  ·exact h
 exact⟨h1.apart hg (fun r e=>(hrow r e).2),h2.more hg hb (fun r e=>by have:=(hrow r e).1;omega),h3.kept hg (fun e=>by have:=(hrow _ e.symm).1;omega),h4.kept hg (fun e=>by have:=(hrow _ e.symm).1;omega)⟩
theorem Tg (base p B bs A n c l w) (h:fG w base p bs) (hr:j6 w B A n c l) (hB:B≤base) (hin:∀x∈l,x<2^64) (hn:n≤128) (hl:bs.length≤100000000):
  Calls prog 219 #[.pointer (some ⟨p,0,none⟩),.slice A n c] w fun e w'=>e= .returned (.int .i64 0)∧fG w' base p (bs++Ru.enc l)∧Wk base p w w':=by
 have hln:=Al hr.len;have hgood:=Al (Ru.GV (Ru.pI l (by have:=hr.len;omega) hin));have hle:=Ru.Mh l;have hz:=h.lt;have yI:p≠w.heap.size:=om;have hbx:=Bo w 302 (.pointer (some ⟨p,0,none⟩));have H0:=Al (h.alloc (.cells #[.pointer (some ⟨p,0,none⟩)] 302));have K0:=Al ((Wk.refl base p w).alloc (.cells #[.pointer (some ⟨p,0,none⟩)] 302) om);have R0:=Al hr;obtain⟨W0,hW0⟩:∃W0,W0=w.alloc (.cells #[.pointer (some ⟨p,0,none⟩)] 302):=⟨_,rfl⟩
 have hz0:W0.heap.size=w.heap.size+1:=by rw[hW0];simp
 have HW0:=Al hW0.symm;rw[←hW0]at hbx H0 K0;have hc0:=hbx.cell;have HBX:=Al hbx;clear h hr hW0 hbx hin;refine(Bu (n:=9)).1 ?_;refine CG func219 rfl trivial ?_ rfl;simp only[ntmps219,Cq,Lc,Ba,Nat.reduceAdd,Nat.reduceSub,Cv,Cx,Da,CJ,AB,Bc];refine BM.2 ?_;go_wp2_with (go_at_call 258;refine(GU _ _ _ _).mono ?_;rintro e w3 ⟨rfl,hw3⟩;rw[HW0.1]at hw3;have HW3:=Al hw3;clear hw3);have hz3:w3.heap.size=w.heap.size+1+1:=by rw[HW3.1,AV,hz0]
 have g3:W0.grownBy w3 none:=by rw[HW3.1];exact Ga _ _ _
 have hI0:GX 284 Ru.one w base p bs (w.heap.size+1) (.slice A n c) [] w3:=⟨by rw[Dm,Bh];exact H0.1.apart g3 (fun r e=>by cases e),K0.1.more g3 om (fun r e=>by cases e),Boxed.kept HBX.1 g3 (fun e=>by cases e),by rw[HW3.1,←hz0];exact Bo _ _ _⟩
 have b3:=hI0.2.2.2;have r3:j6 w3 B A n c l:=R0.1.below (hI0.2.1.aX.mono hB);clear HBX H0 K0 HW0 hc0;refine(BM (n:=9)).1 ?_;refine jd Ai (gf:=281) (lb:= #[.pointer (some ⟨w.heap.size+1,0,none⟩)]) rfl (BR func281 kr rfl)
  (encs:=encR) (O:=fun _=>False) (Kp:=zV B (w.heap.size+1)) (L:=Ru.runs l)
  (by rintro r h;exact h.elim) (fun h k=>h.trans k) (fun W W' row hW hg hr=>zV.grown hW om om hg hr) (fun _=>rfl)
  (GX 284 Ru.one w base p bs (w.heap.size+1) (.slice A n c)) (fun _ _ _=>False)
  (fun pre x a₁ W=>GX 284 Ru.one w base p bs (w.heap.size+1) (.slice A n c) pre W∧
   ∃g,w3.heap.size≤g∧W.heap[g]? =some (.cells #[.int .u64 (x.1:Int),.int .i64 (x.2:Int)] 378 (0,0))∧
   a₁={tmps:= #[.pointer (some ⟨p,0,none⟩),.slice A n c,.pointer (some ⟨w.heap.size,0,none⟩),undef,.int .i64 0,.pointer (some ⟨g,0,none⟩),.pointer (some ⟨p,0,none⟩),.bool false,.slice A n c,.func (.func 281) #[] #[.pointer (some ⟨w.heap.size+1,0,none⟩)],
    .agg #[.int .u64 (x.1:Int),.int .i64 (x.2:Int)],undef,undef,undef,undef,undef,undef,undef,undef,undef,undef],defers:=[]})
  (qQ 8 (w.heap.size+1) B n c A l w3 _ b3 r3 hn (fun pre W ⟨_,h⟩=>h))
  ?hI (fun _ _ _ _ _ h _ _=>h) ?hM hI0 ?assign ?body ?done ?stop
 case hI=>exact GX.own om om om
 case hM=>
  rintro pre x a₁ u W W' row ⟨hI,g,hg1,hg2,ha⟩ hgr hr;refine⟨GX.own om om om _ _ _ _ hI hgr hr,g,hg1,(hgr.block g (Ge.1 hg2).1 (fun e=>?_)).trans hg2,ha⟩;rcases hr g e.symm with h|⟨_,o,ho,hc⟩
  ·exact h.elim
  ·rw[hg2]at ho;cases ho;cases hc
 case assign=>
  rintro lp pre x W hI hpre hW;unfold encR
  gi_wp2
  refine⟨KeepsOthers.from (Eu W _) _,⟨(Ae B W).alloc om _,Ay _ _ _ om⟩,?_,W.heap.size,hW,Aw W _,rfl⟩;exact GX.own (N:=W.heap.size) om om om _ _ _ none hI (Ga _ _ _) (fun r e=>by cases e)
 case body=>
  rintro lp pre x a₁ W ⟨⟨hw1,hk1,hb1,hb2⟩,g,hg1,hg2,rfl⟩ hpre hW;obtain⟨hx1,hx2,hx3⟩:=hgood.1 x (hpre.subset Ah);have hlx:=hpre.length_le;rw[La,DT]at hlx;have hlb:Kept ((bs++pre.flatMap Ru.one).length≤900000000):=⟨by
   have h1:=Ck.nX (f:=Ru.one) (B:=71) (fun x=>by simp only[Ru.one,La,Bt.aj];omega) pre;have h3:=hln.1;simp only[La];omega⟩
  have hone:Kept (Ru.one x=Bt.bw 64 x.1++Bt.bw 7 (x.2-1)):=⟨rfl⟩
  obtain⟨y,cn⟩:=x;simp only[]at*;have e1:IntKind.u64.wrap ((cn:Int)-1)=((cn-1:Nat):Int):=by rw[Bw];omega
  have c1:=Boxed.cell hb1;have d0:W.cell? ⟨g,0,none⟩=some (.int .u64 (y:Int)):=Co _ _ 0 _ _ _ hg2;have wB:g≠p:=om;have H1:=Al hw1;have K1:=Al hk1;have X1:=Al hb1;have Z1:=Al hb2;have Y1:=Al hg2;have tf2:Fence.wide.fn 191:=trivial;have WB:=Al (CallsIn.inRound lp (Bu (n:=6).2 (cB base p y 64 _ W hw1 om om (by have:=hlb.1;omega))));have WC:=Al (fun(w1:World) (h1:fG w1 base p (bs++pre.flatMap Ru.one++Bt.bw 64 y))=>CallsIn.inRound lp (Bu (n:=6).2 (cB base p (cn-1) 7 _ w1 h1 om om (by have:=hlb.1;rw[La,Bt.aj];omega))));clear hw1 hk1 hb1 hb2 hg2
  gi_wp2_with (first
   |(gi_at_call 191;refine(WC.1 w5 H5.1).mono ?_;rintro e w4 ⟨rfl,hw4,hk4⟩;have H4:=Al hw4;have K4:=Al (K5.1.trans hk4);have X4:=Al (Boxed.wk X5.1 hk4 yI.symm Ai);clear hw4 hk4)
   |(gi_at_call 191;refine WB.1.mono ?_;rintro e w5 ⟨rfl,hw3,hk3⟩;have H5:=Al hw3;have K5:=Al hk3;have X5:=Al (Boxed.wk X1.1 hk3 yI.symm Ai);have d0:=Boxed.cell X5.1;have d1:w5.cell? ⟨g,1,none⟩=some (.int .i64 (cn:Int)):=Co _ _ 1 _ _ _ (Wk.kept hk3 Y1.1 wB Ai);clear hw3 hk3))
  have hxp:w.heap.size+1≠p:=om;refine⟨K4.1.keeps H1.1.cells,⟨K4.1.aX.mono hB,(Wk.kept K4.1 Z1.1 hxp Ai).trans Z1.1.symm⟩,?_,K1.1.trans K4.1,X4.1,Wk.kept K4.1 Z1.1 hxp Ai⟩;have:=H4.1;rw[Af,←hone.1,Af]at this;rw[nH,List.flatMap_singleton];exact this
 case done=>
  rintro D W hD ⟨hw1,hk1,hb1,-⟩ hK;have H1:=Al hw1;have K1:=Al hk1;clear hw1 hk1 hb1;go_wp2;refine⟨Ah,.inl ⟨_,_,rfl,CV hK,?_⟩⟩;have hgo:W.grownBy (W.putObj D (.deferred none)) (some D):=Bn W D _;exact⟨_,results_tmp rfl _ _ _,rfl,H1.1.apart hgo (fun r e=>by cases e;exact⟨_,hK,rfl⟩),K1.1.more hgo om (fun r e=>by cases e;omega)⟩
 case stop=>
  rintro D c pre W _ _ h _;exact h.elim
end
abbrev WW:=Nat×Nat
def rnc (x:WW):List Value:=[.int .u64 (x.1:Int),.int .i64 (x.2:Int)]
def Mi (L:List WW):List Value:=L.flatMap rnc
theorem uQ (L):(Mi L).length=L.length*2:=by
 unfold Mi
 induction L with
 |nil=>rfl
 |cons x L ih=>rw[Av,La,ih,Lc];simp[rnc];omega
theorem Mj (L i k) (h:i<L.length) (hk:k<2):(Mi L)[i*2+k]? =(rnc L[i])[k]?:=by
 unfold Mi
 induction L generalizing i with
 |nil=>simp at h
 |cons x L ih=>
  rw[Av];have hx:(rnc x).length=2:=rfl;cases i with
  |zero=>rw[Cz om];simp
  |succ i=>
   rw[Bp om,hx,show(i+1)*2+k-2=i*2+k from om];exact ih i (by simpa using h)
theorem WX (L):∀u∈Mi L,u.oneCell'=true:=by
 intro u hu;obtain⟨c,_,hc⟩:=l6.1 hu;simp[rnc]at hc;rcases hc with rfl|rfl<;>rfl
theorem J5 (a b):Mi (a++b)=Mi a++Mi b:=by simp[Mi]
def qf (w:World) (B:Nat) (A:Option Addr) (n c:Nat) (l:List WW):Prop:=Rd w B 2 A n c (Mi l)
theorem qf.len {w B n c A l} (h:qf w B A n c l):n=l.length:=by have:=h.2.2.1;rw[uQ]at this;omega
section
variable {w w':World} {B n c:Nat} {A:Option Addr} {l:List WW}
theorem qf.below (h:qf w B A n c l) (hb:Below B w w'):qf w' B A n c l:=Rd.below h hb
end
theorem qf.at_ {w B n c k A l} (h:qf w B A n c l) (hk:k<l.length):∃b off,A=some ⟨b,off,none⟩∧b<B∧w.cell? ⟨b,off+k*2,none⟩=some (.int .u64 (l[k].1:Int))∧w.cell? ⟨b,off+(k*2+1),none⟩=some (.int .i64 (l[k].2:Int)):=by
 obtain⟨b,off,e,hb,hc⟩:=h.2.2.2 (by have:=h.len;omega);refine⟨b,off,e,hb,hc _ _ ?_,hc _ _ ?_⟩
 ·have:=Mj l k 0 hk om;simpa[rnc]using this
 ·have:=Mj l k 1 hk om;simpa[rnc]using this
def oI (w:World) (base:Nat) (A:Option Addr) (n c:Nat) (l:List WW):Prop:=w.ownsRow base 378 2 (.slice A n c) n (Mi l)
theorem oI.rd {w base n c A l} (h:oI w base A n c l):qf w w.heap.size A n c l:=Rd.bz h
theorem oI.len {w base n c A l} (h:oI w base A n c l):n=l.length:=h.rd.len
theorem aap:(prog.info? 378).map (fun i=>(i.zero,i.size,i.bytes))=some (some (.agg #[.int .u64 0,.int .i64 0]),2,16):=kr
theorem qf.lit (w:World) (l fr) (h:l.length≤9223372036854775807):qf (w.alloc (.cells (Mi l).toArray 378 fr)) (w.heap.size+1) (some ⟨w.heap.size,0,none⟩) l.length l.length l:=
 ⟨Nr _,by unfold maxLen;omega,by rw[uQ],fun _=>⟨_,0,rfl,om,fun i u hu=>by
  rw[bO];exact(Aq w _ _ _ i).trans (by simpa using hu)⟩⟩
end Go.Proofs.YtongopommlghgaaGreatDoor
