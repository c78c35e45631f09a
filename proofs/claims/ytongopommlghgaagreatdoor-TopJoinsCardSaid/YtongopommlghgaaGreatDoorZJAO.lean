/- Part 15. -/
import Derived.Test.YtongopommlghgaaGreatDoorZJAN
import Derived.Shelf.Spec.TrailingZeros
namespace Go.Proofs.YtongopommlghgaaGreatDoor
set_option maxRecDepth 100000
set_option maxHeartbeats 0
open _root_.Go.Proofs.Tryz
open Go.RowKit Go.Shelf
def Ru.gtr (r:List Bool):(Nat×Nat)×List Bool×Int:=
 if(Tm.rd 64 r).2.2≠0 then((0,0),(Tm.rd 64 r).2)else(((Tm.rd 64 r).1,(Tm.rd 7 (Tm.rd 64 r).2.1).1+1),(Tm.rd 7 (Tm.rd 64 r).2.1).2)
theorem Oo {w:World} {base n c g sz e A xs} (h:w.ownsRow base e sz (.slice A n c) n xs) {cs t fr} (hg:w.heap[g]? =some (.cells cs t fr)) (ht:t≠e):some g≠ab A:=by
 rcases h.2 with⟨hv,_⟩|⟨g2,cap,cur,hv,_,hgb,_⟩
 ·injection hv with hv1;rw[hv1];exact fun e=>by cases e
 ·injection hv with hv1
  rw[hv1];intro e;obtain rfl:g=g2:=by simpa[ab]using e
  rw[hg]at hgb;simp only[gU,DY]at hgb;exact ht hgb.2.1
def wG (w:World) (g:Nat) (a b:Value):World:=(w.setCell ⟨g,0,none⟩ a).setCell ⟨g,1,none⟩ b
theorem kX (w g a b) {cs t} (h:w.heap[g]? =some (.cells cs t (0,0))) (hs:cs.size=2):(wG w g a b).heap[g]? =some (.cells #[a,b] t (0,0)):=by
 unfold wG;rw[Ag _ g 1 _ _ _ (Ag _ g 0 _ _ _ h)];obtain⟨l⟩:=cs
 match l,hs with
 |[x,y],_=>simp
theorem dY (w:World) (g a b):w.grownBy (wG w g a b) (some g):=(av w ⟨g,0,none⟩ a).trans (av _ ⟨g,1,none⟩ b)
theorem J6 (p r w) (h:Br w p r):
  Calls prog 259 #[.pointer (some ⟨p,0,none⟩)] w fun e w'=>e= .returned (.tuple #[.agg #[.int .u64 ((Ru.gtr r).1.1:Int),.int .i64 ((Ru.gtr r).1.2:Int)],.int .i64 (Ru.gtr r).2.2])∧Br w' p (Ru.gtr r).2.1∧w.grownBy w' (some p):=by
 have hp:=h.lt;obtain⟨W0,hW0⟩:∃W0,W0=w.alloc (.cells #[.int .u64 0,.int .i64 0] 378):=⟨_,rfl⟩
 have hg0:W0.heap[w.heap.size]? =some (.cells #[.int .u64 0,.int .i64 0] 378 (0,0)):=by rw[hW0];exact Aw w _
 have gr0:w.grownBy W0 (some p):=by rw[hW0];exact Ga _ _ _
 have H0:=Al (h.grown (row:=none) (show w.grownBy W0 none by rw[hW0];exact Ga _ _ _) (fun g e=>by cases e));have RB:=Al (dG p 64 r W0 H0.1 om);have hgt:Kept (Ru.gtr r=if(Tm.rd 64 r).2.2≠0 then((0,0),(Tm.rd 64 r).2)else(((Tm.rd 64 r).1,(Tm.rd 7 (Tm.rd 64 r).2.1).1+1),(Tm.rd 7 (Tm.rd 64 r).2.1).2)):=⟨rfl⟩
 obtain⟨G,hG⟩:∃G,G=Ru.gtr r:=⟨_,rfl⟩
 rw[←hG]at hgt⊢;have her:=Tm.qc 64 r;obtain⟨X,hX⟩:∃X,X=Tm.rd 64 r:=⟨_,rfl⟩
 rw[←hX]at RB her hgt;obtain⟨x,r1,e1⟩:=X;simp only[]at RB her hgt;have HW0:=Al hW0.symm;have HG0:=Al hg0;have GR0:=Al gr0;have hwz:Kept (p<w.heap.size):=⟨hp⟩
 clear hX hG h hW0 hg0 gr0;rcases her with rfl|rfl
 ·rw[Ng Ah]at hgt;have hr7:=Tm.jC 7 r1;have R7:=Al (fun(w1:World) (hb:Br w1 p r1)=>dG p 7 r1 w1 hb om);obtain⟨X,hX⟩:∃X,X=Tm.rd 7 r1:=⟨_,rfl⟩
  rw[←hX]at R7 hgt hr7;obtain⟨cn,r2,e2⟩:=X;simp only[]at R7 hgt hr7;have hw1:wrap64 (cn:Int)=(cn:Int):=by unfold wrap64;omega
  clear hX;go_enter func259,ntmps259;go_wp2_with (first
   |(go_at_call 213;refine(R7.1 w1 B1.1).mono ?_;rintro e w2 ⟨rfl,hb2,hg2⟩;have B2:=Al hb2;have G2:=Al (G1.1.trans hg2);have C2:=Al ((hg2.block _ (Ge.1 C1.1).1 (fun e=>by have:=Oj e;have:=hwz.1;omega)).trans C1.1);have f0:=Fr _ _ 0 _ _ C2.1;have f1:=Fr _ _ 1 _ _ C2.1;have k0:=Co _ _ 0 _ _ _ C2.1;have k1:=Co _ _ 1 _ _ _ C2.1;clear hb2 hg2)
   |(go_at_call 213;rw[HW0.1];refine RB.1.mono ?_;rintro e w1 ⟨rfl,hb1,hg1⟩;have B1:=Al hb1;have G1:=Al (GR0.1.trans hg1);have C1:=Al ((hg1.block _ (Ge.1 HG0.1).1 (fun e=>by have:=Oj e;have:=hwz.1;omega)).trans HG0.1);clear hb1 hg1))
  rw[hgt.1];refine Bg (v:= .tuple #[.agg #[.int .u64 (x:Int),.int .i64 ((cn:Int)+1)],.int .i64 e2]) ?_ rfl ⟨rfl,B2.1.grown (dY w2 w.heap.size (.int .u64 (x:Int)) (.int .i64 ((cn:Int)+1))) (fun g e=>by cases e;exact hwz.1),?_⟩
  ·exact cO (fn:=Tryz.f259) (a:=2) (u:=3) (T1:=378) rfl _ _ w.heap.size _ _ _ _ rfl (kX w2 w.heap.size (.int .u64 (x:Int)) (.int .i64 ((cn:Int)+1)) C2.1 rfl) underlying378 rfl kr
  ·exact G2.1.andThen (dY w2 w.heap.size (.int .u64 (x:Int)) (.int .i64 ((cn:Int)+1))) (fun j hj=> .inl (by cases hj;exact Nr _))
 ·rw[Ps0 Ah]at hgt;go_enter func259,ntmps259;go_wp2_with (go_at_call 213;rw[HW0.1];refine RB.1.mono ?_;rintro e w1 ⟨rfl,hb1,hg1⟩;have B1:=Al hb1;have G1:=Al (GR0.1.trans hg1);have C1:=Al ((hg1.block _ (Ge.1 HG0.1).1 (fun e=>by have:=Oj e;have:=hwz.1;omega)).trans HG0.1);have f0:=Fr _ _ 0 _ _ C1.1;have f1:=Fr _ _ 1 _ _ C1.1;have k0:=Co _ _ 0 _ _ _ C1.1;have k1:=Co _ _ 1 _ _ _ C1.1;clear hb1 hg1);rw[hgt.1];refine Bg (v:= .tuple #[.agg #[.int .u64 0,.int .i64 0],.int .i64 3]) ?_ rfl ⟨rfl,B1.1.grown (dY w1 w.heap.size (.int .u64 0) (.int .i64 0)) (fun g e=>by cases e;exact hwz.1),?_⟩
  ·exact cO (fn:=Tryz.f259) (a:=2) (u:=3) (T1:=378) rfl _ _ w.heap.size _ _ _ _ rfl (kX w1 w.heap.size (.int .u64 0) (.int .i64 0) C1.1 rfl) underlying378 rfl kr
  ·exact G1.1.andThen (dY w1 w.heap.size (.int .u64 0) (.int .i64 0)) (fun j hj=> .inl (by cases hj;exact Nr _))
theorem Oq (A n c B rs w) (hr:qf w B A n c rs) (hB:B≤w.heap.size) (hc:∀q∈rs,q.2≤128) (ht:Ru.tot rs≤1000000):
  Calls prog 260 #[.slice A n c] w fun e w'=>∃A2 n2 c2,e= .returned (.slice A2 n2 c2)∧aG w' w.heap.size A2 n2 c2 (Ru.join rs)∧Below w.heap.size w w':=by
 have hln:=Al hr.len;have hlc:=hr.1;have hcm:=hr.2.1;unfold maxLen at hcm;have R0:=Al hr;have HC:=Al hc;clear hr hc;go_enter func260,ntmps260;go_wp2;go_loopw [3,8] (fun v i wr=>∃(k:Nat) (A2:Option Addr) (n2 c2:Nat),k≤n∧i= .int .i64 k∧v= .slice A2 n2 c2∧aG wr w.heap.size A2 n2 c2 (Ru.join (rs.take k))∧Below w.heap.size w wr) (fun _ i _=>n-(intOf i).toNat)
 case atStart=>exact⟨0,none,0,0,om,rfl,rfl,⟨rfl,.inl ⟨rfl,rfl⟩⟩,Ae _ _⟩
 case round=>
  obtain⟨k,A2,n2,c2,hk,rfl,rfl,ho,hb⟩:=hrel;by_cases hlt:k<n
  ·have hlt':(k:Int)< (n:Int):=by omega
   have hkl:k<rs.length:=by have:=hln.1;omega
   have hrr:=(R0.1.below (hb.mono hB))
   obtain⟨b,off,rfl,ni,hc0,hc1⟩:=hrr.at_ hkl;have hcn:=HC.1 _ (dR hkl);obtain⟨q,hq⟩:∃q,q=rs[k]:=⟨_,rfl⟩
   rw[←hq]at hc0 hc1 hcn;obtain⟨x,cn⟩:=q;simp only[]at hc0 hc1 hcn;rw[←iw]at hc1;have hcn':¬(128:Int)< (cn:Int):=om;have hz:=hb.size;have HO:=Al ho;have HB:=Al hb;have HQ:=Al hq;clear ho hb hrr hq;go_wp2;have hnew:=Aw wr (.cells #[.int .u64 (x:Int),.int .i64 (cn:Int)] 378);have hO1:aG (wr.alloc (.cells #[.int .u64 (x:Int),.int .i64 (cn:Int)] 378)) w.heap.size A2 n2 c2 (Ru.join (rs.take k)):=Oa HO.1 _;have hB1:=HB.1.alloc hz (.cells #[.int .u64 (x:Int),.int .i64 (cn:Int)] 378);have hjl:Kept ((Ru.join (rs.take k)).length+cn≤1000000):=⟨by
    have e:=congrArg Ru.tot (je k rs);rw[oQ hkl,←HQ.1]at e;simp only[Ru.tot,dN,Dx,AJ,Bv]at e ht;rw[Ru.nV];unfold Ru.tot;omega⟩
   generalize wr.alloc (.cells #[.int .u64 (x:Int),.int .i64 (cn:Int)] 378)=W1 at*;generalize wr.heap.size=g at*;clear hc0 hc1;go_loopw [3,17] (fun v i wi=>∃(j:Nat) (A3:Option Addr) (n3 c3:Nat),j≤cn∧i= .int .i64 j∧v= .slice A3 n3 c3∧aG wi w.heap.size A3 n3 c3 (Ru.join (rs.take k)++List.replicate j x)∧Below w.heap.size w wi∧
    Kept (wi.heap[g]? =some (.cells #[.int .u64 (x:Int),.int .i64 (cn:Int)] 378 (0,0)))) (fun _ i _=>cn-(intOf i).toNat)
   case atStart=>exact⟨0,A2,n2,c2,om,rfl,rfl,by simpa using hO1,hB1,⟨hnew⟩⟩
   case round=>
    obtain⟨j,A3,n3,c3,hj,rfl,rfl,ho3,hb3,hc3⟩:=hrel;by_cases hjc:j<cn
    ·have alC:(j:Int)< (cn:Int):=by omega
     have k0:=Co _ _ 0 _ _ _ hc3.1;have hl3:=ho3.len;have rD:n3≤1000000:=by rw[hl3,La,Ep];have:=hjl.1;omega
     have O3:=Al ho3;have B3:=Al hb3;have hz3:=hb3.size;clear ho3 hb3 hl3;have hal:=Ga wr (.cells #[.int .u64 (x:Int)] 125) none;have hzb:w.heap.size≤(wr.alloc (.cells #[.int .u64 (x:Int)] 125)).heap.size:=by simp;omega
     have hc4:=Al ((hal.block g (Ge.1 hc3.1).1 (fun e=>by cases e)).trans hc3.1);go_wp2_with (at_builtin;refine dF rfl (.tmp 19) (.tmp 22) rfl w.heap.size A3 n3 c3 _ rfl (Oa O3.1 _) _ _ _ _ _ rfl (j6.one wr x) om hzb ?_;intro A4 c4 w5 au af bT;have O4:=Al au;have G4:=Al af;clear au af);go_roundw
     case rel=>
      refine⟨j+1,A4,n3+1,c4,om,by go_num,rfl,?_,((B3.1.alloc hz3 _).grown G4.1 hzb (fun r e=>(ae O3.1 r e).1)),⟨(G4.1.block g (Ge.1 hc4.1).1 (Oo (Oa O3.1 _) hc4.1 Ai)).trans hc4.1⟩⟩;have:=O4.1;rw[Af,show List.replicate j x++[x]=List.replicate (j+1) x by rw[List.replicate_succ']]at this;exact this
     case measure=>simp[intOf];omega
    ·obtain rfl:j=cn:=by omega
     have O3:=Al ho3;have B3:=Al hb3;clear ho3 hb3;go_wp2;go_roundw
     case rel=>
      refine⟨k+1,A3,n3,c3,om,by go_num,rfl,?_,B3.1⟩;have e:Ru.join (rs.take (k+1))=Ru.join (rs.take k)++List.replicate j x:=by
       rw[Ts hkl,←HQ.1];simp[Ru.join]
      rw[e];exact O3.1
     case measure=>simp[intOf];omega
  ·obtain rfl:k=n:=by omega
   have e:rs.take k=rs:=jc (by have:=hln.1;omega);rw[e]at ho;have HO:=Al ho;have HB:=Al hb;clear ho hb;go_wp2;go_ret;exact⟨A2,n2,c2,rfl,HO.1,HB.1⟩
theorem J7 {w ops o a K Q E} (hgd:o.guard=none) (s x)
  (ho:o.op= .call {callee:= .builtin .append,args:= #[s,x],argTypes:= #[379,379]})
  (base A n c l) (hs:a.eval s= .slice A n c) (hown:oI w base A n c l)
  (B S m d k) (hx:a.eval x= .slice S m d) (hr:qf w B S m d k)
  (hlen:n+m≤4398046511104) (hbase:base≤w.heap.size)
  (h:∀A2 c2 w',oI w' base A2 (n+m) c2 (l++k)→w.grownBy w' (ab A)→(ab A2=ab A∨ab A2=some w.heap.size)→K (a.put o.dst (.slice A2 (n+m) c2)) w'):
  if Region.wanted o (yielded ops a.tmps)=true then Oper.wp prog o a w K Q else E:=by
 have hw:Region.wanted o (yielded ops a.tmps)=true:=by simp[Region.wanted,hgd]
 rw[Ps0 hw];obtain⟨i0,hi0,hz0,hz1,hz2⟩:=AY aap;refine mG w s x _ ho base 378 i0 (.agg #[.int .u64 0,.int .i64 0]) 2 16 underlying379 hi0 hz0 hz1 hz2 rfl Ai A n c (Mi l) hs hown B S m d (Mi k) hx hr (WX k) (by unfold maxLen;omega) om hbase ?_;rw[←J5];exact h
theorem Ru.WY (f last acc r):Ru.gr f 0 last acc r=(acc,r,0):=by cases f<;>simp[Ru.gr]
theorem Ru.WZ {f m} (hm:0<m) (hf:m≤f) (last acc r):
  Ru.gr f m last acc r=if(Ru.gtr r).2.2≠0 then([],(Ru.gtr r).2)else if m< (Ru.gtr r).1.2∨last=some (Ru.gtr r).1.1 then([],(Ru.gtr r).2.1,8)else Ru.gr (f-1) (m-(Ru.gtr r).1.2) (some (Ru.gtr r).1.1) (acc++[(Ru.gtr r).1]) (Ru.gtr r).2.1:=by
 obtain⟨f,rfl⟩:∃g,f=g+1:=⟨f-1,om⟩
 rw[Ru.gr,Ng om];unfold Ru.gtr;by_cases h:(Tm.rd 64 r).2.2≠0
 ·rw[Ps0 h,Ps0 h,Ps0 h]
 ·rw[Ng h,Ng h];simp only[Bj]
structure Mk (w:World) (p n gl:Nat) (Q:List WW×List Bool×Int) (m:Nat) (A2:Option Addr) (n2 c2:Nat) (W:World) (f:Nat) (last:Option Nat) (acc:List WW) (r2:List Bool) (lv lc:Nat):Prop where
 fuel:m≤f
 tot:Ru.tot acc+m=n
 all:∀q∈acc,1≤q.2∧q.2≤128
 gr:Ru.gr f m last acc r2=Q
 own:oI W w.heap.size A2 n2 c2 acc
 br:Br W p r2
 grown:w.grownBy W (some p)
 row:W.heap[gl]? =some (.cells #[.int .u64 (lv:Int),.int .i64 (lc:Int)] 378 (0,0))
 dI:(last=none∧lc=128)∨(last=some lv∧lc<128)
 apart:ab A2≠some gl
theorem Ru.Ml:∀{acc:List WW},(∀q∈acc,1≤q.2∧q.2≤128)→acc.length≤Ru.tot acc
 |[],_=>Ah
 |q::acc,h=>by
  have h1:=Ru.Ml (acc:=acc) (fun q hq=>h q (nU _ hq));have h2:=(h q jO).1;unfold Ru.tot at*;simp only[Lc,AJ,Bv];omega
theorem Ot {w wr w2 p n m n2 c2 f lv lc x cn A2 Q last acc r2 r3}
  (I:Mk w p n w.heap.size Q m A2 n2 c2 wr f last acc r2 lv lc) (hst:Q=Ru.gr (f-1) (m-cn) (some x) (acc++[(x,cn)]) r3) (h1:1≤cn) (h2:cn≤128) (hcm:cn≤m) (hp:p<w.heap.size)
  (hb2:Br w2 p r3) (hg2:wr.grownBy w2 (some p)) (hr2:(w2.alloc (.cells #[.int .u64 (x:Int),.int .i64 (cn:Int)] 378)).heap[w.heap.size]? =some (.cells #[.int .u64 (lv:Int),.int .i64 (lc:Int)] 378 (0,0))):
  ∀(o) (A4) (c4) (w5),oI w5 w.heap.size A4 (n2+1) c4 (acc++[(x,cn)])→((w2.alloc (.cells #[.int .u64 (x:Int),.int .i64 (cn:Int)] 378)).alloc o).grownBy w5 (ab A2)→
   (ab A4=ab A2∨ab A4=some (w2.heap.size+1+1))→cn<128→Mk w p n w.heap.size Q (m-cn) A4 (n2+1) c4 (wG w5 w.heap.size (.int .u64 (x:Int)) (.int .i64 (cn:Int))) (f-1) (some x) (acc++[(x,cn)]) r3 x cn:=by
 intro o A4 c4 w5 hown hgr hat hlt;have hz:=I.grown.size;have hz2:=hg2.size;have hgl:=(Ge.1 I.row).1;have ha2:∀g,ab A2=some g→w.heap.size<g∧g<wr.heap.size:=fun g e=>by
  have h:=ae I.own g e;have h3:g≠w.heap.size:=fun e2=>I.apart (by rw[e,e2])
  omega
 have ga:w2.grownBy ((w2.alloc (.cells #[.int .u64 (x:Int),.int .i64 (cn:Int)] 378)).alloc o) none:=(Ga w2 (.cells #[.int .u64 (x:Int),.int .i64 (cn:Int)] 378) none).trans (Ga _ o none);have hap:ab A4≠some w.heap.size:=fun e=>by
  rcases hat with h|h
  ·exact I.apart (h.symm.trans e)
  ·have:=Oj (h.symm.trans e);omega
 have gp:=dY w5 w.heap.size (.int .u64 (x:Int)) (.int .i64 (cn:Int));have UA:=(hgr.block w.heap.size (by simp;omega) (fun e=>(I.apart e.symm))).trans ((Ay (w2.alloc (.cells #[.int .u64 (x:Int),.int .i64 (cn:Int)] 378)) o _ (by simp;omega)).trans hr2);refine⟨by have:=I.fuel;omega,?_,?_,hst.symm,ag hown gp (.inr hap),?_,?_,kX w5 w.heap.size _ _ UA rfl,.inr ⟨rfl,hlt⟩,hap⟩
 ·have:=I.tot;unfold Ru.tot at*;simp only[dN,Dx,AJ,List.map_nil,Bv,List.sum_nil];omega
 ·intro q hq;rcases gY.1 hq with h|h
  ·exact I.all q h
  ·rw[iP.1 h];exact⟨h1,h2⟩
 ·exact((hb2.grown ga (fun g e=>by cases e)).grown hgr (fun g e=>by have:=(ha2 g e).1;omega)).grown gp (fun g e=>by cases e;exact hp)
 ·have h1:w.grownBy w2 (some p):=I.grown.trans hg2;have h2:w.grownBy ((w2.alloc (.cells #[.int .u64 (x:Int),.int .i64 (cn:Int)] 378)).alloc o) (some p):=h1.andThen ga (fun j hj=>by cases hj);exact(h2.andThen hgr (fun j hj=> .inl (by have:=(ha2 j hj).1;omega))).andThen gp (fun j hj=> .inl (by cases hj;exact Nr _))
theorem Ti (p n:Nat) (r w) (h:Br w p r) (hn:n≤127):
  Calls prog 220 #[.pointer (some ⟨p,0,none⟩),.int .i64 (n:Int)] w fun e w'=>∃A2 n2 c2,e= .returned (.tuple #[.slice A2 n2 c2,.int .i64 (Ru.dec n r).2.2])∧aG w' w.heap.size A2 n2 c2 (Ru.dec n r).1∧Br w' p (Ru.dec n r).2.1∧w.grownBy w' (some p):=by
 have l9:=h.lt;obtain⟨W0,hW0⟩:∃W0,W0=w.alloc (.cells #[.int .u64 0,.int .i64 128] 378):=⟨_,rfl⟩
 have gn0:w.grownBy W0 none:=by rw[hW0];exact Ga _ _ _
 have gp0:w.grownBy W0 (some p):=by rw[hW0];exact Ga _ _ _
 obtain⟨Q,hQ⟩:∃Q,Ru.gr n n none [] r=Q:=⟨_,rfl⟩
 have hD:Ru.dec n r=(Ru.join Q.1,Q.2):=by unfold Ru.dec;rw[hQ]
 have I0:Mk w p n w.heap.size Q n none 0 0 W0 n none [] r 0 128:=
  ⟨Nr _,by simp[Ru.tot],Ah,hQ,⟨rfl,.inl ⟨rfl,rfl⟩⟩,h.grown gn0 (fun g e=>by cases e),gp0,by rw[hW0];exact Aw w _,.inl ⟨rfl,rfl⟩,by simp[ab]⟩
 rw[hD];have HW0:=Al hW0.symm;have hn0:¬(n:Int)<0:=om;have hwz:Kept (p<w.heap.size):=⟨l9⟩
 clear h hW0 gn0 gp0 hQ hD;go_enter func220,ntmps220;go_wp2;rw[HW0.1];go_loopw [1,6] (fun mv v wr=>∃(m:Nat) (A2:Option Addr) (n2 c2 f:Nat) (last:Option Nat) (acc:List WW) (r2:List Bool) (lv lc:Nat),mv= .int .i64 m∧v= .slice A2 n2 c2∧m≤n∧Mk w p n w.heap.size Q m A2 n2 c2 wr f last acc r2 lv lc) (fun mv _ _=>(intOf mv).toNat)
 case atStart=>exact⟨n,none,0,0,n,none,[],r,0,128,rfl,rfl,Nr _,I0⟩
 case round=>
  clear I0 HW0;obtain⟨m,A2,n2,c2,f,last,acc,r2,lv,lc,rfl,rfl,hmn,I⟩:=hrel;have HI:=Al I;clear I;by_cases hm0:m=0
  ·subst hm0;have hq:Kept (Q=(acc,r2,0)):=⟨by rw[←HI.1.gr,Ru.WY]⟩
   have J:=Al (Oq A2 n2 c2 _ acc wr HI.1.own.rd Aj (fun q hq=>(HI.1.all q hq).2) (by have:=HI.1.tot;omega));go_wp2_with (go_at_call 260;refine J.1.mono ?_;rintro e w1 ⟨A3,n3,c3,rfl,ho,hb⟩;have O1:=Al ho;have B1:=Al hb;clear ho hb);go_ret2;rw[hq.1];exact⟨A3,n3,c3,rfl,JW O1.1 HI.1.grown.size,HI.1.br.below B1.1 HI.1.br.lt,HI.1.grown.andThen (row':=none) ⟨B1.1.os,B1.1.tape,B1.1.output,B1.1.size,fun k hk _=>B1.1.block k hk⟩ (fun j hj=>by cases hj)⟩
  ·have hm':(0:Int)< (m:Int):=by omega
   have GR:=Al (J6 p r2 wr HI.1.br);have hst:=Al (Ru.WZ om HI.1.fuel last acc r2);rw[HI.1.gr]at hst;have W9:(Ru.gtr r2).2.2=0→1≤(Ru.gtr r2).1.2∧(Ru.gtr r2).1.2≤128:=fun h=>by
    unfold Ru.gtr at h⊢;have h7:=Tm.jC 7 (Tm.rd 64 r2).2.1;by_cases h0:(Tm.rd 64 r2).2.2≠0
    ·rw[Ps0 h0]at h;exact absurd h h0
    ·rw[Ng h0];simp only[];omega
   obtain⟨X,hX⟩:∃X,X=Ru.gtr r2:=⟨_,rfl⟩
   rw[←hX]at GR hst W9;clear hX;obtain⟨⟨x,cn⟩,r3,e1⟩:=X;simp only[]at GR hst W9;by_cases he:e1=0
   ·subst he;rw[Ng Ah]at hst;obtain⟨hc1,hc2⟩:=W9 rfl;by_cases hbad:m<cn∨last=some x
    ·rw[Ps0 hbad]at hst;have hcs:(m:Int)< (cn:Int)∨(¬(m:Int)< (cn:Int)∧((x:Int)==(lv:Int))=true∧(lc:Int)<128):=by
      rcases hbad with h|h
      ·exact .inl om
      ·by_cases h1:(m:Int)< (cn:Int)
       ·exact .inl h1
       ·rcases HI.1.dI with⟨h2,_⟩|⟨h2,h3⟩
        ·rw[h2]at h;cases h
        ·rw[h2]at h;exact .inr ⟨h1,by simp;rw[Oj h],om⟩
     clear hbad;rcases hcs with hcs|⟨hcs1,hcs2,alD⟩
     all_goals
      go_wp2_with (go_at_call 259;refine GR.1.mono ?_;rintro e w2 ⟨rfl,hb2,hg2⟩;have B2:=Al hb2;have G2:=Al (HI.1.grown.trans hg2);have hrow:=(hg2.block _ (Ge.1 HI.1.row).1 (fun e=>by have:=Oj e;have:=hwz.1;omega)).trans HI.1.row;have ga:=Ga w2 (.cells #[.int .u64 (x:Int),.int .i64 (cn:Int)] 378) none;have hrow2:=(ga.block _ (Ge.1 hrow).1 (fun e=>by cases e)).trans hrow;have k0:=Co _ _ 0 _ _ _ hrow2;have k1:=Co _ _ 1 _ _ _ hrow2;have BA:=Al (B2.1.grown ga (fun g e=>by cases e));have GA:=Al (G2.1.trans (Ga w2 (.cells #[.int .u64 (x:Int),.int .i64 (cn:Int)] 378) _));clear hb2 hg2 hrow ga hrow2);go_ret2;rw[hst.1];exact⟨none,0,0,rfl,⟨rfl,.inl ⟨rfl,rfl⟩⟩,BA.1,GA.1⟩
    ·rw[Ng hbad]at hst;have hcm:cn≤m:=om;have hcs:((x:Int)==(lv:Int))=false∨(((x:Int)==(lv:Int))=true∧lc=128):=by
      by_cases h:x=lv
      ·rcases HI.1.dI with⟨_,h2⟩|⟨h2,_⟩
       ·exact .inr ⟨by simp[h],h2⟩
       ·exact absurd (.inr (by rw[h2,h])) hbad
      ·exact .inl (by simp;omega)
     have hcm1:¬(m:Int)< (cn:Int):=om;clear hbad;rcases hcs with hcs|⟨hcs1,hcs2⟩
     all_goals
      go_upto_region 13 with(go_at_call 259;refine GR.1.mono ?_;rintro e w2 ⟨rfl,hb2,hg2⟩;have B2:=Al hb2;have G2:=Al hg2;have hrow:=(hg2.block _ (Ge.1 HI.1.row).1 (fun e=>by have:=Oj e;have:=hwz.1;omega)).trans HI.1.row;have ga:=Ga w2 (.cells #[.int .u64 (x:Int),.int .i64 (cn:Int)] 378) none;have hrow2:=(ga.block _ (Ge.1 hrow).1 (fun e=>by cases e)).trans hrow;have k0:=Co _ _ 0 _ _ _ hrow2;have k1:=Co _ _ 1 _ _ _ hrow2;have HR2:=Al hrow2;clear hb2 hg2 hrow ga hrow2)
      obtain⟨gx,hgx⟩:∃gx,gx=w2.heap.size:=⟨_,rfl⟩
      have T:=Al (Ot HI.1 hst.1 hc1 hc2 hcm l9 B2.1 G2.1 HR2.1);rw[←hgx]at T;have hn0:=Aw w2 (.cells #[.int .u64 (x:Int),.int .i64 (cn:Int)] 378);rw[←hgx]at hn0⊢;have hzx:w.heap.size<gx:=by rw[hgx];have h1:=HI.1.grown.size;have h2:=G2.1.size;have h3:=(Ge.1 HI.1.row).1;omega
      have hlA:∀g,ab A2=some g→g<gx∧g≠w.heap.size:=fun g e=>⟨by rw[hgx];have h1:=(ae HI.1.own g e).2;have h2:=G2.1.size;omega,fun e2=>HI.1.apart (by rw[e,e2])⟩
      have hO3:=Al (show oI (w2.alloc (.cells #[.int .u64 (x:Int),.int .i64 (cn:Int)] 378)) w.heap.size A2 n2 c2 acc from Oa (kW HI.1.own G2.1 l9) _);have hz3:(w2.alloc (.cells #[.int .u64 (x:Int),.int .i64 (cn:Int)] 378)).heap.size=gx+1:=by rw[hgx];simp
      have hn2:n2≤127:=by
       have h1:=HI.1.own.len;have h2:=Ru.Ml HI.1.all;have h3:=HI.1.tot;omega
      have hst':=hst;clear hgx k0 k1 hst;generalize w2.alloc (.cells #[.int .u64 (x:Int),.int .i64 (cn:Int)] 378)=W3 at*;have hz5:Kept (∀o,(W3.alloc o).heap.size=gx+1+1):=⟨fun o=>by simp;omega⟩
      have hcn:Kept (cn<128):=⟨om⟩
      have d0:W3.cell? ⟨gx,0,none⟩=some (.int .u64 (x:Int)):=Co _ _ 0 _ _ _ hn0;have d1:W3.cell? ⟨gx,1,none⟩=some (.int .i64 (cn:Int)):=Co _ _ 1 _ _ _ hn0;have e0:∀o,(W3.alloc o).cell? ⟨gx,0,none⟩=some (.int .u64 (x:Int)):=fun o=>(AR _ _ ⟨gx,0,none⟩ (by show gx<_;omega)).trans d0
      have e1:∀o,(W3.alloc o).cell? ⟨gx,1,none⟩=some (.int .i64 (cn:Int)):=fun o=>(AR _ _ ⟨gx,1,none⟩ (by show gx<_;omega)).trans d1
      have f0:=Fr _ _ 0 _ _ HR2.1;have f1:=Fr _ _ 1 _ _ HR2.1;have k0:W3.cell? ⟨w.heap.size,0,none⟩=some (.int .u64 (lv:Int)):=Co _ _ 0 _ _ _ HR2.1;have k1:W3.cell? ⟨w.heap.size,1,none⟩=some (.int .i64 (lc:Int)):=Co _ _ 1 _ _ _ HR2.1;go_region_held3 (fun w'=>w'.cell? ⟨gx,0,none⟩=some (.int .u64 (x:Int))∧w'.cell? ⟨gx,1,none⟩=some (.int .i64 (cn:Int))) (first|exact⟨d0,d1⟩|exact⟨e0 _,e1 _⟩|exact k9|exact k10 _ _)
       ((refine J7 ?g1 (.tmp 43) (.tmp 45) ?g2 w.heap.size A2 n2 c2 acc ?g3 ?g4 (gx+1+1) (some ⟨gx+1,0,none⟩) 1 1 [(x,cn)] ?g5 ?g6 ?g7 ?g8 ?_;(case g1=>rfl);(case g2=>rfl);(case g3=>rfl);(case g5=>(rw[←hz3];rfl));(case g4=>exact Oa hO3.1 _);(case g6=>(rw[←hz3];exact qf.lit W3 [(x,cn)] (0,0) Ah));(case g7=>omega);(case g8=>(simp;omega));intro A4 c4 w5 hown hgrow hat;have vZ:(W3.alloc (.cells #[.int .u64 (x:Int),.int .i64 (cn:Int)] 378)).grownBy w5 (ab A2):=⟨hgrow.os,hgrow.tape,hgrow.output,hgrow.size,hgrow.block⟩;have hx5:w5.heap[gx]? =(W3.alloc (.cells #[.int .u64 (x:Int),.int .i64 (cn:Int)] 378)).heap[gx]?:=vZ.block gx (by simp;omega) (fun e=>absurd (hlA gx e.symm).1 (Et _));have k9:w5.cell? ⟨gx,0,none⟩=some (.int .u64 (x:Int))∧w5.cell? ⟨gx,1,none⟩=some (.int .i64 (cn:Int)):=⟨(AU (a:=⟨gx,0,none⟩) hx5).trans (e0 _),(AU (a:=⟨gx,1,none⟩) hx5).trans (e1 _)⟩;have k10:∀a b:Value,((w5.setCell ⟨w.heap.size,0,none⟩ a).setCell ⟨w.heap.size,1,none⟩ b).cell? ⟨gx,0,none⟩=some (.int .u64 (x:Int))∧((w5.setCell ⟨w.heap.size,0,none⟩ a).setCell ⟨w.heap.size,1,none⟩ b).cell? ⟨gx,1,none⟩=some (.int .i64 (cn:Int)):=fun a b=>⟨(AU (a:=⟨gx,0,none⟩) ((dY w5 w.heap.size a b).block gx (Bd w5 ⟨gx,0,none⟩ k9.1) (fun e=>by have:=Oj e;omega))).trans k9.1,(AU (a:=⟨gx,1,none⟩) ((dY w5 w.heap.size a b).block gx (Bd w5 ⟨gx,0,none⟩ k9.1) (fun e=>by have:=Oj e;omega))).trans k9.2⟩;have UA:=(vZ.block w.heap.size (by simp;omega) (fun e=>(hlA _ e.symm).2 rfl)).trans ((Ay W3 _ _ om).trans HR2.1);have g0:=Fr _ _ 0 _ _ UA;have g1:=Fr _ _ 1 _ _ UA;have q0:w5.cell? ⟨w.heap.size,0,none⟩=some (.int .u64 (lv:Int)):=Co _ _ 0 _ _ _ UA;have q1:w5.cell? ⟨w.heap.size,1,none⟩=some (.int .i64 (lc:Int)):=Co _ _ 1 _ _ _ UA;have T5:=Al (T.1 _ A4 c4 w5 hown vZ (by rcases hat with h|h<;>rw[h]<;>simp[hz3]) hcn.1);have X5:=Al hx5;have XG:=Al vZ;clear hown hgrow vZ hx5 UA hat))
      obtain⟨kx,kc⟩:=k10 (.int .u64 (x:Int)) (.int .i64 (cn:Int));go_wp2;go_roundw
      case rel=>exact⟨m-cn,A4,n2+1,c4,f-1,some x,acc++[(x,cn)],r3,x,cn,congrArg (Value.int .i64) (show(m:Int)-(cn:Int)=((m-cn:Nat):Int)from om),rfl,om,T5.1⟩
      case measure=>simp[intOf];omega
   ·rw[Ps0 he]at hst;have hne:(e1 !=0)=true:=by simpa using he
    clear he W9;go_wp2_with (go_at_call 259;refine GR.1.mono ?_;rintro e w2 ⟨rfl,hb2,hg2⟩;have B2:=Al hb2;have G2:=Al (HI.1.grown.trans hg2);have ga:=Ga w2 (.cells #[.int .u64 (x:Int),.int .i64 (cn:Int)] 378) none;have BA:=Al (B2.1.grown ga (fun g e=>by cases e));have GA:=Al (G2.1.trans (Ga w2 (.cells #[.int .u64 (x:Int),.int .i64 (cn:Int)] 378) _));clear hb2 hg2 ga);go_ret2;rw[hst.1];exact⟨none,0,0,rfl,⟨rfl,.inl ⟨rfl,rfl⟩⟩,BA.1,GA.1⟩
def wH (w:World):Prop:=TabAt 2 Lib.deBruijn64tab w
theorem Xa (x:Nat) (hx:x<18446744073709551616) (w):
  Calls prog 238 #[.int .u64 (x:Int)] w fun e w'=>e= .returned (.int .i64 ((Di.bl x:Nat):Int))∧w'=w:=by
 have h:=Any.bits_Len64 (P:=prog) (ρ:=Tryz.sortS_ren) {Tryz.sortS with} (x:Int) w om om;rw[lZ,bitLen_eq _ hx]at h;exact h
theorem ac6 (x:Nat) (hx:x<18446744073709551616) (w):
  Calls prog 294 #[.int .u64 (x:Int)] w fun e w'=>e= .returned (.int .i64 ((Xo.lz x:Nat):Int))∧w'=w:=by
 have L:=Al (Xa x hx w);have hb:Di.bl x≤64:=Xo.QN (n:=64) om;have he:Kept (((Xo.lz x:Nat):Int)=64-((Di.bl x:Nat):Int)):=⟨by unfold Xo.lz;omega⟩
 rw[he.1];generalize Di.bl x=q at*;go_enter func294,ntmps294;go_wp2_with (go_at_call 238;refine L.1.mono ?_;rintro e w1 ⟨rfl,rfl⟩);go_ret;exact⟨rfl,rfl⟩
theorem GY:∀(f x),Lib.ctzFrom f x=Xo.tz f x
 |0,_=>rfl
 |f+1,x=>by rw[Lib.ctzFrom,Xo.tz,GY f]
theorem Mm:∀f:Nat,Xo.tz f 0=f
 |0=>rfl
 |f+1=>by rw[Xo.tz,Ng Ai,Nat.zero_div,Mm f];omega
theorem aaq (f x):Lib.ctz f x=Xo.tz f x:=by
 unfold Lib.ctz;by_cases h:x=0
 ·subst h;rw[Ps0 rfl,Mm]
 ·rw[Ng h,GY]
theorem Tj (x k idx:Nat) (w) (hx0:((x:Int)==0)=false)
  (key:IntKind.u64.wrap (bits BinOp.and IntKind.u64 (x:Int) (IntKind.u64.wrap (-(x:Int)))*285870213051353865)/288230376151711744=(idx:Int))
  (hi:idx<64) (hk:k<64) (hcell:w.cell? ⟨2,idx,none⟩=some (.int .u8 k)):
  Calls prog 295 #[.int .u64 (x:Int)] w fun e w'=>e= .returned (.int .i64 k)∧w'=w:=by
 go_enter func295,ntmps295;go_wp2_with (simp only[key]);go_ret;exact⟨rfl,rfl⟩
theorem Xb (w):Calls prog 295 #[.int .u64 0] w fun e w'=>e= .returned (.int .i64 64)∧w'=w:=by
 go_enter func295,ntmps295;go_wp2;go_ret;exact⟨rfl,rfl⟩
theorem ac7 (x:Nat) (hx:x<18446744073709551616) (w) (hT:wH w):
  Calls prog 295 #[.int .u64 (x:Int)] w fun e w'=>e= .returned (.int .i64 ((Xo.tz 64 x:Nat):Int))∧w'=w:=by
 rw[←aaq];by_cases h0:x=0
 ·subst h0;exact Xb w
 ·obtain⟨hlow,hk⟩:=Lib.lowest_bit 64 x h0 hx;obtain⟨hi,htab⟩:=Lib.deBruijn64_at _ hk;have hcell:=hT _ hi;rw[htab]at hcell;exact Tj x _ _ w (by simp;omega) (tz64_key x _ hx h0 hlow) hi hk hcell
def wv (c:Nat×Nat):Value:= .agg #[.int .i64 (c.1:Int),.int .i64 (c.2:Int)]
theorem bI {P:Program} {fn:Func} {a:Tmp} {T1:TypeId} (h:fn.results= #[.cell a T1]) (tmps:Array Value) (w:World) (g1:Nat) (cs1:Array Value) (t1:TypeId) (f1:Nat×Nat) (d1:TypeDesc)
  (ha:tmps.getD a undef= .pointer (some ⟨g1,0,none⟩)) (hg1:w.heap[g1]? =some (.cells cs1 t1 f1))
  (hu1:P.underlying T1=some d1) (hd1:(match d1 with| .struct _| .array _ _=>true|_=>false)=true) (hi1:(P.info? T1).map (·.size)=some cs1.size):
  (results fn tmps).run P w= .ok (.agg cs1) w:=by
 have ha':tmps[a]?.getD undef= .pointer (some ⟨g1,0,none⟩):=by simpa using ha
 simp[results,h,ha',asAddr,run_loadVar_row w g1 t1 T1 cs1 f1 d1 hg1 hu1 hd1 hi1]
theorem Gr.Tk (w t x y a b):Gr w (wG (w.alloc (.cells #[x,y] t)) w.heap.size a b):=by
 refine⟨0,#[.cells #[a,b] t],?_⟩;have e:∀(p q:Value) (k:Nat) (v:Value),(w.alloc (.cells #[p,q] t)).setCell ⟨w.heap.size,k,none⟩ v=w.alloc (.cells (#[p,q].setIfInBounds k v) t):=fun p q k v=>by
  unfold World.setCell World.alloc
  congr 1
  apply Array.ext_getElem?;intro j;simp only[DU,Array.getElem?_push];by_cases hj:w.heap.size=j
  ·subst hj;simp
  ·simp[hj,show¬j=w.heap.size from om]
 unfold wG;rw[e x y 0 a];have h0:(#[x,y].setIfInBounds 0 a)= #[a,y]:=Ah;rw[h0,e a y 1 b];have h1:(#[a,y].setIfInBounds 1 b)= #[a,b]:=Ah;rw[h1,←Sort.alloc_eq_grow]
 rfl
theorem jU (x:Nat) (hx:x<18446744073709551616) (h0:x≠0) (w) (hT:wH w) (hg:2<w.heap.size):
  Calls prog 279 #[.int .u64 (x:Int)] w fun e w'=>e= .returned (wv (Xo.win x))∧Gr w w':=by
 obtain⟨W0,hW0⟩:∃W0,W0=w.alloc (.cells #[.int .i64 0,.int .i64 0] 368):=⟨_,rfl⟩
 have hT0:wH W0:=fun j hj=>by rw[hW0];exact(AR _ _ ⟨_,j,none⟩ hg).trans (hT j hj)
 have hr0:W0.heap[w.heap.size]? =some (.cells #[.int .i64 0,.int .i64 0] 368 (0,0)):=by rw[hW0];exact Aw w _
 have C1:=Al (ac6 x hx W0);have C2:=Al (ac7 x hx W0 hT0);obtain⟨w1,w2,w3,w4,-⟩:=Xo.kN (x:=x) hx h0;have ht:=Xo.QM 64 x;have hwn:Xo.win x=(Xo.lz x,64-Xo.lz x-Xo.tz 64 x):=rfl;have hwd:(64:Int)-((Xo.lz x:Nat):Int)-((Xo.tz 64 x:Nat):Int)=(((Xo.win x).2:Nat):Int):=by
  rw[hwn]at w1 w2 w3⊢;simp only[]at w1 w2 w3⊢;omega
 have hl:Xo.lz x=(Xo.win x).1:=rfl;rw[hl]at C1 hwd;generalize Xo.win x=c at*;obtain⟨a,b⟩:=c;simp only[]at*;generalize Xo.tz 64 x=t at*;have hGR:=Al (Gr.Tk w 368 (.int .i64 0) (.int .i64 0) (.int .i64 (a:Int)) (.int .i64 (b:Int)));rw[←hW0]at hGR;have k0:=Fr _ _ 0 _ _ hr0;have k1:=Fr _ _ 1 _ _ hr0;have c0:=Co _ _ 0 _ _ _ hr0;have c1:=Co _ _ 1 _ _ _ hr0;have HR0:=Al hr0;have HW0:=Al hW0.symm;clear hwn hT hT0 hr0 hW0 hx h0 hl w4;go_enter func279,ntmps279;go_wp2_with (first
  |(go_at_call 295;refine C2.1.mono ?_;rintro e w1 ⟨rfl,rfl⟩)
  |(go_at_call 294;rw[HW0.1];refine C1.1.mono ?_;rintro e w1 ⟨rfl,rfl⟩))
 refine Bg (v:= .agg #[.int .i64 (a:Int),.int .i64 (b:Int)]) ?_ rfl ⟨rfl,hGR.1⟩;exact bI (fn:=Tryz.f279) (a:=2) (T1:=368) rfl _ _ w.heap.size _ _ _ _ rfl (kX _ w.heap.size (.int .i64 (a:Int)) (.int .i64 (b:Int)) HR0.1 rfl) underlying368 rfl kr
theorem il (c) (hc:c.1+c.2≤64) (w):
  Calls prog 278 #[wv c] w fun e w'=>e= .returned (.int .i64 ((Xo.trail c:Nat):Int))∧Gr w w':=by
 obtain⟨a,b⟩:=c;have ht:Kept (((Xo.trail (a,b):Nat):Int)=64-(a:Int)-(b:Int)):=⟨by unfold Xo.trail;simp only[]at*;omega⟩
 rw[ht.1];simp only[]at hc;unfold wv;have G0:=Al ((Gr.refl w).alloc (.cells #[.int .i64 (a:Int),.int .i64 (b:Int)] 368));go_enter func278,ntmps278;go_wp2;go_ret;exact⟨rfl,G0.1⟩
def Wn (w:World) (g k:Nat) (c:Nat×Nat):Prop:=w.cell? ⟨g,k,none⟩=some (.int .i64 (c.1:Int))∧w.cell? ⟨g,k+1,none⟩=some (.int .i64 (c.2:Int))
theorem Wn.gr {w w' g k c} (h:Wn w g k c) (hg:Gr w w') (hl:g<w.heap.size):Wn w' g k c:=⟨(hg.cell g k hl).trans h.1,(hg.cell g (k+1) hl).trans h.2⟩
theorem Wn.lt {w g k c} (h:Wn w g k c):g<w.heap.size:=Bd w ⟨g,k,none⟩ h.1
theorem Wn.mv {w w' g k c} (h:Wn w g k c) (hg:Gr w w'):Wn w' g k c:=h.gr hg h.lt
theorem GZ (g x:Nat) (c) (hx:x<18446744073709551616) (h0:x≠0) (hc:Xo.Cw c) (w) (hT:wH w) (hg:2<w.heap.size) (hw:Wn w g 1 c) (hl:g<w.heap.size):
  Calls prog 280 #[.pointer (some ⟨g,0,none⟩),.int .u64 (x:Int)] w fun e w'=>e= .returned (.bool (Xo.fits c x))∧Gr w w':=by
 have WO:=Al (jU x hx h0 w hT hg);obtain⟨w1,w2,w3,w4,-⟩:=Xo.kN (x:=x) hx h0;have hf:Kept (Xo.fits c x=(c !=(0,0)&& (decide (c.1≤(Xo.win x).1)&&decide (Xo.trail c≤Xo.trail (Xo.win x))))):=⟨rfl⟩
 rw[hf.1];generalize Xo.win x=v at*;obtain⟨p,q⟩:=v;have T1:=Al (il (p,q) w2);unfold wv at WO T1;have HW:=Al hw;obtain⟨c1,c2⟩:=hw;clear hf hT hx h0 w4;by_cases hcz:c=(0,0)
 ·subst hcz;go_enter func280,ntmps280;go_wp2;go_ret;exact⟨rfl,Gr.refl w⟩
 ·have T2:=Al (il c (by rcases hc with h|h;exact absurd h hcz;exact h.2));unfold wv at T2;obtain⟨a,b⟩:=c;simp only[]at*;have hab:¬((a:Int)=0)∨(((a:Int)=0)∧¬((b:Int)=0)):=by
   by_cases h1:a=0
   ·refine .inr ⟨om,fun h2=>hcz ?_⟩;rw[h1,show b=0 from om]
   ·exact .inl om
  have hne:Kept (((a,b) !=((0:Nat),(0:Nat)))=true):=⟨by simpa using hcz⟩
  rcases hab with ha|⟨ha,hb⟩
  all_goals
   go_enter func280,ntmps280;go_wp2_with (go_at_call 279;refine WO.1.mono ?_;rintro e w5 ⟨rfl,g5⟩;have G5:=Al g5;have G8:=Al (HW.1.gr g5 hl);clear g5);have k6:Wn (w5.alloc (.cells #[.int .i64 (p:Int),.int .i64 (q:Int)] 368)) w5.heap.size 0 (p,q)∧Wn (w5.alloc (.cells #[.int .i64 (p:Int),.int .i64 (q:Int)] 368)) g 1 (a,b):=
    ⟨⟨Co _ _ 0 _ _ _ (Aw w5 _),Co _ _ 1 _ _ _ (Aw w5 _)⟩,G8.1.mv ((Gr.refl w5).alloc _)⟩
   have G6:=Al (G5.1.alloc (.cells #[.int .i64 (p:Int),.int .i64 (q:Int)] 368));generalize w5.alloc (.cells #[.int .i64 (p:Int),.int .i64 (q:Int)] 368)=W6 at*;generalize w5.heap.size=h at*;have MV:=Al (show∀w1 w2,(Wn w1 h 0 (p,q)∧Wn w1 g 1 (a,b))→Gr w1 w2→(Wn w2 h 0 (p,q)∧Wn w2 g 1 (a,b))from fun w1 w2 k hg=>⟨k.1.mv hg,k.2.mv hg⟩);have T2:=T2
   (try rw[ha]at T2)
   have KP:=Al k6;unfold Wn at k6 MV KP;simp only[bO,Nat.reduceAdd]at k6 MV KP;obtain⟨tv,htv⟩:∃tv,Xo.trail (p,q)=tv:=⟨_,rfl⟩
   obtain⟨tc,htc⟩:∃tc,Xo.trail (a,b)=tc:=⟨_,rfl⟩
   rw[htv]at T1;rw[htc]at T2;have HTV:=Al htv;have HTC:=Al htc;clear htv htc;clear WO HW c1 c2 hc G5 G8;have hap:(a≤p∧(a:Int)≤(p:Int))∨(¬a≤p∧decide ((a:Int)≤(p:Int))=false):=by
    by_cases h:a≤p
    ·exact .inl ⟨h,om⟩
    ·exact .inr ⟨h,AA om⟩
   rcases hap with⟨hap,agw⟩|⟨hap,agw⟩
   ·go_region_held3 (fun w'=>(w'.cell? ⟨h,0,none⟩=some (.int .i64 (p:Int))∧w'.cell? ⟨h,1,none⟩=some (.int .i64 (q:Int)))∧w'.cell? ⟨g,1,none⟩=some (.int .i64 (a:Int))∧w'.cell? ⟨g,2,none⟩=some (.int .i64 (b:Int))) (first|exact k6|exact ka|exact kb)
     (first
      |(go_at_call 278;refine(T1.1 _).mono ?_;rintro e wa ⟨rfl,ga⟩;have ka:=MV.1 _ wa (by first|exact kb|exact k6) ga;have GA:=Al (show Gr w wa from(by first|exact GB.1.trans ga|exact(G6.1.drew).trans ga));clear ga)
      |(go_at_call 278;refine(T2.1 _).mono ?_;rintro e wb ⟨rfl,gb⟩;have kb:=MV.1 _ wb (by first|exact ka|exact k6) gb;have GB:=Al (show Gr w wb from(by first|exact GA.1.trans gb|exact(G6.1.drew).trans gb));clear gb))
    all_goals
     go_wp2;go_ret;rw[hne.1];refine⟨?_,(by first|exact GB.1|exact GA.1)⟩;show Ending.returned (Value.bool (decide (tc≤tv)))=_;rw[HTV.1,HTC.1];simp[hap]
   ·first
    |(exfalso;omega)
    |(go_quiet (fail)
      go_wp2;go_ret;rw[hne.1];refine⟨by simp[hap],G6.1.drewN _⟩)
structure G9 (bD:Nat) (cv:Value) (base q:Nat) (J:List Bool→World→Prop):Prop where
 ZJ:∀args w,(callFunc bD args).run prog w= .ok (.enter bD args) w
 call:∀(bs:List Bool) (x n:Nat) (w:World),J bs w→x<18446744073709551616→n≤64→bs.length≤100000000→Calls prog bD #[.int .u64 (x:Int),.int .i64 (n:Int),cv] w fun e w'=>e= .returned (.tuple #[])∧J (bs++Bt.bw n x) w'∧Wk base q w w'
 gr:∀bs w w',J bs w→Gr w w'→J bs w'
 set:∀bs w e k v cs fr,J bs w→e≠q→w.heap[e]? =some (.cells cs 397 fr)→J bs (w.setCell ⟨e,k,none⟩ v)
def fo (bD:Nat) (cv:Value):Value:= .func (.func bD) #[] #[cv]
def En (w:World) (e last:Nat) (c:Nat×Nat) (fv:Value):Prop:=w.heap[e]? =some (.cells #[.int .u64 (last:Int),.int .i64 (c.1:Int),.int .i64 (c.2:Int),fv] 397 (0,0))
theorem En.lt {w e last c fv} (h:En w e last c fv):e<w.heap.size:=(Ge.1 h).1
theorem En.wk {w w' e last base q c fv} (h:En w e last c fv) (hk:Wk base q w w') (hq:e≠q):En w' e last c fv:=hk.kept h hq Ai
theorem En.gr {w w' e last c fv} (h:En w e last c fv) (hg:Gr w w'):En w' e last c fv:=(hg.below.block e h.lt).trans h
theorem En.k0 {w e last c fv} (h:En w e last c fv):w.cell? ⟨e,0,none⟩=some (.int .u64 (last:Int))∧w.cell? ⟨e,1,none⟩=some (.int .i64 (c.1:Int))∧w.cell? ⟨e,2,none⟩=some (.int .i64 (c.2:Int))∧w.cell? ⟨e,3,none⟩=some fv:=
 ⟨Co _ _ 0 _ _ _ h,Co _ _ 1 _ _ _ h,Co _ _ 2 _ _ _ h,Co _ _ 3 _ _ _ h⟩
theorem En.f {w e last c fv} (h:En w e last c fv) (k):w.frozen? ⟨e,k,none⟩=false:=Fr _ _ k _ _ h
theorem En.last {w e last c fv} (h:En w e last c fv) (v:Nat):En (w.setCell ⟨e,0,none⟩ (.int .u64 (v:Int))) e v c fv:=by
 unfold En at*;rw[Ag _ e 0 _ _ _ h];rfl
theorem En.win {w e last c fv} (h:En w e last c fv) (d):En ((w.setCell ⟨e,1,none⟩ (.int .i64 (d.1:Int))).setCell ⟨e,2,none⟩ (.int .i64 (d.2:Int))) e last d fv:=by
 unfold En at*;rw[Ag _ e 2 _ _ _ (Ag _ e 1 _ _ _ h)];rfl
structure We (base q e:Nat) (w w':World):Prop where
 aX:Below base w w'
 rest:∀k,k<w.heap.size→k≠q→k≠e→acP w k→w'.heap[k]? =w.heap[k]?
theorem We.refl (base q e w):We base q e w w:=⟨Ae _ _,fun _ _ _ _ _=>rfl⟩
theorem We.agx {base q e w w'} (h:Wk base q w w'):We base q e w w':=⟨h.aX,fun k hk h1 _ h3=>h.rest k hk h1 h3⟩
theorem We.trans {base q e w w1 w2} (h:We base q e w w1) (g:We base q e w1 w2):We base q e w w2:=
 ⟨h.aX.trans g.aX,fun k hk hp he hb=>by
  have e1:=h.rest k hk hp he hb;refine(g.rest k (jE hk h.aX.size) hp he ?_).trans e1;intro cs fr hc;exact hb cs fr (e1.symm.trans hc)⟩
theorem We.gr {base q e w w'} (h:Gr w w') (hb:base≤w.heap.size):We base q e w w':=⟨h.below.mono hb,fun k hk _ _ _=>h.below.block k hk⟩
theorem We.set {base q e} (w k v) (hb:base≤e) (he:e<w.heap.size):We base q e w (w.setCell ⟨e,k,none⟩ v):=
 ⟨(Ae _ _).grown (av w ⟨e,k,none⟩ v) om (fun r h=>by cases h;exact hb),fun j hj _ hje _=>(av w ⟨e,k,none⟩ v).block j hj (fun h=>hje (by cases h;rfl))⟩
structure mr (base q:Nat) (J:List Bool→World→Prop) (fv:Value) (e:Nat) (w0:World) (bs:List Bool) (last:Nat) (c:Nat×Nat) (w:World):Prop where
 j:J bs w
 en:En w e last c fv
 we:We base q e w0 w
theorem mr.YL {base q bD e last cv J c bs w0 w} (h:mr base q J (fo bD cv) e w0 bs last c w) (O:G9 bD cv base q J) (hq:e≠q) {x n:Nat} (hx:x<18446744073709551616) (hn:n≤64) (hl:bs.length≤100000000):
  Calls prog bD #[.int .u64 (x:Int),.int .i64 (n:Int),cv] w fun r w'=>r= .returned (.tuple #[])∧mr base q J (fo bD cv) e w0 (bs++Bt.bw n x) last c w':=by
 refine(O.call bs x n w h.j hx hn hl).mono ?_;rintro r w' ⟨rfl,hj,hk⟩;exact⟨rfl,hj,h.en.wk hk hq,h.we.trans (We.agx hk)⟩
theorem mr.gr {base q bD e last cv J c bs w0 w w'} (h:mr base q J (fo bD cv) e w0 bs last c w) (O:G9 bD cv base q J) (hb:base≤w0.heap.size) (hg:Gr w w'):mr base q J (fo bD cv) e w0 bs last c w':=
 ⟨O.gr bs w w' h.j hg,h.en.gr hg,h.we.trans (We.gr hg (Lt hb h.we.aX.size))⟩
theorem mr.last {base q bD e last cv J c bs w0 w} (h:mr base q J (fo bD cv) e w0 bs last c w) (O:G9 bD cv base q J) (hq:e≠q) (hb:base≤e) (v):mr base q J (fo bD cv) e w0 bs v c (w.setCell ⟨e,0,none⟩ (.int .u64 (v:Int))):=
 ⟨O.set bs w e 0 _ _ _ h.j hq h.en,h.en.last v,h.we.trans (We.set w 0 _ hb h.en.lt)⟩
theorem mr.win {base q bD e last cv J c bs w0 w} (h:mr base q J (fo bD cv) e w0 bs last c w) (O:G9 bD cv base q J) (hq:e≠q) (hb:base≤e) (d):mr base q J (fo bD cv) e w0 bs last d ((w.setCell ⟨e,1,none⟩ (.int .i64 (d.1:Int))).setCell ⟨e,2,none⟩ (.int .i64 (d.2:Int))):=by
 have h1:(w.setCell ⟨e,1,none⟩ (.int .i64 (d.1:Int))).heap[e]? =some (.cells (#[.int .u64 (last:Int),.int .i64 (c.1:Int),.int .i64 (c.2:Int),fo bD cv].setIfInBounds 1 (.int .i64 (d.1:Int))) 397 (0,0)):=Ag _ e 1 _ _ _ h.en;refine⟨O.set bs _ e 2 _ _ _ (O.set bs w e 1 _ _ _ h.j hq h.en) hq h1,h.en.win d,(h.we.trans (We.set w 1 _ hb h.en.lt)).trans (We.set _ 2 _ hb (by simpa using h.en.lt))⟩
theorem wH.aX {w w' base} (h:wH w) (hb:Below base w w') (hg:2<base):wH w':=fun j hj=>(hb.cell (p:=⟨_,j,none⟩) hg).trans (h j hj)
theorem Tn {base q bD e last v:Nat} {cv J c bs w} (O:G9 bD cv base q J) (hJ:J bs w) (hE:En w e last c (fo bD cv)) (hq:e≠q) (hb:base≤e) (hbw:base≤w.heap.size) (hD:wH w) (hD2:2<base)
  (hc:Xo.Cw c) (hv:v<18446744073709551616) (hlast:last<18446744073709551616) (hl:bs.length≤50000000):
  Calls prog 275 #[.pointer (some ⟨e,0,none⟩),.int .u64 (v:Int)] w fun r w'=>r= .returned (.tuple #[])∧mr base q J (fo bD cv) e w (bs++(Xo.put last c v).1) v (Xo.put last c v).2 w':=by
 have S0:mr base q J (fo bD cv) e w bs last c w:=⟨hJ,hE,We.refl _ _ _ _⟩
 have S1:=S0.last O hq hb v;have hent:=O.ZJ;obtain⟨x,hx⟩:∃x,v^^^last=x:=⟨_,rfl⟩
 have Ou:bits .xor .u64 (v:Int) (last:Int)=(x:Int):=by rw[bits_xor_u64_nat _ _ hv hlast,hx]
 have ma:x<18446744073709551616:=by rw[←hx];exact BN (n:=64) hv hlast
 have hput:Xo.put last c v=if x=0 then(Bt.bw 1 0,c)else if Xo.fits c x=true then(Bt.bw 2 2++Bt.bw c.2 (x>>>Xo.trail c),c)
   else(Bt.bw 2 3++(Bt.bw 6 (Xo.win x).1++(Bt.bw 6 ((Xo.win x).2-1)++Bt.bw (Xo.win x).2 (x>>>Xo.trail (Xo.win x)))),Xo.win x):=by unfold Xo.put;rw[hx]
 rw[hput];obtain⟨k0,-,-,-⟩:=hE.k0;have f0:=hE.f 0;generalize hW1:w.setCell ⟨e,0,none⟩ (.int .u64 (v:Int))=W1 at S1;have Ob:=Al S1;have HW1:=Al hW1;have KO:=Al O;by_cases h0:x=0
 ·subst h0;rw[Ps0 rfl];have OC:=Al (S1.YL O hq (x:=0) (n:=1) om om om);have k3:=S1.en.k0.2.2.2;unfold fo at k3;clear hput hx hJ hE S0 S1 O hW1 hD;go_enter func275,ntmps275;go_wp2_with (rw[HW1.1]);refine OC.1.mono ?_;rintro r w2 ⟨rfl,h2⟩;have H2:=Al h2;clear h2;go_wp2
  (try simp only[Exit.inBlock,Exit.then]);refine Bg (Cm rfl _ _ _) rfl ?_
  exact⟨rfl,H2.1⟩
 ·rw[Ng h0];have hD1:=hD.aX S1.we.aX hD2;have hx0:((x:Int)==0)=false:=by simp;omega
  have hwn:Wn W1 e 1 c:=⟨S1.en.k0.2.1,S1.en.k0.2.2.1⟩
  have FT:=GZ e x c ma h0 hc W1 hD1 (jE hD2 (Lt hbw S1.we.aX.size)) hwn S1.en.lt;by_cases hf:Xo.fits c x=true
  ·rw[Ps0 hf];rw[hf]at FT;have HF:=Al FT;have hc1:c.1+c.2≤64∧c.2≤64:=by
    rcases hc with h|h
    ·rw[h]at hf;simp[Xo.fits]at hf
    ·omega
   have TR:=Al (il c hc1.1);have OA:=Al (fun(w2:World) (h2:mr base q J (fo bD cv) e w bs v c w2)=>h2.YL O hq (x:=2) (n:=2) om om om);have hsh:x>>>Xo.trail c<18446744073709551616:=El (by rw[Ch];exact Nat.div_le_self _ _) ma;have Xc:((x>>>Xo.trail c:Nat):Int)=(x:Int)/2^ (Xo.trail c):=by rw[Ch];simp
   have OB:=Al (show∀(w2:World) (h2:mr base q J (fo bD cv) e w (bs++Bt.bw 2 2) v c w2),Calls prog bD #[.int .u64 ((x:Int)/2^ (Xo.trail c)),.int .i64 (c.2:Int),cv] w2 fun r w'=>r= .returned (.tuple #[])∧mr base q J (fo bD cv) e w (bs++Bt.bw 2 2++Bt.bw c.2 (x>>>Xo.trail c)) v c w' from fun w2 h2=>by rw[←Xc];exact h2.YL O hq (x:=x>>>Xo.trail c) (n:=c.2) hsh hc1.2 (by rw[La,Bt.aj];omega));have GR:=Al (fun(b2:List Bool) (w2 w3:World) (h2:mr base q J (fo bD cv) e w b2 v c w2) (hg:Gr w2 w3)=>h2.gr O hbw hg);have htl:Xo.trail c≤64:=by unfold Xo.trail;omega
   clear FT hput hx hJ hE S0 S1 O hW1 hD hD1 hwn hc hf;go_enter func275,ntmps275;go_wp2_with (go_at_call 280;rw[HW1.1];refine HF.1.mono ?_;rintro r w2 ⟨rfl,g2⟩;have H2:=Al (GR.1 _ _ _ Ob.1 g2);have k3:=H2.1.en.k0.2.2.2;unfold fo at k3;clear g2);refine(OA.1 w2 H2.1).mono ?_;rintro r w3 ⟨rfl,h3⟩;have H3:=Al h3;clear h3 k3;have k6:w3.cell? ⟨e,1,none⟩=some (.int .i64 (c.1:Int))∧w3.cell? ⟨e,2,none⟩=some (.int .i64 (c.2:Int))∧w3.cell? ⟨e,3,none⟩=some (.func (.func bD) #[] #[cv]):=⟨H3.1.en.k0.2.1,H3.1.en.k0.2.2.1,H3.1.en.k0.2.2.2⟩
   unfold wv at TR;clear OA HF H2 k0 f0 hx0 Ou;go_wp2_with fail;go_region_held3 (fun w'=>w'.cell? ⟨e,1,none⟩=some (.int .i64 (c.1:Int))∧w'.cell? ⟨e,2,none⟩=some (.int .i64 (c.2:Int))∧w'.cell? ⟨e,3,none⟩=some (.func (.func bD) #[] #[cv])) (first|exact k6|exact k7|exact k8)
    (first
     |(go_at_call 278;refine(TR.1 _).mono ?_;rintro r w4 ⟨rfl,g4⟩;have H4:=Al (GR.1 _ _ w4 H3.1 ((Gr.refl w3).drew.trans g4));have k7:w4.cell? ⟨e,1,none⟩=some (.int .i64 (c.1:Int))∧w4.cell? ⟨e,2,none⟩=some (.int .i64 (c.2:Int))∧w4.cell? ⟨e,3,none⟩=some (.func (.func bD) #[] #[cv]):=⟨H4.1.en.k0.2.1,H4.1.en.k0.2.2.1,H4.1.en.k0.2.2.2⟩;clear g4)
     |(refine(OB.1 w4 H4.1).mono ?_;rintro r w5 ⟨rfl,h5⟩;have H5:=Al h5;have k8:w5.cell? ⟨e,1,none⟩=some (.int .i64 (c.1:Int))∧w5.cell? ⟨e,2,none⟩=some (.int .i64 (c.2:Int))∧w5.cell? ⟨e,3,none⟩=some (.func (.func bD) #[] #[cv]):=⟨H5.1.en.k0.2.1,H5.1.en.k0.2.2.1,H5.1.en.k0.2.2.2⟩;clear h5))
   all_goals
    go_wp2
    (try simp only[Exit.inBlock,Exit.then]);refine bodyPost_end (Cm rfl _ _ _) rfl ?_
    exact⟨rfl,by rw[←Af];exact H5.1⟩
  ·rw[Ng hf];rw[show Xo.fits c x=false by simpa using hf]at FT;have HF:=Al FT;obtain⟨d1,d2,d3,-,-⟩:=Xo.kN (x:=x) ma h0;have WO:=Al (show∀(b2:List Bool) (w2:World),mr base q J (fo bD cv) e w b2 v c w2→Calls prog 279 #[.int .u64 (x:Int)] w2 fun r w'=>r= .returned (.agg #[.int .i64 ((Xo.win x).1:Int),.int .i64 ((Xo.win x).2:Int)])∧mr base q J (fo bD cv) e w b2 v c w' from fun b2 w2 h2=>by
    refine(jU x ma h0 w2 (hD.aX h2.we.aX hD2) (jE hD2 (Lt hbw h2.we.aX.size))).mono ?_;rintro r w' ⟨rfl,hg⟩;exact⟨rfl,h2.gr O hbw hg⟩)
   generalize Xo.win x=d at*;have TR:=Al (il d d2);unfold wv at TR;have htl:Xo.trail d≤64:=by unfold Xo.trail;omega
   have hsh:x>>>Xo.trail d<18446744073709551616:=El (by rw[Ch];exact Nat.div_le_self _ _) ma;have Xc:((x>>>Xo.trail d:Nat):Int)=(x:Int)/2^ (Xo.trail d):=by rw[Ch];simp
   have hw1:IntKind.u64.wrap (d.1:Int)=(d.1:Int):=by rw[Bw];omega
   obtain⟨m,hm⟩:∃m,d.2-1=m:=⟨_,rfl⟩
   have hmi:(d.2:Int)-1=(m:Int):=om;have hm1:IntKind.u64.wrap (m:Int)=(m:Int):=by rw[Bw];omega
   rw[hm];have WS:=Al (fun(b2:List Bool) (w2:World) (h2:mr base q J (fo bD cv) e w b2 v c w2)=>h2.win O hq hb d);have GR:=Al (fun(b2:List Bool) (w2 w3:World) (h2:mr base q J (fo bD cv) e w b2 v c w2) (hg:Gr w2 w3)=>h2.gr O hbw hg);have GR2:=Al (fun(b2:List Bool) (w2 w3:World) (h2:mr base q J (fo bD cv) e w b2 v d w2) (hg:Gr w2 w3)=>h2.gr O hbw hg);have OA:=Al (fun(w2:World) (h2:mr base q J (fo bD cv) e w bs v d w2)=>h2.YL O hq (x:=3) (n:=2) om om om);have OB:=Al (fun(w2:World) (h2:mr base q J (fo bD cv) e w (bs++Bt.bw 2 3) v d w2)=>h2.YL O hq (x:=d.1) (n:=6) om om (by rw[La,Bt.aj];omega));have OC:=Al (fun(w2:World) (h2:mr base q J (fo bD cv) e w (bs++Bt.bw 2 3++Bt.bw 6 d.1) v d w2)=>h2.YL O hq (x:=m) (n:=6) om om (by rw[La,La,Bt.aj,Bt.aj];omega));have OD:=Al (show∀(w2:World) (h2:mr base q J (fo bD cv) e w (bs++Bt.bw 2 3++Bt.bw 6 d.1++Bt.bw 6 m) v d w2),Calls prog bD #[.int .u64 ((x:Int)/2^ (Xo.trail d)),.int .i64 (d.2:Int),cv] w2 fun r w'=>r= .returned (.tuple #[])∧mr base q J (fo bD cv) e w (bs++Bt.bw 2 3++Bt.bw 6 d.1++Bt.bw 6 m++Bt.bw d.2 (x>>>Xo.trail d)) v d w' from fun w2 h2=>by rw[←Xc];exact h2.YL O hq (x:=x>>>Xo.trail d) (n:=d.2) hsh om (by rw[La,La,La,Bt.aj,Bt.aj,Bt.aj];omega));clear FT hput hx hJ hE S0 S1 O hW1 hD hD1 hwn hc hf hsh Xc hm;go_enter func275,ntmps275;go_wp2_with (first
    |(go_at_call 279;refine(WO.1 bs w2 H2.1).mono ?_;rintro r w3 ⟨rfl,h3⟩;have H3:=Al h3;have f1:=h3.en.f 1;have f2:=h3.en.f 2;have H4:=Al (WS.1 bs w3 h3);have k4:=H4.1.en.k0.2.2.2;unfold fo at k4;obtain⟨j1,j2,j3⟩:=h3.en.k0.2;clear h3)
    |(go_at_call 280;rw[HW1.1];refine HF.1.mono ?_;rintro r w2 ⟨rfl,g2⟩;have H2:=Al (GR.1 _ _ _ Ob.1 g2);clear g2))
   refine(OA.1 _ H4.1).mono ?_;rintro r w5 ⟨rfl,h5⟩;have H5:=Al h5;obtain⟨-,k1,k2,k3⟩:=h5.en.k0;unfold fo at k3;clear h5 k4 j1 j2 j3 f1 f2 H4 H3 H2 k0 f0 hx0 Ou;go_wp2_with fail;refine Du 11 kr kr ?_;simp only[Cb,Eg,BP,Ct]
   repeat still_step
   refine wpStill_nil ?_
   change wpList _ _ _ _ _ w5.drew
   go_wp2;refine(OB.1 _ (GR2.1 _ _ _ H5.1 (Gr.refl w5).drew)).mono ?_;rintro r w6 ⟨rfl,h6⟩;have H6:=Al h6;clear k1 k2 k3;obtain⟨-,k1,k2,k3⟩:=h6.en.k0;unfold fo at k3;clear h6 H5;go_wp2_with fail;refine Du 12 kr kr ?_;simp only[Cb,Eg,BP,Ct]
   repeat still_step
   refine wpStill_nil ?_
   change wpList _ _ _ _ _ w6.drew
   go_wp2;refine(OC.1 _ (GR2.1 _ _ _ H6.1 (Gr.refl w6).drew)).mono ?_;rintro r w7 ⟨rfl,h7⟩;have H7:=Al h7;clear k1 k2 k3;have k6:w7.cell? ⟨e,1,none⟩=some (.int .i64 (d.1:Int))∧w7.cell? ⟨e,2,none⟩=some (.int .i64 (d.2:Int))∧w7.cell? ⟨e,3,none⟩=some (.func (.func bD) #[] #[cv]):=⟨h7.en.k0.2.1,h7.en.k0.2.2.1,h7.en.k0.2.2.2⟩
   clear h7 H6 OA OB OC HF WO WS;go_wp2_with fail;go_region_held3 (fun w'=>w'.cell? ⟨e,1,none⟩=some (.int .i64 (d.1:Int))∧w'.cell? ⟨e,2,none⟩=some (.int .i64 (d.2:Int))∧w'.cell? ⟨e,3,none⟩=some (.func (.func bD) #[] #[cv])) (first|exact k6|exact k7|exact k8)
    (first
     |(go_at_call 278;refine(TR.1 _).mono ?_;rintro r w8 ⟨rfl,g8⟩;have H8:=Al (GR2.1 _ _ w8 H7.1 ((Gr.refl w7).drew.trans g8));have k7:w8.cell? ⟨e,1,none⟩=some (.int .i64 (d.1:Int))∧w8.cell? ⟨e,2,none⟩=some (.int .i64 (d.2:Int))∧w8.cell? ⟨e,3,none⟩=some (.func (.func bD) #[] #[cv]):=⟨H8.1.en.k0.2.1,H8.1.en.k0.2.2.1,H8.1.en.k0.2.2.2⟩;clear g8)
     |(refine(OD.1 w8 H8.1).mono ?_;rintro r w9 ⟨rfl,h9⟩;have H9:=Al h9;have k8:w9.cell? ⟨e,1,none⟩=some (.int .i64 (d.1:Int))∧w9.cell? ⟨e,2,none⟩=some (.int .i64 (d.2:Int))∧w9.cell? ⟨e,3,none⟩=some (.func (.func bD) #[] #[cv]):=⟨H9.1.en.k0.2.1,H9.1.en.k0.2.2.1,H9.1.en.k0.2.2.2⟩;clear h9))
   all_goals
    go_wp2
    (try simp only[Exit.inBlock,Exit.then]);refine bodyPost_end (Cm rfl _ _ _) rfl ?_
    exact⟨rfl,by simp only[←Af];exact H9.1⟩
def Xo.st:Nat→Nat×Nat→List Nat→Nat×(Nat×Nat)
 |last,c,[]=>(last,c)
 |last,c,v::l=>Xo.st v (Xo.put last c v).2 l
theorem Xo.xJ:∀(last) (c) (l) (v),Xo.puts last c (l++[v])=Xo.puts last c l++(Xo.put (Xo.st last c l).1 (Xo.st last c l).2 v).1
 |last,c,[],v=>by simp[Xo.puts,Xo.st]
 |last,c,x::l,v=>by rw[Bc,Xo.puts,Xo.xJ x _ l v,Xo.puts,Xo.st,Af]
theorem Xo.Mo:∀(last) (c) (l) (v),Xo.st last c (l++[v])=(v,(Xo.put (Xo.st last c l).1 (Xo.st last c l).2 v).2)
 |last,c,[],v=>by simp[Xo.st]
 |last,c,x::l,v=>by rw[Bc,Xo.st,Xo.Mo x _ l v,Xo.st]
theorem Xo.aar {last v c} (h:Xo.Cw c) (hl:last<2^64) (hv:v<2^64):Xo.Cw (Xo.put last c v).2∧(Xo.put last c v).1.length≤80:=by
 unfold Xo.put;split
 ·exact⟨h,by rw[Bt.aj];omega⟩
 ·rename_i h0
  have hx:v^^^last<2^64:=BN hv hl;have h2:=Xo.kN hx h0;split
  ·refine⟨h,?_⟩;rw[La,Bt.aj,Bt.aj];rcases h with h|h
   ·rw[h];omega
   ·omega
  ·refine⟨.inr ⟨h2.1,h2.2.1⟩,?_⟩;simp only[La,Bt.aj];omega
theorem Xo.YM:∀(l) (last) (c),Xo.Cw c→last<2^64→(∀x∈l,x<2^64)→Xo.Cw (Xo.st last c l).2∧(Xo.st last c l).1<2^64∧(Xo.puts last c l).length≤80*l.length
 |[],last,c,h,hl,_=>⟨h,hl,by simp[Xo.puts]⟩
 |v::l,last,c,h,hl,hx=>by
  have hv:=hx v jO;have h1:=Xo.aar h hl hv;obtain⟨a,b,d⟩:=Xo.YM l v _ h1.1 hv (fun x hx'=>hx x (nU _ hx'));refine⟨a,b,?_⟩;rw[Xo.puts,La,Lc];omega
def Xo.at_ (l:List Nat) (k:Nat):List Bool×Nat×(Nat×Nat):=
 match l with
 |[]=>([],0,(0,0))
 |v::t=>if k=0 then([],0,(0,0))else(Bt.bw 64 v++Xo.puts v (0,0) (t.take (k-1)),Xo.st v (0,0) (t.take (k-1)))
theorem Xo.gZ (l):Xo.at_ l 0=([],0,(0,0)):=by cases l<;>simp[Xo.at_]
theorem Xo.at_one {l} (h:0<l.length):Xo.at_ l 1=(Bt.bw 64 l[0],l[0],(0,0)):=by
 cases l with
 |nil=>simp at h
 |cons v t=>simp[Xo.at_,Xo.puts,Xo.st]
theorem Xo.Xd {l k} (h0:0<k) (h:k<l.length):Xo.at_ l (k+1)=((Xo.at_ l k).1++(Xo.put (Xo.at_ l k).2.1 (Xo.at_ l k).2.2 l[k]).1,l[k],(Xo.put (Xo.at_ l k).2.1 (Xo.at_ l k).2.2 l[k]).2):=by
 cases l with
 |nil=>simp at h
 |cons v t=>
  obtain⟨j,rfl⟩:∃j,k=j+1:=⟨k-1,om⟩
  have hj:j<t.length:=by simpa using h
  have e:t.take (j+1)=t.take j++[t[j]]:=Ts hj;simp only[Xo.at_,Bj,Cj];rw[Ng om,Ng om,e,Xo.xJ,Xo.Mo,Af]
theorem Xo.Jq (l):(Xo.at_ l l.length).1=Xo.enc l:=by
 cases l with
 |nil=>rfl
 |cons v t=>
  simp only[Xo.at_,Lc,Bj];rw[Ng om,jc Aj]
  rfl
theorem Xo.ac8 {l} (hx:∀x∈l,x<2^64) (k) (hk:k≤l.length):Xo.Cw (Xo.at_ l k).2.2∧(Xo.at_ l k).2.1<2^64∧(Xo.at_ l k).1.length≤80*k:=by
 cases l with
 |nil=>exact⟨.inl rfl,by simp[Xo.at_],by simp[Xo.at_]⟩
 |cons v t=>
  unfold Xo.at_;simp only[];split
  ·exact⟨.inl rfl,Ah,Ah⟩
  ·obtain⟨a,b,c⟩:=Xo.YM (t.take (k-1)) v (0,0) (.inl rfl) (hx v jO) (fun x h=>hx x (nU _ (List.mem_of_mem_take h)));refine⟨a,b,?_⟩;rw[La,Bt.aj];rw[jD]at c;simp only[Lc]at hk;omega
theorem We.agz {base q e w w0 w'} (h:We base q e w0 w') (h0:Gr w w0) (hb:base≤w.heap.size) (he:w.heap.size≤e):Wk base q w w':=
 ⟨(h0.below.mono hb).trans h.aX,fun k hk hq hn=>by
  have e1:=h0.below.block k hk;refine(h.rest k (jE hk h0.size) hq om (fun cs fr hc=>hn cs fr (e1.symm.trans hc))).trans e1⟩
theorem uR {base q bD B n c cv J bs A l w} (O:G9 bD cv base q J) (hJ:J bs w) (hq:q<w.heap.size) (hbw:base≤w.heap.size) (hD:wH w) (hD2:2<base)
  (hr:j6 w B A n c l) (hB:B≤base) (hx:∀x∈l,x<2^64) (hn:n≤100000) (hl:bs.length≤10000000):
  Calls prog 253 #[.slice A n c,fo bD cv] w fun r w'=>r= .returned (.tuple #[])∧J (bs++Xo.enc l) w'∧Wk base q w w':=by
 have hln:=Al hr.len;have hlc:=hr.1;have hcm:=hr.2.1;unfold maxLen at hcm;have R0:=Al hr;have HX:=Al hx;have KO:=Al O;have hent:=O.ZJ;have HD:=Al hD;have G1:=Al ((Gr.refl w).alloc (.cells #[.int .u64 0,.int .i64 0,.int .i64 0,fo bD cv] 397));have S1:=Al (show mr base q J (fo bD cv) w.heap.size (w.alloc (.cells #[.int .u64 0,.int .i64 0,.int .i64 0,fo bD cv] 397)) (bs++(Xo.at_ l 0).1) (Xo.at_ l 0).2.1 (Xo.at_ l 0).2.2 (w.alloc (.cells #[.int .u64 0,.int .i64 0,.int .i64 0,fo bD cv] 397))from by
  rw[Xo.gZ];exact⟨by simpa using O.gr bs w _ hJ G1.1,Aw w _,We.refl _ _ _ _⟩)
 have hz1:(w.alloc (.cells #[.int .u64 0,.int .i64 0,.int .i64 0,fo bD cv] 397)).heap.size=w.heap.size+1:=Ah;obtain⟨W1,hW1⟩:∃W1,W1=w.alloc (.cells #[.int .u64 0,.int .i64 0,.int .i64 0,fo bD cv] 397):=⟨_,rfl⟩
 rw[←hW1]at S1 G1 hz1;obtain⟨e,he⟩:∃e,e=w.heap.size:=⟨_,rfl⟩
 rw[←he]at S1;have HE:=Al he;have hqe:e≠q:=om;have hbe:base≤e:=om;have hbW:base≤W1.heap.size:=om;unfold fo at hW1;have HW1:=Al hW1.symm;have hff:fo bD cv= .func (.func bD) #[] #[cv]:=rfl;rw[hff];clear hr hx O hJ hD hW1 he hz1 hff;go_enter func253,ntmps253;go_wp2;rw[HW1.1,←HE.1];go_loopw [12] (fun i wr=>∃k:Nat,k≤n∧i= .int .i64 (k:Int)∧mr base q J (fo bD cv) e W1 (bs++(Xo.at_ l k).1) (Xo.at_ l k).2.1 (Xo.at_ l k).2.2 wr) (fun i _=>n-(intOf i).toNat)
 case atStart=>exact⟨0,bf _,rfl,S1.1⟩
 case round=>
  clear S1;obtain⟨k,hk,rfl,hs⟩:=hrel;have HS:=Al hs;by_cases hlt:k<n
  ·have hlt':(k:Int)< (n:Int):=by omega
   have hkl:k<l.length:=by have:=hln.1;omega
   have hbel:Below base w wr:=(G1.1.below.mono hbw).trans hs.we.aX;obtain⟨bb,off,rfl,ni,hc0⟩:=(R0.1.below (hbel.mono hB)).at_ hkl;have hvk:=HX.1 _ (dR hkl);obtain⟨hcw,hla,Tq⟩:=Xo.ac8 HX.1 k om;rcases lY k with hk0|hk0
   ·subst hk0;have e1:=Xo.at_one (l:=l) hkl;have e0:=Xo.gZ l;have OC:=Al (hs.YL KO.1 hqe (x:=l[0]) (n:=64) om om (by rw[e0];simp;omega));rw[e0]at OC;have LS:=Al (fun(b2:List Bool) (w2:World) (h2:mr base q J (fo bD cv) e W1 b2 0 (0,0) w2)=>h2.last KO.1 hqe hbe l[0]);have E1:=Al e1;clear hs hcw hla Tq e0 e1;rw[DD]at hc0;generalize l[0]=v at*;go_wp2;refine OC.1.mono ?_;rintro r w2 ⟨rfl,h2⟩;have H2:=Al h2;have j0:=h2.en.k0.1;have f0:=h2.en.f 0;clear h2;go_wp2;go_roundw
    case rel=>exact⟨1,om,rfl,by rw[E1.1];simpa using LS.1 _ _ H2.1⟩
    case measure=>simp[intOf];omega
   ·have e1:=Al (Xo.Xd hk0 hkl);have PT:=Al (Tn KO.1 hs.j hs.en hqe hbe (Lt hbW hs.we.aX.size) (HD.1.aX hbel hD2) hD2 hcw (v:=l[k]) om om (by rw[La];omega));have hk1:(0:Int)< (k:Int):=om;clear hs hcw hla Tq;generalize l[k]=v at*;go_wp2_with (go_at_call 275;refine PT.1.mono ?_;rintro r w2 ⟨rfl,h2⟩;have H2:=Al (show mr _ _ _ _ _ W1 _ _ _ w2 from⟨h2.j,h2.en,HS.1.we.trans h2.we⟩);clear h2);go_roundw
    case rel=>exact⟨k+1,om,by go_num,by rw[e1.1,←Af];exact H2.1⟩
    case measure=>simp[intOf];omega
  ·obtain rfl:k=n:=by omega
   have e:(Xo.at_ l k).1=Xo.enc l:=by rw[hln.1];exact Xo.Jq l
   have F:=Al (show J (bs++Xo.enc l) wr∧Wk base q w wr from⟨by rw[←e];exact hs.j,hs.we.agz G1.1 hbw (by rw[HE.1];exact Nr _)⟩);clear hs e HS;go_wp2
   (try simp only[Exit.inBlock,Exit.then]);refine bodyPost_end (Cm rfl _ _ _) rfl ?_
   exact⟨rfl,F.1⟩
def SzJ (q:Nat) (bs:List Bool) (W:World):Prop:=W.heap[q]? =some (.cells #[.int .i64 (bs.length:Int)] 3 (0,0))
theorem ac9 (base q) (hq:base≤q):G9 254 (.pointer (some ⟨q,0,none⟩)) base q (SzJ q) where
 ZJ:=BR func254 kr rfl
 call bs x n w h hx hn hl:=by
  have c0:=Co _ _ 0 _ _ _ h;have f0:=Fr _ _ 0 _ _ h;have H:=Al h;have hlt:=(Ge.1 h).1;have hb:Kept (((bs++Bt.bw n x).length:Int)=(bs.length:Int)+(n:Int)):=⟨by rw[La,Bt.aj];simp⟩
  have WS:=Al (Wk.set (base:=base) (p:=q) w 0 (.int .i64 ((bs.length:Int)+(n:Int))) hq hlt);have HS:Kept (SzJ q (bs++Bt.bw n x) (w.setCell ⟨q,0,none⟩ (.int .i64 ((bs.length:Int)+(n:Int))))):=⟨by
   unfold SzJ;rw[hb.1,Ag _ q 0 _ _ _ H.1];rfl⟩
  clear h;go_enter func254,ntmps254;go_wp2;go_end0;exact⟨rfl,HS.1,WS.1⟩
 gr bs w w' h hg:=(hg.below.block q (Ge.1 h).1).trans h
 set bs w e k v cs fr h he hr:=(AQ w ⟨e,k,none⟩ v q (fun h=>he h.symm)).trans h
theorem Ov (A n c B l w) (hr:j6 w B A n c l) (hB:B≤w.heap.size) (hx:∀x∈l,x<2^64) (hn:n≤100000) (hD:wH w) (hD2:2<w.heap.size):
  Calls prog 215 #[.slice A n c] w fun r w'=>r= .returned (.int .i64 ((Xo.enc l).length:Int))∧Below w.heap.size w w':=by
 have hG:=(Gr.refl w).alloc (.cells #[.int .i64 0] 3);have hJ:SzJ w.heap.size [] (w.alloc (.cells #[.int .i64 0] 3)):=Aw w _;have EC:=Al (uR (base:=w.heap.size) (q:=w.heap.size) (ac9 w.heap.size w.heap.size Aj) hJ Ah Ah (hD.aX hG.below hD2) hD2 (hr.below (hG.below.mono hB)) hB hx hn Ah);have hb:=Al hG.below;unfold fo at EC;clear hr hx hD hJ hG;go_enter func215,ntmps215;go_wp2_with (go_at_call 253;refine EC.1.mono ?_;rintro r w2 ⟨rfl,h2,k2⟩;have k0:w2.cell? ⟨w.heap.size,0,none⟩=some (.int .i64 ((Xo.enc l).length:Int)):=(by have:=Co _ _ 0 _ _ _ h2;simpa using this);have B2:=Al (hb.1.trans k2.aX);clear h2 k2);go_ret;exact⟨rfl,B2.1⟩
def PtJ (base p b:Nat) (bs:List Bool) (W:World):Prop:=fG W base p bs∧Boxed W b 302 (.pointer (some ⟨p,0,none⟩))
theorem ada (base p b) (hb:b≠p):G9 255 (.pointer (some ⟨b,0,none⟩)) base p (PtJ base p b) where
 ZJ:=BR func255 kr rfl
 call bs x n w h hx hn hl:=by
  have c0:=h.2.cell;have WB:=Al (cB base p x n bs w h.1 hx hn om);have HB:=Al h.2;clear h;go_enter func255,ntmps255;go_wp2_with (go_at_call 191;refine WB.1.mono ?_;rintro r w2 ⟨rfl,h2,k2⟩;have H2:=Al h2;have K2:=Al k2;clear h2 k2);go_end0;exact⟨rfl,⟨H2.1,Boxed.wk HB.1 K2.1 hb Ai⟩,K2.1⟩
 gr bs w w' h hg:=⟨h.1.gr hg,(hg.below.block b h.2.lt).trans h.2⟩
 set bs w e k v cs fr h he hr:=by
  refine⟨?_,?_⟩
  ·obtain⟨A,n,c,L,h1,h2,h3,h4⟩:=h.1;have hg:=av w ⟨e,k,none⟩ v;exact⟨A,n,c,L,(hg.block p (Ge.1 h1).1 (fun e2=>he (Oj e2).symm)).trans h1,ag h2 hg (.inr (fun e2=>oH h2 hr Ai e2.symm)),h3,h4⟩
  ·refine(AQ w ⟨e,k,none⟩ v b (fun e2=>?_)).trans h.2;have h2:=(show w.heap[b]? =some (.cells #[.pointer (some ⟨p,0,none⟩)] 302 (0,0))from h.2)
   rw[e2]at h2;have:=hr.symm.trans h2;simp only[gU,DY]at this;exact absurd this.2.1 Ai
theorem Tt (base p B bs A n c l w) (h:fG w base p bs) (hr:j6 w B A n c l) (hB:B≤base) (hx:∀x∈l,x<2^64) (hn:n≤100000) (hl:bs.length≤10000000) (hD:wH w) (hD2:2<base):
  Calls prog 216 #[.pointer (some ⟨p,0,none⟩),.slice A n c] w fun r w'=>r= .returned (.int .i64 0)∧fG w' base p (bs++Xo.enc l)∧Wk base p w w':=by
 obtain⟨hp1,hp2⟩:=h.lt;have hG:=(Gr.refl w).alloc (.cells #[.pointer (some ⟨p,0,none⟩)] 302);have hJ:PtJ base p w.heap.size bs (w.alloc (.cells #[.pointer (some ⟨p,0,none⟩)] 302)):=⟨h.gr hG,Bo w _ _⟩
 have hbx:=Bo w 302 (.pointer (some ⟨p,0,none⟩));have c0:=hbx.cell;have EC:=Al (uR (base:=base) (q:=p) (ada base p w.heap.size om) hJ (by simp;omega) (by simp;omega) (hD.aX hG.below om) hD2 (hr.below (hG.below.mono om)) hB hx hn hl);have WG:=Al (Wk.gr (base:=base) (p:=p) hG om);unfold fo at EC;clear h hr hx hD hJ hG hbx;go_enter func216,ntmps216;go_wp2_with (go_at_call 253;refine EC.1.mono ?_;rintro r w2 ⟨rfl,h2,k2⟩;have H2:=Al h2;have K2:=Al (WG.1.trans k2);clear h2 k2);go_ret;exact⟨rfl,H2.1.1,K2.1⟩
def De (w:World) (d p last:Nat) (c:Nat×Nat) (er:Int):Prop:=w.heap[d]? =some (.cells #[.int .u64 (last:Int),.int .i64 (c.1:Int),.int .i64 (c.2:Int),.pointer (some ⟨p,0,none⟩),.int .i64 er] 372 (0,0))
theorem De.lt {w d p last c er} (h:De w d p last c er):d<w.heap.size:=(Ge.1 h).1
theorem De.k {w d p last c er} (h:De w d p last c er):w.cell? ⟨d,0,none⟩=some (.int .u64 (last:Int))∧w.cell? ⟨d,1,none⟩=some (.int .i64 (c.1:Int))∧w.cell? ⟨d,2,none⟩=some (.int .i64 (c.2:Int))∧w.cell? ⟨d,3,none⟩=some (.pointer (some ⟨p,0,none⟩))∧w.cell? ⟨d,4,none⟩=some (.int .i64 er):=
 ⟨Co _ _ 0 _ _ _ h,Co _ _ 1 _ _ _ h,Co _ _ 2 _ _ _ h,Co _ _ 3 _ _ _ h,Co _ _ 4 _ _ _ h⟩
theorem De.f {w d p last c er} (h:De w d p last c er) (k):w.frozen? ⟨d,k,none⟩=false:=Fr _ _ k _ _ h
theorem De.err {w d p last c er} (h:De w d p last c er) (e):De (w.setCell ⟨d,4,none⟩ (.int .i64 e)) d p last c e:=by
 unfold De at*;rw[Ag _ d 4 _ _ _ h];rfl
theorem De.last {w d p last c er} (h:De w d p last c er) (v:Nat):De (w.setCell ⟨d,0,none⟩ (.int .u64 (v:Int))) d p v c er:=by
 unfold De at*;rw[Ag _ d 0 _ _ _ h];rfl
theorem De.win {w d p last c er} (h:De w d p last c er) (u):De ((w.setCell ⟨d,1,none⟩ (.int .i64 (u.1:Int))).setCell ⟨d,2,none⟩ (.int .i64 (u.2:Int))) d p last u er:=by
 unfold De at*;rw[Ag _ d 2 _ _ _ (Ag _ d 1 _ _ _ h)];rfl
structure Wd (p d:Nat) (w w':World):Prop where
 os:w'.os=w.os
 tape:w'.tape=w.tape
 output:w'.output=w.output
 size:w.heap.size≤w'.heap.size
 block:∀k,k<w.heap.size→k≠p→k≠d→w'.heap[k]? =w.heap[k]?
theorem Wd.refl (p d w):Wd p d w w:=⟨rfl,rfl,rfl,Nr _,fun _ _ _ _=>rfl⟩
theorem Wd.trans {p d w w1 w2} (h:Wd p d w w1) (g:Wd p d w1 w2):Wd p d w w2:=
 ⟨g.os.trans h.os,g.tape.trans h.tape,g.output.trans h.output,Lt h.size g.size,fun k hk hp hd=>(g.block k (jE hk h.size) hp hd).trans (h.block k hk hp hd)⟩
theorem Wd.rd {p d w w'} (h:w.grownBy w' (some p)):Wd p d w w':=⟨h.os,h.tape,h.output,h.size,fun k hk hp _=>h.block k hk (fun e=>hp (Oj e))⟩
theorem Wd.set (p) {d} (w k v):Wd p d w (w.setCell ⟨d,k,none⟩ v):=
 have h:=av w ⟨d,k,none⟩ v
 ⟨h.os,h.tape,h.output,h.size,fun j hj _ hd=>h.block j hj (fun e=>hd (Oj e))⟩
theorem De.rd {w w' d p last c er} (h:De w d p last c er) (hg:w.grownBy w' (some p)) (hne:d≠p):De w' d p last c er:=(hg.block d h.lt (fun e=>hne (Oj e))).trans h
theorem Br.wI {w d p r} (h:Br w p r) (hd:p<d) (k v):Br (w.setCell ⟨d,k,none⟩ v) p r:=h.grown (av w ⟨d,k,none⟩ v) (fun g e=>by cases e;exact hd)
def Xo.bL (n:Nat) (er:Int) (r:List Bool):Nat×List Bool×Int:=if er≠0 then(0,r,er)else Tm.rd n r
theorem eH (d p last n:Nat) (c er r w) (hD:De w d p last c er) (hB:Br w p r) (hn:n≤64) (mf:p<d):
  Calls prog 256 #[.pointer (some ⟨d,0,none⟩),.int .i64 (n:Int)] w fun e w'=>e= .returned (.int .u64 ((Xo.bL n er r).1:Int))∧De w' d p last c (Xo.bL n er r).2.2∧Br w' p (Xo.bL n er r).2.1∧Wd p d w w':=by
 have HD:=Al hD;have HB:=Al hB;obtain⟨-,-,-,k3,k4⟩:=hD.k;by_cases he:er=0
 ·subst he;have hx:Kept (Xo.bL n 0 r=Tm.rd n r):=⟨by unfold Xo.bL;rw[Ng Ah]⟩
  rw[hx.1];have RB:=Al (dG p n r w hB hn);generalize Tm.rd n r=Y at*;obtain⟨x,r1,e1⟩:=Y;simp only[]at*;clear hD hB;go_enter func256,ntmps256;go_wp2_with (go_at_call 213;refine RB.1.mono ?_;rintro e w1 ⟨rfl,hb,hg⟩;have B1:=Al hb;have G1:=Al hg;have D1:=Al (HD.1.rd hg om);have f4:=D1.1.f 4;have j4:=D1.1.k.2.2.2.2;clear hb hg);go_ret;exact⟨rfl,D1.1.err e1,B1.1.wI mf 4 _,(Wd.rd G1.1).trans (Wd.set p w1 4 _)⟩
 ·have hne:(er !=0)=true:=by simpa using he
  have hx:Kept (Xo.bL n er r=(0,r,er)):=⟨by unfold Xo.bL;rw[Ps0 he]⟩
  rw[hx.1];clear hD hB he;go_enter func256,ntmps256;go_wp2;go_ret;exact⟨rfl,HD.1,HB.1,Wd.refl _ _ _⟩
def Xo.ko (b:Bool) (er:Int):Int:=if er=0∧b=false then 8 else er
theorem gB (d p last c er b r w) (hD:De w d p last c er) (hB:Br w p r) (mf:p<d):
  Calls prog 277 #[.pointer (some ⟨d,0,none⟩),.bool b] w fun e w'=>e= .returned (.tuple #[])∧De w' d p last c (Xo.ko b er)∧Br w' p r∧Wd p d w w':=by
 have HD:=Al hD;have HB:=Al hB;obtain⟨-,-,-,k3,k4⟩:=hD.k;have f4:=hD.f 4;unfold Xo.ko;clear hD hB;by_cases he:er=0
 ·subst he;cases b
  ·go_enter func277,ntmps277;go_wp2;go_end0;exact⟨rfl,HD.1.err 8,HB.1.wI mf 4 _,Wd.set p w 4 _⟩
  ·go_enter func277,ntmps277;go_wp2;go_end0;exact⟨rfl,HD.1,HB.1,Wd.refl _ _ _⟩
 ·have hne:(er==0)=false:=by simpa using he
  rw[Ng (fun h=>he h.1)];go_enter func277,ntmps277;go_wp2;go_end0;exact⟨rfl,HD.1,HB.1,Wd.refl _ _ _⟩
theorem Wd.alloc {p d w w1} (h:Wd p d w w1) (o):Wd p d w (w1.alloc o):=
 h.trans ⟨rfl,rfl,rfl,Ah,fun k hk _ _=>(Ga w1 o none).block k hk Ah⟩
theorem De.alloc {w d p last c er} (h:De w d p last c er) (o):De (w.alloc o) d p last c er:=((Ga w o none).block d h.lt Ah).trans h
theorem Br.al {w p r} (h:Br w p r) (o):Br (w.alloc o) p r:=h.grown (Ga w o none) (fun g e=>by cases e)
theorem Wd.row {p d g w w' cs t fr} (h:Wd p d w w') (hr:w.heap[g]? =some (.cells cs t fr)) (hp:g≠p) (hd:g≠d):w'.heap[g]? =some (.cells cs t fr):=(h.block g (Ge.1 hr).1 hp hd).trans hr
theorem Wd.late {p d g w w1} (h:Wd p d w w1) (hg:w.heap.size≤g) (k v):Wd p d w (w1.setCell ⟨g,k,none⟩ v):=
 have e:=av w1 ⟨g,k,none⟩ v
 ⟨e.os.trans h.os,e.tape.trans h.tape,e.output.trans h.output,Lt h.size e.size,fun j hj hp hd=>(e.block j (jE hj h.size) (fun q=>by have:=Oj q;simp only at this;omega)).trans (h.block j hj hp hd)⟩
theorem De.late {w d p last g c er} (h:De w d p last c er) (hg:d≠g) (k v):De (w.setCell ⟨g,k,none⟩ v) d p last c er:=(AQ w ⟨g,k,none⟩ v d hg).trans h
def Xo.UG (er:Int) (r:List Bool):(Nat×Nat)×List Bool×Int:=
 (((Xo.bL 6 er r).1,(Xo.bL 6 (Xo.bL 6 er r).2.2 (Xo.bL 6 er r).2.1).1+1),(Xo.bL 6 (Xo.bL 6 er r).2.2 (Xo.bL 6 er r).2.1).2.1,
  Xo.ko (decide ((Xo.bL 6 er r).1+((Xo.bL 6 (Xo.bL 6 er r).2.2 (Xo.bL 6 er r).2.1).1+1)≤64)) (Xo.bL 6 (Xo.bL 6 er r).2.2 (Xo.bL 6 er r).2.1).2.2)
theorem Xo.Mq (n er r):(Xo.bL n er r).1<2^n:=by
 unfold Xo.bL;split
 ·exact Nat.two_pow_pos n
 ·exact Tm.jC n r
theorem Ow (d p last c er r w) (hD:De w d p last c er) (hB:Br w p r) (mf:p<d):
  Calls prog 276 #[.pointer (some ⟨d,0,none⟩)] w fun e w'=>e= .returned (.agg #[.int .i64 ((Xo.UG er r).1.1:Int),.int .i64 ((Xo.UG er r).1.2:Int)])∧De w' d p last c (Xo.UG er r).2.2∧Br w' p (Xo.UG er r).2.1∧Wd p d w w':=by
 have hdl:=hD.lt;obtain⟨W0,hW0⟩:∃W0,W0=w.alloc (.cells #[.int .i64 0,.int .i64 0] 368):=⟨_,rfl⟩
 have hr0:W0.heap[w.heap.size]? =some (.cells #[.int .i64 0,.int .i64 0] 368 (0,0)):=by rw[hW0];exact Aw w _
 have hD0:De W0 d p last c er:=by rw[hW0];exact hD.alloc _
 have hB0:Br W0 p r:=by rw[hW0];exact hB.al _
 have hF0:Wd p d w W0:=by rw[hW0];exact(Wd.refl p d w).alloc _
 have hz0:W0.heap.size=w.heap.size+1:=by rw[hW0];simp
 have HX:Kept (Xo.UG er r=(((Xo.bL 6 er r).1,(Xo.bL 6 (Xo.bL 6 er r).2.2 (Xo.bL 6 er r).2.1).1+1),(Xo.bL 6 (Xo.bL 6 er r).2.2 (Xo.bL 6 er r).2.1).2.1,Xo.ko (decide ((Xo.bL 6 er r).1+((Xo.bL 6 (Xo.bL 6 er r).2.2 (Xo.bL 6 er r).2.1).1+1)≤64)) (Xo.bL 6 (Xo.bL 6 er r).2.2 (Xo.bL 6 er r).2.1).2.2)):=⟨rfl⟩
 rw[HX.1];have B1:=eH d p last 6 c er r W0 hD0 hB0 om mf;have l1:=Xo.Mq 6 er r;generalize Xo.bL 6 er r=Y at*;obtain⟨a,r1,e1⟩:=Y;simp only[]at*;have B2:=fun(w1:World) (h1:De w1 d p last c e1) (h2:Br w1 p r1)=>eH d p last 6 c e1 r1 w1 h1 h2 om mf
 have l2:=Xo.Mq 6 e1 r1;generalize Xo.bL 6 e1 r1=Y at*;obtain⟨b,r2,e2⟩:=Y;simp only[]at*;have CH:=Al (fun(w1:World) (h1:De w1 d p last c e2) (h2:Br w1 p r2)=>gB d p last c e2 (decide (a+(b+1)≤64)) r2 w1 h1 h2 mf);have KB1:=Al B1;have UE:=Al B2;have HR0:=Al hr0;have HF0:=Al hF0;have HW0:=Al hW0.symm;have hga:IntKind.i64.wrap (a:Int)=(a:Int):=Oh om om;have hgb:IntKind.i64.wrap (b:Int)=(b:Int):=Oh om om;have hdec:decide ((a:Int)+((b:Int)+1)≤64)=decide (a+(b+1)≤64):=decide_eq_decide.2 ⟨fun h=>om,fun h=>om⟩;obtain⟨g2,hg2⟩:∃g2,g2=w.heap.size:=⟨_,rfl⟩
 have HG2:=Al hg2.symm;clear B1 B2 hD hB hD0 hB0 hr0 hF0 hW0 HX;go_enter func276,ntmps276;go_wp2_with (go_at_call 256;rw[HW0.1];refine KB1.1.mono ?_;rintro e w1 ⟨rfl,h1,h2,h3⟩;have D1:=Al h1;have R1:=Al h2;have F1:=Al h3;have z1:=h3.size;clear h1 h2 h3 KB1);have ade:w.heap.size+1≤w1.heap.size:=om;refine(UE.1 _ (D1.1.alloc _) (R1.1.al _)).mono ?_;rintro e w2 ⟨rfl,h1,h2,h3⟩;have hrow3:w2.heap[w1.heap.size]? =some (.cells #[.int .i64 (a:Int),.int .i64 0] 368 (0,0)):=h3.row (Aw w1 _) om om;have hrow2:w2.heap[w.heap.size]? =some (.cells #[.int .i64 0,.int .i64 0] 368 (0,0)):=h3.row (((Ga w1 _ none).block _ om Ah).trans (F1.1.row HR0.1 om om)) om om;have F2:=Al (((HF0.1.trans F1.1).alloc _).trans h3);have D2:=Al h1;have R2:=Al h2;have z2:w1.heap.size+1≤w2.heap.size:=by have:=h3.size;simpa using this
 clear h1 h2 h3 F1 HR0 HF0 D1 R1 UE hz0;obtain⟨g3,hg3⟩:∃g3,g3=w1.heap.size:=⟨_,rfl⟩
 rw[←hg3]at hrow3 z2 ade⊢;rw[HG2.1];rw[←hg2]at hrow2 ade hdl;have Qh:w.heap.size≤g2:=om;clear hg3 hg2 z1;have c31:=Co _ _ 1 _ _ _ hrow3;have f31:=Fr _ _ 1 _ _ hrow3;have c30:=Co _ _ 0 _ _ _ hrow3;have HR3:=Al hrow3;have HR2:=Al hrow2;clear hrow3 hrow2;have D3:=Al (D2.1.late (g:=g3) om 1 (.int .i64 ((b:Int)+1)));have R3:=Al (R2.1.grown (av w2 ⟨g3,1,none⟩ (.int .i64 ((b:Int)+1))) (fun g e=>by have:=Oj e;simp only at this;omega));have F3:=Al (F2.1.late (g:=g3) om 1 (.int .i64 ((b:Int)+1)));have R33:=Al (show(w2.setCell ⟨g3,1,none⟩ (.int .i64 ((b:Int)+1))).heap[g3]? =some (.cells #[.int .i64 (a:Int),.int .i64 ((b:Int)+1)] 368 (0,0))from by rw[Ag _ g3 1 _ _ _ HR3.1];rfl);have R32:=Al ((AQ w2 ⟨g3,1,none⟩ (.int .i64 ((b:Int)+1)) g2 (by simp only;omega)).trans HR2.1);go_wp2_with (go_at_call 277;refine(CH.1 _ D3.1 R3.1).mono ?_;rintro e w5 ⟨rfl,h1,h2,h3⟩;have D5:=Al h1;have R5:=Al h2;have F5:=Al (F3.1.trans h3);have Q3:=Al (h3.row R33.1 om om);have Q2:=Al (h3.row R32.1 om om);have j0:=Co _ _ 0 _ _ _ Q3.1;have j1:=Co _ _ 1 _ _ _ Q3.1;have i0:=Co _ _ 0 _ _ _ Q2.1;have i1:=Co _ _ 1 _ _ _ Q2.1;have f0:=Fr _ _ 0 _ _ Q2.1;have f1:=Fr _ _ 1 _ _ Q2.1;clear h1 h2 h3);refine Bg (v:= .agg #[.int .i64 (a:Int),.int .i64 ((b:Int)+1)]) ?_ rfl ⟨Ah,?_,?_,?_⟩
 ·exact bI (fn:=Tryz.f276) (a:=2) (T1:=368) rfl _ _ g2 _ _ _ _ rfl (kX _ g2 (.int .i64 (a:Int)) (.int .i64 ((b:Int)+1)) Q2.1 rfl) underlying368 rfl kr
 ·exact(D5.1.late om 0 _).late om 1 _
 ·exact(R5.1.grown (av w5 ⟨g2,0,none⟩ _) (fun g e=>by have:=Oj e;simp only at this;omega)).grown (av _ ⟨g2,1,none⟩ _) (fun g e=>by have:=Oj e;simp only at this;omega)
 ·exact(F5.1.late Qh 0 _).late Qh 1 _
def Ox (f:Nat):Value:= .func (.func f) #[] #[]
def Tu:Array Value:= #[Ox 215,Ox 216,Ox 217,Ox 218,Ox 219,Ox 220,Ox 221,Ox 222,Ox 223]
theorem jb (w):Calls prog 179 #[] w fun e w'=>e= .returned (.agg Tu)∧Below w.heap.size w w':=by
 unfold Tu Ox;go_enter func179,ntmps179;have hr:=Aw w (.cells #[Value.nilFunc,Value.nilFunc,Value.nilFunc,Value.nilFunc,Value.nilFunc,Value.nilFunc,Value.nilFunc,Value.nilFunc,Value.nilFunc] 291);have hi:(prog.info? 291).map (·.size)=some 9:=kr;have h1:(#[Value.func (Fn.func 215) #[] #[],Value.func (Fn.func 216) #[] #[],Value.func (Fn.func 217) #[] #[],Value.func (Fn.func 218) #[] #[],Value.func (Fn.func 219) #[] #[],Value.func (Fn.func 220) #[] #[],Value.func (Fn.func 221) #[] #[],Value.func (Fn.func 222) #[] #[],Value.func (Fn.func 223) #[] #[]]:Array Value).all (·.oneCell')=true:=by simp[Value.oneCell']
 have HR:=Al hr;have HI:=Al hi;have H1:=Al h1;have hb:=Al ((Ae w.heap.size w).alloc Aj (.cells #[Value.nilFunc,Value.nilFunc,Value.nilFunc,Value.nilFunc,Value.nilFunc,Value.nilFunc,Value.nilFunc,Value.nilFunc,Value.nilFunc] 291));clear hr hi h1;go_wp2_with (refine wpList_store_row rfl 291 _ _ rfl w.heap.size _ rfl rfl _ _ HR.1 HI.1 rfl H1.1 ?_);refine Bg (v:= .agg #[Value.func (Fn.func 215) #[] #[],Value.func (Fn.func 216) #[] #[],Value.func (Fn.func 217) #[] #[],Value.func (Fn.func 218) #[] #[],Value.func (Fn.func 219) #[] #[],Value.func (Fn.func 220) #[] #[],Value.func (Fn.func 221) #[] #[],Value.func (Fn.func 222) #[] #[],Value.func (Fn.func 223) #[] #[]]) ?_ rfl ⟨rfl,?_⟩
 ·exact bI (fn:=Tryz.f179) (a:=0) (T1:=291) rfl _ _ w.heap.size _ _ _ _ rfl (setRow_heap _ _ _ _ _ _ HR.1) underlying291 rfl kr
 ·exact⟨hb.1.os,hb.1.tape,hb.1.output,Ah,fun k hk=>(setRow_other _ _ k _ om).trans (hb.1.block k hk)⟩
theorem aat (w):(Instr.index 291 (.agg #[.func (.func 215) #[] #[],.func (.func 216) #[] #[],.func (.func 217) #[] #[],.func (.func 218) #[] #[],.func (.func 219) #[] #[],.func (.func 220) #[] #[],.func (.func 221) #[] #[],.func (.func 222) #[] #[],.func (.func 223) #[] #[]]) (.int .i64 0)).run prog w= .ok (.agg #[.func (.func 215) #[] #[],.func (.func 216) #[] #[],.func (.func 217) #[] #[]]) w:=kr
theorem aau (w):(Instr.index 291 (.agg #[.func (.func 215) #[] #[],.func (.func 216) #[] #[],.func (.func 217) #[] #[],.func (.func 218) #[] #[],.func (.func 219) #[] #[],.func (.func 220) #[] #[],.func (.func 221) #[] #[],.func (.func 222) #[] #[],.func (.func 223) #[] #[]]) (.int .i64 1)).run prog w= .ok (.agg #[.func (.func 218) #[] #[],.func (.func 219) #[] #[],.func (.func 220) #[] #[]]) w:=kr
theorem aav (w):(Instr.index 291 (.agg #[.func (.func 215) #[] #[],.func (.func 216) #[] #[],.func (.func 217) #[] #[],.func (.func 218) #[] #[],.func (.func 219) #[] #[],.func (.func 220) #[] #[],.func (.func 221) #[] #[],.func (.func 222) #[] #[],.func (.func 223) #[] #[]]) (.int .i64 2)).run prog w= .ok (.agg #[.func (.func 221) #[] #[],.func (.func 222) #[] #[],.func (.func 223) #[] #[]]) w:=kr
def Ck.Oy (l:List Nat) (k:Nat):Int:=if k=0 then((Xo.enc l).length:Int)else if k=1 then((Ru.enc l).length:Int)else Di.JZ l
theorem Oz (A n c B l w) (hr:j6 w B A n c l) (hB:B≤w.heap.size) (hx:∀x∈l,x<2^64) (hn:n≤128) (hD:wH w) (hD2:2<w.heap.size):
  Calls prog 226 #[.slice A n c] w fun r w'=>r= .returned (.agg #[.int .i64 (Ck.Oy l 0),.int .i64 (Ck.Oy l 1),.int .i64 (Ck.Oy l 2)])∧Below w.heap.size w w':=by
 have X0:=Al (show∀W,Below w.heap.size w W→Calls prog 215 #[.slice A n c] W fun r w'=>r= .returned (.int .i64 (Ck.Oy l 0))∧Below W.heap.size W w' from fun W hb=>Ov A n c B l W (hr.below (hb.mono hB)) (Lt hB hb.size) hx om (hD.aX hb hD2) (jE hD2 hb.size));have X1:=Al (show∀W,Below w.heap.size w W→Calls prog 218 #[.slice A n c] W fun r w'=>r= .returned (.int .i64 (Ck.Oy l 1))∧Below W.heap.size W w' from fun W hb=>Om A n c B l W (hr.below (hb.mono hB)) (Lt hB hb.size) hn);have X2:=Al (show∀W,Below w.heap.size w W→Calls prog 221 #[.slice A n c] W fun r w'=>r= .returned (.int .i64 (Ck.Oy l 2))∧Below W.heap.size W w' from fun W hb=>Oi A n c B l W (hr.below (hb.mono hB)) (Lt hB hb.size) hx om);generalize Ck.Oy l 0=s0 at*;generalize Ck.Oy l 1=s1 at*;generalize Ck.Oy l 2=s2 at*;have EC:=Al (fun W=>jb W);unfold Tu Ox at EC;clear hr hx hD;obtain⟨W2,hW2⟩:∃W2,W2=(w.alloc (.cells #[.int .i64 0,.int .i64 0,.int .i64 0] 335)).alloc (.cells #[.int .i64 0,.int .i64 0,.int .i64 0] 335):=⟨_,rfl⟩
 have hz:W2.heap.size=w.heap.size+1+1:=by rw[hW2];simp
 have r3:W2.heap[w.heap.size+1]? =some (.cells #[.int .i64 0,.int .i64 0,.int .i64 0] 335 (0,0)):=by
  rw[hW2];have:=Aw (w.alloc (.cells #[.int .i64 0,.int .i64 0,.int .i64 0] 335)) (.cells #[.int .i64 0,.int .i64 0,.int .i64 0] 335);simpa using this
 have r2:W2.heap[w.heap.size]? =some (.cells #[.int .i64 0,.int .i64 0,.int .i64 0] 335 (0,0)):=by
  rw[hW2,Ay _ _ _ Ah];exact Aw w _
 have b2:Below w.heap.size w W2:=by rw[hW2];exact((Ae _ w).alloc Aj _).alloc Ah _
 have R3:=Al r3;have R2:=Al r2;have B2:=Al b2;have HW2:=Al hW2.symm;have HZ:=Al hz;clear hW2 r3 r2 b2 hz;go_enter func226,ntmps226;go_wp2_with (go_at_call 179;rw[HW2.1];refine(EC.1 W2).mono ?_;rintro e w1 ⟨rfl,h1⟩;have B1:=Al h1;clear h1);go_loopw [7] (fun i wr=>∃k:Nat,k≤3∧i= .int .i64 (k:Int)∧Below w.heap.size w wr∧w.heap.size+2≤wr.heap.size∧wr.heap[w.heap.size]? =some (.cells #[.int .i64 0,.int .i64 0,.int .i64 0] 335 (0,0))∧
  wr.heap[w.heap.size+1]? =some (.cells #[.int .i64 (if 0<k then s0 else 0),.int .i64 (if 1<k then s1 else 0),.int .i64 (if 2<k then s2 else 0)] 335 (0,0))) (fun i _=>3-(intOf i).toNat)
 case atStart=>exact⟨0,om,rfl,B2.1.trans (B1.1.mono (by rw[HZ.1];omega)),by have:=B1.1.size;rw[HZ.1]at this;omega,(B1.1.block _ (by rw[HZ.1];omega)).trans R2.1,by simpa using(B1.1.block _ (by rw[HZ.1];omega)).trans R3.1⟩
 case round=>
  clear B1 R3 R2 B2 HZ;obtain⟨k,hk,rfl,hb,hz,q2,q3⟩:=hrel;have HB:=Al hb;have Q2:=Al q2;have Q3:=Al q3;have hcs:k=0∨k=1∨k=2∨k=3:=om;have ix0:=aat wr;have ix1:=aau wr;have ix2:=aav wr;clear hb q2 q3;rcases hcs with rfl|rfl|rfl|rfl
  ·have HR:=Al (Aw wr (.cells #[Value.nilFunc,Value.nilFunc,Value.nilFunc] 290));have HI:Kept ((prog.info? 290).map (·.size)=some 3):=⟨kr⟩
   have H1:Kept ((#[.func (.func 215) #[] #[],.func (.func 216) #[] #[],.func (.func 217) #[] #[]]:Array Value).all (·.oneCell')=true):=⟨by simp[Value.oneCell']⟩
   have W5:Below wr.heap.size wr ((wr.alloc (.cells #[Value.nilFunc,Value.nilFunc,Value.nilFunc] 290)).setRow wr.heap.size #[.func (.func 215) #[] #[],.func (.func 216) #[] #[],.func (.func 217) #[] #[]]):=by
    have hb:=(Ae wr.heap.size wr).alloc Aj (.cells #[Value.nilFunc,Value.nilFunc,Value.nilFunc] 290);exact⟨hb.os,hb.tape,hb.output,Ah,fun k hk=>(setRow_other _ _ k _ om).trans (hb.block k hk)⟩
   have c0:((wr.alloc (.cells #[Value.nilFunc,Value.nilFunc,Value.nilFunc] 290)).setRow wr.heap.size #[.func (.func 215) #[] #[],.func (.func 216) #[] #[],.func (.func 217) #[] #[]]).cell? ⟨wr.heap.size,0,none⟩=some (.func (.func 215) #[] #[]):=cell_setRow_same _ _ 0 _ _ _ _ HR.1;have G8:=Al W5;clear W5;go_wp2_with (first
    |(refine wpList_store_row rfl 290 _ _ rfl wr.heap.size _ rfl rfl _ _ HR.1 HI.1 rfl H1.1 ?_)
    |(go_at_call 215;refine(X0.1 _ (HB.1.trans (G8.1.mono om))).mono ?_;rintro e w6 ⟨rfl,h6⟩;have B6:=Al (G8.1.trans (h6.mono G8.1.size));have P2:=Al ((B6.1.block _ om).trans Q2.1);have P3:=Al ((B6.1.block _ om).trans Q3.1);have t0:=Co _ _ 0 _ _ _ P3.1;have f0:=Fr _ _ 0 _ _ P3.1;have hz6:=B6.1.size;clear h6))
   go_roundw
   case rel=>
    refine⟨1,om,rfl,(HB.1.trans (B6.1.mono om)).setCell (by simp only;omega) _,by simp;omega,(AQ _ ⟨w.heap.size+1,0,none⟩ _ _ (by simp only;omega)).trans P2.1,?_⟩;rw[Ag _ _ 0 _ _ _ P3.1];simp
   case measure=>simp[intOf]
  ·have HR:=Al (Aw wr (.cells #[Value.nilFunc,Value.nilFunc,Value.nilFunc] 290));have HI:Kept ((prog.info? 290).map (·.size)=some 3):=⟨kr⟩
   have H1:Kept ((#[.func (.func 218) #[] #[],.func (.func 219) #[] #[],.func (.func 220) #[] #[]]:Array Value).all (·.oneCell')=true):=⟨by simp[Value.oneCell']⟩
   have W5:Below wr.heap.size wr ((wr.alloc (.cells #[Value.nilFunc,Value.nilFunc,Value.nilFunc] 290)).setRow wr.heap.size #[.func (.func 218) #[] #[],.func (.func 219) #[] #[],.func (.func 220) #[] #[]]):=by
    have hb:=(Ae wr.heap.size wr).alloc Aj (.cells #[Value.nilFunc,Value.nilFunc,Value.nilFunc] 290);exact⟨hb.os,hb.tape,hb.output,Ah,fun k hk=>(setRow_other _ _ k _ om).trans (hb.block k hk)⟩
   have c0:((wr.alloc (.cells #[Value.nilFunc,Value.nilFunc,Value.nilFunc] 290)).setRow wr.heap.size #[.func (.func 218) #[] #[],.func (.func 219) #[] #[],.func (.func 220) #[] #[]]).cell? ⟨wr.heap.size,0,none⟩=some (.func (.func 218) #[] #[]):=cell_setRow_same _ _ 0 _ _ _ _ HR.1;have G8:=Al W5;clear W5;go_wp2_with (first
    |(refine wpList_store_row rfl 290 _ _ rfl wr.heap.size _ rfl rfl _ _ HR.1 HI.1 rfl H1.1 ?_)
    |(go_at_call 218;refine(X1.1 _ (HB.1.trans (G8.1.mono om))).mono ?_;rintro e w6 ⟨rfl,h6⟩;have B6:=Al (G8.1.trans (h6.mono G8.1.size));have P2:=Al ((B6.1.block _ om).trans Q2.1);have P3:=Al ((B6.1.block _ om).trans Q3.1);have t0:=Co _ _ 1 _ _ _ P3.1;have f0:=Fr _ _ 1 _ _ P3.1;have hz6:=B6.1.size;clear h6))
   go_roundw
   case rel=>
    refine⟨2,om,rfl,(HB.1.trans (B6.1.mono om)).setCell (by simp only;omega) _,by simp;omega,(AQ _ ⟨w.heap.size+1,1,none⟩ _ _ (by simp only;omega)).trans P2.1,?_⟩;rw[Ag _ _ 1 _ _ _ P3.1];simp
   case measure=>simp[intOf]
  ·have HR:=Al (Aw wr (.cells #[Value.nilFunc,Value.nilFunc,Value.nilFunc] 290));have HI:Kept ((prog.info? 290).map (·.size)=some 3):=⟨kr⟩
   have H1:Kept ((#[.func (.func 221) #[] #[],.func (.func 222) #[] #[],.func (.func 223) #[] #[]]:Array Value).all (·.oneCell')=true):=⟨by simp[Value.oneCell']⟩
   have W5:Below wr.heap.size wr ((wr.alloc (.cells #[Value.nilFunc,Value.nilFunc,Value.nilFunc] 290)).setRow wr.heap.size #[.func (.func 221) #[] #[],.func (.func 222) #[] #[],.func (.func 223) #[] #[]]):=by
    have hb:=(Ae wr.heap.size wr).alloc Aj (.cells #[Value.nilFunc,Value.nilFunc,Value.nilFunc] 290);exact⟨hb.os,hb.tape,hb.output,Ah,fun k hk=>(setRow_other _ _ k _ om).trans (hb.block k hk)⟩
   have c0:((wr.alloc (.cells #[Value.nilFunc,Value.nilFunc,Value.nilFunc] 290)).setRow wr.heap.size #[.func (.func 221) #[] #[],.func (.func 222) #[] #[],.func (.func 223) #[] #[]]).cell? ⟨wr.heap.size,0,none⟩=some (.func (.func 221) #[] #[]):=cell_setRow_same _ _ 0 _ _ _ _ HR.1;have G8:=Al W5;clear W5;go_wp2_with (first
    |(refine wpList_store_row rfl 290 _ _ rfl wr.heap.size _ rfl rfl _ _ HR.1 HI.1 rfl H1.1 ?_)
    |(go_at_call 221;refine(X2.1 _ (HB.1.trans (G8.1.mono om))).mono ?_;rintro e w6 ⟨rfl,h6⟩;have B6:=Al (G8.1.trans (h6.mono G8.1.size));have P2:=Al ((B6.1.block _ om).trans Q2.1);have P3:=Al ((B6.1.block _ om).trans Q3.1);have t0:=Co _ _ 2 _ _ _ P3.1;have f0:=Fr _ _ 2 _ _ P3.1;have hz6:=B6.1.size;clear h6))
   go_roundw
   case rel=>
    refine⟨3,om,rfl,(HB.1.trans (B6.1.mono om)).setCell (by simp only;omega) _,by simp;omega,(AQ _ ⟨w.heap.size+1,2,none⟩ _ _ (by simp only;omega)).trans P2.1,?_⟩;rw[Ag _ _ 2 _ _ _ P3.1];simp
   case measure=>simp[intOf]
  ·have q3:=Q3.1;simp only[show(0:Nat)<3 from om,show(1:Nat)<3 from om,show(2:Nat)<3 from om,if_true]at q3;have t0:=Co _ _ 0 _ _ _ q3;have t1:=Co _ _ 1 _ _ _ q3;have t2:=Co _ _ 2 _ _ _ q3;have d0:=Co _ _ 0 _ _ _ Q2.1;have d1:=Co _ _ 1 _ _ _ Q2.1;have d2:=Co _ _ 2 _ _ _ Q2.1;have f0:=Fr _ _ 0 _ _ Q2.1;have f1:=Fr _ _ 1 _ _ Q2.1;have f2:=Fr _ _ 2 _ _ Q2.1;have hrow:(((wr.setCell ⟨w.heap.size,0,none⟩ (.int .i64 s0)).setCell ⟨w.heap.size,1,none⟩ (.int .i64 s1)).setCell ⟨w.heap.size,2,none⟩ (.int .i64 s2)).heap[w.heap.size]? =some (.cells #[.int .i64 s0,.int .i64 s1,.int .i64 s2] 335 (0,0)):=by
    rw[Ag _ _ 2 _ _ _ (Ag _ _ 1 _ _ _ (Ag _ _ 0 _ _ _ Q2.1))];simp
   have HRW:=Al hrow;clear q3 hrow;go_wp2;refine Bg (v:= .agg #[.int .i64 s0,.int .i64 s1,.int .i64 s2]) ?_ rfl ⟨rfl,?_⟩
   ·exact bI (fn:=Tryz.f226) (a:=2) (T1:=335) rfl _ _ w.heap.size _ _ _ _ rfl HRW.1 underlying335 rfl kr
   ·exact((HB.1.setCell Aj _).setCell Aj _).setCell Aj _
theorem agA (w a b c):(Instr.index 335 (.agg #[.int .i64 a,.int .i64 b,.int .i64 c]) (.int .i64 0)).run prog w= .ok (.int .i64 a) w:=kr
theorem agB (w a b c):(Instr.index 335 (.agg #[.int .i64 a,.int .i64 b,.int .i64 c]) (.int .i64 1)).run prog w= .ok (.int .i64 b) w:=kr
theorem agC (w a b c):(Instr.index 335 (.agg #[.int .i64 a,.int .i64 b,.int .i64 c]) (.int .i64 2)).run prog w= .ok (.int .i64 c) w:=kr
theorem Di.Xe (l) (h:(Di.eQ l).length≤128):Di.JZ l=((Di.enc l).length:Int):=by
 unfold Di.JZ;rw[Ng om];by_cases hl:l=[]
 ·subst hl;rfl
 ·have hd:(Di.eQ l).length≠0:=fun e=>by
   obtain⟨x,hx⟩:=List.exists_mem_of_ne_nil l hl;have:=(Di.fA l x).2 hx;rw[qU e]at this;simp at this
  have f1:∀(k:Nat) (d:List Nat),(d.flatMap (Bt.bw k)).length=k*d.length:=fun k d=>by
   induction d with
   |nil=>rfl
   |cons x d ih=>rw[Av,La,ih,Bt.aj,Lc,Nat.mul_add];omega
  have f2:∀(k:Nat) (f:Nat→Nat) (d:List Nat),(d.flatMap fun x=>Bt.bw k (f x)).length=k*d.length:=fun k f d=>by
   induction d with
   |nil=>rfl
   |cons x d ih=>rw[Av,La,ih,Bt.aj,Lc,Nat.mul_add];omega
  rw[Ng hd];unfold Di.enc;rw[Ng hl,La,La,Bt.aj,f1,f2]
  push_cast
  rw[Int.mul_comm 64,Int.mul_comm ((Di.mU (Di.eQ l).length:Nat):Int)];omega
theorem uS (A n c B l w) (hr:j6 w B A n c l) (hB:B≤w.heap.size) (hx:∀x∈l,x<2^64) (hn:n≤128) (hD:wH w) (hD2:2<w.heap.size):
  Calls prog 181 #[.slice A n c] w fun r w'=>r= .returned (.int .i64 ((Ck.choose l:Nat):Int))∧Below w.heap.size w w':=by
 have SZ:=Al (Oz A n c B l w hr hB hx hn hD hD2);have hdl:(Di.eQ l).length≤128:=by have:=Ck.Jm l;have:=hr.len;omega
 have e0:Ck.Oy l 0=((Xo.enc l).length:Int):=rfl;have e1:Ck.Oy l 1=((Ru.enc l).length:Int):=rfl;have e2:Ck.Oy l 2=((Di.enc l).length:Int):=(show Ck.Oy l 2=Di.JZ l from rfl).trans (Di.Xe l hdl);rw[e0,e1,e2]at SZ;have HCH:Kept (Ck.choose l=if(Di.enc l).length<min (Xo.enc l).length (Ru.enc l).length then 3 else if(Ru.enc l).length< (Xo.enc l).length then 2 else 1):=⟨rfl⟩
 generalize Ck.choose l=ch at*;generalize (Xo.enc l).length=s0 at*;generalize (Ru.enc l).length=s1 at*;generalize (Di.enc l).length=s2 at*;clear hr hx hD e0 e1 e2;go_enter func181,ntmps181;go_wp2_with (go_at_call 226;refine SZ.1.mono ?_;rintro e w1 ⟨rfl,h1⟩;have B1:=Al h1;clear h1);have hb3:=Al ((B1.1).alloc B1.1.size (.cells #[.int .i64 (s0:Int),.int .i64 (s1:Int),.int .i64 (s2:Int)] 335));have hrow:=Aw w1 (.cells #[.int .i64 (s0:Int),.int .i64 (s1:Int),.int .i64 (s2:Int)] 335);generalize w1.alloc (.cells #[.int .i64 (s0:Int),.int .i64 (s1:Int),.int .i64 (s2:Int)] 335)=W3 at*;generalize w1.heap.size=g at*;have c0:=Co _ _ 0 _ _ _ hrow;have c1:=Co _ _ 1 _ _ _ hrow;have c2:=Co _ _ 2 _ _ _ hrow;clear hrow B1 SZ;have p0:(0:Int)≤(s0:Int):=om;have p1:(0:Int)≤(s1:Int):=om;have p2:(0:Int)≤(s2:Int):=om;go_loopw [3,10] (fun v i wr=>∃k b:Nat,i= .int .i64 (k:Int)∧v= .int .i64 (b:Int)∧wr=W3∧k≤3∧Kept ((k=0∧b=0)∨(k=1∧b=0)∨(k=2∧b=if s1<s0 then 1 else 0)∨(k=3∧b=if s2<min s0 s1 then 2 else if s1<s0 then 1 else 0))) (fun _ i _=>3-(intOf i).toNat)
 case atStart=>exact⟨0,0,rfl,rfl,(by first|rfl|trivial),om,⟨.inl ⟨rfl,rfl⟩⟩⟩
 case round=>
  obtain⟨k,b,rfl,rfl,rfl,hk3,HK⟩:=hrel;have ix0:=agA wr (s0:Int) (s1:Int) (s2:Int);have ix1:=agB wr (s0:Int) (s1:Int) (s2:Int);have ix2:=agC wr (s0:Int) (s1:Int) (s2:Int);rcases HK.1 with⟨rfl,rfl⟩|⟨rfl,rfl⟩|⟨rfl,hb⟩|⟨rfl,hb⟩
  ·go_wp2;go_roundw
   case rel=>exact⟨1,0,rfl,rfl,(by first|rfl|trivial),om,⟨.inr (.inl ⟨rfl,rfl⟩)⟩⟩
   case measure=>simp[intOf]
  ·by_cases h:s1<s0
   ·have h':(s1:Int)< (s0:Int):=by omega
    go_wp2;go_roundw
    case rel=>exact⟨2,1,rfl,rfl,(by first|rfl|trivial),om,⟨.inr (.inr (.inl ⟨rfl,by rw[Ps0 h]⟩))⟩⟩
    case measure=>simp[intOf]
   ·have h':¬(s1:Int)< (s0:Int):=by omega
    go_wp2;go_roundw
    case rel=>exact⟨2,0,rfl,rfl,(by first|rfl|trivial),om,⟨.inr (.inr (.inl ⟨rfl,by rw[Ng h]⟩))⟩⟩
    case measure=>simp[intOf]
  ·by_cases h:s1<s0
   ·rw[Ps0 h]at hb;subst hb;by_cases h2:s2<s1
    ·have h':(s2:Int)< (s1:Int):=by omega
     go_wp2;go_roundw
     case rel=>exact⟨3,2,rfl,rfl,(by first|rfl|trivial),om,⟨.inr (.inr (.inr ⟨rfl,by rw[Ps0 om]⟩))⟩⟩
     case measure=>simp[intOf]
    ·have h':¬(s2:Int)< (s1:Int):=by omega
     go_wp2;go_roundw
     case rel=>exact⟨3,1,rfl,rfl,(by first|rfl|trivial),om,⟨.inr (.inr (.inr ⟨rfl,by rw[Ng om,Ps0 h]⟩))⟩⟩
     case measure=>simp[intOf]
   ·rw[Ng h]at hb;subst hb;by_cases h2:s2<s0
    ·have h':(s2:Int)< (s0:Int):=by omega
     go_wp2;go_roundw
     case rel=>exact⟨3,2,rfl,rfl,(by first|rfl|trivial),om,⟨.inr (.inr (.inr ⟨rfl,by rw[Ps0 om]⟩))⟩⟩
     case measure=>simp[intOf]
    ·have h':¬(s2:Int)< (s0:Int):=by omega
     go_wp2;go_roundw
     case rel=>exact⟨3,0,rfl,rfl,(by first|rfl|trivial),om,⟨.inr (.inr (.inr ⟨rfl,by rw[Ng om,Ng h]⟩))⟩⟩
     case measure=>simp[intOf]
  ·have HB:=Al hb;have acO:b≤2:=by rw[hb];split<;>(try split)<;>omega
   clear hb;go_wp2;go_ret;refine⟨?_,hb3.1⟩;have e:(if s2<min s0 s1 then 3 else if s1<s0 then 2 else 1)=b+1:=by rw[HB.1];split<;>(try split)<;>rfl
   rw[HCH.1,e];rfl
end Go.Proofs.YtongopommlghgaaGreatDoor
