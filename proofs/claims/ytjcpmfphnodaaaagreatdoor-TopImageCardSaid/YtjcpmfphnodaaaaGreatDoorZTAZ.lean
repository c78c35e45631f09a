/- Part 26. -/
import Derived.Test.YtjcpmfphnodaaaaGreatDoorZTAY
import Derived.Shelf.Spec.TrailingZeros
namespace Go.Proofs.YtjcpmfphnodaaaaGreatDoor
set_option maxRecDepth 100000
set_option maxHeartbeats 0
open _root_.Go.Proofs.Tryz
open Go.RowKit Go.Shelf
def Ru.gtr (r:List Bool):(Nat×Nat)×List Bool×Int:=
 if(Tm.rd 64 r).2.2≠0 then((0,0),(Tm.rd 64 r).2)else(((Tm.rd 64 r).1,(Tm.rd 7 (Tm.rd 64 r).2.1).1+1),(Tm.rd 7 (Tm.rd 64 r).2.1).2)
theorem Nc {w:World} {base n c g sz} {e} {A} {xs} (h:w.ownsRow base e sz (.slice A n c) n xs) {cs} {t} {fr} (hg:w.heap[g]? =some (.cells cs t fr)) (ht:t≠e):some g≠ab A:=by
 rcases h.2 with⟨hv,_⟩|⟨g2,cap,cur,hv,_,hgb,_⟩
 ·injection hv with hv1;rw[hv1];exact fun e=>by cases e
 ·injection hv with hv1
  rw[hv1];intro e;obtain rfl:g=g2:=by simpa[ab]using e
  rw[hg]at hgb;simp only[gV,Dn]at hgb;exact ht hgb.2.1
def vV (w:World) (g:Nat) (a b:Value):World:=(w.setCell ⟨g,0,none⟩ a).setCell ⟨g,1,none⟩ b
theorem kY (w) (g) (a b) {cs} {t} (h:w.heap[g]? =some (.cells cs t (0,0))) (hs:cs.size=2):(vV w g a b).heap[g]? =some (.cells #[a,b] t (0,0)):=by
 unfold vV;rw[Ag _ g 1 _ _ _ (Ag _ g 0 _ _ _ h)];obtain⟨l⟩:=cs
 match l,hs with
 |[x,y],_=>simp
theorem dR (w:World) (g) (a b):w.grownBy (vV w g a b) (some g):=(av w ⟨g,0,none⟩ a).trans (av _ ⟨g,1,none⟩ b)
theorem Jm (p) (r) (w) (h:Br w p r):
  Calls prog 259 #[.pointer (some ⟨p,0,none⟩)] w fun e w'=>e= .returned (.tuple #[.agg #[.int .u64 ((Ru.gtr r).1.1:Int),.int .i64 ((Ru.gtr r).1.2:Int)],.int .i64 (Ru.gtr r).2.2])∧Br w' p (Ru.gtr r).2.1∧w.grownBy w' (some p):=by
 have hp:=h.lt;obtain⟨W0,hW0⟩:∃W0,W0=w.alloc (.cells #[.int .u64 0,.int .i64 0] 378):=⟨_,rfl⟩
 have hg0:W0.heap[w.heap.size]? =some (.cells #[.int .u64 0,.int .i64 0] 378 (0,0)):=by rw[hW0];exact Av w _
 have gr0:w.grownBy W0 (some p):=by rw[hW0];exact Ga _ _ _
 have H0:=Aj (h.grown (row:=none) (show w.grownBy W0 none by rw[hW0];exact Ga _ _ _) (fun g e=>by cases e));have RB:=Aj (dF p 64 r W0 H0.1 om);have hgt:Kept (Ru.gtr r=if(Tm.rd 64 r).2.2≠0 then((0,0),(Tm.rd 64 r).2)else(((Tm.rd 64 r).1,(Tm.rd 7 (Tm.rd 64 r).2.1).1+1),(Tm.rd 7 (Tm.rd 64 r).2.1).2)):=⟨rfl⟩
 obtain⟨G,hG⟩:∃G,G=Ru.gtr r:=⟨_,rfl⟩
 rw[←hG]at hgt⊢;have her:=Tm.qd 64 r;obtain⟨X,hX⟩:∃X,X=Tm.rd 64 r:=⟨_,rfl⟩
 rw[←hX]at RB her hgt;obtain⟨x,r1,e1⟩:=X;simp only[]at RB her hgt;have HW0:=Aj hW0.symm;have HG0:=Aj hg0;have GR0:=Aj gr0;have hwz:Kept (p<w.heap.size):=⟨hp⟩
 clear hX hG h hW0 hg0 gr0;rcases her with rfl|rfl
 ·rw[Ng sm]at hgt;have hr7:=Tm.jr 7 r1;have R7:=Aj (fun(w1:World) (hb:Br w1 p r1)=>dF p 7 r1 w1 hb om);obtain⟨X,hX⟩:∃X,X=Tm.rd 7 r1:=⟨_,rfl⟩
  rw[←hX]at R7 hgt hr7;obtain⟨cn,r2,e2⟩:=X;simp only[]at R7 hgt hr7;have hw1:wrap64 (cn:Int)=(cn:Int):=by unfold wrap64;omega
  clear hX;go_enter func259,ntmps259;go_wp2_with (first
   |(go_at_call 213;refine(R7.1 w1 B1.1).mono ?_;rintro e w2 ⟨rfl,hb2,hg2⟩;have B2:=Aj hb2;have G2:=Aj (G1.1.trans hg2);have C2:=Aj ((hg2.block _ (Ge.1 C1.1).1 (fun e=>by have:=Oj e;have:=hwz.1;omega)).trans C1.1);have f0:=Fr _ _ 0 _ _ C2.1;have f1:=Fr _ _ 1 _ _ C2.1;have k0:=Co _ _ 0 _ _ _ C2.1;have k1:=Co _ _ 1 _ _ _ C2.1;clear hb2 hg2)
   |(go_at_call 213;rw[HW0.1];refine RB.1.mono ?_;rintro e w1 ⟨rfl,hb1,hg1⟩;have B1:=Aj hb1;have G1:=Aj (GR0.1.trans hg1);have C1:=Aj ((hg1.block _ (Ge.1 HG0.1).1 (fun e=>by have:=Oj e;have:=hwz.1;omega)).trans HG0.1);clear hb1 hg1))
  rw[hgt.1];refine AQ (v:= .tuple #[.agg #[.int .u64 (x:Int),.int .i64 ((cn:Int)+1)],.int .i64 e2]) ?_ rfl ⟨rfl,B2.1.grown (dR w2 w.heap.size (.int .u64 (x:Int)) (.int .i64 ((cn:Int)+1))) (fun g e=>by cases e;exact hwz.1),?_⟩
  ·exact cu (fn:=Tryz.f259) (a:=2) (u:=3) (T1:=378) rfl _ _ w.heap.size _ _ _ _ rfl (kY w2 w.heap.size (.int .u64 (x:Int)) (.int .i64 ((cn:Int)+1)) C2.1 rfl) underlying378 rfl kr
  ·exact G2.1.andThen (dR w2 w.heap.size (.int .u64 (x:Int)) (.int .i64 ((cn:Int)+1))) (fun j hj=> .inl (by cases hj;exact Nr _))
 ·rw[Ps0 sm]at hgt;go_enter func259,ntmps259;go_wp2_with (go_at_call 213;rw[HW0.1];refine RB.1.mono ?_;rintro e w1 ⟨rfl,hb1,hg1⟩;have B1:=Aj hb1;have G1:=Aj (GR0.1.trans hg1);have C1:=Aj ((hg1.block _ (Ge.1 HG0.1).1 (fun e=>by have:=Oj e;have:=hwz.1;omega)).trans HG0.1);have f0:=Fr _ _ 0 _ _ C1.1;have f1:=Fr _ _ 1 _ _ C1.1;have k0:=Co _ _ 0 _ _ _ C1.1;have k1:=Co _ _ 1 _ _ _ C1.1;clear hb1 hg1);rw[hgt.1];refine AQ (v:= .tuple #[.agg #[.int .u64 0,.int .i64 0],.int .i64 3]) ?_ rfl ⟨rfl,B1.1.grown (dR w1 w.heap.size (.int .u64 0) (.int .i64 0)) (fun g e=>by cases e;exact hwz.1),?_⟩
  ·exact cu (fn:=Tryz.f259) (a:=2) (u:=3) (T1:=378) rfl _ _ w.heap.size _ _ _ _ rfl (kY w1 w.heap.size (.int .u64 0) (.int .i64 0) C1.1 rfl) underlying378 rfl kr
  ·exact G1.1.andThen (dR w1 w.heap.size (.int .u64 0) (.int .i64 0)) (fun j hj=> .inl (by cases hj;exact Nr _))
theorem Nf (A) (n c B) (rs) (w) (hr:qg w B A n c rs) (hB:B≤w.heap.size) (hc:∀q∈rs,q.2≤128) (ht:Ru.tot rs≤1000000):
  Calls prog 260 #[.slice A n c] w fun e w'=>∃A2 n2 c2,e= .returned (.slice A2 n2 c2)∧aG w' w.heap.size A2 n2 c2 (Ru.join rs)∧Below w.heap.size w w':=by
 have hln:=Aj hr.len;have hlc:=hr.1;have hcm:=hr.2.1;unfold maxLen at hcm;have R0:=Aj hr;have HC:=Aj hc;clear hr hc;go_enter func260,ntmps260;go_wp2;go_loopw [3,8] (fun v i wr=>∃(k:Nat) (A2:Option Addr) (n2 c2:Nat),k≤n∧i= .int .i64 k∧v= .slice A2 n2 c2∧aG wr w.heap.size A2 n2 c2 (Ru.join (rs.take k))∧Below w.heap.size w wr) (fun _ i _=>n-(intOf i).toNat)
 case atStart=>exact⟨0,none,0,0,om,rfl,rfl,⟨rfl,.inl ⟨rfl,rfl⟩⟩,Ae _ _⟩
 case round=>
  obtain⟨k,A2,n2,c2,hk,rfl,rfl,ho,hb⟩:=hrel;by_cases hlt:k<n
  ·have hlt':(k:Int)< (n:Int):=by omega
   have hkl:k<rs.length:=by have:=hln.1;omega
   have hrr:=(R0.1.below (hb.mono hB))
   obtain⟨b,off,rfl,lX,hc0,hc1⟩:=hrr.at_ hkl;have hcn:=HC.1 _ (ic hkl);obtain⟨q,hq⟩:∃q,q=rs[k]:=⟨_,rfl⟩
   rw[←hq]at hc0 hc1 hcn;obtain⟨x,cn⟩:=q;simp only[]at hc0 hc1 hcn;rw[←gM]at hc1;have hcn':¬(128:Int)< (cn:Int):=om;have hz:=hb.size;have HO:=Aj ho;have HB:=Aj hb;have HQ:=Aj hq;clear ho hb hrr hq;go_wp2;have hnew:=Av wr (.cells #[.int .u64 (x:Int),.int .i64 (cn:Int)] 378);have hO1:aG (wr.alloc (.cells #[.int .u64 (x:Int),.int .i64 (cn:Int)] 378)) w.heap.size A2 n2 c2 (Ru.join (rs.take k)):=Oa HO.1 _;have hB1:=HB.1.alloc hz (.cells #[.int .u64 (x:Int),.int .i64 (cn:Int)] 378);have hjl:Kept ((Ru.join (rs.take k)).length+cn≤1000000):=⟨by
    have e:=congrArg Ru.tot (jC k rs);rw[oN hkl,←HQ.1]at e;simp only[Ru.tot,dY,CY,AA,Bj]at e ht;rw[Ru.nT];unfold Ru.tot;omega⟩
   generalize wr.alloc (.cells #[.int .u64 (x:Int),.int .i64 (cn:Int)] 378)=W1 at*;generalize wr.heap.size=g at*;clear hc0 hc1;go_loopw [3,17] (fun v i wi=>∃(j:Nat) (A3:Option Addr) (n3 c3:Nat),j≤cn∧i= .int .i64 j∧v= .slice A3 n3 c3∧aG wi w.heap.size A3 n3 c3 (Ru.join (rs.take k)++List.replicate j x)∧Below w.heap.size w wi∧
    Kept (wi.heap[g]? =some (.cells #[.int .u64 (x:Int),.int .i64 (cn:Int)] 378 (0,0)))) (fun _ i _=>cn-(intOf i).toNat)
   case atStart=>exact⟨0,A2,n2,c2,om,rfl,rfl,by simpa using hO1,hB1,⟨hnew⟩⟩
   case round=>
    obtain⟨j,A3,n3,c3,hj,rfl,rfl,ho3,hb3,hc3⟩:=hrel;by_cases hjc:j<cn
    ·have aj1:(j:Int)< (cn:Int):=by omega
     have k0:=Co _ _ 0 _ _ _ hc3.1;have hl3:=ho3.len;have mo:n3≤1000000:=by rw[hl3,La,DI];have:=hjl.1;omega
     have O3:=Aj ho3;have B3:=Aj hb3;have hz3:=hb3.size;clear ho3 hb3 hl3;have hal:=Ga wr (.cells #[.int .u64 (x:Int)] 125) none;have hzb:w.heap.size≤(wr.alloc (.cells #[.int .u64 (x:Int)] 125)).heap.size:=by simp;omega
     have hc4:=Aj ((hal.block g (Ge.1 hc3.1).1 (fun e=>by cases e)).trans hc3.1);go_wp2_with (at_builtin;refine dC rfl (.tmp 19) (.tmp 22) rfl w.heap.size A3 n3 c3 _ rfl (Oa O3.1 _) _ _ _ _ _ rfl (kg.one wr x) om hzb ?_;intro A4 c4 w5 ax aj di;have O4:=Aj ax;have G4:=Aj aj;clear ax aj);go_roundw
     case rel=>
      refine⟨j+1,A4,n3+1,c4,om,by go_num,rfl,?_,((B3.1.alloc hz3 _).grown G4.1 hzb (fun r e=>(ae O3.1 r e).1)),⟨(G4.1.block g (Ge.1 hc4.1).1 (Nc (Oa O3.1 _) hc4.1 Ah)).trans hc4.1⟩⟩;have:=O4.1;rw[Af,show List.replicate j x++[x]=List.replicate (j+1) x by rw[List.replicate_succ']]at this;exact this
     case measure=>simp[intOf];omega
    ·obtain rfl:j=cn:=by omega
     have O3:=Aj ho3;have B3:=Aj hb3;clear ho3 hb3;go_wp2;go_roundw
     case rel=>
      refine⟨k+1,A3,n3,c3,om,by go_num,rfl,?_,B3.1⟩;have e:Ru.join (rs.take (k+1))=Ru.join (rs.take k)++List.replicate j x:=by
       rw[Ts hkl,←HQ.1];simp[Ru.join]
      rw[e];exact O3.1
     case measure=>simp[intOf];omega
  ·obtain rfl:k=n:=by omega
   have e:rs.take k=rs:=jY (by have:=hln.1;omega);rw[e]at ho;have HO:=Aj ho;have HB:=Aj hb;clear ho hb;go_wp2;go_ret;exact⟨A2,n2,c2,rfl,HO.1,HB.1⟩
theorem Jn {w} {ops} {o} {a} {K} {Q} {E} (hgd:o.guard=none) (s x)
  (ho:o.op= .call {callee:= .builtin .append,args:= #[s,x],argTypes:= #[379,379]})
  (base) (A) (n c) (l) (hs:a.eval s= .slice A n c) (hown:ow w base A n c l)
  (B) (S) (m d) (k) (hx:a.eval x= .slice S m d) (hr:qg w B S m d k)
  (hlen:n+m≤4398046511104) (hbase:base≤w.heap.size)
  (h:∀A2 c2 w',ow w' base A2 (n+m) c2 (l++k)→w.grownBy w' (ab A)→(ab A2=ab A∨ab A2=some w.heap.size)→K (a.put o.dst (.slice A2 (n+m) c2)) w'):
  if Region.wanted o (yielded ops a.tmps)=true then Oper.wp prog o a w K Q else E:=by
 have hw:Region.wanted o (yielded ops a.tmps)=true:=by simp[Region.wanted,hgd]
 rw[Ps0 hw];obtain⟨i0,hi0,hz0,hz1,hz2⟩:=AX YG;refine mh w s x _ ho base 378 i0 (.agg #[.int .u64 0,.int .i64 0]) 2 16 underlying379 hi0 hz0 hz1 hz2 rfl Ah A n c (KT l) hs hown B S m d (KT k) hx hr (Vg k) (by unfold maxLen;omega) om hbase ?_;rw[←Jl];exact h
theorem Ru.Vh (f) (last) (acc) (r):Ru.gr f 0 last acc r=(acc,r,0):=by cases f<;>simp[Ru.gr]
theorem Ru.Vj {f m} (hm:0<m) (hf:m≤f) (last) (acc) (r):
  Ru.gr f m last acc r=if(Ru.gtr r).2.2≠0 then([],(Ru.gtr r).2)else if m< (Ru.gtr r).1.2∨last=some (Ru.gtr r).1.1 then([],(Ru.gtr r).2.1,8)else Ru.gr (f-1) (m-(Ru.gtr r).1.2) (some (Ru.gtr r).1.1) (acc++[(Ru.gtr r).1]) (Ru.gtr r).2.1:=by
 obtain⟨f,rfl⟩:∃g,f=g+1:=⟨f-1,om⟩
 rw[Ru.gr,Ng om];unfold Ru.gtr;by_cases h:(Tm.rd 64 r).2.2≠0
 ·rw[Ps0 h,Ps0 h,Ps0 h]
 ·rw[Ng h,Ng h];simp only[Bn]
structure KV (w:World) (p n gl:Nat) (Q:List Vf×List Bool×Int) (m:Nat) (A2:Option Addr) (n2 c2:Nat) (W:World) (f:Nat) (last:Option Nat) (acc:List Vf) (r2:List Bool) (lv lc:Nat):Prop where
 fuel:m≤f
 tot:Ru.tot acc+m=n
 all:∀q∈acc,1≤q.2∧q.2≤128
 gr:Ru.gr f m last acc r2=Q
 own:ow W w.heap.size A2 n2 c2 acc
 br:Br W p r2
 grown:w.grownBy W (some p)
 row:W.heap[gl]? =some (.cells #[.int .u64 (lv:Int),.int .i64 (lc:Int)] 378 (0,0))
 jJ:(last=none∧lc=128)∨(last=some lv∧lc<128)
 apart:ab A2≠some gl
theorem Ru.KX:∀{acc:List Vf},(∀q∈acc,1≤q.2∧q.2≤128)→acc.length≤Ru.tot acc
 |[],_=>sm
 |q::acc,h=>by
  have h1:=Ru.KX (acc:=acc) (fun q hq=>h q (nS _ hq));have h2:=(h q jM).1;unfold Ru.tot at*;simp only[Lc,AA,Bj];omega
theorem Nh {w wr w2} {p n m n2 c2 f lv lc x cn} {A2} {Q} {last} {acc} {r2 r3}
  (I:KV w p n w.heap.size Q m A2 n2 c2 wr f last acc r2 lv lc) (hst:Q=Ru.gr (f-1) (m-cn) (some x) (acc++[(x,cn)]) r3) (h1:1≤cn) (h2:cn≤128) (hcm:cn≤m) (hp:p<w.heap.size)
  (hb2:Br w2 p r3) (hg2:wr.grownBy w2 (some p)) (hr2:(w2.alloc (.cells #[.int .u64 (x:Int),.int .i64 (cn:Int)] 378)).heap[w.heap.size]? =some (.cells #[.int .u64 (lv:Int),.int .i64 (lc:Int)] 378 (0,0))):
  ∀(o) (A4) (c4) (w5),ow w5 w.heap.size A4 (n2+1) c4 (acc++[(x,cn)])→((w2.alloc (.cells #[.int .u64 (x:Int),.int .i64 (cn:Int)] 378)).alloc o).grownBy w5 (ab A2)→
   (ab A4=ab A2∨ab A4=some (w2.heap.size+1+1))→cn<128→KV w p n w.heap.size Q (m-cn) A4 (n2+1) c4 (vV w5 w.heap.size (.int .u64 (x:Int)) (.int .i64 (cn:Int))) (f-1) (some x) (acc++[(x,cn)]) r3 x cn:=by
 intro o A4 c4 w5 hown hgr hat hlt;have hz:=I.grown.size;have hz2:=hg2.size;have hgl:=(Ge.1 I.row).1;have ha2:∀g,ab A2=some g→w.heap.size<g∧g<wr.heap.size:=fun g e=>by
  have h:=ae I.own g e;have h3:g≠w.heap.size:=fun e2=>I.apart (by rw[e,e2])
  omega
 have ga:w2.grownBy ((w2.alloc (.cells #[.int .u64 (x:Int),.int .i64 (cn:Int)] 378)).alloc o) none:=(Ga w2 (.cells #[.int .u64 (x:Int),.int .i64 (cn:Int)] 378) none).trans (Ga _ o none);have hap:ab A4≠some w.heap.size:=fun e=>by
  rcases hat with h|h
  ·exact I.apart (h.symm.trans e)
  ·have:=Oj (h.symm.trans e);omega
 have gp:=dR w5 w.heap.size (.int .u64 (x:Int)) (.int .i64 (cn:Int));have SH:=(hgr.block w.heap.size (by simp;omega) (fun e=>(I.apart e.symm))).trans ((Aw (w2.alloc (.cells #[.int .u64 (x:Int),.int .i64 (cn:Int)] 378)) o _ (by simp;omega)).trans hr2);refine⟨by have:=I.fuel;omega,?_,?_,hst.symm,af hown gp (.inr hap),?_,?_,kY w5 w.heap.size _ _ SH rfl,.inr ⟨rfl,hlt⟩,hap⟩
 ·have:=I.tot;unfold Ru.tot at*;simp only[dY,CY,AA,List.map_nil,Bj,List.sum_nil];omega
 ·intro q hq;rcases jl.1 hq with h|h
  ·exact I.all q h
  ·rw[iF.1 h];exact⟨h1,h2⟩
 ·exact((hb2.grown ga (fun g e=>by cases e)).grown hgr (fun g e=>by have:=(ha2 g e).1;omega)).grown gp (fun g e=>by cases e;exact hp)
 ·have h1:w.grownBy w2 (some p):=I.grown.trans hg2;have h2:w.grownBy ((w2.alloc (.cells #[.int .u64 (x:Int),.int .i64 (cn:Int)] 378)).alloc o) (some p):=h1.andThen ga (fun j hj=>by cases hj);exact(h2.andThen hgr (fun j hj=> .inl (by have:=(ha2 j hj).1;omega))).andThen gp (fun j hj=> .inl (by cases hj;exact Nr _))
theorem Rj (p n:Nat) (r) (w) (h:Br w p r) (hn:n≤127):
  Calls prog 220 #[.pointer (some ⟨p,0,none⟩),.int .i64 (n:Int)] w fun e w'=>∃A2 n2 c2,e= .returned (.tuple #[.slice A2 n2 c2,.int .i64 (Ru.dec n r).2.2])∧aG w' w.heap.size A2 n2 c2 (Ru.dec n r).1∧Br w' p (Ru.dec n r).2.1∧w.grownBy w' (some p):=by
 have lY:=h.lt;obtain⟨W0,hW0⟩:∃W0,W0=w.alloc (.cells #[.int .u64 0,.int .i64 128] 378):=⟨_,rfl⟩
 have gn0:w.grownBy W0 none:=by rw[hW0];exact Ga _ _ _
 have gp0:w.grownBy W0 (some p):=by rw[hW0];exact Ga _ _ _
 obtain⟨Q,hQ⟩:∃Q,Ru.gr n n none [] r=Q:=⟨_,rfl⟩
 have hD:Ru.dec n r=(Ru.join Q.1,Q.2):=by unfold Ru.dec;rw[hQ]
 have I0:KV w p n w.heap.size Q n none 0 0 W0 n none [] r 0 128:=
  ⟨Nr _,by simp[Ru.tot],sm,hQ,⟨rfl,.inl ⟨rfl,rfl⟩⟩,h.grown gn0 (fun g e=>by cases e),gp0,by rw[hW0];exact Av w _,.inl ⟨rfl,rfl⟩,by simp[ab]⟩
 rw[hD];have HW0:=Aj hW0.symm;have hn0:¬(n:Int)<0:=om;have hwz:Kept (p<w.heap.size):=⟨lY⟩
 clear h hW0 gn0 gp0 hQ hD;go_enter func220,ntmps220;go_wp2;rw[HW0.1];go_loopw [1,6] (fun mv v wr=>∃(m:Nat) (A2:Option Addr) (n2 c2 f:Nat) (last:Option Nat) (acc:List Vf) (r2:List Bool) (lv lc:Nat),mv= .int .i64 m∧v= .slice A2 n2 c2∧m≤n∧KV w p n w.heap.size Q m A2 n2 c2 wr f last acc r2 lv lc) (fun mv _ _=>(intOf mv).toNat)
 case atStart=>exact⟨n,none,0,0,n,none,[],r,0,128,rfl,rfl,Nr _,I0⟩
 case round=>
  clear I0 HW0;obtain⟨m,A2,n2,c2,f,last,acc,r2,lv,lc,rfl,rfl,hmn,I⟩:=hrel;have HI:=Aj I;clear I;by_cases hm0:m=0
  ·subst hm0;have hq:Kept (Q=(acc,r2,0)):=⟨by rw[←HI.1.gr,Ru.Vh]⟩
   have J:=Aj (Nf A2 n2 c2 _ acc wr HI.1.own.rd Ai (fun q hq=>(HI.1.all q hq).2) (by have:=HI.1.tot;omega));go_wp2_with (go_at_call 260;refine J.1.mono ?_;rintro e w1 ⟨A3,n3,c3,rfl,ho,hb⟩;have O1:=Aj ho;have B1:=Aj hb;clear ho hb);go_ret2;rw[hq.1];exact⟨A3,n3,c3,rfl,Jf O1.1 HI.1.grown.size,HI.1.br.below B1.1 HI.1.br.lt,HI.1.grown.andThen (row':=none) ⟨B1.1.os,B1.1.tape,B1.1.output,B1.1.size,fun k hk _=>B1.1.block k hk⟩ (fun j hj=>by cases hj)⟩
  ·have hm':(0:Int)< (m:Int):=by omega
   have GR:=Aj (Jm p r2 wr HI.1.br);have hst:=Aj (Ru.Vj om HI.1.fuel last acc r2);rw[HI.1.gr]at hst;have Vk:(Ru.gtr r2).2.2=0→1≤(Ru.gtr r2).1.2∧(Ru.gtr r2).1.2≤128:=fun h=>by
    unfold Ru.gtr at h⊢;have h7:=Tm.jr 7 (Tm.rd 64 r2).2.1;by_cases h0:(Tm.rd 64 r2).2.2≠0
    ·rw[Ps0 h0]at h;exact absurd h h0
    ·rw[Ng h0];simp only[];omega
   obtain⟨X,hX⟩:∃X,X=Ru.gtr r2:=⟨_,rfl⟩
   rw[←hX]at GR hst Vk;clear hX;obtain⟨⟨x,cn⟩,r3,e1⟩:=X;simp only[]at GR hst Vk;by_cases he:e1=0
   ·subst he;rw[Ng sm]at hst;obtain⟨hc1,hc2⟩:=Vk rfl;by_cases hbad:m<cn∨last=some x
    ·rw[Ps0 hbad]at hst;have hcs:(m:Int)< (cn:Int)∨(¬(m:Int)< (cn:Int)∧((x:Int)==(lv:Int))=true∧(lc:Int)<128):=by
      rcases hbad with h|h
      ·exact .inl om
      ·by_cases h1:(m:Int)< (cn:Int)
       ·exact .inl h1
       ·rcases HI.1.jJ with⟨h2,_⟩|⟨h2,h3⟩
        ·rw[h2]at h;cases h
        ·rw[h2]at h;exact .inr ⟨h1,by simp;rw[Oj h],om⟩
     clear hbad;rcases hcs with hcs|⟨hcs1,hcs2,aj2⟩
     all_goals
      go_wp2_with (go_at_call 259;refine GR.1.mono ?_;rintro e w2 ⟨rfl,hb2,hg2⟩;have B2:=Aj hb2;have G2:=Aj (HI.1.grown.trans hg2);have hrow:=(hg2.block _ (Ge.1 HI.1.row).1 (fun e=>by have:=Oj e;have:=hwz.1;omega)).trans HI.1.row;have ga:=Ga w2 (.cells #[.int .u64 (x:Int),.int .i64 (cn:Int)] 378) none;have hrow2:=(ga.block _ (Ge.1 hrow).1 (fun e=>by cases e)).trans hrow;have k0:=Co _ _ 0 _ _ _ hrow2;have k1:=Co _ _ 1 _ _ _ hrow2;have BA:=Aj (B2.1.grown ga (fun g e=>by cases e));have GA:=Aj (G2.1.trans (Ga w2 (.cells #[.int .u64 (x:Int),.int .i64 (cn:Int)] 378) _));clear hb2 hg2 hrow ga hrow2);go_ret2;rw[hst.1];exact⟨none,0,0,rfl,⟨rfl,.inl ⟨rfl,rfl⟩⟩,BA.1,GA.1⟩
    ·rw[Ng hbad]at hst;have hcm:cn≤m:=om;have hcs:((x:Int)==(lv:Int))=false∨(((x:Int)==(lv:Int))=true∧lc=128):=by
      by_cases h:x=lv
      ·rcases HI.1.jJ with⟨_,h2⟩|⟨h2,_⟩
       ·exact .inr ⟨by simp[h],h2⟩
       ·exact absurd (.inr (by rw[h2,h])) hbad
      ·exact .inl (by simp;omega)
     have hcm1:¬(m:Int)< (cn:Int):=om;clear hbad;rcases hcs with hcs|⟨hcs1,hcs2⟩
     all_goals
      go_upto_region 13 with(go_at_call 259;refine GR.1.mono ?_;rintro e w2 ⟨rfl,hb2,hg2⟩;have B2:=Aj hb2;have G2:=Aj hg2;have hrow:=(hg2.block _ (Ge.1 HI.1.row).1 (fun e=>by have:=Oj e;have:=hwz.1;omega)).trans HI.1.row;have ga:=Ga w2 (.cells #[.int .u64 (x:Int),.int .i64 (cn:Int)] 378) none;have hrow2:=(ga.block _ (Ge.1 hrow).1 (fun e=>by cases e)).trans hrow;have k0:=Co _ _ 0 _ _ _ hrow2;have k1:=Co _ _ 1 _ _ _ hrow2;have HR2:=Aj hrow2;clear hb2 hg2 hrow ga hrow2)
      obtain⟨gx,hgx⟩:∃gx,gx=w2.heap.size:=⟨_,rfl⟩
      have T:=Aj (Nh HI.1 hst.1 hc1 hc2 hcm lY B2.1 G2.1 HR2.1);rw[←hgx]at T;have hn0:=Av w2 (.cells #[.int .u64 (x:Int),.int .i64 (cn:Int)] 378);rw[←hgx]at hn0⊢;have hzx:w.heap.size<gx:=by rw[hgx];have h1:=HI.1.grown.size;have h2:=G2.1.size;have h3:=(Ge.1 HI.1.row).1;omega
      have hlA:∀g,ab A2=some g→g<gx∧g≠w.heap.size:=fun g e=>⟨by rw[hgx];have h1:=(ae HI.1.own g e).2;have h2:=G2.1.size;omega,fun e2=>HI.1.apart (by rw[e,e2])⟩
      have hO3:=Aj (show ow (w2.alloc (.cells #[.int .u64 (x:Int),.int .i64 (cn:Int)] 378)) w.heap.size A2 n2 c2 acc from Oa (kX HI.1.own G2.1 lY) _);have hz3:(w2.alloc (.cells #[.int .u64 (x:Int),.int .i64 (cn:Int)] 378)).heap.size=gx+1:=by rw[hgx];simp
      have hn2:n2≤127:=by
       have h1:=HI.1.own.len;have h2:=Ru.KX HI.1.all;have h3:=HI.1.tot;omega
      have hst':=hst;clear hgx k0 k1 hst;generalize w2.alloc (.cells #[.int .u64 (x:Int),.int .i64 (cn:Int)] 378)=W3 at*;have hz5:Kept (∀o,(W3.alloc o).heap.size=gx+1+1):=⟨fun o=>by simp;omega⟩
      have hcn:Kept (cn<128):=⟨om⟩
      have d0:W3.cell? ⟨gx,0,none⟩=some (.int .u64 (x:Int)):=Co _ _ 0 _ _ _ hn0;have d1:W3.cell? ⟨gx,1,none⟩=some (.int .i64 (cn:Int)):=Co _ _ 1 _ _ _ hn0;have e0:∀o,(W3.alloc o).cell? ⟨gx,0,none⟩=some (.int .u64 (x:Int)):=fun o=>(AJ _ _ ⟨gx,0,none⟩ (by show gx<_;omega)).trans d0
      have e1:∀o,(W3.alloc o).cell? ⟨gx,1,none⟩=some (.int .i64 (cn:Int)):=fun o=>(AJ _ _ ⟨gx,1,none⟩ (by show gx<_;omega)).trans d1
      have f0:=Fr _ _ 0 _ _ HR2.1;have f1:=Fr _ _ 1 _ _ HR2.1;have k0:W3.cell? ⟨w.heap.size,0,none⟩=some (.int .u64 (lv:Int)):=Co _ _ 0 _ _ _ HR2.1;have k1:W3.cell? ⟨w.heap.size,1,none⟩=some (.int .i64 (lc:Int)):=Co _ _ 1 _ _ _ HR2.1;go_region_held3 (fun w'=>w'.cell? ⟨gx,0,none⟩=some (.int .u64 (x:Int))∧w'.cell? ⟨gx,1,none⟩=some (.int .i64 (cn:Int))) (first|exact⟨d0,d1⟩|exact⟨e0 _,e1 _⟩|exact k9|exact k10 _ _)
       ((refine Jn ?g1 (.tmp 43) (.tmp 45) ?g2 w.heap.size A2 n2 c2 acc ?g3 ?g4 (gx+1+1) (some ⟨gx+1,0,none⟩) 1 1 [(x,cn)] ?g5 ?g6 ?g7 ?g8 ?_;(case g1=>rfl);(case g2=>rfl);(case g3=>rfl);(case g5=>(rw[←hz3];rfl));(case g4=>exact Oa hO3.1 _);(case g6=>(rw[←hz3];exact qg.lit W3 [(x,cn)] (0,0) sm));(case g7=>omega);(case g8=>(simp;omega));intro A4 c4 w5 hown hgrow hat;have vQ:(W3.alloc (.cells #[.int .u64 (x:Int),.int .i64 (cn:Int)] 378)).grownBy w5 (ab A2):=⟨hgrow.os,hgrow.tape,hgrow.output,hgrow.size,hgrow.block⟩;have hx5:w5.heap[gx]? =(W3.alloc (.cells #[.int .u64 (x:Int),.int .i64 (cn:Int)] 378)).heap[gx]?:=vQ.block gx (by simp;omega) (fun e=>absurd (hlA gx e.symm).1 (DU _));have k9:w5.cell? ⟨gx,0,none⟩=some (.int .u64 (x:Int))∧w5.cell? ⟨gx,1,none⟩=some (.int .i64 (cn:Int)):=⟨(AL (a:=⟨gx,0,none⟩) hx5).trans (e0 _),(AL (a:=⟨gx,1,none⟩) hx5).trans (e1 _)⟩;have k10:∀a b:Value,((w5.setCell ⟨w.heap.size,0,none⟩ a).setCell ⟨w.heap.size,1,none⟩ b).cell? ⟨gx,0,none⟩=some (.int .u64 (x:Int))∧((w5.setCell ⟨w.heap.size,0,none⟩ a).setCell ⟨w.heap.size,1,none⟩ b).cell? ⟨gx,1,none⟩=some (.int .i64 (cn:Int)):=fun a b=>⟨(AL (a:=⟨gx,0,none⟩) ((dR w5 w.heap.size a b).block gx (AR w5 ⟨gx,0,none⟩ k9.1) (fun e=>by have:=Oj e;omega))).trans k9.1,(AL (a:=⟨gx,1,none⟩) ((dR w5 w.heap.size a b).block gx (AR w5 ⟨gx,0,none⟩ k9.1) (fun e=>by have:=Oj e;omega))).trans k9.2⟩;have SH:=(vQ.block w.heap.size (by simp;omega) (fun e=>(hlA _ e.symm).2 rfl)).trans ((Aw W3 _ _ om).trans HR2.1);have g0:=Fr _ _ 0 _ _ SH;have g1:=Fr _ _ 1 _ _ SH;have q0:w5.cell? ⟨w.heap.size,0,none⟩=some (.int .u64 (lv:Int)):=Co _ _ 0 _ _ _ SH;have q1:w5.cell? ⟨w.heap.size,1,none⟩=some (.int .i64 (lc:Int)):=Co _ _ 1 _ _ _ SH;have T5:=Aj (T.1 _ A4 c4 w5 hown vQ (by rcases hat with h|h<;>rw[h]<;>simp[hz3]) hcn.1);have X5:=Aj hx5;have XG:=Aj vQ;clear hown hgrow vQ hx5 SH hat))
      obtain⟨kx,kc⟩:=k10 (.int .u64 (x:Int)) (.int .i64 (cn:Int));go_wp2;go_roundw
      case rel=>exact⟨m-cn,A4,n2+1,c4,f-1,some x,acc++[(x,cn)],r3,x,cn,congrArg (Value.int .i64) (show(m:Int)-(cn:Int)=((m-cn:Nat):Int)from om),rfl,om,T5.1⟩
      case measure=>simp[intOf];omega
   ·rw[Ps0 he]at hst;have hne:(e1 !=0)=true:=by simpa using he
    clear he Vk;go_wp2_with (go_at_call 259;refine GR.1.mono ?_;rintro e w2 ⟨rfl,hb2,hg2⟩;have B2:=Aj hb2;have G2:=Aj (HI.1.grown.trans hg2);have ga:=Ga w2 (.cells #[.int .u64 (x:Int),.int .i64 (cn:Int)] 378) none;have BA:=Aj (B2.1.grown ga (fun g e=>by cases e));have GA:=Aj (G2.1.trans (Ga w2 (.cells #[.int .u64 (x:Int),.int .i64 (cn:Int)] 378) _));clear hb2 hg2 ga);go_ret2;rw[hst.1];exact⟨none,0,0,rfl,⟨rfl,.inl ⟨rfl,rfl⟩⟩,BA.1,GA.1⟩
def vW (w:World):Prop:=TabAt 2 Lib.deBruijn64tab w
theorem Vl (x:Nat) (hx:x<18446744073709551616) (w):
  Calls prog 238 #[.int .u64 (x:Int)] w fun e w'=>e= .returned (.int .i64 ((Di.bl x:Nat):Int))∧w'=w:=by
 have h:=Any.bits_Len64 (P:=prog) (ρ:=Tryz.sortS_ren) {Tryz.sortS with} (x:Int) w om om;rw[lS,bitLen_eq _ hx]at h;exact h
theorem abA (x:Nat) (hx:x<18446744073709551616) (w):
  Calls prog 294 #[.int .u64 (x:Int)] w fun e w'=>e= .returned (.int .i64 ((Xo.lz x:Nat):Int))∧w'=w:=by
 have L:=Aj (Vl x hx w);have hb:Di.bl x≤64:=Xo.PO (n:=64) om;have he:Kept (((Xo.lz x:Nat):Int)=64-((Di.bl x:Nat):Int)):=⟨by unfold Xo.lz;omega⟩
 rw[he.1];generalize Di.bl x=q at*;go_enter func294,ntmps294;go_wp2_with (go_at_call 238;refine L.1.mono ?_;rintro e w1 ⟨rfl,rfl⟩);go_ret;exact⟨rfl,rfl⟩
theorem FM:∀(f x),Lib.ctzFrom f x=Xo.tz f x
 |0,_=>rfl
 |f+1,x=>by rw[Lib.ctzFrom,Xo.tz,FM f]
theorem KY:∀f:Nat,Xo.tz f 0=f
 |0=>rfl
 |f+1=>by rw[Xo.tz,Ng Ah,Nat.zero_div,KY f];omega
theorem YH (f x):Lib.ctz f x=Xo.tz f x:=by
 unfold Lib.ctz;by_cases h:x=0
 ·subst h;rw[Ps0 rfl,KY]
 ·rw[Ng h,FM]
theorem Rk (x k idx:Nat) (w) (hx0:((x:Int)==0)=false)
  (key:IntKind.u64.wrap (bits BinOp.and IntKind.u64 (x:Int) (IntKind.u64.wrap (-(x:Int)))*285870213051353865)/288230376151711744=(idx:Int))
  (hi:idx<64) (hk:k<64) (hcell:w.cell? ⟨2,idx,none⟩=some (.int .u8 k)):
  Calls prog 295 #[.int .u64 (x:Int)] w fun e w'=>e= .returned (.int .i64 k)∧w'=w:=by
 go_enter func295,ntmps295;go_wp2_with (simp only[key]);go_ret;exact⟨rfl,rfl⟩
theorem Vm (w):Calls prog 295 #[.int .u64 0] w fun e w'=>e= .returned (.int .i64 64)∧w'=w:=by
 go_enter func295,ntmps295;go_wp2;go_ret;exact⟨rfl,rfl⟩
theorem abB (x:Nat) (hx:x<18446744073709551616) (w) (hT:vW w):
  Calls prog 295 #[.int .u64 (x:Int)] w fun e w'=>e= .returned (.int .i64 ((Xo.tz 64 x:Nat):Int))∧w'=w:=by
 rw[←YH];by_cases h0:x=0
 ·subst h0;exact Vm w
 ·obtain⟨hlow,hk⟩:=Lib.lowest_bit 64 x h0 hx;obtain⟨hi,htab⟩:=Lib.deBruijn64_at _ hk;have hcell:=hT _ hi;rw[htab]at hcell;exact Rk x _ _ w (by simp;omega) (tz64_key x _ hx h0 hlow) hi hk hcell
def wv (c:Nat×Nat):Value:= .agg #[.int .i64 (c.1:Int),.int .i64 (c.2:Int)]
theorem aP {P:Program} {fn:Func} {a:Tmp} {T1:TypeId} (h:fn.results= #[.cell a T1]) (tmps:Array Value) (w:World) (g1:Nat) (cs1:Array Value) (t1:TypeId) (f1:Nat×Nat) (d1:TypeDesc)
  (ha:tmps.getD a undef= .pointer (some ⟨g1,0,none⟩)) (hg1:w.heap[g1]? =some (.cells cs1 t1 f1))
  (hu1:P.underlying T1=some d1) (hd1:(match d1 with| .struct _| .array _ _=>true|_=>false)=true) (hi1:(P.info? T1).map (·.size)=some cs1.size):
  (results fn tmps).run P w= .ok (.agg cs1) w:=by
 have ha':tmps[a]?.getD undef= .pointer (some ⟨g1,0,none⟩):=by simpa using ha
 simp[results,h,ha',asAddr,run_loadVar_row w g1 t1 T1 cs1 f1 d1 hg1 hu1 hd1 hi1]
theorem Gr.Rl (w) (t) (x y a b):Gr w (vV (w.alloc (.cells #[x,y] t)) w.heap.size a b):=by
 refine⟨0,#[.cells #[a,b] t],?_⟩;have e:∀(p q:Value) (k:Nat) (v:Value),(w.alloc (.cells #[p,q] t)).setCell ⟨w.heap.size,k,none⟩ v=w.alloc (.cells (#[p,q].setIfInBounds k v) t):=fun p q k v=>by
  unfold World.setCell World.alloc
  congr 1
  apply Array.ext_getElem?;intro j;simp only[Dj,Array.getElem?_push];by_cases hj:w.heap.size=j
  ·subst hj;simp
  ·simp[hj,show¬j=w.heap.size from om]
 unfold vV;rw[e x y 0 a];have h0:(#[x,y].setIfInBounds 0 a)= #[a,y]:=sm;rw[h0,e a y 1 b];have h1:(#[a,y].setIfInBounds 1 b)= #[a,b]:=sm;rw[h1,←Sort.alloc_eq_grow]
 rfl
theorem jU (x:Nat) (hx:x<18446744073709551616) (h0:x≠0) (w) (hT:vW w) (hg:2<w.heap.size):
  Calls prog 279 #[.int .u64 (x:Int)] w fun e w'=>e= .returned (wv (Xo.win x))∧Gr w w':=by
 obtain⟨W0,hW0⟩:∃W0,W0=w.alloc (.cells #[.int .i64 0,.int .i64 0] 368):=⟨_,rfl⟩
 have hT0:vW W0:=fun j hj=>by rw[hW0];exact(AJ _ _ ⟨_,j,none⟩ hg).trans (hT j hj)
 have hr0:W0.heap[w.heap.size]? =some (.cells #[.int .i64 0,.int .i64 0] 368 (0,0)):=by rw[hW0];exact Av w _
 have C1:=Aj (abA x hx W0);have C2:=Aj (abB x hx W0 hT0);obtain⟨w1,w2,w3,w4,-⟩:=Xo.kQ (x:=x) hx h0;have ht:=Xo.PN 64 x;have hwn:Xo.win x=(Xo.lz x,64-Xo.lz x-Xo.tz 64 x):=rfl;have hwd:(64:Int)-((Xo.lz x:Nat):Int)-((Xo.tz 64 x:Nat):Int)=(((Xo.win x).2:Nat):Int):=by
  rw[hwn]at w1 w2 w3⊢;simp only[]at w1 w2 w3⊢;omega
 have hl:Xo.lz x=(Xo.win x).1:=rfl;rw[hl]at C1 hwd;generalize Xo.win x=c at*;obtain⟨a,b⟩:=c;simp only[]at*;generalize Xo.tz 64 x=t at*;have hGR:=Aj (Gr.Rl w 368 (.int .i64 0) (.int .i64 0) (.int .i64 (a:Int)) (.int .i64 (b:Int)));rw[←hW0]at hGR;have k0:=Fr _ _ 0 _ _ hr0;have k1:=Fr _ _ 1 _ _ hr0;have c0:=Co _ _ 0 _ _ _ hr0;have c1:=Co _ _ 1 _ _ _ hr0;have HR0:=Aj hr0;have HW0:=Aj hW0.symm;clear hwn hT hT0 hr0 hW0 hx h0 hl w4;go_enter func279,ntmps279;go_wp2_with (first
  |(go_at_call 295;refine C2.1.mono ?_;rintro e w1 ⟨rfl,rfl⟩)
  |(go_at_call 294;rw[HW0.1];refine C1.1.mono ?_;rintro e w1 ⟨rfl,rfl⟩))
 refine AQ (v:= .agg #[.int .i64 (a:Int),.int .i64 (b:Int)]) ?_ rfl ⟨rfl,hGR.1⟩;exact aP (fn:=Tryz.f279) (a:=2) (T1:=368) rfl _ _ w.heap.size _ _ _ _ rfl (kY _ w.heap.size (.int .i64 (a:Int)) (.int .i64 (b:Int)) HR0.1 rfl) underlying368 rfl kr
theorem gU (c) (hc:c.1+c.2≤64) (w):
  Calls prog 278 #[wv c] w fun e w'=>e= .returned (.int .i64 ((Xo.trail c:Nat):Int))∧Gr w w':=by
 obtain⟨a,b⟩:=c;have ht:Kept (((Xo.trail (a,b):Nat):Int)=64-(a:Int)-(b:Int)):=⟨by unfold Xo.trail;simp only[]at*;omega⟩
 rw[ht.1];simp only[]at hc;unfold wv;have G0:=Aj ((Gr.refl w).alloc (.cells #[.int .i64 (a:Int),.int .i64 (b:Int)] 368));go_enter func278,ntmps278;go_wp2;go_ret;exact⟨rfl,G0.1⟩
def Wn (w:World) (g k:Nat) (c:Nat×Nat):Prop:=w.cell? ⟨g,k,none⟩=some (.int .i64 (c.1:Int))∧w.cell? ⟨g,k+1,none⟩=some (.int .i64 (c.2:Int))
theorem Wn.gr {w w'} {g k} {c} (h:Wn w g k c) (hg:Gr w w') (hl:g<w.heap.size):Wn w' g k c:=⟨(hg.cell g k hl).trans h.1,(hg.cell g (k+1) hl).trans h.2⟩
theorem Wn.lt {w} {g k} {c} (h:Wn w g k c):g<w.heap.size:=AR w ⟨g,k,none⟩ h.1
theorem Wn.mv {w w'} {g k} {c} (h:Wn w g k c) (hg:Gr w w'):Wn w' g k c:=h.gr hg h.lt
theorem FP (g x:Nat) (c) (hx:x<18446744073709551616) (h0:x≠0) (hc:Xo.Cw c) (w) (hT:vW w) (hg:2<w.heap.size) (hw:Wn w g 1 c) (hl:g<w.heap.size):
  Calls prog 280 #[.pointer (some ⟨g,0,none⟩),.int .u64 (x:Int)] w fun e w'=>e= .returned (.bool (Xo.fits c x))∧Gr w w':=by
 have WO:=Aj (jU x hx h0 w hT hg);obtain⟨w1,w2,w3,w4,-⟩:=Xo.kQ (x:=x) hx h0;have hf:Kept (Xo.fits c x=(c !=(0,0)&& (decide (c.1≤(Xo.win x).1)&&decide (Xo.trail c≤Xo.trail (Xo.win x))))):=⟨rfl⟩
 rw[hf.1];generalize Xo.win x=v at*;obtain⟨p,q⟩:=v;have T1:=Aj (gU (p,q) w2);unfold wv at WO T1;have HW:=Aj hw;obtain⟨c1,c2⟩:=hw;clear hf hT hx h0 w4;by_cases hcz:c=(0,0)
 ·subst hcz;go_enter func280,ntmps280;go_wp2;go_ret;exact⟨rfl,Gr.refl w⟩
 ·have T2:=Aj (gU c (by rcases hc with h|h;exact absurd h hcz;exact h.2));unfold wv at T2;obtain⟨a,b⟩:=c;simp only[]at*;have hab:¬((a:Int)=0)∨(((a:Int)=0)∧¬((b:Int)=0)):=by
   by_cases h1:a=0
   ·refine .inr ⟨om,fun h2=>hcz ?_⟩;rw[h1,show b=0 from om]
   ·exact .inl om
  have hne:Kept (((a,b) !=((0:Nat),(0:Nat)))=true):=⟨by simpa using hcz⟩
  rcases hab with ha|⟨ha,hb⟩
  all_goals
   go_enter func280,ntmps280;go_wp2_with (go_at_call 279;refine WO.1.mono ?_;rintro e w5 ⟨rfl,g5⟩;have G5:=Aj g5;have KZ:=Aj (HW.1.gr g5 hl);clear g5);have k6:Wn (w5.alloc (.cells #[.int .i64 (p:Int),.int .i64 (q:Int)] 368)) w5.heap.size 0 (p,q)∧Wn (w5.alloc (.cells #[.int .i64 (p:Int),.int .i64 (q:Int)] 368)) g 1 (a,b):=
    ⟨⟨Co _ _ 0 _ _ _ (Av w5 _),Co _ _ 1 _ _ _ (Av w5 _)⟩,KZ.1.mv ((Gr.refl w5).alloc _)⟩
   have G6:=Aj (G5.1.alloc (.cells #[.int .i64 (p:Int),.int .i64 (q:Int)] 368));generalize w5.alloc (.cells #[.int .i64 (p:Int),.int .i64 (q:Int)] 368)=W6 at*;generalize w5.heap.size=h at*;have MV:=Aj (show∀w1 w2,(Wn w1 h 0 (p,q)∧Wn w1 g 1 (a,b))→Gr w1 w2→(Wn w2 h 0 (p,q)∧Wn w2 g 1 (a,b))from fun w1 w2 k hg=>⟨k.1.mv hg,k.2.mv hg⟩);have T2:=T2
   (try rw[ha]at T2)
   have KP:=Aj k6;unfold Wn at k6 MV KP;simp only[cB,Nat.reduceAdd]at k6 MV KP;obtain⟨tv,htv⟩:∃tv,Xo.trail (p,q)=tv:=⟨_,rfl⟩
   obtain⟨tc,htc⟩:∃tc,Xo.trail (a,b)=tc:=⟨_,rfl⟩
   rw[htv]at T1;rw[htc]at T2;have HTV:=Aj htv;have HTC:=Aj htc;clear htv htc;clear WO HW c1 c2 hc G5 KZ;have hap:(a≤p∧(a:Int)≤(p:Int))∨(¬a≤p∧decide ((a:Int)≤(p:Int))=false):=by
    by_cases h:a≤p
    ·exact .inl ⟨h,om⟩
    ·exact .inr ⟨h,Az om⟩
   rcases hap with⟨hap,ae0⟩|⟨hap,ae0⟩
   ·go_region_held3 (fun w'=>(w'.cell? ⟨h,0,none⟩=some (.int .i64 (p:Int))∧w'.cell? ⟨h,1,none⟩=some (.int .i64 (q:Int)))∧w'.cell? ⟨g,1,none⟩=some (.int .i64 (a:Int))∧w'.cell? ⟨g,2,none⟩=some (.int .i64 (b:Int))) (first|exact k6|exact ka|exact kb)
     (first
      |(go_at_call 278;refine(T1.1 _).mono ?_;rintro e wa ⟨rfl,ga⟩;have ka:=MV.1 _ wa (by first|exact kb|exact k6) ga;have GA:=Aj (show Gr w wa from(by first|exact GB.1.trans ga|exact(G6.1.drew).trans ga));clear ga)
      |(go_at_call 278;refine(T2.1 _).mono ?_;rintro e wb ⟨rfl,gb⟩;have kb:=MV.1 _ wb (by first|exact ka|exact k6) gb;have GB:=Aj (show Gr w wb from(by first|exact GA.1.trans gb|exact(G6.1.drew).trans gb));clear gb))
    all_goals
     go_wp2;go_ret;rw[hne.1];refine⟨?_,(by first|exact GB.1|exact GA.1)⟩;show Ending.returned (Value.bool (decide (tc≤tv)))=_;rw[HTV.1,HTC.1];simp[hap]
   ·first
    |(exfalso;omega)
    |(go_quiet (fail)
      go_wp2;go_ret;rw[hne.1];refine⟨by simp[hap],G6.1.drewN _⟩)
structure FQ (bA:Nat) (cv:Value) (base q:Nat) (J:List Bool→World→Prop):Prop where
 Ye:∀args w,(callFunc bA args).run prog w= .ok (.enter bA args) w
 call:∀(bs:List Bool) (x n:Nat) (w:World),J bs w→x<18446744073709551616→n≤64→bs.length≤100000000→Calls prog bA #[.int .u64 (x:Int),.int .i64 (n:Int),cv] w fun e w'=>e= .returned (.tuple #[])∧J (bs++Bt.bw n x) w'∧Wk base q w w'
 gr:∀bs w w',J bs w→Gr w w'→J bs w'
 set:∀bs w e k v cs fr,J bs w→e≠q→w.heap[e]? =some (.cells cs 397 fr)→J bs (w.setCell ⟨e,k,none⟩ v)
def fo (bA:Nat) (cv:Value):Value:= .func (.func bA) #[] #[cv]
def En (w:World) (e last:Nat) (c:Nat×Nat) (fv:Value):Prop:=w.heap[e]? =some (.cells #[.int .u64 (last:Int),.int .i64 (c.1:Int),.int .i64 (c.2:Int),fv] 397 (0,0))
theorem En.lt {w} {e last} {c} {fv} (h:En w e last c fv):e<w.heap.size:=(Ge.1 h).1
theorem En.wk {w w'} {e last base q} {c} {fv} (h:En w e last c fv) (hk:Wk base q w w') (hq:e≠q):En w' e last c fv:=hk.kept h hq Ah
theorem En.gr {w w'} {e last} {c} {fv} (h:En w e last c fv) (hg:Gr w w'):En w' e last c fv:=(hg.below.block e h.lt).trans h
theorem En.k0 {w} {e last} {c} {fv} (h:En w e last c fv):w.cell? ⟨e,0,none⟩=some (.int .u64 (last:Int))∧w.cell? ⟨e,1,none⟩=some (.int .i64 (c.1:Int))∧w.cell? ⟨e,2,none⟩=some (.int .i64 (c.2:Int))∧w.cell? ⟨e,3,none⟩=some fv:=
 ⟨Co _ _ 0 _ _ _ h,Co _ _ 1 _ _ _ h,Co _ _ 2 _ _ _ h,Co _ _ 3 _ _ _ h⟩
theorem En.f {w} {e last} {c} {fv} (h:En w e last c fv) (k):w.frozen? ⟨e,k,none⟩=false:=Fr _ _ k _ _ h
theorem En.last {w} {e last} {c} {fv} (h:En w e last c fv) (v:Nat):En (w.setCell ⟨e,0,none⟩ (.int .u64 (v:Int))) e v c fv:=by
 unfold En at*;rw[Ag _ e 0 _ _ _ h];rfl
theorem En.win {w} {e last} {c} {fv} (h:En w e last c fv) (d):En ((w.setCell ⟨e,1,none⟩ (.int .i64 (d.1:Int))).setCell ⟨e,2,none⟩ (.int .i64 (d.2:Int))) e last d fv:=by
 unfold En at*;rw[Ag _ e 2 _ _ _ (Ag _ e 1 _ _ _ h)];rfl
structure We (base q e:Nat) (w w':World):Prop where
 aU:Below base w w'
 rest:∀k,k<w.heap.size→k≠q→k≠e→abk w k→w'.heap[k]? =w.heap[k]?
theorem We.refl (base q e) (w):We base q e w w:=⟨Ae _ _,fun _ _ _ _ _=>rfl⟩
theorem We.ae1 {base q e} {w w'} (h:Wk base q w w'):We base q e w w':=⟨h.aU,fun k hk h1 _ h3=>h.rest k hk h1 h3⟩
theorem We.trans {base q e} {w w1 w2} (h:We base q e w w1) (g:We base q e w1 w2):We base q e w w2:=
 ⟨h.aU.trans g.aU,fun k hk hp he hb=>by
  have e1:=h.rest k hk hp he hb;refine(g.rest k (jB hk h.aU.size) hp he ?_).trans e1;intro cs fr hc;exact hb cs fr (e1.symm.trans hc)⟩
theorem We.gr {base q e} {w w'} (h:Gr w w') (hb:base≤w.heap.size):We base q e w w':=⟨h.below.mono hb,fun k hk _ _ _=>h.below.block k hk⟩
theorem We.set {base q e} (w) (k) (v) (hb:base≤e) (he:e<w.heap.size):We base q e w (w.setCell ⟨e,k,none⟩ v):=
 ⟨(Ae _ _).grown (av w ⟨e,k,none⟩ v) om (fun r h=>by cases h;exact hb),fun j hj _ hje _=>(av w ⟨e,k,none⟩ v).block j hj (fun h=>hje (by cases h;rfl))⟩
structure mf (base q:Nat) (J:List Bool→World→Prop) (fv:Value) (e:Nat) (w0:World) (bs:List Bool) (last:Nat) (c:Nat×Nat) (w:World):Prop where
 j:J bs w
 en:En w e last c fv
 we:We base q e w0 w
theorem mf.Xa {base q bA e last} {cv} {J} {c} {bs} {w0 w} (h:mf base q J (fo bA cv) e w0 bs last c w) (O:FQ bA cv base q J) (hq:e≠q) {x n:Nat} (hx:x<18446744073709551616) (hn:n≤64) (hl:bs.length≤100000000):
  Calls prog bA #[.int .u64 (x:Int),.int .i64 (n:Int),cv] w fun r w'=>r= .returned (.tuple #[])∧mf base q J (fo bA cv) e w0 (bs++Bt.bw n x) last c w':=by
 refine(O.call bs x n w h.j hx hn hl).mono ?_;rintro r w' ⟨rfl,hj,hk⟩;exact⟨rfl,hj,h.en.wk hk hq,h.we.trans (We.ae1 hk)⟩
theorem mf.gr {base q bA e last} {cv} {J} {c} {bs} {w0 w w'} (h:mf base q J (fo bA cv) e w0 bs last c w) (O:FQ bA cv base q J) (hb:base≤w0.heap.size) (hg:Gr w w'):mf base q J (fo bA cv) e w0 bs last c w':=
 ⟨O.gr bs w w' h.j hg,h.en.gr hg,h.we.trans (We.gr hg (Lt hb h.we.aU.size))⟩
theorem mf.last {base q bA e last} {cv} {J} {c} {bs} {w0 w} (h:mf base q J (fo bA cv) e w0 bs last c w) (O:FQ bA cv base q J) (hq:e≠q) (hb:base≤e) (v):mf base q J (fo bA cv) e w0 bs v c (w.setCell ⟨e,0,none⟩ (.int .u64 (v:Int))):=
 ⟨O.set bs w e 0 _ _ _ h.j hq h.en,h.en.last v,h.we.trans (We.set w 0 _ hb h.en.lt)⟩
theorem mf.win {base q bA e last} {cv} {J} {c} {bs} {w0 w} (h:mf base q J (fo bA cv) e w0 bs last c w) (O:FQ bA cv base q J) (hq:e≠q) (hb:base≤e) (d):mf base q J (fo bA cv) e w0 bs last d ((w.setCell ⟨e,1,none⟩ (.int .i64 (d.1:Int))).setCell ⟨e,2,none⟩ (.int .i64 (d.2:Int))):=by
 have h1:(w.setCell ⟨e,1,none⟩ (.int .i64 (d.1:Int))).heap[e]? =some (.cells (#[.int .u64 (last:Int),.int .i64 (c.1:Int),.int .i64 (c.2:Int),fo bA cv].setIfInBounds 1 (.int .i64 (d.1:Int))) 397 (0,0)):=Ag _ e 1 _ _ _ h.en;refine⟨O.set bs _ e 2 _ _ _ (O.set bs w e 1 _ _ _ h.j hq h.en) hq h1,h.en.win d,(h.we.trans (We.set w 1 _ hb h.en.lt)).trans (We.set _ 2 _ hb (by simpa using h.en.lt))⟩
theorem vW.aU {w w'} {base} (h:vW w) (hb:Below base w w') (hg:2<base):vW w':=fun j hj=>(hb.cell (p:=⟨_,j,none⟩) hg).trans (h j hj)
theorem Rm {base q bA e last v:Nat} {cv} {J} {c} {bs} {w} (O:FQ bA cv base q J) (hJ:J bs w) (hE:En w e last c (fo bA cv)) (hq:e≠q) (hb:base≤e) (hbw:base≤w.heap.size) (hD:vW w) (hD2:2<base)
  (hc:Xo.Cw c) (hv:v<18446744073709551616) (hlast:last<18446744073709551616) (hl:bs.length≤50000000):
  Calls prog 275 #[.pointer (some ⟨e,0,none⟩),.int .u64 (v:Int)] w fun r w'=>r= .returned (.tuple #[])∧mf base q J (fo bA cv) e w (bs++(Xo.put last c v).1) v (Xo.put last c v).2 w':=by
 have S0:mf base q J (fo bA cv) e w bs last c w:=⟨hJ,hE,We.refl _ _ _ _⟩
 have S1:=S0.last O hq hb v;have hent:=O.Ye;obtain⟨x,hx⟩:∃x,v^^^last=x:=⟨_,rfl⟩
 have Ni:bits .xor .u64 (v:Int) (last:Int)=(x:Int):=by rw[bits_xor_u64_nat _ _ hv hlast,hx]
 have lZ:x<18446744073709551616:=by rw[←hx];exact Bp (n:=64) hv hlast
 have hput:Xo.put last c v=if x=0 then(Bt.bw 1 0,c)else if Xo.fits c x=true then(Bt.bw 2 2++Bt.bw c.2 (x>>>Xo.trail c),c)
   else(Bt.bw 2 3++(Bt.bw 6 (Xo.win x).1++(Bt.bw 6 ((Xo.win x).2-1)++Bt.bw (Xo.win x).2 (x>>>Xo.trail (Xo.win x)))),Xo.win x):=by unfold Xo.put;rw[hx]
 rw[hput];obtain⟨k0,-,-,-⟩:=hE.k0;have f0:=hE.f 0;generalize hW1:w.setCell ⟨e,0,none⟩ (.int .u64 (v:Int))=W1 at S1;have MQ:=Aj S1;have HW1:=Aj hW1;have KO:=Aj O;by_cases h0:x=0
 ·subst h0;rw[Ps0 rfl];have OC:=Aj (S1.Xa O hq (x:=0) (n:=1) om om om);have k3:=S1.en.k0.2.2.2;unfold fo at k3;clear hput hx hJ hE S0 S1 O hW1 hD;go_enter func275,ntmps275;go_wp2_with (rw[HW1.1]);refine OC.1.mono ?_;rintro r w2 ⟨rfl,h2⟩;have H2:=Aj h2;clear h2;go_wp2
  (try simp only[Exit.inBlock,Exit.then]);refine AQ (BI rfl _ _ _) rfl ?_
  exact⟨rfl,H2.1⟩
 ·rw[Ng h0];have hD1:=hD.aU S1.we.aU hD2;have hx0:((x:Int)==0)=false:=by simp;omega
  have hwn:Wn W1 e 1 c:=⟨S1.en.k0.2.1,S1.en.k0.2.2.1⟩
  have FT:=FP e x c lZ h0 hc W1 hD1 (jB hD2 (Lt hbw S1.we.aU.size)) hwn S1.en.lt;by_cases hf:Xo.fits c x=true
  ·rw[Ps0 hf];rw[hf]at FT;have HF:=Aj FT;have hc1:c.1+c.2≤64∧c.2≤64:=by
    rcases hc with h|h
    ·rw[h]at hf;simp[Xo.fits]at hf
    ·omega
   have TR:=Aj (gU c hc1.1);have OA:=Aj (fun(w2:World) (h2:mf base q J (fo bA cv) e w bs v c w2)=>h2.Xa O hq (x:=2) (n:=2) om om om);have hsh:x>>>Xo.trail c<18446744073709551616:=DC (by rw[BJ];exact Nat.div_le_self _ _) lZ;have Vn:((x>>>Xo.trail c:Nat):Int)=(x:Int)/2^ (Xo.trail c):=by rw[BJ];simp
   have OB:=Aj (show∀(w2:World) (h2:mf base q J (fo bA cv) e w (bs++Bt.bw 2 2) v c w2),Calls prog bA #[.int .u64 ((x:Int)/2^ (Xo.trail c)),.int .i64 (c.2:Int),cv] w2 fun r w'=>r= .returned (.tuple #[])∧mf base q J (fo bA cv) e w (bs++Bt.bw 2 2++Bt.bw c.2 (x>>>Xo.trail c)) v c w' from fun w2 h2=>by rw[←Vn];exact h2.Xa O hq (x:=x>>>Xo.trail c) (n:=c.2) hsh hc1.2 (by rw[La,Bt.ak];omega));have GR:=Aj (fun(b2:List Bool) (w2 w3:World) (h2:mf base q J (fo bA cv) e w b2 v c w2) (hg:Gr w2 w3)=>h2.gr O hbw hg);have htl:Xo.trail c≤64:=by unfold Xo.trail;omega
   clear FT hput hx hJ hE S0 S1 O hW1 hD hD1 hwn hc hf;go_enter func275,ntmps275;go_wp2_with (go_at_call 280;rw[HW1.1];refine HF.1.mono ?_;rintro r w2 ⟨rfl,g2⟩;have H2:=Aj (GR.1 _ _ _ MQ.1 g2);have k3:=H2.1.en.k0.2.2.2;unfold fo at k3;clear g2);refine(OA.1 w2 H2.1).mono ?_;rintro r w3 ⟨rfl,h3⟩;have H3:=Aj h3;clear h3 k3;have k6:w3.cell? ⟨e,1,none⟩=some (.int .i64 (c.1:Int))∧w3.cell? ⟨e,2,none⟩=some (.int .i64 (c.2:Int))∧w3.cell? ⟨e,3,none⟩=some (.func (.func bA) #[] #[cv]):=⟨H3.1.en.k0.2.1,H3.1.en.k0.2.2.1,H3.1.en.k0.2.2.2⟩
   unfold wv at TR;clear OA HF H2 k0 f0 hx0 Ni;go_wp2_with fail;go_region_held3 (fun w'=>w'.cell? ⟨e,1,none⟩=some (.int .i64 (c.1:Int))∧w'.cell? ⟨e,2,none⟩=some (.int .i64 (c.2:Int))∧w'.cell? ⟨e,3,none⟩=some (.func (.func bA) #[] #[cv])) (first|exact k6|exact k7|exact k8)
    (first
     |(go_at_call 278;refine(TR.1 _).mono ?_;rintro r w4 ⟨rfl,g4⟩;have H4:=Aj (GR.1 _ _ w4 H3.1 ((Gr.refl w3).drew.trans g4));have k7:w4.cell? ⟨e,1,none⟩=some (.int .i64 (c.1:Int))∧w4.cell? ⟨e,2,none⟩=some (.int .i64 (c.2:Int))∧w4.cell? ⟨e,3,none⟩=some (.func (.func bA) #[] #[cv]):=⟨H4.1.en.k0.2.1,H4.1.en.k0.2.2.1,H4.1.en.k0.2.2.2⟩;clear g4)
     |(refine(OB.1 w4 H4.1).mono ?_;rintro r w5 ⟨rfl,h5⟩;have H5:=Aj h5;have k8:w5.cell? ⟨e,1,none⟩=some (.int .i64 (c.1:Int))∧w5.cell? ⟨e,2,none⟩=some (.int .i64 (c.2:Int))∧w5.cell? ⟨e,3,none⟩=some (.func (.func bA) #[] #[cv]):=⟨H5.1.en.k0.2.1,H5.1.en.k0.2.2.1,H5.1.en.k0.2.2.2⟩;clear h5))
   all_goals
    go_wp2
    (try simp only[Exit.inBlock,Exit.then]);refine bodyPost_end (BI rfl _ _ _) rfl ?_
    exact⟨rfl,by rw[←Af];exact H5.1⟩
  ·rw[Ng hf];rw[show Xo.fits c x=false by simpa using hf]at FT;have HF:=Aj FT;obtain⟨d1,d2,d3,-,-⟩:=Xo.kQ (x:=x) lZ h0;have WO:=Aj (show∀(b2:List Bool) (w2:World),mf base q J (fo bA cv) e w b2 v c w2→Calls prog 279 #[.int .u64 (x:Int)] w2 fun r w'=>r= .returned (.agg #[.int .i64 ((Xo.win x).1:Int),.int .i64 ((Xo.win x).2:Int)])∧mf base q J (fo bA cv) e w b2 v c w' from fun b2 w2 h2=>by
    refine(jU x lZ h0 w2 (hD.aU h2.we.aU hD2) (jB hD2 (Lt hbw h2.we.aU.size))).mono ?_;rintro r w' ⟨rfl,hg⟩;exact⟨rfl,h2.gr O hbw hg⟩)
   generalize Xo.win x=d at*;have TR:=Aj (gU d d2);unfold wv at TR;have htl:Xo.trail d≤64:=by unfold Xo.trail;omega
   have hsh:x>>>Xo.trail d<18446744073709551616:=DC (by rw[BJ];exact Nat.div_le_self _ _) lZ;have Vn:((x>>>Xo.trail d:Nat):Int)=(x:Int)/2^ (Xo.trail d):=by rw[BJ];simp
   have hw1:IntKind.u64.wrap (d.1:Int)=(d.1:Int):=by rw[Bb];omega
   obtain⟨m,hm⟩:∃m,d.2-1=m:=⟨_,rfl⟩
   have hmi:(d.2:Int)-1=(m:Int):=om;have hm1:IntKind.u64.wrap (m:Int)=(m:Int):=by rw[Bb];omega
   rw[hm];have WS:=Aj (fun(b2:List Bool) (w2:World) (h2:mf base q J (fo bA cv) e w b2 v c w2)=>h2.win O hq hb d);have GR:=Aj (fun(b2:List Bool) (w2 w3:World) (h2:mf base q J (fo bA cv) e w b2 v c w2) (hg:Gr w2 w3)=>h2.gr O hbw hg);have GR2:=Aj (fun(b2:List Bool) (w2 w3:World) (h2:mf base q J (fo bA cv) e w b2 v d w2) (hg:Gr w2 w3)=>h2.gr O hbw hg);have OA:=Aj (fun(w2:World) (h2:mf base q J (fo bA cv) e w bs v d w2)=>h2.Xa O hq (x:=3) (n:=2) om om om);have OB:=Aj (fun(w2:World) (h2:mf base q J (fo bA cv) e w (bs++Bt.bw 2 3) v d w2)=>h2.Xa O hq (x:=d.1) (n:=6) om om (by rw[La,Bt.ak];omega));have OC:=Aj (fun(w2:World) (h2:mf base q J (fo bA cv) e w (bs++Bt.bw 2 3++Bt.bw 6 d.1) v d w2)=>h2.Xa O hq (x:=m) (n:=6) om om (by rw[La,La,Bt.ak,Bt.ak];omega));have OD:=Aj (show∀(w2:World) (h2:mf base q J (fo bA cv) e w (bs++Bt.bw 2 3++Bt.bw 6 d.1++Bt.bw 6 m) v d w2),Calls prog bA #[.int .u64 ((x:Int)/2^ (Xo.trail d)),.int .i64 (d.2:Int),cv] w2 fun r w'=>r= .returned (.tuple #[])∧mf base q J (fo bA cv) e w (bs++Bt.bw 2 3++Bt.bw 6 d.1++Bt.bw 6 m++Bt.bw d.2 (x>>>Xo.trail d)) v d w' from fun w2 h2=>by rw[←Vn];exact h2.Xa O hq (x:=x>>>Xo.trail d) (n:=d.2) hsh om (by rw[La,La,La,Bt.ak,Bt.ak,Bt.ak];omega));clear FT hput hx hJ hE S0 S1 O hW1 hD hD1 hwn hc hf hsh Vn hm;go_enter func275,ntmps275;go_wp2_with (first
    |(go_at_call 279;refine(WO.1 bs w2 H2.1).mono ?_;rintro r w3 ⟨rfl,h3⟩;have H3:=Aj h3;have f1:=h3.en.f 1;have f2:=h3.en.f 2;have H4:=Aj (WS.1 bs w3 h3);have k4:=H4.1.en.k0.2.2.2;unfold fo at k4;obtain⟨j1,j2,j3⟩:=h3.en.k0.2;clear h3)
    |(go_at_call 280;rw[HW1.1];refine HF.1.mono ?_;rintro r w2 ⟨rfl,g2⟩;have H2:=Aj (GR.1 _ _ _ MQ.1 g2);clear g2))
   refine(OA.1 _ H4.1).mono ?_;rintro r w5 ⟨rfl,h5⟩;have H5:=Aj h5;obtain⟨-,k1,k2,k3⟩:=h5.en.k0;unfold fo at k3;clear h5 k4 j1 j2 j3 f1 f2 H4 H3 H2 k0 f0 hx0 Ni;go_wp2_with fail;refine wp_region_still_tail 11 kr kr ?_;simp only[Bu,Dz,Bv,BO]
   repeat still_step
   refine wpStill_nil ?_
   change wpList _ _ _ _ _ w5.drew
   go_wp2;refine(OB.1 _ (GR2.1 _ _ _ H5.1 (Gr.refl w5).drew)).mono ?_;rintro r w6 ⟨rfl,h6⟩;have H6:=Aj h6;clear k1 k2 k3;obtain⟨-,k1,k2,k3⟩:=h6.en.k0;unfold fo at k3;clear h6 H5;go_wp2_with fail;refine wp_region_still_tail 12 kr kr ?_;simp only[Bu,Dz,Bv,BO]
   repeat still_step
   refine wpStill_nil ?_
   change wpList _ _ _ _ _ w6.drew
   go_wp2;refine(OC.1 _ (GR2.1 _ _ _ H6.1 (Gr.refl w6).drew)).mono ?_;rintro r w7 ⟨rfl,h7⟩;have H7:=Aj h7;clear k1 k2 k3;have k6:w7.cell? ⟨e,1,none⟩=some (.int .i64 (d.1:Int))∧w7.cell? ⟨e,2,none⟩=some (.int .i64 (d.2:Int))∧w7.cell? ⟨e,3,none⟩=some (.func (.func bA) #[] #[cv]):=⟨h7.en.k0.2.1,h7.en.k0.2.2.1,h7.en.k0.2.2.2⟩
   clear h7 H6 OA OB OC HF WO WS;go_wp2_with fail;go_region_held3 (fun w'=>w'.cell? ⟨e,1,none⟩=some (.int .i64 (d.1:Int))∧w'.cell? ⟨e,2,none⟩=some (.int .i64 (d.2:Int))∧w'.cell? ⟨e,3,none⟩=some (.func (.func bA) #[] #[cv])) (first|exact k6|exact k7|exact k8)
    (first
     |(go_at_call 278;refine(TR.1 _).mono ?_;rintro r w8 ⟨rfl,g8⟩;have H8:=Aj (GR2.1 _ _ w8 H7.1 ((Gr.refl w7).drew.trans g8));have k7:w8.cell? ⟨e,1,none⟩=some (.int .i64 (d.1:Int))∧w8.cell? ⟨e,2,none⟩=some (.int .i64 (d.2:Int))∧w8.cell? ⟨e,3,none⟩=some (.func (.func bA) #[] #[cv]):=⟨H8.1.en.k0.2.1,H8.1.en.k0.2.2.1,H8.1.en.k0.2.2.2⟩;clear g8)
     |(refine(OD.1 w8 H8.1).mono ?_;rintro r w9 ⟨rfl,h9⟩;have H9:=Aj h9;have k8:w9.cell? ⟨e,1,none⟩=some (.int .i64 (d.1:Int))∧w9.cell? ⟨e,2,none⟩=some (.int .i64 (d.2:Int))∧w9.cell? ⟨e,3,none⟩=some (.func (.func bA) #[] #[cv]):=⟨H9.1.en.k0.2.1,H9.1.en.k0.2.2.1,H9.1.en.k0.2.2.2⟩;clear h9))
   all_goals
    go_wp2
    (try simp only[Exit.inBlock,Exit.then]);refine bodyPost_end (BI rfl _ _ _) rfl ?_
    exact⟨rfl,by simp only[←Af];exact H9.1⟩
end Go.Proofs.YtjcpmfphnodaaaaGreatDoor
