/- Part 18. -/
import Derived.Test.YtongopommlghgaaGreatDoorZJAQ
namespace Go.Proofs.YtongopommlghgaaGreatDoor
set_option maxRecDepth 100000
set_option maxHeartbeats 0
open _root_.Go.Proofs.Tryz
open Go.RowKit Go.Shelf
theorem Ki {w ops o a K Q E} (hgd:o.guard=none) (s x)
  (ho:o.op= .call {callee:= .builtin .append,args:= #[s,x],argTypes:= #[62,62]})
  (base A n c xs) (hs:a.eval s= .slice A n c) (hown:aO w base A n c xs)
  (v) (hxr:∃p,a.eval x= .slice (some ⟨p,0,none⟩) 1 1∧w.heap[p]? =some (.cells #[.int .i64 v] 3 (0,0)))
  (hlen:n≤10000000) (hbase:base≤w.heap.size)
  (h:∀A2 c2 w',aO w' base A2 (n+1) c2 (xs++[v])→w.grownBy w' (ab A)→(ab A2=ab A∨ab A2=some w.heap.size)→K (a.put o.dst (.slice A2 (n+1) c2)) w'):
  if Region.wanted o (yielded ops a.tmps)=true then Oper.wp prog o a w K Q else E:=by
 have hw:Region.wanted o (yielded ops a.tmps)=true:=by simp[Region.wanted,hgd]
 rw[Ps0 hw];obtain⟨i0,hi0,hz0,hz1,hz2⟩:=AY Qt;obtain⟨p,hx,hp⟩:=hxr;refine mG w s x _ ho base 3 i0 (.int .i64 0) 1 8 underlying62 hi0 hz0 hz1 hz2 rfl Ai A n c _ hs hown (p+1) (some ⟨p,0,none⟩) 1 1 [.int .i64 v] hx (Rd.adB hp) (by simp[Value.oneCell']) (by unfold maxLen;omega) om hbase fun A2 c2 w' h1 h2 h3=>h A2 c2 w' ?_ h2 h3
 show w'.ownsRow base _ 1 _ (n+1) (Ff (xs++[v]));unfold Ff at h1⊢;rw[dN];exact h1
theorem Xv (base gd gl p n i m c LS D L C A W) (h:Es base gd gl p n LS D C W) (hi:i<n) (_:n≤1000000) (hv:aY W W.heap.size A m c L)
  (hD:D.length+L.length≤1000000000) (hC:(C i).length≤10000000) (hgd:base≤gd) (hp:base≤p):
  Calls prog 83 #[.int .i64 (i:Int),.slice A m c,.pointer (some ⟨gd,0,none⟩),.pointer (some ⟨gl,0,none⟩)] W fun e w'=>(∃v,e= .returned v)∧Es base gd gl p n LS (D++L) (fun j=>if j=i then C i++[(L.length:Int)]else C j) w'∧iV base W w'∧KeepsOthers W w':=by
 have hm:=hv.len
 have hzb:base≤W.heap.size:=by obtain⟨_,_,cs,_,_,_,r1,_⟩:=h;have:=(Ge.1 r1).1;omega
 obtain⟨A0,m0,c0,d1,d2⟩:=h.dat
 have hm0:=d2.len
 have hc0:=d1.cell
 have H:=Al h
 have D1:=Al d1
 have D2:=Al d2
 have HV:=Al hv
 have HM:=Al hm
 have HC:=Al hC
 have hmb:m0+m≤1000000000:=om
 have hmi:(m:Int)≤1000000000:=om
 clear h d1 d2 hv hm hm0 hC hD
 go_enter func83,ntmps83
 go_upto_region 1 with(at_builtin;refine eB rfl (.tmp 6) (.tmp 7) rfl base A0 m0 c0 _ rfl D2.1 _ _ _ _ _ rfl HV.1 om hzb ?_;intro A2 c2 w1 hown hgrow hat;obtain⟨q1,q2,q3,q4,q5⟩:=H.1.push D1.1 D2.1 hgrow hown hgd;have E1:=Al q3;have K1:=Al q4;have O1:=Al q5;clear hown hgrow hat q3 q4 q5)
 generalize w1.setCell ⟨gd,0,none⟩ (.slice A2 (m0+m) c2)=W3 at*
 obtain⟨A3,m3,c3,n1,n2,n3,n4⟩:=E1.1.note hi hp
 have Jy:m3≤10000000:=by rw[n3.len];exact HC.1
 have g0:=E1.1.box.cell
 have G0:=Al E1.1.box
 have hpz:Kept (p<W3.heap.size):=⟨by obtain⟨_,_,cs,_,_,_,r1,_⟩:=E1.1;exact(Ge.1 r1).1⟩
 have hzz:Kept (base≤W3.heap.size):=⟨Lt hp (Nat.le_of_lt hpz.1)⟩
 have N1:=Al n1
 have N3:=Al n3
 have N4:=Al n4
 have x0:∀o,(W3.alloc o).cell? ⟨gl,0,none⟩=some (.slice (some ⟨p,0,none⟩) n n):=fun o=>(Boxed.alloc G0.1 o).cell
 have x1:∀o,(W3.alloc o).cell? ⟨p,i*2+1,none⟩=some (.slice A3 m3 c3):=fun o=>(AR W3 o ⟨p,i*2+1,none⟩ hpz.1).trans N1.1
 have hgl:Kept (∀W1 w6,W3.grownBy W1 none→W1.grownBy w6 (ab A3)→w6.cell? ⟨gl,0,none⟩=some (.slice (some ⟨p,0,none⟩) n n)∧w6.cell? ⟨p,i*2+1,none⟩=some (.slice A3 m3 c3)):=⟨fun W1 w6 h1 hg=>by
  have o1:aO W1 base A3 m3 c3 (C i):=ag N3.1 h1 (by rcases ab A3 with _|r;exact .inl rfl;exact .inr (fun e=>by cases e))
  have b1:=Boxed.kept G0.1 h1 (fun e=>by cases e)
  have hne:=dQ o1 b1 Ai
  refine⟨(Boxed.kept b1 hg (fun e=>hne e.symm)).cell,?_⟩
  obtain⟨_,_,cs,_,_,_,r1,_⟩:=E1.1
  have r1':W1.heap[p]? =some (.cells cs qj (0,0)):=(h1.block p hpz.1 (fun e=>by cases e)).trans r1
  have hne2:=dQ o1 r1' Ai
  exact(AU (a:=⟨p,i*2+1,none⟩) ((hg.block p (by have:=hpz.1;have:=h1.size;omega) (fun e=>hne2 e.symm)).trans (h1.block p hpz.1 (fun e=>by cases e)))).trans N1.1⟩
 have GA:Kept (∀o,W3.grownBy (W3.alloc o) none):=⟨fun o=>Ga W3 o none⟩
 have GD:Kept (∀o,W3.grownBy (W3.alloc o).drew none):=⟨fun o=>by have h:=Ga W3 o none;exact⟨h.os,h.tape,h.output,h.size,h.block⟩⟩
 clear n2 n3 n4 q1 q2 hc0
 refine wp_region_held_drew (S:=fun w'=>w'.cell? ⟨gl,0,none⟩=some (.slice (some ⟨p,0,none⟩) n n)) kr g0 (fun hHeld=>?_)
 refine Bi (i:=0) (oi:=⟨_,_,_,_,_,_⟩) (v:=?_) rfl kr kr kr (fun _ _ _ h=>h) (Or.inl ⟨rfl,?_⟩) (by assumption) ?_
 rotate_left
 ·intro w hSw;(try dsimp only at hSw);go_simp;(try with_reducible rfl)
 try simp only[Act.put,Ao,Au,Ap]
 refine Bi (i:=1) (oi:=⟨_,_,_,_,_,_⟩) (v:=?_) rfl kr kr kr (fun _ _ _ h=>h) (Or.inl ⟨rfl,?_⟩) (by assumption) ?_
 rotate_left
 ·intro w hSw;(try dsimp only at hSw);go_simp;(try with_reducible rfl)
 try simp only[Act.put,Ao,Au,Ap]
 refine Bi (i:=2) (oi:=⟨_,_,_,_,_,_⟩) (v:=?_) rfl kr kr kr (fun _ _ _ h=>h) (Or.inl ⟨rfl,?_⟩) (by assumption) ?_
 rotate_left
 ·intro w hSw;(try dsimp only at hSw);go_simp;(try with_reducible rfl)
 try simp only[Act.put,Ao,Au,Ap]
 refine Bi (i:=3) (oi:=⟨_,_,_,_,_,_⟩) (v:=?_) rfl kr kr kr (fun _ _ _ h=>h) (Or.inl ⟨rfl,?_⟩) (by assumption) ?_
 rotate_left
 ·intro w hSw;(try dsimp only at hSw);go_simp;(try with_reducible rfl)
 try simp only[Act.put,Ao,Au,Ap]
 refine Bi (i:=4) (oi:=⟨_,_,_,_,_,_⟩) (v:=?_) rfl kr kr kr (fun _ _ _ h=>h) (Or.inl ⟨rfl,?_⟩) (by assumption) ?_
 rotate_left
 ·intro w hSw;(try dsimp only at hSw);go_simp;(try with_reducible rfl)
 try simp only[Act.put,Ao,Au,Ap]
 refine Bi (i:=5) (oi:=⟨_,_,_,_,_,_⟩) (v:=?_) rfl kr kr kr (fun _ _ _ h=>h) (Or.inl ⟨rfl,?_⟩) (by assumption) ?_
 rotate_left
 ·intro w hSw;(try dsimp only at hSw);go_simp;(try with_reducible rfl)
 try simp only[Act.put,Ao,Au,Ap]
 refine Bi (i:=7) (oi:=⟨_,_,_,_,_,_⟩) (v:=?_) rfl kr kr kr (fun _ _ _ h=>h) (Or.inl ⟨rfl,?_⟩) (by assumption) ?_
 rotate_left
 ·intro w hSw;(try dsimp only at hSw);go_simp;(try with_reducible rfl)
 try simp only[Act.put,Ao,Au,Ap]
 refine Bi (i:=8) (oi:=⟨_,_,_,_,_,_⟩) (v:=?_) rfl kr kr kr (fun _ _ _ h=>h) (Or.inl ⟨rfl,?_⟩) (by assumption) ?_
 rotate_left
 ·intro w hSw;(try dsimp only at hSw);go_simp;(try with_reducible rfl)
 try simp only[Act.put,Ao,Au,Ap]
 refine CU (rs:=[6,9]) kr Ah ?_
 refine BV (o:=⟨_,_,_,_,_,_⟩) rfl (fun K hK=>?_) (BV (o:=⟨_,_,_,_,_,_⟩) rfl (fun K hK=>?_) Cu)
 go_simp
 refine hK.out _ _ g0 (fun hHeld=>?_)
 clear hK K
 try simp only[Act.put,Ao,Au,Ap]
 refine CU (rs:=[9]) kr Ah ?_
 refine BV (o:=⟨_,_,_,_,_,_⟩) rfl (fun K hK=>?_) Cu
 go_simp
 refine hK.out _ _ (x0 _) (fun hHeld=>?_)
 clear hK K
 try simp only[Act.put,Ao,Au,Ap]
 rotate_left
 go_simp
 refine hK.out _ _ (x0 _) (fun hHeld=>?_)
 clear hK K
 try simp only[Act.put,Ao,Au,Ap]
 refine CU (rs:=[6]) kr Ah ?_
 refine BV (o:=⟨_,_,_,_,_,_⟩) rfl (fun K hK=>?_) Cu
 go_simp
 refine hK.out _ _ (x0 _) (fun hHeld=>?_)
 clear hK K
 try simp only[Act.put,Ao,Au,Ap]
 all_goals
  refine CU (rs:=[10]) kr Ah ?_
  refine BV (o:=⟨_,_,_,_,_,_⟩) rfl (fun K hK=>?_) Cu
  (refine Ki ?g1 (.tmp 15) (.tmp 18) ?g2 base A3 m3 c3 (C i) ?g3 ?g4 (m:Int) ?g5 ?g7 ?g8 ?_;
   (case g1=>rfl);
   (case g2=>rfl);
   (case g3=>rfl);
   (case g4=>exact Oa N3.1 _);
   (case g5=>exact⟨_,rfl,AL W3 _⟩);
   (case g7=>exact Jy);
   (case g8=>(have:=hzz.1;show _≤(World.alloc _ _).heap.size;simp;omega));
   intro A4 c4 w6 hown hgrow hat;
   first
    |have k9:=hgl.1 _ w6 (GA.1 _) hgrow
    |have k9:=hgl.1 _ w6 (GD.1 _) hgrow;
   have k10:=k9.2;
   first
    |have NX:=Al (N4.1 _ w6 A4 (m3+1) c4 (m:Int) (GA.1 _) hgrow hown hat)
    |have NX:=Al (N4.1 _ w6 A4 (m3+1) c4 (m:Int) (GD.1 _) hgrow hown hat);
   have f6:=NX.1.2.1;
   have k11:=NX.1.2.2.1.box.cell;
   clear hown hgrow hat)
  refine hK.out _ _ k9.1 (fun hHeld=>?_)
  clear hK K
  try simp only[Act.put,Ao,Au,Ap]
  refine Bi (i:=11) (oi:=⟨_,_,_,_,_,_⟩) (v:=?_) rfl kr kr kr (fun _ _ _ h=>h) (Or.inl ⟨rfl,?_⟩) (by assumption) ?_
  rotate_left
  ·intro w hSw;(try dsimp only at hSw);go_simp;(try with_reducible rfl)
  try simp only[Act.put,Ao,Au,Ap]
  refine Bi (i:=12) (oi:=⟨_,_,_,_,_,_⟩) (v:=?_) rfl kr kr kr (fun _ _ _ h=>h) (Or.inl ⟨rfl,?_⟩) (by assumption) ?_
  rotate_left
  ·intro w hSw;(try dsimp only at hSw);go_simp;(try with_reducible rfl)
  try simp only[Act.put,Ao,Au,Ap]
  refine CU (rs:=[13]) kr Ah ?_
  refine BV (o:=⟨_,_,_,_,_,_⟩) rfl (fun K hK=>?_) Cu
  go_simp
  refine hK.out _ _ k11 (fun hHeld=>?_)
  clear hK K
  try simp only[Act.put,Ao,Au,Ap]
  refine wpAnyH_done kr ?_ _
  (try go_wp2)
  go_end0
  refine⟨⟨_,rfl⟩,?_,K1.1.trans NX.1.2.2.2.1,O1.1.trans NX.1.2.2.2.2⟩
  have e:=HM.1
  have q:=NX.1.2.2.1
  rw[e]at q
  exact q
def cZ:Value:= .slice none 0 0
def vE (hs:List (Value×Value)) (i:Nat):Value:=(hs[i]?.map (·.1)).getD cZ
structure zN (W:World) (p q n k:Nat) (hs:List (Value×Value)):Prop where
 rp:∃cs:Array Value,W.heap[p]? =some (.cells cs qj (0,0))∧cs.size=n*2∧∀i,i<n→cs[i*2]? =some (if i<k then vE hs i else cZ)∧cs[i*2+1]? =some cZ
 rq:∃cs:Array Value,W.heap[q]? =some (.cells cs 54 (0,0))∧cs.size=n∧∀i,i<n→cs[i]? =some (if i<k then vE hs i else cZ)
section
variable {W W':World} {p q n k:Nat} {hs:List (Value×Value)}
theorem zN.lt (h:zN W p q n k hs):p<W.heap.size∧q<W.heap.size:=by
 obtain⟨⟨_,h1,_⟩,⟨_,h2,_⟩⟩:=h;exact⟨(Ge.1 h1).1,(Ge.1 h2).1⟩
theorem zN.ne (h:zN W p q n k hs):p≠q:=by
 obtain⟨⟨_,h1,_⟩,⟨_,h2,_⟩⟩:=h;intro e;subst e;rw[h1]at h2;simp only[gU,DY]at h2;exact absurd h2.2.1 Ai
theorem zN.below (h:zN W p q n k hs) (hb:Below W.heap.size W W'):zN W' p q n k hs:=by
 obtain⟨l1,l2⟩:=h.lt;obtain⟨⟨c1,h1,h2⟩,⟨c2,h3,h4⟩⟩:=h;exact⟨⟨c1,(hb.block _ l1).trans h1,h2⟩,⟨c2,(hb.block _ l2).trans h3,h4⟩⟩
theorem zN.cells (h:zN W p q n k hs) {i} (hi:i<n):(∃v,W.cell? ⟨p,i*2,none⟩=some v)∧W.frozen? ⟨p,i*2,none⟩=false∧(∃v,W.cell? ⟨q,i,none⟩=some v)∧W.frozen? ⟨q,i,none⟩=false:=by
 obtain⟨⟨c1,h1,_,h2⟩,⟨c2,h3,_,h4⟩⟩:=h;exact⟨⟨_,(Co _ _ _ _ _ _ h1).trans (h2 i hi).1⟩,Fr _ _ _ _ _ h1,⟨_,(Co _ _ _ _ _ _ h3).trans (h4 i hi)⟩,Fr _ _ _ _ _ h3⟩
theorem zN.put (h:zN W p q n k hs) (hk:k<n):zN ((W.setCell ⟨p,k*2,none⟩ (vE hs k)).setCell ⟨q,k,none⟩ (vE hs k)) p q n (k+1) hs:=by
 have hne:=h.ne;obtain⟨⟨c1,h1,z1,h2⟩,⟨c2,h3,z2,h4⟩⟩:=h;have s1:=Ag W p (k*2) c1 qj (vE hs k) h1;have s1':=(AQ (W.setCell ⟨p,k*2,none⟩ (vE hs k)) ⟨q,k,none⟩ (vE hs k) p hne).trans s1;have s2:=(AQ W ⟨p,k*2,none⟩ (vE hs k) q (fun e=>hne e.symm)).trans h3;have s2':=Ag (W.setCell ⟨p,k*2,none⟩ (vE hs k)) q k c2 54 (vE hs k) s2;refine⟨⟨_,s1',by simp[z1],fun i hi=>⟨?_,?_⟩⟩,⟨_,s2',by simp[z2],fun i hi=>?_⟩⟩
 ·rw[zM];by_cases e:k*2=i*2
  ·have e':k=i:=by omega
   subst e';rw[Ps0 rfl,Ps0 om,Ps0 om]
  ·rw[Ng e,(h2 i hi).1];by_cases q:i<k
   ·rw[Ps0 q,Ps0 om]
   ·rw[Ng q,Ng om]
 ·rw[zM,Ng om];exact(h2 i hi).2
 ·rw[zM];by_cases e:k=i
  ·subst e;rw[Ps0 rfl,Ps0 om,Ps0 om]
  ·rw[Ng e,h4 i hi];by_cases q:i<k
   ·rw[Ps0 q,Ps0 om]
   ·rw[Ng q,Ng om]
end
theorem xN (n i) (h:i<n*2):(madeCells #[cZ,cZ] (n*2))[i]? =some cZ:=by
 rw[Array.getElem?_eq_getElem (by simp[madeCells];omega)];have:i%2=0∨i%2=1:=om;rcases this with e|e<;>simp[madeCells,e]
theorem Pf (n i) (h:i<n):(madeCells #[cZ] n)[i]? =some cZ:=by
 rw[Array.getElem?_eq_getElem (by simp[madeCells];exact h)];simp[madeCells,Nat.mod_one]
theorem Pg (n:Nat) (hn:n≤1000000) (w):(Instr.makeSlice 138 (.int .i64 n) (.int .i64 n)).run prog w= .ok (.slice (some ⟨w.heap.size,0,none⟩) n n) (w.alloc (.cells (madeCells #[cZ,cZ] (n*2)) qj)):=by
 obtain⟨i0,hi0,hz0,hz1,hz2⟩:=AY Ye;have:=Eb (P:=prog) w 138 146 i0 (.agg #[.slice none 0 0,.slice none 0 0]) underlying138 hi0 hz0 .i64 .i64 (n:Int) (n:Int) om om (by rw[hz1];simp;omega) (by rw[hz2];omega) om;rw[hz1]at this;simpa[Value.cells,cZ]using this
theorem Ue (n:Nat) (hn:n≤1000000) (w):(Instr.makeSlice 81 (.int .i64 n) (.int .i64 n)).run prog w= .ok (.slice (some ⟨w.heap.size,0,none⟩) n n) (w.alloc (.cells (madeCells #[cZ] n) 54)):=by
 obtain⟨i0,hi0,hz0,hz1,hz2⟩:=AY Rv;have:=Eb (P:=prog) w 81 54 i0 (.slice none 0 0) underlying81 hi0 hz0 .i64 .i64 (n:Int) (n:Int) om om (by rw[hz1];simp;omega) (by rw[hz2];omega) om;rw[hz1]at this;simpa[Value.cells,cZ]using this
theorem zN.made (w1:World) (n hs o1 o2):
  zN ((((w1.alloc o1).alloc (.cells (madeCells #[cZ,cZ] (n*2)) qj)).alloc o2).alloc (.cells (madeCells #[cZ] n) 54)) (w1.heap.size+1) (w1.heap.size+1+1+1) n 0 hs:=by
 refine⟨⟨madeCells #[cZ,cZ] (n*2),?_,by simp[madeCells],fun i hi=>⟨?_,xN n _ om⟩⟩,⟨madeCells #[cZ] n,?_,by simp[madeCells],fun i hi=>?_⟩⟩
 ·rw[Ay _ _ _ (by simp;try omega),Ay _ _ _ Ah];have:=AL (w1.alloc o1) (.cells (madeCells #[cZ,cZ] (n*2)) qj);simp only[AV]at this;exact this
 ·rw[Ng om];exact xN n _ om
 ·have:=AL (((w1.alloc o1).alloc (.cells (madeCells #[cZ,cZ] (n*2)) qj)).alloc o2) (.cells (madeCells #[cZ] n) 54);simp only[AV]at this;exact this
 ·rw[Ng om];exact Pf n i hi
def HdK (w:World) (B:Nat) (b:Bk.gN) (hs:List (Value×Value)):Prop:=hs.length=b.length∧
 ∀(i:Nat) (h:i<hs.length) (h':i<b.length),∃A1 n1 c1 A2 n2 c2,hs[i]=(.slice A1 n1 c1,.slice A2 n2 c2)∧dH w B A1 n1 c1 b[i].1∧fO w B A2 n2 c2 b[i].2
theorem HdK.below {w w' B b hs} (h:HdK w B b hs) (hb:Below B w w'):HdK w' B b hs:=⟨h.1,fun i a a'=>by
 obtain⟨A1,n1,c1,A2,n2,c2,e,p,q⟩:=h.2 i a a';exact⟨A1,n1,c1,A2,n2,c2,e,p.below hb,q.below hb⟩⟩
theorem Kj {hs i} (h:i<hs.length):vE hs i=hs[i].1:=by unfold vE;rw[kC h];rfl
theorem zN.es {W p q n gd gl base hs} (h:zN W p q n n hs) (hd:Boxed W gd 22 cZ) (hl:Boxed W gl 138 (.slice (some ⟨p,0,none⟩) n n)):
  Es base gd gl p n (vE hs) [] (fun _=>[]) W:=by
 obtain⟨⟨c1,h1,z1,h2⟩,-⟩:=h;refine⟨⟨none,0,0,hd,ah.nil _ _⟩,hl,c1,fun _=>none,fun _=>0,fun _=>0,h1,z1,fun i hi=>?_,fun i j _ _ _=> .inl rfl⟩;obtain⟨e1,e2⟩:=h2 i hi;rw[Ps0 hi]at e1;exact⟨e1,e2,aO.nil _ _⟩
theorem Es.rdR {base gd gl p n B D C W b hs} {rs:List jL} (h:Es base gd gl p n (vE hs) D C W) (hh:HdK W B b hs) (hB:B≤W.heap.size) (hn:n=b.length) (hm:n≤maxLen)
  (hr:rs.length=b.length) (hre:∀(i) (h:i<rs.length) (h':i<b.length),rs[i]=(b[i].1,C i)):vC W W.heap.size (some ⟨p,0,none⟩) n n rs:=by
 obtain⟨-,-,cs,As,ns,ks,r1,r2,r3,-⟩:=h;have hp:p<W.heap.size:=(Ge.1 r1).1;refine⟨(List.range n).map fun i=>(vE hs i,.slice (As i) (ns i) (ks i)),⟨Nr _,hm,by rw[aP];simp,fun _=>⟨p,0,rfl,hp,fun i u hu=>?_⟩⟩,by simp;omega,fun i a a'=>?_⟩
 ·have hlt:=(l5.1 hu).1;rw[aP,fM,CR]at hlt;have hq:i/2<n:=om;obtain⟨g1,g2⟩:=bR ((List.range n).map fun i=>(vE hs i,Value.slice (As i) (ns i) (ks i))) (i/2) (by simpa using hq);obtain⟨k1,k2,_⟩:=r3 (i/2) hq;rw[bO,Co _ _ _ _ _ _ r1];rcases(show i%2=0∨i%2=1 from om)with e|e
  ·have hii:i=i/2*2:=by omega
   rw[hii]at hu⊢;rw[g1]at hu;have e2:i/2*2/2=i/2:=om;rw[k1,←hu];simp
  ·have hii:i=i/2*2+1:=by omega
   rw[hii]at hu⊢;rw[g2]at hu;rw[k2,←hu];simp
 ·have hi:i<n:=by simpa using a
  obtain⟨A1,n1,c1,A2,n2,c2,e,q1,q2⟩:=hh.2 i (by rw[hh.1];omega) om;refine⟨A1,n1,c1,As i,ns i,ks i,?_,?_,?_⟩
  ·simp[Kj (show i<hs.length by rw[hh.1];omega),e]
  ·rw[hre i a' om];exact q1.more hB
  ·rw[hre i a' om];exact(r3 i hi).2.2.rd
theorem Xw {W q n B b hs} (h:∃cs:Array Value,W.heap[q]? =some (.cells cs 54 (0,0))∧cs.size=n∧∀i,i<n→cs[i]? =some (if i<n then vE hs i else cZ)) (hh:HdK W B b hs) (hB:B≤W.heap.size) (hn:n=b.length) (hm:n≤maxLen):l8 W W.heap.size (some ⟨q,0,none⟩) n n (Bk.sets b):=by
 obtain⟨cs,r1,r2,r3⟩:=h;have hq:q<W.heap.size:=(Ge.1 r1).1;refine⟨cs.toList,⟨Nr _,hm,by simp[r2],fun _=>⟨q,0,rfl,hq,fun i u hu=>?_⟩⟩,by unfold Bk.sets;simp[r2,hn],fun i l hl=>?_⟩
 ·rw[DW]at hu;rw[bO];exact(Co _ _ _ _ _ _ r1).trans hu
 ·unfold Bk.sets at hl;rw[Df]at hl;obtain⟨s,hs',rfl⟩:=DC.1 hl;obtain⟨hi,e0⟩:=l5.1 hs';obtain⟨A1,n1,c1,A2,n2,c2,e,q1,q2⟩:=hh.2 i (by rw[hh.1];exact hi) hi;have:=r3 i om;rw[Ps0 om,Kj (show i<hs.length by rw[hh.1];exact hi),e]at this;refine⟨A1,n1,c1,by rw[DW];exact this,?_⟩;rw[←e0];exact q1.more hB
structure Ec (W Wi:World) (g:Nat) (arr:Array Value):Prop where
 aX:Below W.heap.size W Wi
 hg:W.heap.size≤g
 r14:Wi.heap[g]? =some (.cells arr 76 (0,0))
 Vg:Wi.heap[g+1]? =some (.cells #[.int .i64 0,.int .i64 0,.int .i64 0] 176 (0,0))
section
variable {W Wi w':World} {g:Nat} {arr:Array Value}
theorem Ec.lt (h:Ec W Wi g arr):g+1<Wi.heap.size:=(Ge.1 h.Vg).1
theorem Ec.below (h:Ec W Wi g arr) (hb:Below Wi.heap.size Wi w'):Ec W w' g arr:=
 ⟨h.aX.trans (hb.mono h.aX.size),h.hg,(hb.block _ (by have:=h.lt;omega)).trans h.r14,(hb.block _ h.lt).trans h.Vg⟩
theorem Ec.Kk (h:Ec W Wi g arr) (k v):Ec W (Wi.setCell ⟨g,k,none⟩ v) g (arr.setIfInBounds k v):=
 ⟨h.aX.setCell (p:=⟨g,k,none⟩) h.hg v,h.hg,Ag Wi g k _ _ v h.r14,(AQ _ ⟨g,k,none⟩ _ _ (by show g+1≠g;omega)).trans h.Vg⟩
theorem Ec.wG (h:Ec W Wi g arr) (k) (hk:k<3):Ec W (Wi.setCell ⟨g+1,k,none⟩ (.int .i64 0)) g arr:=by
 refine⟨h.aX.setCell (p:=⟨g+1,k,none⟩) (by have:=h.hg;show _≤g+1;omega) _,h.hg,(AQ _ ⟨g+1,k,none⟩ _ _ (by show g≠g+1;omega)).trans h.r14,?_⟩;have:=Ag Wi (g+1) k _ _ (.int .i64 0) h.Vg;rw[this]
 match k,hk with
 |0,_=>rfl
 |1,_=>rfl
 |2,_=>rfl
theorem Ec.c1 (h:Ec W Wi g arr) (k):Wi.cell? ⟨g,k,none⟩=arr[k]?∧Wi.frozen? ⟨g,k,none⟩=false:=⟨Co _ _ _ _ _ _ h.r14,Fr _ _ _ _ _ h.r14⟩
theorem Ec.c2 (h:Ec W Wi g arr) (k) (hk:k<3):Wi.cell? ⟨g+1,k,none⟩=some (.int .i64 0)∧Wi.frozen? ⟨g+1,k,none⟩=false:=⟨(Co _ _ _ _ _ _ h.Vg).trans (by match k,hk with|0,_=>rfl|1,_=>rfl|2,_=>rfl),Fr _ _ _ _ _ h.Vg⟩
theorem qo {base n c A l} (h:ah Wi base A n c l) (hb:g+2≤base) (k j v u):ah ((Wi.setCell ⟨g,k,none⟩ v).setCell ⟨g+1,j,none⟩ u) base A n c l:=by
 have hl:=ae h;have h1:ah (Wi.setCell ⟨g,k,none⟩ v) base A n c l:=aS h (fun p hp e=>by have:=(hl p hp).1;omega);exact aS h1 (fun p hp e=>by have:=(hl p hp).1;omega)
end
namespace En
open Cs (fI In lens tK)
theorem Uf:∀(b) (i),∀x∈all i b,x.1<i+b.length
 |[],_,x,h=>by simp[all]at h
 |s::b,i,x,h=>by
  rw[all,gY]at h;rcases h with h|h
  ·obtain⟨c,_,rfl⟩:=dV.1 h;simp
  ·have:=Uf b (i+1) x h;simp only[Lc];omega
theorem Xx {a b} (h:a<+:b):(dat a).length≤(dat b).length:=by
 obtain⟨t,rfl⟩:=h;rw[rU,La];omega
theorem Xy {a b} (h:a<+:b) (i):(cnt a i).length≤(cnt b i).length:=by
 obtain⟨t,rfl⟩:=h;rw[oG,La];omega
theorem Ug (pre i L):(fun j=>if j=i then cnt pre i++[(L.length:Int)]else cnt pre j)=cnt (pre++[(i,L)]):=by
 funext j
 rw[oG];by_cases e:j=i
 ·subst e;rw[Ps0 rfl,Wv]
 ·rw[Ng e,Sl (fun q=>e q.symm),Bh]
end En
namespace Bk
open Cs (fI In lens tK)
theorem zO {b s} (h:s∈b):s.2.length≤bu b:=by
 induction b with
 |nil=>cases h
 |cons t b ih=>
  have e:bu (t::b)=t.2.length+bu b:=by simp[bu]
  rw[e];rcases iW.1 h with rfl|h
  ·omega
  ·have:=ih h;omega
theorem Ik (s):(lens s).length=Ck.oO s.length:=by unfold lens;rw[fM,Ck.uB,fM,CR]
theorem aaS {α:Type} (f:α→Nat) {l:List α} {x} (h:x∈l):f x≤(l.map f).sum:=by
 induction l with
 |nil=>cases h
 |cons y l ih=>
  simp only[AJ,Bv];rcases iW.1 h with rfl|h
  ·omega
  ·have:=ih h;omega
structure Ok (b:gN):Prop where
 bN:bN b=0
 inn:∀s∈b,In s.2
 wt:Ps.wt (sets b)≤500000
 dat:(dat b).length≤10000000
 rcl:∀T,Sy.gH (Ps.strs (Bk.sets b)) T→(Rc.aM T (mo b)).length≤10000000
 sec:∀T E,Of b T E→∀i,i<4→(D4 T E b i).length≤10000000
theorem Ok.bu {b:gN} (h:Ok b):bu b≤16777216:=(dB h.bN).2.1
theorem Ok.fit {b} (h:Ok b):∀s∈b,Lb.Fit s.1:=fun s hs=>((kU h.bN (by have:=h.wt;omega)).1 s.1 (dV.2 ⟨s,hs,rfl⟩)).2
theorem Ok.len {b} (h:Ok b):b.length≤500000:=Lt YG h.wt
theorem Ok.sets {b:gN} (h:Ok b):Ps.Sets (sets b):=kU h.bN (by have:=h.wt;omega)
theorem Ok.tab {b T} (h:Ok b) (ht:Sy.gH (Ps.strs (Bk.sets b)) T):T.length≤1000000:=by
 have h1:=Sy.gH.len ht;have h2:=Ps.oC (Bk.sets b);have:=h.wt;omega
theorem Ok.encS {b T} (h:Ok b) (ht:Sy.gH (Ps.strs (Bk.sets b)) T):Sy.enc T=(Sy.aM T,0):=by
 unfold Sy.enc;rw[Sy.mY.2 (Sy.gH.size ht (iM h.bN)),Ng Ah,Ps0 (Sy.Q8.2 ht.1)]
theorem Ok.szT {b T} (h:Ok b) (ht:Sy.gH (Ps.strs (Bk.sets b)) T):∀s∈T,s.size≤maxLen:=fun s hs=>by
 have:=Sy.gH.size ht (iM h.bN) s hs;unfold maxLen;omega
theorem Ok.encR {b T} (h:Ok b) (ht:Sy.gH (Ps.strs (Bk.sets b)) T):Rc.enc T (mo b)=(Rc.aM T (mo b),0):=by
 unfold Rc.enc;rw[Ps0 (show Rc.err T (mo b)=0 from Rc.Q6 (YF h.bN (by have:=h.wt;omega) ht))]
theorem Ok.cnt {b} (h:Ok b) (i) (hi:i<b.length):(En.cnt (En.all 0 b) i).length≤1000000:=by
 have h3:=En.rV b 0 i hi;rw[bO]at h3;have h1:=zO (dR hi);have h2:=h.bu;rw[h3,fM,Ik];unfold Ck.oO;omega
theorem Of.NL {b T E} (ho:Of b T E):Pe.enc T E=(Pe.aM T E,0):=by
 unfold Pe.enc;rw[Ps0 (Ef.2 (Ps.Ma ho.2 ho.1))]
theorem Uh (b i) (h:i< (mo b).length) (h':i<b.length):(mo b)[i]=(b[i].1,En.cnt (En.all 0 b) i):=by
 have:=En.rV b 0 i h';rw[bO]at this;rw[this];unfold mo Wm;simp[Rc.bY]
theorem uY (b):(mo b).length=b.length:=by unfold mo Wm;simp
theorem Ok.rcL {b} (h:Ok b):∀r∈mo b,r.1.length≤1000000∧r.2.length≤1000000:=fun r hr=>by
 obtain⟨i,hi,rfl⟩:=iC.1 hr;have hi':i<b.length:=by rw[←uY];exact hi
 rw[Uh b i hi hi'];have h1:=zO (dR hi');have h2:=h.bu;have h3:=En.rV b 0 i hi';rw[bO]at h3;have h4:=h.wt;have h5:b[i].1.length≤Ps.wt (Bk.sets b):=by
  have:b[i].1∈Bk.sets b:=dV.2 ⟨_,dR hi',rfl⟩;have:=aaS (fun m:List aU=>1+m.length) this;unfold Ps.wt;omega
 refine⟨by show b[i].1.length≤_;omega,?_⟩;show(En.cnt (En.all 0 b) i).length≤_;rw[h3,fM,Ik];unfold Ck.oO;omega
theorem Ok.adE {b E} (h:Ok b) (hi:Ps.zl (Ps.gT (Bk.sets b) 0) E):E.length≤1000000∧∀e∈E,e.2.length≤1000000∧Pe.Up 0 e.2:=
 ⟨(Ps.uy h.sets hi).1,fun e he=>⟨(Ps.uy h.sets hi).2 e he,Ps.L8 h.sets hi e he⟩⟩
end Bk
section
attribute [local go_sem] Oper.semAt_some
theorem Rd.noc {w w' sz n c A xs row} (h:Rd w w.heap.size sz A n c xs) (hg:w.grownBy w' row) (hr:∀r,row=some r→∃o:Obj,w.heap[r]? =some o∧o.isCells=false):Rd w' w'.heap.size sz A n c xs:=by
 obtain⟨h1,h2,h3,h4⟩:=h;refine⟨h1,h2,h3,fun hn=>?_⟩;obtain⟨b,off,e,hb,hc⟩:=h4 hn;refine⟨b,off,e,jE hb hg.size,fun i u hu=>?_⟩;have hcu:=hc i u hu;refine(AU (a:=⟨b,off+i,none⟩) (hg.block b hb (fun q=>?_))).trans hcu;obtain⟨o,ho,hoc⟩:=hr b q.symm;unfold World.cell? at hcu;cases o<;>simp_all [Obj.isCells]
theorem Boxed.aX {w w' bx t v} (h:Boxed w bx t v) (hb:Below w.heap.size w w'):Boxed w' bx t v:=(hb.block _ (Ge.1 h).1).trans h
def ahh (w:World) (b:Bk.gN) (e:Ending) (w':World):Prop:=
 ∃V T E,e= .returned (.tuple #[.agg (Ly.jl V),.int .i64 0])∧Bk.Of b T E∧Four w' w'.heap.size V (Bk.D4 T E b)∧Below w.heap.size w w'
theorem Ui (A n c b w) (hv:fK w w.heap.size A n c b) (hb:Bk.Ok b) (hG:Gl w):
  Calls prog 41 #[.slice A n c] w (ahh w b):=by
 have hmf:∀(fn:Fn) (first cap:Array Value) (w:World),(Instr.makeFunc fn first cap).run prog w= .ok (.func fn first cap) w:=fun _ _ _ _=>rfl
 obtain⟨hlc,hcm⟩:=hv.cap;unfold maxLen at hcm;have hn:=hv.len;have hnb:n≤500000:=by rw[hn];exact hb.len
 obtain⟨hs,hrd,Xz,hhe⟩:=hv;have hHD:HdK w w.heap.size b hs:=⟨Xz,hhe⟩
 obtain⟨W0,hW0⟩:∃W0,W0=w.alloc (.cells #[.slice none 0 0,.slice none 0 0,.slice none 0 0,.slice none 0 0] 76):=⟨_,rfl⟩
 have hz0:W0.heap.size=w.heap.size+1:=by rw[hW0];simp
 have hb0:Below w.heap.size w W0:=by rw[hW0];exact(Ae _ w).alloc Aj _
 have hg0:W0.heap[w.heap.size]? =some (.cells #[.slice none 0 0,.slice none 0 0,.slice none 0 0,.slice none 0 0] 76 (0,0)):=by rw[hW0];exact Aw w _
 have hk0:fK W0 w.heap.size A n c b:=fK.below ⟨hs,hrd,Xz,hhe⟩ hb0;have CK:=Al (tV A n c w.heap.size b W0 hk0 om (by have:=hb.bu;omega) hb.fit);rw[hb.bN]at CK;have HW0:=Al hW0.symm;have HN:=Al hn;have HB:=Al hb;have HG:=Al hG;have HRD:=Al hrd;have YP:=Al hHD;have B0:=Al hb0;have G0:=Al hg0;have Z0:=Al hz0;clear hW0 hn hb hG hrd hHD Xz hhe hb0 hg0 hz0 hk0;refine(Bu (n:=9)).1 ?_;refine CG func41 rfl trivial ?_ rfl;simp only[ntmps41,Cq,Lc,Ba,Nat.reduceAdd,Nat.reduceSub,Cv,Cx,Da,CJ,AB,Bc];refine BM.2 ?_;go_upto_region 1 with fail;rw[HW0.1];go_upto_region 5 with(go_at_call 17;refine CK.1.mono ?_;rintro e w1 ⟨rfl,g1⟩;have B1:=Al g1.below;clear g1 CK)
 have mR:=fun W=>Pg n om W
 have mL:=fun W=>Ue n om W
 go_upto_region 8 with fail;obtain⟨W4,IG⟩:∃W4,W4=(((w1.alloc (.cells #[.slice none 0 0] 22)).alloc (.cells (madeCells #[cZ,cZ] (n*2)) qj)).alloc (.cells #[.slice (some ⟨w1.heap.size+1,0,none⟩) n n] 138)).alloc (.cells (madeCells #[cZ] n) 54):=⟨_,rfl⟩
 have z1:Kept (w.heap.size<w1.heap.size):=⟨by have:=B1.1.size;have:=Z0.1;omega⟩
 have z4:Kept (W4.heap.size=w1.heap.size+4):=⟨by rw[IG];simp⟩
 have b4:Kept (Below w1.heap.size w1 W4):=⟨by rw[IG];exact((((Ae _ w1).alloc Aj _).alloc Ah _).alloc (by simp;omega) _).alloc (by simp;omega) _⟩
 have hd4:Kept (Boxed W4 w1.heap.size 22 cZ):=⟨by rw[IG];exact(((Bo w1 _ _).alloc _).alloc _).alloc _⟩
 have hl4:Kept (Boxed W4 (w1.heap.size+1+1) 138 (.slice (some ⟨w1.heap.size+1,0,none⟩) n n)):=⟨by
  rw[IG];have:=Bo ((w1.alloc (.cells #[.slice none 0 0] 22)).alloc (.cells (madeCells #[cZ,cZ] (n*2)) qj)) 138 (.slice (some ⟨w1.heap.size+1,0,none⟩) n n);simp only[AV]at this;exact Boxed.alloc this _⟩
 have hf4:Kept (zN W4 (w1.heap.size+1) (w1.heap.size+1+1+1) n 0 hs):=⟨by
  rw[IG];exact zN.made w1 n hs _ _⟩
 have bw4:Kept (Below w.heap.size w W4):=⟨B0.1.trans ((B1.1.mono (by have:=Z0.1;omega)).trans (b4.1.mono (by have:=z1.1;omega)))⟩
 have gr4:Kept (W4.heap[w.heap.size]? =some (.cells #[.slice none 0 0,.slice none 0 0,.slice none 0 0,.slice none 0 0] 76 (0,0))):=⟨((b4.1.block _ z1.1).trans (B1.1.block _ (by have:=Z0.1;omega))).trans G0.1⟩
 rw[←IG];obtain⟨gd,hgd⟩:∃gd,gd=w1.heap.size:=⟨_,rfl⟩
 obtain⟨p,hp⟩:∃p,p=gd+1:=⟨_,rfl⟩
 obtain⟨gl,hgl⟩:∃gl,gl=gd+1+1:=⟨_,rfl⟩
 obtain⟨q,hq⟩:∃q,q=gd+1+1+1:=⟨_,rfl⟩
 rw[←hgd]at z1 z4 hd4 hl4 hf4⊢;rw[←hgl,←hp]at hl4;rw[←hq,←hp]at hf4;rw[←hq,←hgl,←hp];have E1:=Al hp;have E2:=Al hgl;have E3:=Al hq;clear IG hgd hp hgl hq b4 B1 mR mL;go_loopw [32] (fun i wr=>∃k:Nat,k≤n∧i= .int .i64 k∧Kept (zN wr p q n k hs)∧Kept (Boxed wr gd 22 cZ)∧Kept (Boxed wr gl 138 (.slice (some ⟨p,0,none⟩) n n))∧Kept (Below w.heap.size w wr)∧
  Kept (wr.heap[w.heap.size]? =some (.cells #[.slice none 0 0,.slice none 0 0,.slice none 0 0,.slice none 0 0] 76 (0,0)))) (fun i _=>n-(intOf i).toNat)
 case atStart=>exact⟨0,bf _,rfl,hf4,hd4,hl4,bw4,gr4⟩
 case round=>
  clear hf4 hd4 hl4 bw4 gr4 z4;obtain⟨k,hk,rfl,hf,hd,hl,hbw,hgr⟩:=hrel;by_cases hlt:k<n
  ·have hkh:k<hs.length:=by rw[YP.1.1,←HN.1];exact hlt
   have hkb:k<b.length:=by rw[←HN.1];exact hlt
   obtain⟨A1,n1,c1,A2,n2,c2,he,-,-⟩:=YP.1.2 k hkh hkb;obtain⟨b0,off,rfl,ni,hc⟩:=HRD.1.2.2.2 om;obtain⟨g1,g2⟩:=bR hs k hkh;rw[he]at g1 g2;have hls:Kept (vE hs k= .slice A1 n1 c1):=⟨by rw[Kj hkh,he]⟩
   have r0:=(hbw.1.cell (p:=⟨b0,off+k*2,none⟩) (by show b0<_;exact ni)).trans (hc _ _ g1);have r1:=(hbw.1.cell (p:=⟨b0,off+(k*2+1),none⟩) (by show b0<_;exact ni)).trans (hc _ _ g2);rw[←iw]at r1;have hb5:=hbw.1.alloc hbw.1.size (.cells #[.slice A1 n1 c1,.slice A2 n2 c2] 57);have al5:=(Ae wr.heap.size wr).alloc Aj (.cells #[.slice A1 n1 c1,.slice A2 n2 c2] 57);have hf5:=hf.1.below al5;have hd5:=hd.1.alloc (.cells #[.slice A1 n1 c1,.slice A2 n2 c2] 57);have hl5:=hl.1.alloc (.cells #[.slice A1 n1 c1,.slice A2 n2 c2] 57);have hgr5:=(al5.block w.heap.size (by have:=hf.1.lt.1;have:=E1.1;have:=z1.1;omega)).trans hgr.1;have hx5:=Aw wr (.cells #[.slice A1 n1 c1,.slice A2 n2 c2] 57);obtain⟨x5,hxe⟩:∃x,x=wr.heap.size:=⟨_,rfl⟩
   rw[←hxe]at hx5;have hxp:Kept (p<x5∧q<x5∧gl<x5∧gd<x5):=⟨by have h1:=hf.1.lt;have h3:=E1.1;have h4:=E2.1;have h5:=E3.1;omega⟩
   clear hf hd hl hbw hgr hc g1 g2 he ni al5 hkh hkb;go_wp2_with fail;rw[←hxe];clear hxe;generalize wr.alloc (.cells #[.slice A1 n1 c1,.slice A2 n2 c2] 57)=W5 at*;obtain⟨⟨v1,y1⟩,y2,⟨v2,y3⟩,y4⟩:=hf5.cells hlt;have adF:=hf5.ne;have s0:=Co _ _ 0 _ _ _ hx5;have s0':W5.cell? ⟨x5,0,none⟩=some (.slice A1 n1 c1):=s0;have l0:=hl5.cell;have S1:(W5.setCell ⟨p,k*2,none⟩ (.slice A1 n1 c1)).cell? ⟨gl,0,none⟩=some (.slice (some ⟨p,0,none⟩) n n):=(AO _ _ _ _ (by intro h;have:=congrArg Addr.block h;simp only[]at this;have:=E1.1;have:=E2.1;omega)).trans l0;have S2:(W5.setCell ⟨p,k*2,none⟩ (.slice A1 n1 c1)).cell? ⟨x5,0,none⟩=some (.slice A1 n1 c1):=(AO _ _ _ _ (by intro h;have:=congrArg Addr.block h;simp only[]at this;have:=hxp.1.1;omega)).trans s0';have S3:(W5.setCell ⟨p,k*2,none⟩ (.slice A1 n1 c1)).cell? ⟨q,k,none⟩=some v2:=(AO _ _ _ _ (by intro h;have:=congrArg Addr.block h;simp only[]at this;omega)).trans y3;have T1:((W5.setCell ⟨p,k*2,none⟩ (.slice A1 n1 c1)).setCell ⟨q,k,none⟩ (.slice A1 n1 c1)).cell? ⟨gl,0,none⟩=some (.slice (some ⟨p,0,none⟩) n n):=(AO _ _ _ _ (by intro h;have:=congrArg Addr.block h;simp only[]at this;have:=E3.1;have:=E2.1;omega)).trans S1;have T2:((W5.setCell ⟨p,k*2,none⟩ (.slice A1 n1 c1)).setCell ⟨q,k,none⟩ (.slice A1 n1 c1)).cell? ⟨x5,0,none⟩=some (.slice A1 n1 c1):=(AO _ _ _ _ (by intro h;have:=congrArg Addr.block h;simp only[]at this;have:=hxp.1.2.1;omega)).trans S2;have PUT:=Al (hf5.put hlt);rw[hls.1]at PUT;have gp1:=av W5 ⟨p,k*2,none⟩ (.slice A1 n1 c1);have gp2:=av (W5.setCell ⟨p,k*2,none⟩ (.slice A1 n1 c1)) ⟨q,k,none⟩ (.slice A1 n1 c1);have HD6:Kept (Boxed ((W5.setCell ⟨p,k*2,none⟩ (.slice A1 n1 c1)).setCell ⟨q,k,none⟩ (.slice A1 n1 c1)) gd 22 cZ):=⟨(hd5.kept gp1 (fun e=>by have:=Oj e;simp only[]at this;have:=E1.1;omega)).kept gp2 (fun e=>by have:=Oj e;simp only[]at this;have:=E3.1;omega)⟩
   have HL6:Kept (Boxed ((W5.setCell ⟨p,k*2,none⟩ (.slice A1 n1 c1)).setCell ⟨q,k,none⟩ (.slice A1 n1 c1)) gl 138 (.slice (some ⟨p,0,none⟩) n n)):=⟨(hl5.kept gp1 (fun e=>by have:=Oj e;simp only[]at this;have:=E1.1;have:=E2.1;omega)).kept gp2 (fun e=>by have:=Oj e;simp only[]at this;have:=E3.1;have:=E2.1;omega)⟩
   have HB6:Kept (Below w.heap.size w ((W5.setCell ⟨p,k*2,none⟩ (.slice A1 n1 c1)).setCell ⟨q,k,none⟩ (.slice A1 n1 c1))):=⟨(hb5.grown gp1 hb5.size (fun r e=>by have e2:=Oj e;simp only[]at e2;have:=E1.1;have:=z1.1;omega)).grown gp2 (by have:=hb5.size;have:=gp1.size;omega) (fun r e=>by have e2:=Oj e;simp only[]at e2;have:=E3.1;have:=z1.1;omega)⟩
   have HG6:Kept (((W5.setCell ⟨p,k*2,none⟩ (.slice A1 n1 c1)).setCell ⟨q,k,none⟩ (.slice A1 n1 c1)).heap[w.heap.size]? =some (.cells #[.slice none 0 0,.slice none 0 0,.slice none 0 0,.slice none 0 0] 76 (0,0))):=⟨by
    rw[AQ _ _ _ _ (by have:=E3.1;have:=z1.1;show w.heap.size≠q;omega),AQ _ _ _ _ (by have:=E1.1;have:=z1.1;show w.heap.size≠p;omega)];exact hgr5⟩
   have hnq:=Al adF;clear hf5 hd5 hl5 hb5 hgr5 hx5 s0 gp1 gp2 hls adF;go_region_held3 (fun w'=>w'.cell? ⟨gl,0,none⟩=some (.slice (some ⟨p,0,none⟩) n n)∧w'.cell? ⟨x5,0,none⟩=some (.slice A1 n1 c1)) (first|exact⟨l0,s0'⟩|exact⟨S1,S2⟩|exact⟨T1,T2⟩) (fail)
   all_goals
    go_wp2;go_roundw
    case rel=>exact⟨k+1,om,by go_num,⟨⟨PUT.1.rp,PUT.1.rq⟩⟩,HD6,HL6,⟨⟨HB6.1.os,HB6.1.tape,HB6.1.output,HB6.1.size,HB6.1.block⟩⟩,HG6⟩
    case measure=>simp[intOf];try omega
  ·obtain rfl:k=n:=by omega
   obtain⟨fv,hfv⟩:∃fv,fv=Value.func (.func 83) #[] #[.pointer (some ⟨gd,0,none⟩),.pointer (some ⟨gl,0,none⟩)]:=⟨_,rfl⟩
   obtain⟨W7,hW7⟩:∃W7,W7=wr.alloc (.cells #[fv] 171):=⟨_,rfl⟩
   obtain⟨W8,hW8⟩:∃W8,W8=W7.alloc (.cells #[.slice A k c] 24):=⟨_,rfl⟩
   have a7:Below wr.heap.size wr W7:=by rw[hW7];exact(Ae _ _).alloc Aj _
   have a8:Below W7.heap.size W7 W8:=by rw[hW8];exact(Ae _ _).alloc Aj _
   have z7:W7.heap.size=wr.heap.size+1:=by rw[hW7];simp
   have z8:W8.heap.size=wr.heap.size+2:=by rw[hW8,AV,z7]
   have a78:=a7.trans (a8.mono a7.size);have Ph:=Al (hbw.1.trans (a78.mono hbw.1.size));have HF8:=Al (hf.1.below a78);have HE8:=Al ((hf.1.es (base:=w.heap.size) hd.1 hl.1).below a78);have Fx:Kept (Boxed W8 wr.heap.size 171 fv):=⟨by rw[hW8,hW7];exact Boxed.alloc (Bo wr _ _) _⟩
   have hbx:Kept (Boxed W8 (wr.heap.size+1) 24 (.slice A k c)):=⟨by rw[hW8,←z7];exact Bo W7 _ _⟩
   have adI:=Al ((a78.block w.heap.size (by have:=hf.1.lt.1;have:=E1.1;have:=z1.1;omega)).trans hgr.1);have HW7:=Al hW7.symm;have HW8:=Al hW8.symm;have rf:Kept (w.heap.size<wr.heap.size):=⟨by have:=hf.1.lt.1;have:=E1.1;have:=z1.1;omega⟩
   have adJ:=Al (fK.below ⟨hs,HRD.1,YP.1.1,YP.1.2⟩ Ph.1);obtain⟨fb,amx⟩:∃fb,fb=wr.heap.size:=⟨_,rfl⟩
   clear a7 a8 a78 hf hd hl hbw hgr hW7 hW8 hlt hk;go_wp2_with (go_at_call 84;rw[←hfv,HW7.1];refine(Hz _ _ _ _).mono ?_;rintro e w8 ⟨rfl,hw8⟩;rw[HW8.1]at hw8;subst hw8;clear HW8 HW7);have amy:=HB.1.bu;have hbs:w.heap.size≤w8.heap.size:=Ph.1.size;have ahk:Kept (w.heap.size<w8.heap.size):=⟨by have h:=(Ge.1 hbx.1).1;have:=rf.1;omega⟩
   refine(BM (n:=9)).1 ?_;refine wO Ai (gf:=138) (lb:= #[.pointer (some ⟨wr.heap.size+1,0,none⟩)]) rfl (BR func138 kr rfl)
    (En:=EnR) (O:=fun _=>False) (Kp:=iV w.heap.size) (L:=En.all 0 b)
    (by rintro r h;exact h.elim) (fun h k=>h.trans k) (fun W W' row hW hg hr=>iV.noc om hg (fun r e=>⟨by have:=(hr r e).1;omega,(hr r e).2⟩)) (fun x args W h=>by obtain⟨_,_,_,rfl,_⟩:=h;rfl)
    (fun pre W=>Es w.heap.size gd gl p k (vE hs) (En.dat pre) (En.cnt pre) W∧iV w.heap.size w8 W) (fun _ _ _=>False)
    (fun pre x a₁ W=>(Es w.heap.size gd gl p k (vE hs) (En.dat pre) (En.cnt pre) W∧iV w.heap.size w8 W)∧∃A7 n7 c7,a₁={tmps:= #[Value.slice A k c,undef,Value.pointer (some {block:=w.heap.size,off:=0}),Value.int IntKind.i64 0,Value.int IntKind.i64 0,Value.pointer (some {block:=gd,off:=0}),Value.pointer (some {block:=gl,off:=0}),Value.slice (some {block:=q,off:=0}) k k,u8,u9,Value.pointer (some {block:=wr.heap.size,off:=0}),Value.int IntKind.i64 (x.1:Int),Value.slice A7 n7 c7,undef,undef,undef,undef,undef,Value.slice A k c,Value.int IntKind.i64 0,Value.int IntKind.i64 0,Value.bool false,undef,undef,Value.slice A k c,Value.int IntKind.i64 (k:Int),Value.slice (some {block:=p,off:=0}) k k,Value.slice A k c,Value.int IntKind.i64 (k:Int),Value.slice (some {block:=q,off:=0}) k k,Value.slice A k c,Value.int IntKind.i64 (k:Int),Value.int IntKind.i64 (k:Int),Value.bool false,u34,u35,u36,u37,u38,u39,u40,u41,u42,u43,u44,u45,u46,u47,u48,Value.func (Fn.func 83) #[] #[Value.pointer (some {block:=gd,off:=0}),Value.pointer (some {block:=gl,off:=0})],Value.slice A k c,Value.func (Fn.func 138) #[] #[Value.pointer (some {block:=wr.heap.size+1,off:=0})],Value.int IntKind.i64 (x.1:Int),Value.slice A7 n7 c7,undef,undef,undef,undef,undef,undef,undef,undef,undef,undef,undef,undef,undef,undef,undef,undef,undef,undef,undef,undef,undef,undef,undef,undef,undef,undef,undef,undef,undef,undef,undef,undef,undef,undef,undef,undef,undef,undef,undef,undef,undef,undef],defers:=[]}∧aY W W.heap.size A7 n7 c7 x.2)
    (wL 8 (wr.heap.size+1) w.heap.size k c A b w8 w _ hbx.1 adJ.1 hbs HB.1.inn (fun s hs=>by have:=Bk.zO hs;omega) HG.1 rfl Ph.1 (fun pre W ⟨_,h⟩=>h))
    ?hI (fun _ _ _ _ _ h _ _=>h) ?hM ?h0 ?assign ?body ?done ?stop
   case hI=>
    rintro pre W W' row ⟨h1,h2⟩ hg hr;have hr':∀r,row=some r→w8.heap.size≤r∧∃o:Obj,W.heap[r]? =some o∧o.isCells=false:=fun r e=>(hr r e).resolve_left id
    exact⟨h1.kept hg (fun r e=>(hr' r e).2),h2.trans (iV.noc (by have:=h2.1.size;omega) hg (fun r e=>⟨by have:=(hr' r e).1;omega,(hr' r e).2⟩))⟩
   case hM=>
    rintro pre x a₁ u W W' row ⟨⟨h1,h2⟩,A7,n7,c7,ha,Nn⟩ hg hr;have hr':∀r,row=some r→w8.heap.size≤r∧∃o:Obj,W.heap[r]? =some o∧o.isCells=false:=fun r e=>(hr r e).resolve_left id
    exact⟨⟨h1.kept hg (fun r e=>(hr' r e).2),h2.trans (iV.noc (by have:=h2.1.size;omega) hg (fun r e=>⟨by have:=(hr' r e).1;omega,(hr' r e).2⟩))⟩,A7,n7,c7,ha,Rd.noc Nn hg (fun r e=>(hr' r e).2)⟩
   case h0=>exact⟨HE8.1,iV.refl _ _⟩
   case assign=>
    rintro lp pre x args W hI ⟨A7,n7,c7,rfl,Nn⟩ hpre hW
    gi_wp2
    exact⟨⟨Nr _,fun _ _ _ h _=>h⟩,iV.refl _ _,hI,A7,n7,c7,Ah,Nn⟩
   case body=>
    rintro lp pre x a₁ W ⟨⟨h1,h2⟩,A7,n7,c7,rfl,Nn⟩ hpre hW;have hxl:=En.Uf b 0 x (hpre.subset Ah);rw[bO]at hxl;have ahl:=(h2.box Fx.1 (by unfold zZ;simp)).cell;rw[hfv]at ahl;have hd1:=En.Xx hpre;rw[En.zx,En.rU,La]at hd1;have Na:En.dat [x]=x.2:=En.Wu x.1 x.2;rw[Na]at hd1;have hc1:=En.Xy (List.IsPrefix.trans ⟨[x],rfl⟩ hpre) x.1;have hc2:=HB.1.cnt x.1 hxl;have hdl:=HB.1.dat;have AD:=Al (CallsIn.inRound lp (Bu (n:=6).2 (Xv w.heap.size gd gl p k x.1 n7 c7 (vE hs) (En.dat pre) x.2 (En.cnt pre) A7 W h1 (by rw[HN.1];exact hxl) om Nn om om (by have:=z1.1;omega) (by have:=z1.1;have:=E1.1;omega))));have HC:=Al (En.Ug pre x.1 x.2);have HD:Kept (En.dat (pre++[x])=En.dat pre++x.2):=⟨by rw[En.rU,Na]⟩
    have H2:=Al h2;clear h1 h2 Nn hd1 Na hc1 hc2 hdl hxl
    gi_wp2_with (refine⟨trivial,AD.1.mono ?_⟩;rintro e w4 ⟨⟨v,rfl⟩,q1,q2,q3⟩;have Q1:=Al q1;have Q2:=Al q2;have Q3:=Al q3;clear q1 q2 q3)
    have q1:=Q1.1;rw[HC.1,←HD.1]at q1;exact⟨Q3.1.from _,Q2.1,q1,H2.1.trans Q2.1⟩
   case done=>
    rintro D W hD ⟨hE,hK⟩ hKD;have hkw:=Ph.1.trans hK.1;have hrq:∃cs:Array Value,W.heap[q]? =some (.cells cs 54 (0,0))∧cs.size=k∧∀i,i<k→cs[i]? =some (if i<k then vE hs i else cZ):=by
     obtain⟨cs,q1,q2,q3⟩:=HF8.1.rq;exact⟨cs,hK.2 _ _ _ _ (by unfold zZ;simp) q1,q2,q3⟩
    have hzw:w.heap.size≤W.heap.size:=hkw.size;have hkm:k≤maxLen:=by unfold maxLen;omega
    have RL:=Al (Xw hrq (YP.1.below hkw) hzw HN.1 hkm);have RK:=Al (fK.below ⟨hs,HRD.1,YP.1.1,YP.1.2⟩ hkw);have RR:=Al (hE.rdR (rs:=Bk.mo b) (YP.1.below hkw) hzw HN.1 hkm (Bk.uY b) (fun i a a'=>Bk.Uh b i a a'));have ahn:=Al (hK.2 _ _ _ _ (by unfold zZ;simp) adI.1);have BX:=Al hE.box;obtain⟨Ad,md,cd,hd1,hd2⟩:=hE.dat;rw[En.zx]at hd2;have BD:=Al hd1;have OD:=Al hd2;have HK:=Al hkw;have HKD:=Al hKD;have HSY:=Al (zL A k c w.heap.size b W RK.1 hzw HB.1.wt);have HDz:Kept (D<W.heap.size):=⟨(Ge.1 hKD).1⟩
    have hDw:Kept (w.heap.size≤D):=⟨om⟩
    have aaV:Kept (w.heap.size<D):=⟨by have:=Ph.1.size;have:=ahk.1;omega⟩
    clear hE hK hrq adI HE8 HF8 adJ hbx Fx Ph hKD hd1 hd2 hkw;go_upto_region 20 with(go_at_call 85;refine HSY.1.mono ?_;rintro e w17 ⟨A2,n2,c2,T,rfl,ht,hT,Uj⟩;have HT:=Al ht;have RT:=Al hT;have B17:=Al Uj;clear ht hT Uj HSY)
    obtain⟨g,hg⟩:∃g,g=w17.heap.size:=⟨_,rfl⟩
    have adK:Ec W ((w17.alloc (.cells #[.slice none 0 0,.slice none 0 0,.slice none 0 0,.slice none 0 0] 76)).alloc (.cells #[.int .i64 0,.int .i64 0,.int .i64 0] 176)) g #[.slice none 0 0,.slice none 0 0,.slice none 0 0,.slice none 0 0]:=by
     have h1:=B17.1.size;refine⟨(B17.1.alloc h1 _).alloc (by simp;omega) _,om,?_,?_⟩
     ·rw[hg,Ay _ _ _ Ah];exact AL w17 _
     ·have:=AL (w17.alloc (.cells #[.slice none 0 0,.slice none 0 0,.slice none 0 0,.slice none 0 0] 76)) (.cells #[.int .i64 0,.int .i64 0,.int .i64 0] 176);simp only[AV]at this;rw[hg];exact this
    have XA:bM ((w17.alloc (.cells #[.slice none 0 0,.slice none 0 0,.slice none 0 0,.slice none 0 0] 76)).alloc (.cells #[.int .i64 0,.int .i64 0,.int .i64 0] 176)) g A2 n2 c2 T:=by
     rw[hg];exact bM.below RT.1 (((Ae _ w17).alloc Aj _).alloc Ah _)
    have HGZ:=Al hg;rw[←hg];clear hg RT B17;generalize (w17.alloc (.cells #[.slice none 0 0,.slice none 0 0,.slice none 0 0,.slice none 0 0] 76)).alloc (.cells #[.int .i64 0,.int .i64 0,.int .i64 0] 176)=Pj at*;have E19:=Al adK;have T19:=Al XA;have hn2:n2≤1000000:=by rw[XA.len];exact HB.1.tab HT.1
    have hgl:=E19.1.lt;have YQ:Kept (g+2≤Pj.heap.size):=⟨hgl⟩
    have S20:=Al (FV A2 n2 c2 T Pj (bM.more XA om) (HB.1.szT HT.1) hn2);rw[HB.1.encS HT.1]at S20;clear adK XA;go_upto_region 21 with(go_at_call 86;refine S20.1.mono ?_;rintro e w20 ⟨A3,n3,c3,rfl,o3,b20⟩;have E20:=Al (E19.1.below b20);have B20:=Al b20;have O3:=Al o3;have T20:=Al (bM.below T19.1 (b20.mono om));obtain⟨k1,k2⟩:=E20.1.c1 0;obtain⟨k3,k4⟩:=(E20.1.Kk 0 (.slice A3 n3 c3)).c2 0 om;clear o3 b20 S20)
    have E21:=Al ((E20.1.Kk 0 (.slice A3 n3 c3)).wG 0 om);have O31:=Al (qo O3.1 YQ.1 0 0 (.slice A3 n3 c3) (.int .i64 0));have T21:Kept (bM ((w20.setCell ⟨g,0,none⟩ (.slice A3 n3 c3)).setCell ⟨g+1,0,none⟩ (.int .i64 0)) g A2 n2 c2 T):=⟨bM.below T20.1 (((Ae _ w20).setCell (p:=⟨g,0,none⟩) Aj _).setCell (p:=⟨g+1,0,none⟩) (by show g≤g+1;omega) _)⟩
    clear k1 k2 k3 k4 T20 O3 E20 T19 E19;have aaX:Pj.heap.size≤((w20.setCell ⟨g,0,none⟩ (.slice A3 n3 c3)).setCell ⟨g+1,0,none⟩ (.int .i64 0)).heap.size:=by simp[World.setCell];exact B20.1.size
    generalize (w20.setCell ⟨g,0,none⟩ (.slice A3 n3 c3)).setCell ⟨g+1,0,none⟩ (.int .i64 0)=W21 at*;have z21:=E21.1.lt;have b21:=E21.1.aX.size;have x21:=(Boxed.aX BX.1 E21.1.aX).cell;have adL:Kept (Pj.heap.size≤W21.heap.size):=⟨aaX⟩
    have S21:=Al (FJ A2 (some ⟨p,0,none⟩) n2 c2 k k T (Bk.mo b) W21 (bM.more T21.1 om) HT.1.1 ((RR.1.below E21.1.aX).more b21) hn2 om HB.1.rcL (by have:=HB.1.rcl T HT.1;omega));rw[HB.1.encR HT.1]at S21;go_upto_region 22 with(go_at_call 87;refine S21.1.mono ?_;rintro e w21 ⟨A4,n4,c4,rfl,o4,b22⟩;have E22:=Al (E21.1.below b22);have B22:=Al b22;have O4:=Al o4;have O32:Kept (ah w21 Pj.heap.size A3 n3 c3 (Sy.aM T)):=⟨aQ O31.1 b22⟩;have T22:=Al (bM.below T21.1 (b22.mono om));obtain⟨k1,k2⟩:=E22.1.c1 1;obtain⟨k3,k4⟩:=(E22.1.Kk 1 (.slice A4 n4 c4)).c2 1 om;clear o4 b22 S21)
    have E23:=Al ((E22.1.Kk 1 (.slice A4 n4 c4)).wG 1 om);have O33:=Al (qo O32.1 YQ.1 1 1 (.slice A4 n4 c4) (.int .i64 0));have O41:=Al (qo (ah.base O4.1 (adL.1)) YQ.1 1 1 (.slice A4 n4 c4) (.int .i64 0));have T23:Kept (bM ((w21.setCell ⟨g,1,none⟩ (.slice A4 n4 c4)).setCell ⟨g+1,1,none⟩ (.int .i64 0)) g A2 n2 c2 T):=⟨bM.below T22.1 (((Ae _ w21).setCell (p:=⟨g,1,none⟩) Aj _).setCell (p:=⟨g+1,1,none⟩) (by show g≤g+1;omega) _)⟩
    clear k1 k2 k3 k4 T22 O4 O32 E22 T21 E21 O31;have aaY:Kept (Pj.heap.size≤((w21.setCell ⟨g,1,none⟩ (.slice A4 n4 c4)).setCell ⟨g+1,1,none⟩ (.int .i64 0)).heap.size):=⟨by simp[World.setCell];exact Lt adL.1 B22.1.size⟩
    generalize (w21.setCell ⟨g,1,none⟩ (.slice A4 n4 c4)).setCell ⟨g+1,1,none⟩ (.int .i64 0)=W23 at*;have z23:=E23.1.lt;have x23:=(Boxed.aX BD.1 E23.1.aX).cell;obtain⟨k1,k2⟩:=E23.1.c1 2;go_upto_region 23 with fail;have E24:=Al (E23.1.Kk 2 (.slice Ad md cd));have O34:Kept (ah (W23.setCell ⟨g,2,none⟩ (.slice Ad md cd)) Pj.heap.size A3 n3 c3 (Sy.aM T)):=⟨aS O33.1 (fun r hr e=>by have:=(ae O33.1 r hr).1;have:=YQ.1;omega)⟩
    have O42:Kept (ah (W23.setCell ⟨g,2,none⟩ (.slice Ad md cd)) Pj.heap.size A4 n4 c4 (Rc.aM T (Bk.mo b))):=⟨aS O41.1 (fun r hr e=>by have:=(ae O41.1 r hr).1;have:=YQ.1;omega)⟩
    have T24:Kept (bM (W23.setCell ⟨g,2,none⟩ (.slice Ad md cd)) g A2 n2 c2 T):=⟨bM.below T23.1 ((Ae _ W23).setCell (p:=⟨g,2,none⟩) Aj _)⟩
    clear k1 k2 T23 O33 O41 E23;have aaZ:Pj.heap.size≤(W23.setCell ⟨g,2,none⟩ (.slice Ad md cd)).heap.size:=by simp[World.setCell];exact aaY.1
    generalize W23.setCell ⟨g,2,none⟩ (.slice Ad md cd)=W24 at*;have z24:=E24.1.lt;have b24:=E24.1.aX.size;have ahw:Kept (Pj.heap.size≤W24.heap.size):=⟨aaZ⟩
    have S24:=Al (xC (some ⟨q,0,none⟩) k k (Bk.sets b) W24 ((RL.1.below E24.1.aX).more b24) HB.1.sets);have PE:=Al (fun(YR:World) (A5:Option Addr) (n5 c5:Nat) (E:List eX) (hi:Ps.zl (Ps.gT (Bk.sets b) 0) E) (ho:bg 163 YR W24.heap.size A5 n5 c5 E) (Kl:Below W24.heap.size W24 YR)=>by
     have h:=Gg A2 A5 n2 c2 n5 c5 T E YR (bM.more (bM.below T24.1 (Kl.mono om)) (by have:=Kl.size;omega)) HT.1.1 ho.rd hn2 (by rw[ho.len];exact(HB.1.adE hi).1) (HB.1.adE hi).2 (by have:=HB.1.sec T E ⟨HT.1,hi⟩ 3 om;exact Lt this Ai);rw[Bk.Of.NL ⟨HT.1,hi⟩]at h;exact h)
    go_upto_region 24 with(first
     |(go_at_call 88;refine PE2.1.mono ?_;rintro e w26 ⟨A6,n6,c6,rfl,o6,b26⟩;have E26:=Al (E25.1.below b26);have O6:=Al o6;have B26:=Al b26;obtain⟨k1,k2⟩:=E26.1.c1 3;obtain⟨k3,k4⟩:=(E26.1.Kk 3 (.slice A6 n6 c6)).c2 2 om;clear o6 b26 PE2)
     |(go_at_call 37;refine S24.1.mono ?_;rintro e YR ⟨A5,n5,c5,E,rfl,hi,ho,Kl⟩;have HI:=Al hi;have PE2:=Al (PE.1 YR A5 n5 c5 E hi ho Kl);have E25:=Al (E24.1.below Kl);have B25:=Al Kl;clear hi ho Kl S24 PE))
    have MK:=Al ((E26.1.Kk 3 (.slice A6 n6 c6)).wG 2 om);have O35:=Al (qo (aQ (show ah YR Pj.heap.size A3 n3 c3 (Sy.aM T)from aQ O34.1 B25.1) B26.1) YQ.1 3 2 (.slice A6 n6 c6) (.int .i64 0));have O43:=Al (qo (aQ (show ah YR Pj.heap.size A4 n4 c4 (Rc.aM T (Bk.mo b))from aQ O42.1 B25.1) B26.1) YQ.1 3 2 (.slice A6 n6 c6) (.int .i64 0));have O61:=Al (qo (ah.base O6.1 (show Pj.heap.size≤YR.heap.size from Lt ahw.1 B25.1.size)) YQ.1 3 2 (.slice A6 n6 c6) (.int .i64 0));clear k1 k2 k3 k4 E26 E25 O6 B25 B26 O34 O42 T24 E24;generalize (w26.setCell ⟨g,3,none⟩ (.slice A6 n6 c6)).setCell ⟨g+1,2,none⟩ (.int .i64 0)=W27 at*;have i0:=MK.1.c2 0 om;have i1:=MK.1.c2 1 om;have i2:=MK.1.c2 2 om;obtain⟨i0,-⟩:=i0;obtain⟨i1,-⟩:=i1;obtain⟨i2,-⟩:=i2;have jx0:∀W,(Instr.index 176 (.agg #[.int .i64 0,.int .i64 0,.int .i64 0]) (.int .i64 0)).run prog W= .ok (.int .i64 0) W:=fun _=>kr
    have jx1:∀W,(Instr.index 176 (.agg #[.int .i64 0,.int .i64 0,.int .i64 0]) (.int .i64 1)).run prog W= .ok (.int .i64 0) W:=fun _=>kr
    have jx2:∀W,(Instr.index 176 (.agg #[.int .i64 0,.int .i64 0,.int .i64 0]) (.int .i64 2)).run prog W= .ok (.int .i64 0) W:=fun _=>kr
    have hRG:Kept (W27.heap[w.heap.size]? =some (.cells #[.slice none 0 0,.slice none 0 0,.slice none 0 0,.slice none 0 0] 76 (0,0))):=⟨(MK.1.aX.block _ (by have:=HDz.1;have:=hDw.1;omega)).trans ahn.1⟩
    have xf:=fun k=>Fr W27 w.heap.size k _ _ hRG.1
    have y0:=Co W27 w.heap.size 0 _ _ _ hRG.1;have y1:=Co W27 w.heap.size 1 _ _ _ hRG.1;have y2:=Co W27 w.heap.size 2 _ _ _ hRG.1;have y3:=Co W27 w.heap.size 3 _ _ _ hRG.1;obtain⟨m0,-⟩:=MK.1.c1 0;obtain⟨m1,-⟩:=MK.1.c1 1;obtain⟨m2,-⟩:=MK.1.c1 2;obtain⟨m3,-⟩:=MK.1.c1 3;simp at y0 y1 y2 y3 m0 m1 m2 m3;go_upto_region 25 with fail;go_loopw [87] (fun i wr=>∃j:Nat,j≤3∧i= .int .i64 j∧wr=W27) (fun i _=>3-(intOf i).toNat)
    case atStart=>exact⟨0,om,rfl,rfl⟩
    case round=>
     obtain⟨j,hj,rfl,rfl⟩:=hrel;have hj4:j=0∨j=1∨j=2∨j=3:=om;rcases hj4 with rfl|rfl|rfl|rfl
     ·go_wp2;go_roundw
      case rel=>exact⟨1,om,rfl,by trivial⟩
      case measure=>simp[intOf]
     ·go_wp2;go_roundw
      case rel=>exact⟨2,om,rfl,by trivial⟩
      case measure=>simp[intOf]
     ·go_wp2;go_roundw
      case rel=>exact⟨3,om,rfl,by trivial⟩
      case measure=>simp[intOf]
     ·go_wp2;have hput:=nK wr w.heap.size (.slice A3 n3 c3) (.slice A4 n4 c4) (.slice Ad md cd) (.slice A6 n6 c6) hRG.1 rfl;have wB:=dx wr w.heap.size (.slice A3 n3 c3) (.slice A4 n4 c4) (.slice Ad md cd) (.slice A6 n6 c6);have adR:(j5 wr w.heap.size (.slice A3 n3 c3) (.slice A4 n4 c4) (.slice Ad md cd) (.slice A6 n6 c6)).heap[D]? =some (.deferred (some [])):=
       (wB.block D (jE HDz.1 MK.1.aX.size) (fun e=>by have:=Oj e;have:=aaV.1;omega)).trans ((MK.1.aX.block D HDz.1).trans HKD.1)
      have hgD:=Bn (j5 wr w.heap.size (.slice A3 n3 c3) (.slice A4 n4 c4) (.slice Ad md cd) (.slice A6 n6 c6)) D (.deferred none);have keep:∀{A':Option Addr} {n' c' base:Nat} {l:List UInt8},ah wr base A' n' c' l→aY ((j5 wr w.heap.size (.slice A3 n3 c3) (.slice A4 n4 c4) (.slice Ad md cd) (.slice A6 n6 c6)).putObj D (.deferred none)) ((j5 wr w.heap.size (.slice A3 n3 c3) (.slice A4 n4 c4) (.slice Ad md cd) (.slice A6 n6 c6)).putObj D (.deferred none)).heap.size A' n' c' l:=fun h=>by
       have h1:ah (j5 wr w.heap.size (.slice A3 n3 c3) (.slice A4 n4 c4) (.slice Ad md cd) (.slice A6 n6 c6)) _ _ _ _ _:=ag h wB (.inr (dQ h hRG.1 Ai));exact(ah.apart h1 hgD (fun r e=>by cases e;exact .inr ⟨_,adR,rfl⟩)).rd
      have hod:ah wr w.heap.size Ad md cd (Bk.dat b):=aQ OD.1 MK.1.aX;have hbel:Below w.heap.size w ((j5 wr w.heap.size (.slice A3 n3 c3) (.slice A4 n4 c4) (.slice Ad md cd) (.slice A6 n6 c6)).putObj D (.deferred none)):=
       ((HK.1.trans (MK.1.aX.mono HK.1.size)).grown wB (Lt HK.1.size MK.1.aX.size) (fun r e=>by cases e;exact Nr _)).grown hgD (by have:=HK.1.size;have:=MK.1.aX.size;have:=wB.size;omega) (fun r e=>by cases e;have:=aaV.1;omega)
      refine⟨Ah,.inl ⟨_,_,rfl,CV adR,?_⟩⟩;refine⟨.tuple #[.agg #[.slice A3 n3 c3,.slice A4 n4 c4,.slice Ad md cd,.slice A6 n6 c6],.int .i64 0],?_,fun i=>[(Value.slice A3 n3 c3),.slice A4 n4 c4,.slice Ad md cd,.slice A6 n6 c6].getD i (.slice none 0 0),T,E,rfl,⟨HT.1,HI.1⟩,fun i hi=>?_,hbel⟩
      ·have hrow:((j5 wr w.heap.size (.slice A3 n3 c3) (.slice A4 n4 c4) (.slice Ad md cd) (.slice A6 n6 c6)).putObj D (.deferred none)).heap[w.heap.size]? =some (.cells #[.slice A3 n3 c3,.slice A4 n4 c4,.slice Ad md cd,.slice A6 n6 c6] 76 (0,0)):=
        (Cf (by have:=aaV.1;omega)).trans hput
       exact cO (fn:=Tryz.f41) (a:=2) (u:=3) (T1:=76) rfl _ _ w.heap.size _ _ _ _ rfl hrow underlying76 rfl kr
      ·match i,hi with
       |0,_=>exact⟨A3,n3,c3,rfl,keep O35.1⟩
       |1,_=>exact⟨A4,n4,c4,rfl,keep O43.1⟩
       |2,_=>exact⟨Ad,md,cd,rfl,keep hod⟩
       |3,_=>exact⟨A6,n6,c6,rfl,keep O61.1⟩
   case stop=>
    rintro D c pre W _ _ h _;exact h.elim
end
theorem Four.lit {w B V D} (h:Four w B V D):∃Aa na ca Ab nb cb Ac nc cc Ad nd cd,Ly.jl V= #[.slice Aa na ca,.slice Ab nb cb,.slice Ac nc cc,.slice Ad nd cd]:=by
 obtain⟨Aa,na,ca,ea,_⟩:=h 0 om;obtain⟨Ab,nb,cb,eb,_⟩:=h 1 om;obtain⟨Ac,nc,cc,ec,_⟩:=h 2 om;obtain⟨Ad,nd,cd,ed,_⟩:=h 3 om;exact⟨Aa,na,ca,Ab,nb,cb,Ac,nc,cc,Ad,nd,cd,by unfold Ly.jl;rw[ea,eb,ec,ed]⟩
theorem Bk.Ok.tot {b T E} (h:Bk.Ok b) (ho:Bk.Of b T E):Ly.tot (Bk.D4 T E b) 4≤40000000:=by
 have h0:=h.sec T E ho 0 om;have h1:=h.sec T E ho 1 om;have h2:=h.sec T E ho 2 om;have h3:=h.sec T E ho 3 om;simp only[Ly.tot];omega
def ahz (w:World) (b:Bk.gN) (e:Ending) (w':World):Prop:=
 ∃A n c L,e= .returned (.tuple #[.slice A n c,.int .i64 0])∧Bk.File b L∧ah w' w.heap.size A n c L∧Below w.heap.size w w'
theorem aa2 (V b T E w w2 o) (hb:Bk.Ok b) (ho:Bk.Of b T E) (hV:Four w2 w2.heap.size V (Bk.D4 T E b)) (h2:Below w.heap.size w w2) (hG:Gl w):
  Calls prog 42 #[.agg (Ly.jl V)] (w2.alloc o) fun e w'=>∃A n c,e= .returned (.slice A n c)∧ah w' w.heap.size A n c (Ly.asm (Bk.D4 T E b))∧Below w.heap.size w w':=by
 have hal:=(Ae w2.heap.size w2).alloc Aj o;have hb2:=h2.alloc h2.size o;refine(yt V (Bk.D4 T E b) (w2.alloc o) (fun i hi=>?_) (by have:=hb.tot ho;omega) (hG.below hb2).tab).mono ?_
 ·obtain⟨A,n,c,e1,e2⟩:=hV i hi;exact⟨A,n,c,e1,(e2.below hal).more hal.size⟩
 ·rintro e w' ⟨A,n,c,rfl,h3,h4⟩;exact⟨A,n,c,rfl,ah.base h3 hb2.size,hb2.trans (h4.mono hb2.size)⟩
theorem MM (A n c b w) (hv:fK w w.heap.size A n c b) (hb:Bk.Ok b) (hG:Gl w):
  Calls prog 16 #[.slice A n c] w (ahz w b):=by
 have SE:=Al (Ui A n c b w hv hb hG);have AS:=Al (fun V T E w2 o ho hV h2=>aa2 V b T E w w2 o hb ho hV h2 hG);clear hv hb hG;go_enter func16,ntmps16;go_wp2_with (first
  |(go_at_call 42;refine SC.1.mono ?_;rintro e w3 ⟨A9,n9,c9,rfl,h4,h5⟩;have H4:=Al h4;have H5:=Al h5;clear h4 h5)
  |(go_at_call 41;refine SE.1.mono ?_;rintro r w2 ⟨V,T,E,rfl,ho,hV,hb2⟩;obtain⟨Aa,na,ca,Ab,nb,cb,Ac,nc,cc,Ad,nd,cd,hL⟩:=hV.lit;have SC:=Al (AS.1 V T E w2 (.cells (Ly.jl V) 76) ho hV hb2);rw[hL]at SC⊢;have HO:=Al ho;clear ho hV hb2 hL SE AS))
 go_ret2;exact⟨A9,n9,c9,_,rfl,⟨T,E,HO.1,rfl⟩,H4.1,H5.1⟩
theorem Pk (TA A tn tc n c T rs w) (hT:bM w w.heap.size TA tn tc T) (hv:vC w w.heap.size A n c rs) (ho:Xt T rs) (hu:Bk.used T rs=false):
  Calls prog 71 #[.slice TA tn tc,.slice A n c] w fun e w'=>(∃k:Nat,e= .returned (.int .i64 (k:Int)))∧Below w.heap.size w w':=by
 refine(uW TA A tn tc n c w.heap.size T rs w hT hv Aj ho.cnt ho.JZ ho.szT).mono ?_;rintro e w' ⟨hb,h⟩;refine⟨?_,hb⟩;rcases h with⟨h,_⟩|⟨_,h⟩
 ·rw[hu]at h;cases h
 ·exact h
theorem Kn (TA A tn tc n c T rs w) (hT:bM w w.heap.size TA tn tc T) (hv:vC w w.heap.size A n c rs) (ho:Xt T rs) (hu:Bk.used T rs=true):
  Calls prog 71 #[.slice TA tn tc,.slice A n c] w fun e w'=>e= .returned (.int .i64 (-1))∧Below w.heap.size w w':=by
 refine(uW TA A tn tc n c w.heap.size T rs w hT hv Aj ho.cnt ho.JZ ho.szT).mono ?_;rintro e w' ⟨hb,h⟩;refine⟨?_,hb⟩;rcases h with⟨_,h⟩|⟨h,_⟩
 ·exact h
 ·rw[hu]at h;cases h
def ku (w:World) (R:Bk.gN×Int) (e:Ending) (w':World):Prop:=
 ∃A n c,e= .returned (.tuple #[.slice A n c,.int .i64 R.2])∧fK w' w'.heap.size A n c R.1∧Below w.heap.size w w'
theorem ku.bad {w w'} {R:Bk.gN×Int} {f} (h:R=([],f)) (hb:Below w.heap.size w w'):ku w R (.returned (.tuple #[.slice none 0 0,.int .i64 f])) w':=by
 subst h;exact⟨none,0,0,rfl,(QY.nil w' 0).rd,hb⟩
theorem Uk (A0 A1 A2 A3 n0 n1 n2 n3 c0 c1 c2 c3 D w)
  (h0:aY w w.heap.size A0 n0 c0 (D 0)) (h1:aY w w.heap.size A1 n1 c1 (D 1)) (h2:aY w w.heap.size A2 n2 c2 (D 2)) (h3:aY w w.heap.size A3 n3 c3 (D 3))
  (b0:n0≤1000000) (b1:n1≤1000000) (b2:n2≤10000000) (b3:n3≤1000000) (hG:Gl w):
  Calls prog 35 #[.agg #[.slice A0 n0 c0,.slice A1 n1 c1,.slice A2 n2 c2,.slice A3 n3 c3]] w (ku w (Bk.oF D)):=by
 have hmf:∀(fn:Fn) (first cap:Array Value) (w:World),(Instr.makeFunc fn first cap).run prog w= .ok (.func fn first cap) w:=fun _ _ _ _=>rfl
 obtain⟨W,hW⟩:∃W,W=((w.alloc (.cells #[.slice A0 n0 c0,.slice A1 n1 c1,.slice A2 n2 c2,.slice A3 n3 c3] 76)).alloc (.cells #[.slice none 0 0] 24)).alloc (.cells #[.int .i64 0] 25):=⟨_,rfl⟩
 have YS:Kept (Sx w W (fun i=>[A0,A1,A2,A3].getD i none) (fun i=>[n0,n1,n2,n3].getD i 0) (fun i=>[c0,c1,c2,c3].getD i 0) (.slice none 0 0)):=by
  have e0:=AL w (.cells #[.slice A0 n0 c0,.slice A1 n1 c1,.slice A2 n2 c2,.slice A3 n3 c3] 76);have e1:=AL (w.alloc (.cells #[.slice A0 n0 c0,.slice A1 n1 c1,.slice A2 n2 c2,.slice A3 n3 c3] 76)) (.cells #[.slice none 0 0] 24);have e2:=AL ((w.alloc (.cells #[.slice A0 n0 c0,.slice A1 n1 c1,.slice A2 n2 c2,.slice A3 n3 c3] 76)).alloc (.cells #[.slice none 0 0] 24)) (.cells #[.int .i64 0] 25);rw[show(w.alloc (.cells #[.slice A0 n0 c0,.slice A1 n1 c1,.slice A2 n2 c2,.slice A3 n3 c3] 76)).heap.size=w.heap.size+1 from Ah]at e1;rw[show((w.alloc (.cells #[.slice A0 n0 c0,.slice A1 n1 c1,.slice A2 n2 c2,.slice A3 n3 c3] 76)).alloc (.cells #[.slice none 0 0] 24)).heap.size=w.heap.size+2 from Ah]at e2;have f0:W.heap[w.heap.size]? =some (.cells #[.slice A0 n0 c0,.slice A1 n1 c1,.slice A2 n2 c2,.slice A3 n3 c3] 76 (0,0)):=by
   rw[hW,Ay _ _ _ (by simp;try omega),Ay _ _ _ Ah];exact e0
  refine⟨by rw[hW];exact(((Ae _ _).alloc Aj _).alloc Ah _).alloc (by simp;try omega) _,by rw[hW];simp;try omega,fun i hi=>?_,by rw[hW,Ay _ _ _ Ah];exact e1,by rw[hW];exact e2⟩;rw[Co _ _ _ _ _ _ f0]
  match i,hi with
  |0,_=>rfl
  |1,_=>rfl
  |2,_=>rfl
  |3,_=>rfl
 have hbW:=YS.1.aX;have HD0:=Al ((h0.below hbW).more hbW.size);have H0:=Al h0;have H1:=Al h1;have H2:=Al h2;have H3:=Al h3;have HG:=Al hG;have e0:Bk.oF D=if(Sy.dec (D 0)).2≠0 then([],(Sy.dec (D 0)).2)else Bk.Wq (Sy.dec (D 0)).1 (D 1) (D 2) (D 3):=rfl;generalize hR:Bk.oF D=R at e0⊢;have HC0:=Al (FZ A0 n0 c0 (D 0) W HD0.1 om);generalize hQ0:Sy.dec (D 0)=Q0 at e0 HC0;have HQ0:=Al hQ0;have HR:=Al hR;have HW:=Al hW.symm;obtain⟨T,eT⟩:=Q0;simp only[]at e0 HC0;clear h0 h1 h2 h3 hG hQ0 hR hW hbW;by_cases hT:eT=0
 ·rw[Ng (by simp[hT])]at e0;subst hT;have e1:Bk.Wq T (D 1) (D 2) (D 3)=if(Rc.dec T (D 1)).2≠0 then([],(Rc.dec T (D 1)).2)else Bk.vS T (Rc.dec T (D 1)).1 (D 2) (D 3):=rfl;rw[e1]at e0;clear e1;have HC1:=Al (fun(TA:Option Addr) (tn tc:Nat) (W1:World) (hT:bM W1 W1.heap.size TA tn tc T) (hb:Below W.heap.size W W1)=>Jj TA A1 tn tc n1 c1 T (D 1) W1 hT ((H1.1.below (YS.1.aX.trans (hb.mono YS.1.aX.size))).more (Lt YS.1.aX.size hb.size)) om);generalize hQ1:Rc.dec T (D 1)=Q1 at e0 HC1;have HQ1:=Al hQ1;obtain⟨rs,eR⟩:=Q1;simp only[]at e0 HC1;clear hQ1;by_cases hr:eR=0
  ·subst hr;rw[Ng Ah]at e0;have HO:=Al (adA (by rw[←H0.1.len];omega) (by rw[←H1.1.len];omega) HQ0.1 HQ1.1);have e1:Bk.vS T rs (D 2) (D 3)=if Bk.used T rs=false then([],15)else if(Bk.oD rs (D 2)).2≠0 then([],(Bk.oD rs (D 2)).2)else Bk.Wp T ((rs.map (·.1)).zip (Bk.oD rs (D 2)).1) (D 3):=rfl;rw[e1]at e0;clear e1;cases hu:Bk.used T rs with
   |false=>
    rw[Ps0 hu]at e0;have HE:=Al e0;have HU:=Al hu;clear e0 hu;go_enter_defers func35,ntmps35;go_wp2_with first
    |(go_at_call 72;refine(gD 15 Ai _).mono ?_;rintro r w6 ⟨rfl,rfl⟩)
    |(go_at_call 71;refine(Pk TA RA tn tc rn rc T rs _ XB.1 HRd.1 HO.1 HU.1).mono ?_;rintro r w5 ⟨⟨k,rfl⟩,hb3⟩;have HS3:=Al (HS2.1.on hb3);clear hb3)
    |(go_at_call 69;refine(Ib _ _).mono ?_;rintro r w4 ⟨rfl,rfl⟩)
    |(go_at_call 70;refine(HC1.1 TA tn tc w2 HTA.1 Hb1.1).mono ?_;rintro r w3 ⟨RA,rn,rc,rfl,hRd,hb2⟩;have HS2:=Al (Ob.1.on hb2);have HRd:=Al hRd;have Hb2:=Al hb2;have XB:=Al ((HTA.1.below hb2).more hb2.size);clear hRd hb2)
    |(go_at_call 67;refine(uV _ _).mono ?_;rintro r w2 ⟨rfl,rfl⟩)
    |(go_at_call 68;rw[HW.1];refine HC0.1.mono ?_;rintro r w1 ⟨TA,tn,tc,rfl,hT,hb1⟩;have HTA:=Al hT;have Ob:=Al (YS.1.on hb1);have Hb1:=Al hb1;have x1:w1.cell? ⟨w.heap.size,1,none⟩=some (.slice A1 n1 c1):=Ob.1.sec 1 om;clear hT hb1)
    exact HS3.1.door rfl rfl (fun w' hb=>ku.bad HE.1 hb)
   |true=>
    rw[Ng (by rw[hu];simp)]at e0;have HE:=Al e0;have HU:=Al hu;have HG':=HG;clear e0 hu;go_enter_defers func35,ntmps35;go_wp2_with first
    |(go_at_call 71;refine(Kn TA RA tn tc rn rc T rs _ XB.1 HRd.1 HO.1 HU.1).mono ?_;rintro r w5 ⟨rfl,hb3⟩;have HS3:=Al (HS2.1.on hb3);have Hb3:=Al hb3;clear hb3)
    |(go_at_call 69;refine(Ib _ _).mono ?_;rintro r w4 ⟨rfl,rfl⟩)
    |(go_at_call 70;refine(HC1.1 TA tn tc w2 HTA.1 Hb1.1).mono ?_;rintro r w3 ⟨RA,rn,rc,rfl,hRd,hb2⟩;have HS2:=Al (Ob.1.on hb2);have HRd:=Al hRd;have Hb2:=Al hb2;have XB:=Al ((HTA.1.below hb2).more hb2.size);clear hRd hb2)
    |(go_at_call 67;refine(uV _ _).mono ?_;rintro r w2 ⟨rfl,rfl⟩)
    |(go_at_call 68;rw[HW.1];refine HC0.1.mono ?_;rintro r w1 ⟨TA,tn,tc,rfl,hT,hb1⟩;have HTA:=Al hT;have Ob:=Al (YS.1.on hb1);have Hb1:=Al hb1;have x1:w1.cell? ⟨w.heap.size,1,none⟩=some (.slice A1 n1 c1):=Ob.1.sec 1 om;clear hT hb1)
    obtain⟨hs,hr1,hr2,hr3⟩:=(HRd.1.below Hb3.1).more Hb3.1.size;have Hr1:=Al hr1;have Hr2:=Al hr2;have Hr3:=Al hr3;have hrn:rn=rs.length:=HRd.1.len;have Hrn:=Al hrn;have hrb:rn≤1000000:=by rw[hrn];exact HO.1.len
    have amM:(rn:Int)≤1000000:=om;clear hr1 hr2 hr3 hrn;go_loopw [6,7,33] (fun l s i wr=>∃k LA lc SA sc,k≤rn∧i= .int .i64 (k:Nat)∧l= .slice LA k lc∧s= .slice SA k sc∧Kept (Lp w5.heap.size wr LA lc SA sc k hs)∧Kept (Below w5.heap.size w5 wr)) (fun _ _ i _=>rn-(intOf i).toNat)
    case atStart=>exact⟨0,none,0,none,0,om,rfl,rfl,rfl,⟨Lp.nil _ _ _⟩,⟨Ae _ _⟩⟩
    case round=>
     obtain⟨k,LA,lc,SA,sc,hk,rfl,rfl,rfl,HLp,XC⟩:=hrel;by_cases hlt:k<rn
     ·have hkh:k<hs.length:=by rw[Hr2.1,←Hrn.1];exact hlt
      have hkr:k<rs.length:=by rw[←Hrn.1];exact hlt
      obtain⟨L1,l1,d1,C1,m1,e1,he,hL,hC⟩:=Hr3.1 k hkh hkr;obtain⟨b,off,rfl,ni,hc⟩:=Hr1.1.2.2.2 om;obtain⟨g1,g2⟩:=bR hs k hkh;rw[he]at g1 g2;have ha0:=(XC.1.cell (p:=⟨b,off+k*2,none⟩) (by show b<_;exact ni)).trans (hc _ _ g1);have ha1:=(XC.1.cell (p:=⟨b,off+(k*2+1),none⟩) (by show b<_;exact ni)).trans (hc _ _ g2);rw[←iw]at ha1;have hT1:Kept ((hs.take (k+1)).map (·.1)=(hs.take k).map (·.1)++[.slice L1 l1 d1]):=⟨by rw[Ts hkh,dN,he];rfl⟩
      have wP:Kept ((hs.take (k+1)).map (·.2)=(hs.take k).map (·.2)++[.slice C1 m1 e1]):=⟨by rw[Ts hkh,dN,he];rfl⟩
      clear hc g1 g2 hL hC he hkh hkr;go_wp2_with fail;have hbx:=AL wr (.cells #[.slice L1 l1 d1,.slice C1 m1 e1] 146);have O3:=Al (HLp.1.alloc (.cells #[.slice L1 l1 d1,.slice C1 m1 e1] 146));have adW:=XC.1.alloc XC.1.size (.cells #[.slice L1 l1 d1,.slice C1 m1 e1] 146);have B3:=Al adW;have hs3:Kept (wr.heap.size< (wr.alloc (.cells #[.slice L1 l1 d1,.slice C1 m1 e1] 146)).heap.size):=⟨Ah⟩
      have hlA:Kept (∀g,ab LA=some g→w5.heap.size≤g∧g<wr.heap.size):=⟨ae HLp.1.o1⟩
      have hlS:Kept (∀g,ab SA=some g→w5.heap.size≤g∧g<wr.heap.size):=⟨ae HLp.1.o2⟩
      obtain⟨gx,hgx⟩:∃g,g=wr.heap.size:=⟨_,rfl⟩
      rw[←hgx]at hbx hs3 hlA hlS;rw[←hgx];have Hgx:=Al hgx;clear hgx;generalize wr.alloc (.cells #[.slice L1 l1 d1,.slice C1 m1 e1] 146)=W3 at*;have d0:W3.cell? ⟨gx,0,none⟩=some (.slice L1 l1 d1):=Co _ _ 0 _ _ _ hbx;have d1':W3.cell? ⟨gx,1,none⟩=some (.slice C1 m1 e1):=Co _ _ 1 _ _ _ hbx;have Hbx:=Al hbx;have f1:∀o,(W3.alloc o).heap[gx]? =some (.cells #[.slice L1 l1 d1,.slice C1 m1 e1] 146 (0,0)):=fun o=>(Ay _ _ _ hs3.1).trans Hbx.1
      have f2:∀o o',((W3.alloc o).alloc o').heap[gx]? =some (.cells #[.slice L1 l1 d1,.slice C1 m1 e1] 146 (0,0)):=fun o o'=>(Ay _ _ _ (by have:=hs3.1;simp;omega)).trans (f1 o)
      have F1:=Al f1;have F2:=Al f2;have x0:=fun o=>Co _ _ 0 _ _ _ (F1.1 o)
      have x1':=fun o=>Co _ _ 1 _ _ _ (F1.1 o)
      have y0:=fun o o'=>Co _ _ 0 _ _ _ (F2.1 o o')
      have y1:=fun o o'=>Co _ _ 1 _ _ _ (F2.1 o o')
      have P1:Kept (∀o,(W3.alloc o).heap[W3.heap.size]? =some o):=⟨fun o=>AL W3 o⟩
      have P2:Kept (∀o o',((W3.alloc o).alloc o').heap[W3.heap.size]? =some o):=⟨fun o o'=>(Ay _ _ _ Ah).trans (AL W3 o)⟩
      have P3:Kept (∀o o',((W3.alloc o).alloc o').heap[W3.heap.size+1]? =some o'):=⟨fun o o'=>by have:=AL (W3.alloc o) o';simpa using this⟩
      have Pm:Kept (w5.heap.size≤W3.heap.size):=⟨B3.1.size⟩
      clear f1 f2 hbx adW;go_region_held3 (fun w'=>w'.cell? ⟨gx,0,none⟩=some (.slice L1 l1 d1)∧w'.cell? ⟨gx,1,none⟩=some (.slice C1 m1 e1)) (first|exact⟨d0,d1'⟩|exact⟨x0 _,x1' _⟩|exact⟨y0 _ _,y1 _ _⟩|exact k9|exact k10 _)
       (first
        |(refine xL ?g1 (.tmp 37) (.tmp 40) 144 62 ?g2 underlying144 aaF w5.heap.size LA k lc ((hs.take k).map (·.2)) ?g3 ?g4 (.slice C1 m1 e1) ?g5 rfl ?g7 ?g8 ?_;(case g1=>rfl);(case g2=>rfl);(case g3=>rfl);(case g4=>first|exact(O3.1.alloc _).o1|exact((O3.1.alloc _).alloc _).o1);(case g5=>refine⟨_,rfl,?_⟩;first|exact(P1.1 _)|exact(P2.1 _ _)|exact(P3.1 _ _));(case g7=>omega);(case g8=>(have:=Pm.1;simp;omega));intro L4 c4 w6 hown hgrow hat;have hp2:=(by first|exact(O3.1.alloc _).drew.MF hgrow|exact((O3.1.alloc _).alloc _).drew.MF hgrow|exact(O3.1.alloc _).MF hgrow|exact((O3.1.alloc _).alloc _).MF hgrow:w6.ownsRow w5.heap.size 54 1 (.slice SA k sc) k ((hs.take k).map (·.1)));have Q1:=Al hown;have Q2:=Al hp2;have HP:=Al (fun(p:Nat) (o:Obj) (hp:gx≤p) (h:_=some o)=>(hgrow.block p ((Ge.1 h).1) (fun e=>by have:=(hlA.1 p e.symm).2;omega)).trans h);have hb6:=(by first|exact(B3.1.alloc Pm.1 _).drew.grown hgrow (by have:=Pm.1;show _≤(World.alloc _ _).heap.size;simp;omega) (fun g e=>(hlA.1 g e).1)|exact((B3.1.alloc Pm.1 _).alloc (by have:=Pm.1;simp;omega) _).drew.grown hgrow (by have:=Pm.1;show _≤(World.alloc _ _).heap.size;simp;omega) (fun g e=>(hlA.1 g e).1)|exact(B3.1.alloc Pm.1 _).grown hgrow (by have:=Pm.1;show _≤(World.alloc _ _).heap.size;simp;omega) (fun g e=>(hlA.1 g e).1)|exact((B3.1.alloc Pm.1 _).alloc (by have:=Pm.1;simp;omega) _).grown hgrow (by have:=Pm.1;show _≤(World.alloc _ _).heap.size;simp;omega) (fun g e=>(hlA.1 g e).1):Below w5.heap.size w5 w6);have B6:=Al hb6;have UI:=Al (HP.1 gx _ Aj (by first|exact F1.1 _|exact F2.1 _ _));have k9:w6.cell? ⟨gx,0,none⟩=some (.slice L1 l1 d1)∧w6.cell? ⟨gx,1,none⟩=some (.slice C1 m1 e1):=⟨Co _ _ 0 _ _ _ UI.1,Co _ _ 1 _ _ _ UI.1⟩;have k10:∀o,(w6.alloc o).cell? ⟨gx,0,none⟩=some (.slice L1 l1 d1)∧(w6.alloc o).cell? ⟨gx,1,none⟩=some (.slice C1 m1 e1):=fun o=>⟨Co _ _ 0 _ _ _ ((Ay _ _ _ ((Ge.1 UI.1).1)).trans UI.1),Co _ _ 1 _ _ _ ((Ay _ _ _ ((Ge.1 UI.1).1)).trans UI.1)⟩;clear hown hp2 hgrow hat hb6)
        |(refine xL ?q1 (.tmp 42) (.tmp 45) 81 54 ?q2 underlying81 Rv w5.heap.size SA k sc ((hs.take k).map (·.1)) ?q3 ?q4 (.slice L1 l1 d1) ?q5 rfl ?q7 ?q8 ?_;(case q1=>rfl);(case q2=>rfl);(case q3=>rfl);(case q4=>first|exact Q2.1|exact Oa Q2.1 _);(case q5=>refine⟨_,rfl,?_⟩;first|exact(AL w6 _)|exact(HP.1 _ _ (by have:=hs3.1;omega) (P3.1 _ _))|exact(HP.1 _ _ (by have:=hs3.1;omega) (P2.1 _ _)));(case q7=>omega);(case q8=>(have:=B6.1.size;first|exact this|(simp;omega)));intro S4 e4 w7 hown hgrow hat;have hp1:=(by first|exact MG (w:=w6.drew) Q1.1 Q2.1 hgrow|exact MG (w:=(w6.alloc _).drew) (Oa Q1.1 _) (Oa Q2.1 _) hgrow|exact MG Q1.1 Q2.1 hgrow|exact MG (Oa Q1.1 _) (Oa Q2.1 _) hgrow:w7.ownsRow w5.heap.size 62 1 (.slice L4 (k+1) c4) (k+1) _);have R1:=Al hp1;have R2:=Al hown;have Nn:=(by first|exact B6.1.grown hgrow B6.1.size (fun g e=>(hlS.1 g e).1)|exact B6.1.drew.grown hgrow B6.1.size (fun g e=>(hlS.1 g e).1)|exact(B6.1.alloc B6.1.size _).grown hgrow (by have:=B6.1.size;show _≤(World.alloc _ _).heap.size;simp;omega) (fun g e=>(hlS.1 g e).1)|exact(B6.1.alloc B6.1.size _).drew.grown hgrow (by have:=B6.1.size;show _≤(World.alloc _ _).heap.size;simp;omega) (fun g e=>(hlS.1 g e).1):Below w5.heap.size w5 w7);have B7:=Al Nn;have HX7:=Al (show w7.heap[gx]? =some (.cells #[.slice L1 l1 d1,.slice C1 m1 e1] 146 (0,0))from(hgrow.block gx (by have:=(Ge.1 UI.1).1;first|exact this|(show gx< (World.alloc _ _).heap.size;simp;omega)) (fun e=>Et _ (hlS.1 gx e.symm).2)).trans (by first|exact UI.1|exact(Ay _ _ _ ((Ge.1 UI.1).1)).trans UI.1));have k9:w7.cell? ⟨gx,0,none⟩=some (.slice L1 l1 d1)∧w7.cell? ⟨gx,1,none⟩=some (.slice C1 m1 e1):=⟨Co _ _ 0 _ _ _ HX7.1,Co _ _ 1 _ _ _ HX7.1⟩;clear hown hp1 hgrow hat Nn))
      all_goals
       go_wp2;go_roundw
       case rel=>exact⟨k+1,L4,c4,S4,e4,om,by go_num,rfl,rfl,⟨⟨by rw[wP.1];exact R1.1,by rw[hT1.1];exact R2.1⟩⟩,B7⟩
       case measure=>simp[intOf];try omega
     ·obtain rfl:k=rn:=by omega
      clear hlt hk;obtain⟨hI,hL⟩:=HLp.1.ints Hrn.1 Hr2.1 Hr3.1 XC.1 XC.1.size;rw[HO.1.ofn]at hI;have HS4:=Al (HS3.1.on XC.1);have x2:=HS4.1.sec 2 om;have TY:=Al (Kh LA A2 k lc n2 c2 wr.heap.size (rs.map Bk.ln) (D 2) wr hI ((H2.1.below HS4.1.aX).more HS4.1.aX.size) Aj (by rw[←HO.1.ofn];have:=HO.1.tot;omega) om om (HG.1.below HS4.1.aX));have HLL:=Al hL;have ahA:=Al ((XB.1.below (Hb3.1.trans (XC.1.mono Hb3.1.size))).more (Lt Hb3.1.size XC.1.size))
      change Kept (Calls _ _ _ _ (ChP wr (Bk.oD rs (D 2))))at TY
      have e2:=HE.1;generalize hQ2:Bk.oD rs (D 2)=Q2 at e2 TY;have wK:=Al hQ2;obtain⟨ch,eC⟩:=Q2;simp only[]at e2;clear hI hL hQ2 HE;by_cases hc:eC=0
      ·subst hc;rw[Ng Ah]at e2;have HE:=Al e2;have hSA:Kept (∀p,ab SA=some p→p≠w.heap.size+1):=⟨fun p hp=>by have:=(ae HLp.1.o2 p hp).1;have:=HS3.1.JZ;omega⟩
       have aa5:=Ud wK.1;clear e2;go_wp2_with first
        |(go_at_call 73;refine(TN _ _).mono ?_;rintro r w7 ⟨rfl,rfl⟩)
        |(go_at_call 74;refine TY.1.mono ?_;rintro r w6 ⟨CA,cn,cc,rfl,aa6,hb4,aa7⟩;have HS5:=Al (HS4.1.on hb4);have adY:=Al aa6;have Hb4:=Al hb4;have ahC:=Al aa7;clear aa6 hb4 aa7)
       have hCA:Kept (∀p,ab CA=some p→p≠w.heap.size+1):=⟨fun p hp=>by have:=ahC.1 p hp;have:=HS4.1.JZ;omega⟩
       obtain⟨vs1,s1,s2,s3⟩:=(HLL.1.below Hb4.1).more Hb4.1.size;obtain⟨vs2,m1,m2,m3⟩:=adY.1;have hcn:cn=ch.length:=adY.1.len;have hck:cn=k:=by rw[hcn,aa5,Hrn.1]
       have Hcn:=Al hcn;have adZ:=Al aa5;obtain rfl:=hck;have S1:=Al s1;have S2:=Al s2;have S3:=Al s3;have M1:=Al m1;have M2:=Al m2;have M3:=Al m3;have hg5:=Al HS5.1.out;have hgz:Kept (w.heap.size+1<w7.heap.size):=⟨by have:=HS5.1.JZ;omega⟩
       clear s1 s2 s3 m1 m2 m3 hcn aa5;go_loopw [56] (fun i wr=>∃j BA bc,j≤cn∧i= .int .i64 (j:Nat)∧Kept (L2 w7 wr (w.heap.size+1) BA bc j (vs1.zip vs2))) (fun i _=>cn-(intOf i).toNat)
       case atStart=>exact⟨0,none,0,om,rfl,⟨L2.start hg5.1⟩⟩
       case round=>
        obtain⟨j,BA,bc,hj,rfl,HL2⟩:=hrel;by_cases hlt2:j<cn
        ·have hj1:j<vs1.length:=by rw[S2.1,fM,←Hrn.1];exact hlt2
         have hj2:j<vs2.length:=by rw[M2.1,←Hcn.1];exact hlt2
         have hjr:j< (rs.map (·.1)).length:=by rw[←S2.1];exact hj1
         have hjc:j<ch.length:=by rw[←M2.1];exact hj2
         obtain⟨L1,l1,d1,he1,-⟩:=S3.1 j _ (kC hjr);obtain⟨C1,m1,e1,he2,-⟩:=M3.1 j _ (kC hjc);obtain⟨b1,rz,rfl,ad1,hc1⟩:=(Rd.off S1.1 Aj hSA.1 HL2.1.gr).2.2.2 om;obtain⟨b2,vM,rfl,adw,hc2⟩:=(Rd.off M1.1 Aj hCA.1 HL2.1.gr).2.2.2 om;have y1:=hc1 j _ he1;have y2:=hc2 j _ he2;have ad2:Kept ((vs1.zip vs2)[j]'(by simp;omega)=(.slice L1 l1 d1,.slice C1 m1 e1)):=⟨by
          rw[EB];obtain⟨_,q1⟩:=l5.1 he1;obtain⟨_,q2⟩:=l5.1 he2;rw[q1,q2]⟩
         have hzl:Kept (j< (vs1.zip vs2).length):=⟨by simp;omega⟩
         have z0:=Co _ _ 0 _ _ _ HL2.1.var;have hgw:Kept (w.heap.size+1<wr.heap.size):=⟨jE hgz.1 HL2.1.gr.size⟩
         have hbw:Kept (b1<wr.heap.size):=⟨jE ad1 HL2.1.gr.size⟩
         have z1:∀o,(wr.alloc o).cell? ⟨w.heap.size+1,0,none⟩=some (.slice BA j bc):=fun o=>(AR _ _ ⟨w.heap.size+1,0,none⟩ hgw.1).trans (Co _ _ 0 _ _ _ HL2.1.var)
         have Y1:=Al y1;have y3:∀o,(wr.alloc o).cell? ⟨b1,rz+j,none⟩=some (.slice L1 l1 d1):=fun o=>(AR _ _ ⟨b1,rz+j,none⟩ hbw.1).trans Y1.1
         have Y3:=Al y3;have hsz:Kept (w7.heap.size≤wr.heap.size):=⟨HL2.1.gr.size⟩
         have hjb:Kept (j≤1000000):=⟨om⟩
         have hlB:Kept (∀p,ab BA=some p→w7.heap.size≤p):=⟨fun p hp=>(ae HL2.1.own p hp).1⟩
         have ad3:Kept (b1≠w.heap.size+1):=⟨hSA.1 b1 rfl⟩
         have Uj:Kept (b1<w7.heap.size):=⟨ad1⟩
         clear hc1 hc2 he1 he2;go_wp2_with fail;refine wp_region_noPanic ?_;refine wp_region_held_drew (S:=fun w'=>w'.cell? ⟨b1,rz+j,none⟩=some (.slice L1 l1 d1)) kr y1 (fun hHeld=>?_);refine Bi (i:=1) (oi:=⟨_,_,_,_,_,_⟩) (v:=?_) rfl kr kr kr (fun _ _ _ h=>h) (Or.inl ⟨rfl,?_⟩) (by assumption) ?_
         rotate_left
         ·intro w hSw;(try dsimp only at hSw);go_simp;(try with_reducible rfl)
         try simp only[Act.put,Ao,Au,Ap]
         refine Bi (i:=2) (oi:=⟨_,_,_,_,_,_⟩) (v:=?_) rfl kr kr kr (fun _ _ _ h=>h) (Or.inl ⟨rfl,?_⟩) (by assumption) ?_
         rotate_left
         ·intro w hSw;(try dsimp only at hSw);go_simp;(try with_reducible rfl)
         try simp only[Act.put,Ao,Au,Ap]
         refine Bi (i:=3) (oi:=⟨_,_,_,_,_,_⟩) (v:=?_) rfl kr kr kr (fun _ _ _ h=>h) (Or.inl ⟨rfl,?_⟩) (by assumption) ?_
         rotate_left
         ·intro w hSw;(try dsimp only at hSw);go_simp;(try with_reducible rfl)
         try simp only[Act.put,Ao,Au,Ap]
         refine Bi (i:=4) (oi:=⟨_,_,_,_,_,_⟩) (v:=?_) rfl kr kr kr (fun _ _ _ h=>h) (Or.inl ⟨rfl,?_⟩) (by assumption) ?_
         rotate_left
         ·intro w hSw;(try dsimp only at hSw);go_simp;(try with_reducible rfl)
         try simp only[Act.put,Ao,Au,Ap]
         refine Bi (i:=5) (oi:=⟨_,_,_,_,_,_⟩) (v:=?_) rfl kr kr kr (fun _ _ _ h=>h) (Or.inl ⟨rfl,?_⟩) (by assumption) ?_
         rotate_left
         ·intro w hSw;(try dsimp only at hSw);go_simp;(try with_reducible rfl)
         try simp only[Act.put,Ao,Au,Ap]
         refine Bi (i:=6) (oi:=⟨_,_,_,_,_,_⟩) (v:=?_) rfl kr kr kr (fun _ _ _ h=>h) (Or.inl ⟨rfl,?_⟩) (by assumption) ?_
         rotate_left
         ·intro w hSw;(try dsimp only at hSw);go_simp;(try with_reducible rfl)
         try simp only[Act.put,Ao,Au,Ap]
         refine CU (rs:=[0,7]) kr Ah ?_;refine BV (o:=⟨_,_,_,_,_,_⟩) rfl (fun K hK=>?_) (BV (o:=⟨_,_,_,_,_,_⟩) rfl (fun K hK=>?_) Cu)
         ·go_simp;refine hK.out _ _ y1 (fun hHeld=>?_);clear hK K
          try simp only[Act.put,Ao,Au,Ap]
          refine CU (rs:=[7]) kr Ah ?_;refine BV (o:=⟨_,_,_,_,_,_⟩) rfl (fun K hK=>?_) Cu;go_simp;refine hK.out _ _ (y3 _) (fun hHeld=>?_);clear hK K
          try simp only[Act.put,Ao,Au,Ap]
          refine CU (rs:=[8]) kr Ah ?_;refine BV (o:=⟨_,_,_,_,_,_⟩) rfl (fun K hK=>?_) Cu
          (refine xM ?q1 (.tmp 61) (.tmp 68) ?q2 w7.heap.size BA j bc (ax ((vs1.zip vs2).take j)) ?q3 ?q4 (.slice L1 l1 d1) (.slice C1 m1 e1) ?q5 rfl rfl ?q7 ?q8 ?_;(case q1=>rfl);(case q2=>rfl);(case q3=>rfl);(case q4=>exact Oa HL2.1.own _);(case q5=>exact⟨_,rfl,AL wr _⟩);(case q7=>exact Lt hjb.1 Ai);(case q8=>(have:=hsz.1;show _≤(World.alloc _ _).heap.size;simp;omega));intro B4 c4 w8 hown hgrow hat;have MB:=HL2.1.push hgz.1 hzl.1 ad2.1 (W:=(wr.alloc (.cells #[.slice L1 l1 d1,.slice C1 m1 e1] 57)).drew) (fun i hi=>Ay wr _ i hi) (by show _≤(World.alloc _ _).heap.size;simp) rfl rfl rfl hgrow hown;have HP:=Al MB.1;have v8:=MB.2.1;have f8:=MB.2.2;have k9:w8.cell? ⟨b1,rz+j,none⟩=some (.slice L1 l1 d1):=(AU (a:=⟨b1,rz+j,none⟩) (hgrow.block b1 (by have:=hbw.1;show b1< (World.alloc _ _).heap.size;simp;omega) (fun e=>by have:=hlB.1 b1 e.symm;have:=Uj.1;omega))).trans (Y3.1 _);have k10:(w8.setCell ⟨w.heap.size+1,0,none⟩ (.slice B4 (j+1) c4)).cell? ⟨b1,rz+j,none⟩=some (.slice L1 l1 d1):=(AO _ _ _ _ (by intro h;exact ad3.1 (congrArg Addr.block h).symm)).trans k9;clear MB hown hgrow hat)
          refine hK.out _ _ k9 (fun hHeld=>?_);clear hK K
          try simp only[Act.put,Ao,Au,Ap]
          refine CU (rs:=[9]) kr Ah ?_;refine BV (o:=⟨_,_,_,_,_,_⟩) rfl (fun K hK=>?_) Cu;go_simp;refine hK.out _ _ k10 (fun hHeld=>?_);clear hK K
          try simp only[Act.put,Ao,Au,Ap]
          refine wpAnyH_done kr ?_ _;refine NoPanic.normal ?_;go_wp2;go_roundw
          case rel=>exact⟨j+1,B4,c4,om,by go_num,HP⟩
          case measure=>simp[intOf];try omega
         ·go_simp;refine hK.out _ _ (y3 _) (fun hHeld=>?_);clear hK K
          try simp only[Act.put,Ao,Au,Ap]
          refine CU (rs:=[0]) kr Ah ?_;refine BV (o:=⟨_,_,_,_,_,_⟩) rfl (fun K hK=>?_) Cu;go_simp;refine hK.out _ _ (y3 _) (fun hHeld=>?_);clear hK K
          try simp only[Act.put,Ao,Au,Ap]
          refine CU (rs:=[8]) kr Ah ?_;refine BV (o:=⟨_,_,_,_,_,_⟩) rfl (fun K hK=>?_) Cu
          (refine xM ?r1 (.tmp 61) (.tmp 68) ?r2 w7.heap.size BA j bc (ax ((vs1.zip vs2).take j)) ?r3 ?r4 (.slice L1 l1 d1) (.slice C1 m1 e1) ?r5 rfl rfl ?r7 ?r8 ?_;(case r1=>rfl);(case r2=>rfl);(case r3=>rfl);(case r4=>exact Oa HL2.1.own _);(case r5=>exact⟨_,rfl,AL wr _⟩);(case r7=>exact Lt hjb.1 Ai);(case r8=>(have:=hsz.1;show _≤(World.alloc _ _).heap.size;simp;omega));intro B4 c4 w8 hown hgrow hat;have MB:=HL2.1.push hgz.1 hzl.1 ad2.1 (W:=(wr.alloc (.cells #[.slice L1 l1 d1,.slice C1 m1 e1] 57)).drew) (fun i hi=>Ay wr _ i hi) (by show _≤(World.alloc _ _).heap.size;simp) rfl rfl rfl hgrow hown;have HP:=Al MB.1;have v8:=MB.2.1;have f8:=MB.2.2;have k9:w8.cell? ⟨b1,rz+j,none⟩=some (.slice L1 l1 d1):=(AU (a:=⟨b1,rz+j,none⟩) (hgrow.block b1 (by have:=hbw.1;show b1< (World.alloc _ _).heap.size;simp;omega) (fun e=>by have:=hlB.1 b1 e.symm;have:=Uj.1;omega))).trans (Y3.1 _);have k10:(w8.setCell ⟨w.heap.size+1,0,none⟩ (.slice B4 (j+1) c4)).cell? ⟨b1,rz+j,none⟩=some (.slice L1 l1 d1):=(AO _ _ _ _ (by intro h;exact ad3.1 (congrArg Addr.block h).symm)).trans k9;clear MB hown hgrow hat)
          refine hK.out _ _ k9 (fun hHeld=>?_);clear hK K
          try simp only[Act.put,Ao,Au,Ap]
          refine CU (rs:=[9]) kr Ah ?_;refine BV (o:=⟨_,_,_,_,_,_⟩) rfl (fun K hK=>?_) Cu;go_simp;refine hK.out _ _ k10 (fun hHeld=>?_);clear hK K
          try simp only[Act.put,Ao,Au,Ap]
          refine wpAnyH_done kr ?_ _;refine NoPanic.normal ?_;go_wp2;go_roundw
          case rel=>exact⟨j+1,B4,c4,om,by go_num,HP⟩
          case measure=>simp[intOf];try omega
        ·obtain rfl:j=cn:=by omega
         clear hlt2 hj;have HS6:=Al (HS5.1.upd HL2.1);have l1:=S2.1;have l2:=M2.1;have l3:=adZ.1;have l4:=Hcn.1;rw[fM]at l1;have hK:fK wr wr.heap.size BA j bc ((rs.map (·.1)).zip ch):=by
          refine HL2.1.rd (by rw[DZ];omega) (by rw[DZ,DZ,fM];omega) Aj hg5.1 (fun i h h'=>?_);have i1:i<vs1.length:=by rw[DZ]at h;omega
          have i2:i<vs2.length:=by rw[DZ]at h;omega
          have i3:i< (rs.map (·.1)).length:=by rw[fM];omega
          have i4:i<ch.length:=om;obtain⟨L1,l1,d1,he1,hr1⟩:=S3.1 i _ (kC i3);obtain⟨C1,m1,e1,he2,hr2⟩:=M3.1 i _ (kC i4);obtain⟨_,q1⟩:=l5.1 he1;obtain⟨_,q2⟩:=l5.1 he2;refine⟨L1,l1,d1,C1,m1,e1,?_,?_,?_⟩
          ·rw[EB,q1,q2]
          ·rw[EB];exact hr1
          ·rw[EB];exact hr2
         have HK:=Al hK;have hfit:∀s∈(rs.map (·.1)).zip ch,Lb.Fit s.1:=fun s hs=>by
          obtain⟨r,hr,e⟩:=dV.1 (List.of_mem_zip hs).1;rw[←e];exact HO.1.fit r hr
         have HCk:=Al (tV BA j bc wr.heap.size ((rs.map (·.1)).zip ch) wr hK Aj (Uc HO.1 wK.1) hfit);have e3:=HE.1;have z0:=Co _ _ 0 _ _ _ HL2.1.var;have hbl:((rs.map (·.1)).zip ch).length=j:=by rw[DZ,fM];omega
         have Hbl:=Al hbl;clear l1 l2 l3 l4 hK hfit hbl;generalize hbk:(rs.map (·.1)).zip ch=bk at*;have Hbk:=Al hbk;clear hbk HE;unfold Bk.Wp at e3;have HT6:=Al (HL2.1.strs hg5.1 ((ahA.1.below Hb4.1).more Hb4.1.size));by_cases hcb:Bk.bN bk=0
         ·rw[Ng (by simp[hcb])]at e3;rw[hcb]at HCk;have Hcb:=Al hcb;have HC6:=Al (fun(W8:World) (g8:Gr wr W8)=>Gm TA A3 tn tc n3 c3 (j:Int) T (D 3) W8 ((HT6.1.below g8.below).more g8.size) ((H3.1.below (HS6.1.on g8.below).aX).more (HS6.1.on g8.below).aX.size) om om);rw[show(bk.length:Int)=(j:Int)by rw[Hbl.1]]at e3;generalize hQ3:Pe.dec T (j:Int) (D 3)=Q3 at e3 HC6;have Xg:=Al hQ3;obtain⟨E3,eP⟩:=Q3;simp only[]at e3 HC6;clear hQ3 hcb;by_cases hep:eP=0
          ·subst hep;rw[Ng Ah]at e3;have Il:Bk.sets bk=rs.map (·.1):=by
            rw[←Hbk.1];unfold Bk.sets;exact List.map_fst_zip (by rw[fM,adZ.1];exact Nr _)
           have ad5:Kept (Ps.Sets (rs.map (·.1))):=⟨by rw[←Il];exact Bk.kU Hcb.1 (by rw[Il];exact HO.1.wt)⟩
           have ahD:Kept (l8 wr wr.heap.size SA j sc (rs.map (·.1))):=⟨⟨vs1,Rd.more (Rd.off S1.1 Aj hSA.1 HL2.1.gr) HL2.1.gr.size,S2.1,fun i l hl=>by
            obtain⟨A',n',c',e,h⟩:=S3.1 i l hl;exact⟨A',n',c',e,dH.more (Rd.but h Aj hg5.1 (Ua _ _ _ _) HL2.1.gr) HL2.1.gr.size⟩⟩⟩
           have hie:¬Ps.zl (Ps.gT (rs.map (·.1)) 0) E3→Bk.Gs bk E3=22:=fun h=>by unfold Bk.Gs;rw[Il,Ng h]
           have ad6:Ps.zl (Ps.gT (rs.map (·.1)) 0) E3→Bk.Gs bk E3=0:=fun h=>by unfold Bk.Gs;rw[Il,Ps0 h]
           clear Il;by_cases hidx:Ps.zl (Ps.gT (rs.map (·.1)) 0) E3;rw[ad6 hidx,Ng Ah]at e3
           rotate_left
           rw[hie hidx,Ps0 Ai]at e3
           rotate_left
           all_goals
            have HE:=Al e3;have HX:=Al hidx;clear e3 hie ad6 hidx;go_wp2_with first
             |(go_at_call 72;refine(gD 22 Ai _).mono ?_;rintro r w14 ⟨rfl,rfl⟩)
             |(go_at_call 75;refine(wM PA EA pn pc en ec E3 E _ ((HPe.1.below XD.1 Aj).more XD.1.size) HEn.1).mono ?_;rintro r Vf ⟨he,vO⟩;(first|rw[BI (Ps.zl.uniq HX.1 HIx.1)]at he|rw[AA (fun q=>HX.1 (by rw[q];exact HIx.1))]at he);subst he;have zP:=Al (HS9.1.on vO.below);have z3:=Co _ _ 0 _ _ _ zP.1.out;have z4:=Co _ _ 0 _ _ _ zP.1.err;have f3:=Fr _ _ 0 _ _ zP.1.out;have f4:=Fr _ _ 0 _ _ zP.1.err;have ahE:=Al vO;clear vO)
             |(go_at_call 37;refine(xC SA j sc (rs.map (·.1)) _ ((ahD.1.below (UJ.1.below.trans (Hb9.1.mono UJ.1.size))).more (Lt UJ.1.size Hb9.1.size)) ad5.1).mono ?_;rintro r Zl ⟨EA,en,ec,E,rfl,hIx,hEn,aa8⟩;have HIx:=Al hIx;have HEn:=Al hEn.rd;have XD:=Al aa8;have HS9:=Al (HS8.1.on aa8);clear hIx hEn aa8)
             |(go_at_call 76;refine(TP _ _).mono ?_;rintro r PI ⟨rfl,rfl⟩)
             |(go_at_call 77;refine(HC6.1 w9 UJ.1).mono ?_;rintro r PH ⟨PA,pn,pc,rfl,hPe,xE⟩;have HS8:=Al (XE.1.on xE);have HPe:=Al hPe;have Hb9:=Al xE;clear xE hPe)
             |(go_at_call 72;refine(lX _).mono ?_;rintro r w9 ⟨rfl,rfl⟩)
             |(go_at_call 17;refine HCk.1.mono ?_;rintro r w8 ⟨rfl,rG⟩;have XE:=Al (HS6.1.on rG.below);have z1:=Co _ _ 0 _ _ _ XE.1.out;have z2:=XE.1.sec 3 om;have UJ:=Al rG;clear rG)
           ·have q1:Vf.setCell ⟨w.heap.size+1,0,none⟩ (.slice BA j bc)=Vf:=uX zP.1.out;have q2:Vf.setCell ⟨w.heap.size+1+1,0,none⟩ (.int .i64 0)=Vf:=uX zP.1.err;rw[q1,q2];have hbz:Below wr.heap.size wr Vf:=((UJ.1.below.trans (Hb9.1.mono UJ.1.size)).trans (XD.1.mono (Lt UJ.1.size Hb9.1.size))).trans (ahE.1.below.mono (Lt (Lt UJ.1.size Hb9.1.size) XD.1.size));have hrd:=(HK.1.below hbz).more hbz.size;refine zP.1.home rfl rfl ?_;rw[HE.1];exact⟨BA,j,bc,rfl,hrd,zP.1.aX⟩
           ·exact zP.1.door rfl rfl (fun w' hb=>ku.bad HE.1 hb)
          ·rw[Ps0 hep]at e3;have HE:=Al e3;have HT:=Al hep;clear e3 hep;go_wp2_with first
            |(go_at_call 76;refine(Ke _ eP HT.1 _).mono ?_;rintro r PI ⟨rfl,rfl⟩)
            |(go_at_call 77;refine(HC6.1 w9 UJ.1).mono ?_;rintro r PH ⟨PA,pn,pc,rfl,hPe,xE⟩;have HS8:=Al (XE.1.on xE);clear xE)
            |(go_at_call 72;refine(lX _).mono ?_;rintro r w9 ⟨rfl,rfl⟩)
            |(go_at_call 17;refine HCk.1.mono ?_;rintro r w8 ⟨rfl,rG⟩;have XE:=Al (HS6.1.on rG.below);have z1:=Co _ _ 0 _ _ _ XE.1.out;have z2:=XE.1.sec 3 om;have UJ:=Al rG;clear rG)
           exact HS8.1.door rfl rfl (fun w' hb=>ku.bad HE.1 hb)
         ·rw[Ps0 hcb]at e3;have HE:=Al e3;have HT:=Al hcb;generalize Bk.bN bk=ek at*;clear e3 hcb;go_wp2_with first
           |(go_at_call 72;refine(gD ek HT.1 _).mono ?_;rintro r w9 ⟨rfl,rfl⟩)
           |(go_at_call 17;refine HCk.1.mono ?_;rintro r w8 ⟨rfl,rG⟩;have XE:=Al (HS6.1.on rG.below))
          exact XE.1.door rfl rfl (fun w' hb=>ku.bad HE.1 hb)
      ·rw[Ps0 hc]at e2;have HE:=Al e2;have HT:=Al hc;clear e2 hc;go_wp2_with first
        |(go_at_call 73;refine(Kc _ eC HT.1 _).mono ?_;rintro r w7 ⟨rfl,rfl⟩)
        |(go_at_call 74;refine TY.1.mono ?_;rintro r w6 ⟨CA,cn,cc,rfl,aa6,hb4,aa7⟩;have HS5:=Al (HS4.1.on hb4))
       exact HS5.1.door rfl rfl (fun w' hb=>ku.bad HE.1 hb)
  ·rw[Ps0 hr]at e0;have HE:=Al e0;have HT:=Al hr;clear e0 hr;go_enter_defers func35,ntmps35;go_wp2_with first
    |(go_at_call 69;refine(Kb _ eR HT.1 _).mono ?_;rintro r w3 ⟨rfl,rfl⟩)
    |(go_at_call 70;refine(HC1.1 TA tn tc w2 HTA.1 Hb1.1).mono ?_;rintro r w3 ⟨RA,rn,rc,rfl,hRd,hb2⟩;have HS2:=Al (Ob.1.on hb2))
    |(go_at_call 67;refine(uV _ _).mono ?_;rintro r w2 ⟨rfl,rfl⟩)
    |(go_at_call 68;rw[HW.1];refine HC0.1.mono ?_;rintro r w1 ⟨TA,tn,tc,rfl,hT,hb1⟩;have HTA:=Al hT;have Ob:=Al (YS.1.on hb1);have Hb1:=Al hb1;have x1:w1.cell? ⟨w.heap.size,1,none⟩=some (.slice A1 n1 c1):=Ob.1.sec 1 om;clear hT hb1)
   exact HS2.1.door rfl rfl (fun w' hb=>ku.bad HE.1 hb)
 ·rw[Ps0 hT]at e0;have HE:=Al e0;have HT:=Al hT;clear e0 hT;go_enter_defers func35,ntmps35;go_wp2_with first
   |(go_at_call 67;refine(Ka _ eT HT.1 _).mono ?_;rintro r w2 ⟨rfl,rfl⟩)
   |(go_at_call 68;rw[HW.1];refine HC0.1.mono ?_;rintro r w1 ⟨TA,tn,tc,rfl,hT,hb1⟩)
  exact(YS.1.on hb1).door rfl rfl (fun w' hb=>ku.bad HE.1 hb)
theorem ku.after {w w2 w3 R e} (hb:Below w.heap.size w w2) (h:ku w2 R e w3):ku w R e w3:=by
 obtain⟨A,n,c,h1,h2,h3⟩:=h;exact⟨A,n,c,h1,h2,hb.trans (h3.mono hb.size)⟩
def Ko (l:List UInt8):Prop:=∀i,i<4→(Ly.mK l i).length≤if i=2 then 10000000 else 1000000
theorem ad8 (V D w) (h:∀i,i<4→∃A n c,V i= .slice A n c∧aY w w.heap.size A n c (D i)∧n≤(if i=2 then 10000000 else 1000000)) (hG:Gl w):
  Calls prog 35 #[.agg (Ly.jl V)] w (ku w (Bk.oF D)):=by
 obtain⟨A0,n0,c0,e0,r0,l0⟩:=h 0 om;obtain⟨A1,n1,c1,e1,r1,l1⟩:=h 1 om;obtain⟨A2,n2,c2,e2,r2,l2⟩:=h 2 om;obtain⟨A3,n3,c3,e3,r3,l3⟩:=h 3 om;unfold Ly.jl;rw[e0,e1,e2,e3];exact Uk A0 A1 A2 A3 n0 n1 n2 n3 c0 c1 c2 c3 D w r0 r1 r2 r3 (by simpa using l0) (by simpa using l1) (by simpa using l2) (by simpa using l3) hG
theorem XF (V l w w2 o) (hf:bQ w2 w.heap.size V (Ly.mK l)) (hb:Below w.heap.size w w2) (hs:Ko l) (hG:Gl w):
  Calls prog 35 #[.agg (Ly.jl V)] (w2.alloc o) (ku w (Bk.oF (Ly.mK l))):=by
 have hbx:=hb.alloc hb.size o;refine(ad8 V (Ly.mK l) (w2.alloc o) (fun i hi=>?_) (hG.below hbx)).mono fun e w3 h=>ku.after hbx h
 obtain⟨A,n,c,h1,h2⟩:=hf.below ((Ae _ w2).alloc Aj o) i hi;exact⟨A,n,c,h1,h2.rd,by rw[h2.len];exact hs i hi⟩
theorem MN (A n c l w) (hv:aY w w.heap.size A n c l) (hn:n≤140737488353000) (hs:Ko l) (hG:Gl w):
  Calls prog 9 #[.slice A n c] w (ku w (Bk.dec l)):=by
 have LP:=Al (sN A n c l w hv hn hG.tab);have SA:=Al (fun V w2 o hf hb=>XF V l w w2 o hf hb hs hG);have hd:Bk.dec l=if Ly.pe l≠0 then([],Ly.pe l)else Bk.oF (Ly.mK l):=rfl;generalize Ly.pe l=f at*;generalize Bk.dec l=R at*;clear hv hG hs;by_cases hf:f=0
 ·subst hf;rw[Ng Ah]at hd;subst hd;go_enter func9,ntmps9;go_wp2_with (first
   |(go_at_call 35;refine SC.1.mono ?_;rintro e w3 h3;obtain⟨A9,n9,c9,rfl,h4,h5⟩:=h3;have H4:=Al h4;have H5:=Al h5;clear h4 h5)
   |(go_at_call 34;refine LP.1.mono ?_;rintro r w2 ⟨V,rfl,hf,hb⟩;obtain⟨Aa,na,ca,Ab,nb,cb,Ac,nc,cc,Ad,nd,cd,hV⟩:=hf.lit;have SC:=Al (SA.1 V w2 (.cells (Ly.jl V) 76) hf hb);rw[hV]at SC⊢;clear hf hb hV LP SA))
  go_ret2;exact⟨A9,n9,c9,rfl,H4.1,H5.1⟩
 ·rw[Ps0 hf]at hd;have hf1:(f !=0)=true:=by simpa using hf
  have HD:=Al hd;clear hd hf SA;go_enter func9,ntmps9;go_wp2_with (go_at_call 34;refine LP.1.mono ?_;rintro r w2 ⟨V,rfl,hf,hb⟩;obtain⟨Aa,na,ca,Ab,nb,cb,Ac,nc,cc,Ad,nd,cd,hV⟩:=hf.lit;rw[hV];have B2:=Al hb;clear hf hb hV LP);go_ret2;exact ku.bad HD.1 (B2.1.alloc B2.1.size _)
end Go.Proofs.YtongopommlghgaaGreatDoor
