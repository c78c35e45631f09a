/- Part 20. -/
import Derived.Test.YtongopommlghgaaGreatDoorZJAS
namespace Go.Proofs.YtongopommlghgaaGreatDoor
set_option maxRecDepth 100000
set_option maxHeartbeats 0
open _root_.Go.Proofs.Tryz
section
open Go.RowKit Go.Shelf
theorem XP (n:Nat) (hn:n≤1000000) (w):(Instr.makeSlice 24 (.int .i64 n) (.int .i64 n)).run prog w= .ok (.slice (some ⟨w.heap.size,0,none⟩) n n) (w.alloc (.cells (madeCells #[.slice none 0 0,.slice none 0 0] (n*2)) 57)):=by
 obtain⟨i0,hi0,hz0,hz1,hz2⟩:=AY FF;have:=Eb (P:=prog) w 24 57 i0 (.agg #[.slice none 0 0,.slice none 0 0]) underlying24 hi0 hz0 .i64 .i64 (n:Int) (n:Int) om om (by rw[hz1];simp;omega) (by rw[hz2];omega) om;rw[hz1]at this;simpa[Value.cells]using this
theorem XQ (n:Nat) (hn:n≤1000000) (w):(Instr.makeSlice 54 (.int .i64 n) (.int .i64 n)).run prog w= .ok (.slice (some ⟨w.heap.size,0,none⟩) n n) (w.alloc (.cells (madeCells #[.string ByteArray.empty,.string ByteArray.empty] (n*2)) 59)):=by
 obtain⟨i0,hi0,hz0,hz1,hz2⟩:=AY Qv;have:=Eb (P:=prog) w 54 59 i0 (.agg #[.string ByteArray.empty,.string ByteArray.empty]) underlying54 hi0 hz0 .i64 .i64 (n:Int) (n:Int) om om (by rw[hz1];simp;omega) (by rw[hz2];omega) om;rw[hz1]at this;simpa[Value.cells]using this
def YX (g n:Nat) (hs:List (Value×Value)) (b:Bk.gN) (k:Nat) (W:World):Prop:=
 ∃ks:List (Value×Value),W.heap[g]? =some (.cells (ax ks).toArray 57 (0,0))∧ks.length=n∧(∀i,k≤i→ks[i]? =hs[i]?)∧
  ∀(i:Nat) (h:i<ks.length) (h':i<b.length),i<k→∃A1 n1 c1 A2 n2,ks[i]=(.slice A1 n1 c1,.slice A2 n2 n2)∧aJ W (g+1) A1 n1 c1 b[i].1∧aH W (g+1) A2 n2 n2 b[i].2
theorem YX.step {g n k} {hs ks:List (Value×Value)} {b W W' A1 A2 n1 c1 n2} (hlen:ks.length=n) (hrest:∀i,k≤i→ks[i]? =hs[i]?)
  (hown:∀(i) (h:i<ks.length) (h':i<b.length),i<k→∃A1 n1 c1 A2 n2,ks[i]=(.slice A1 n1 c1,.slice A2 n2 n2)∧aJ W (g+1) A1 n1 c1 b[i].1∧aH W (g+1) A2 n2 n2 b[i].2) (hk:k<n) (hkb:k<b.length)
  (hg:W.grownBy W' (some g)) (hr:W'.heap[g]? =some (.cells (ax (ks.set k (.slice A1 n1 c1,.slice A2 n2 n2))).toArray 57 (0,0))) (h1:aJ W' (g+1) A1 n1 c1 b[k].1) (h2:aH W' (g+1) A2 n2 n2 b[k].2):YX g n hs b (k+1) W':=by
 refine⟨_,hr,by simp[hlen],fun i hi=>?_,fun i h h' hik=>?_⟩
 ·rw[Dt om];exact hrest i om
 ·by_cases e:i=k
  ·subst e;exact⟨A1,n1,c1,A2,n2,Ah,h1,h2⟩
  ·have hi:i<ks.length:=by simpa using h
   obtain⟨B1,m1,d1,B2,m2,q,o1,o2⟩:=hown i hi h' om;refine⟨B1,m1,d1,B2,m2,?_,bS o1 hg om,bS o2 hg om⟩;rw[List.getElem_set_ne (fun q=>e q.symm)];exact q
theorem qp (ks k) (h:k<ks.length) (u v):((ax ks).set (k*2) u).set (k*2+1) v=ax (ks.set k (u,v)):=by
 unfold ax
 induction ks generalizing k with
 |nil=>simp at h
 |cons x ks ih=>
  cases k with
  |zero=>rfl
  |succ k=>
   have h':k<ks.length:=by simpa using h
   rw[Av,show(x::ks).set (k+1) (u,v)=x::ks.set k (u,v)from rfl,Av,←ih k h'];rw[show(k+1)*2=k*2+1+1 from om]
   rfl
theorem xS {hs} (h:∀i (h:i<hs.length),∃A1 n1 c1 A2 n2 c2,hs[i]=(.slice A1 n1 c1,.slice A2 n2 c2)):∀v∈ax hs,v.oneCell'=true:=by
 intro v hv;unfold ax at hv;obtain⟨x,hx,hv⟩:=l6.1 hv;obtain⟨i,hi,rfl⟩:=iC.1 hx;obtain⟨A1,n1,c1,A2,n2,c2,e⟩:=h i hi;rw[e]at hv;simp at hv;rcases hv with rfl|rfl<;>rfl
theorem jV (w:World) (a v):w.grownBy (w.setCell a v) (some a.block):=⟨rfl,rfl,rfl,Ah,fun k _ hne=>heap_setCell_other w a k v (fun e=>hne (by rw[e]))⟩
theorem Uq {a b c:World} {g r} (h1:a.grownBy b (some g)) (h2:b.grownBy c (some r)) (hr:a.heap.size≤r):a.grownBy c (some g):=
 ⟨h2.os.trans h1.os,h2.tape.trans h1.tape,h2.output.trans h1.output,Lt h1.size h2.size,fun k hk hne=>(h2.block k (jE hk h1.size) (fun e=>by have:=Oj e;omega)).trans (h1.block k hk hne)⟩
theorem MX {w w':World} {r} (h:w.drew.grownBy w' r):w.grownBy w' r:=⟨h.os,h.tape,h.output,h.size,h.block⟩
theorem vg {w:World} {base g n sz e xs} (hb:base≤g) (hl:xs.length=n*sz) (hn:n≤maxLen) (h:w.heap[g]? =some (.cells xs.toArray e (0,0))):w.ownsRow base e sz (.slice (some ⟨g,0,none⟩) n n) n xs:=
 ⟨hl,.inr ⟨g,n,xs.toArray,rfl,hb,h,Nr _,hn,by simpa using hl,by simp[←hl]⟩⟩
theorem aeg:(prog.info? 57).map (·.size)=some 2:=kr
theorem aeh:(prog.info? 59).map (·.size)=some 2:=kr
theorem aei:(prog.info? 127).map (·.size)=some 2:=kr
theorem Pv (A n c b w) (hv:fK w w.heap.size A n c b) (hsz:n≤1000000) (hin:∀s∈b,s.1.length≤1000000∧s.2.length≤1000000):
  Calls prog 55 #[.slice A n c] w fun e w'=>e= .returned (.slice (some ⟨w.heap.size,0,none⟩) n n)∧(∃hs,YX w.heap.size n hs b n w')∧Below w.heap.size w w':=by
 have hn:=Al hv.len;have hcp:=hv.cap;unfold maxLen at hcp;obtain⟨hcp1,hcp2⟩:=hcp;obtain⟨hs,hrd,Xz,hhe⟩:=hv;have HL:=Al Xz;have HE:=Al hhe;have ME:=Al hin;have mk:=fun W=>XP n hsz W
 have aej:(madeCells #[.slice none 0 0,.slice none 0 0] (n*2)).toList.length=(ax hs).length:=by rw[aP,Xz,←hn.1];simp[madeCells]
 have uK:=Al (show(ax hs).length=Nat.min n n*2 by rw[aP,Xz,←hn.1];simp);have hone:=Al (xS (hs:=hs) fun i hi=>by
  obtain⟨A1,n1,c1,A2,n2,c2,e,-,-⟩:=hhe i hi om;exact⟨A1,n1,c1,A2,n2,c2,e⟩)
 have SRC:=Al (fun(W:World) (h:Below w.heap.size w W) (hp:0<n)=>Rd.src (hrd.below h) hp);have MC:=Al aej;have hz0:Kept (0< (ax hs).length→0<n):=⟨fun h=>by rw[aP,Xz,←hn.1]at h;omega⟩
 clear hrd Xz hhe hin aej;go_enter func55,ntmps55;go_upto_region 4 with(refine zR 2 Ai rfl (.tmp 9) (.tmp 10) 24 24 rfl 57 underlying24 aeg _ _ _ _ _ _ rfl rfl w.heap.size 0 (madeCells #[.slice none 0 0,.slice none 0 0] (n*2)).toList 57 (by rw[Array.toArray_toList];exact Aw w _) (ax hs) uK.1 (fun h=>⟨rfl,SRC.1 _ ((Ae _ _).alloc Aj _) (hz0.1 h)⟩) (by rw[MC.1];omega) hone.1 ?_;intro w2 hg2 TC;rw[nC MC.1]at hg2;have B2:=Al (((Ae w.heap.size w).alloc Aj (.cells (madeCells #[.slice none 0 0,.slice none 0 0] (n*2)) 57)).grown TC Ah (fun r e=>by cases e;exact Nr _)))
 have CL0:YX w.heap.size n hs b 0 w2:=⟨hs,hg2.out,by rw[HL.1,←hn.1],fun _ _=>rfl,fun i h h' hi=>om⟩
 clear hg2 TC mk uK SRC hz0 hone;go_loopw [14] (fun i wr=>∃k:Nat,k≤n∧i= .int .i64 k∧Kept (YX w.heap.size n hs b k wr)∧Below w.heap.size w wr) (fun i _=>n-(intOf i).toNat)
 case atStart=>exact⟨0,bf _,rfl,⟨CL0⟩,B2.1⟩
 case round=>
  obtain⟨k,hk,rfl,hcl,hb⟩:=hrel;by_cases hlt:k<n
  ·have hkb:k<b.length:=by rw[←hn.1];exact hlt
   have hkh:k<hs.length:=by rw[HL.1];exact hkb
   obtain⟨ks,hrow,hlen,hrest,hown⟩:=hcl.1;obtain⟨A1,n1,c1,A2,n2,c2,he,hl,hm⟩:=HE.1 k hkh hkb;have hkk:k<ks.length:=by rw[hlen];exact hlt
   have hks:ks[k]=(.slice A1 n1 c1,.slice A2 n2 c2):=by
    have:=hrest k Aj;rw[kC hkk,kC hkh,he]at this;exact Oj this
   obtain⟨g1,g2⟩:=bR ks k hkk;rw[hks]at g1 g2;have hn1:n1≤1000000:=by rw[hl.len];exact(ME.1 _ (dR hkb)).1
   have hn2:n2≤1000000:=by rw[hm.len];exact(ME.1 _ (dR hkb)).2
   have R1:=Al (fun(W:World) (h:Below w.heap.size w W)=>hl.below h);have R2:=Al (fun(W:World) (h:Below w.heap.size w W)=>hm.below h);have mk1:=fun W=>XQ n1 hn1 W
   have hsz:=hb.size;have hgl:w.heap.size<wr.heap.size:=(Ge.1 hrow).1;have q1:wr.cell? ⟨w.heap.size,k*2,none⟩=some (.slice A1 n1 c1):=(Co _ _ _ _ _ _ hrow).trans (by simpa using g1);have q2:wr.cell? ⟨w.heap.size,k*2+1,none⟩=some (.slice A2 n2 c2):=(Co _ _ _ _ _ _ hrow).trans (by simpa using g2);have F1:∀o o',((wr.alloc o).alloc o').heap[w.heap.size]? =some (.cells (ax ks).toArray 57 (0,0)):=fun o o'=>by
    rw[((Ga wr o none).trans (Ga (wr.alloc o) o' none)).block _ hgl Ah];exact hrow
   have q3:∀o o',((wr.alloc o).alloc o').cell? ⟨w.heap.size,k*2,none⟩=some (.slice A1 n1 c1):=fun o o'=>(Co _ _ _ _ _ _ (F1 o o')).trans (by simpa using g1)
   have q4:∀o o',((wr.alloc o).alloc o').frozen? ⟨w.heap.size,k*2,none⟩=false:=fun o o'=>Fr _ _ _ _ _ (F1 o o')
   have hset:=Al (qp ks k hkk);have aek:Kept (∀v:Value,((ax ks).set (k*2) v).toArray[k*2+1]? =some (.slice A2 n2 c2)):=⟨fun v=>by rw[Er,Dt om];exact g2⟩
   have YY:Kept (∀u v:Value,(((ax ks).set (k*2) u).set (k*2+1) v).toArray[k*2+1]? =some v):=⟨fun u v=>by rw[Er,DF (by rw[List.length_set,aP];omega)]⟩
   have YZ:Kept (∀v:Value,((ax ks).set (k*2) v).toArray[k*2]? =some v):=⟨fun v=>by rw[Er,DF (by rw[aP];omega)]⟩
   obtain⟨w3,hw3⟩:∃w3,w3=(((wr.setCell ⟨w.heap.size,k*2,none⟩ (.slice (some ⟨wr.heap.size+1,0,none⟩) n1 n1)).alloc (.cells #[.slice A1 n1 c1,.slice A2 n2 c2] 57)).alloc (.cells (madeCells #[.string ByteArray.empty,.string ByteArray.empty] (n1*2)) 59)):=⟨_,rfl⟩
   have E4:wr.grownBy w3 (some w.heap.size):=by rw[hw3];exact((jV wr ⟨w.heap.size,k*2,none⟩ _).trans (Ga _ _ _)).trans (Ga _ _ _)
   have E0:(wr.setCell ⟨w.heap.size,k*2,none⟩ (.slice (some ⟨wr.heap.size+1,0,none⟩) n1 n1)).grownBy w3 none:=by rw[hw3];exact(Ga _ _ _).trans (Ga _ _ _)
   have E1:w3.heap[w.heap.size]? =some (.cells ((ax ks).set (k*2) (.slice (some ⟨wr.heap.size+1,0,none⟩) n1 n1)).toArray 57 (0,0)):=by
    rw[E0.block _ (by simpa using hgl) Ah,Ag _ _ _ _ _ _ hrow];simp
   have E2:w3.heap[wr.heap.size+1]? =some (.cells (madeCells #[.string ByteArray.empty,.string ByteArray.empty] (n1*2)) 59 (0,0)):=by
    rw[hw3];have:=AL ((wr.setCell ⟨w.heap.size,k*2,none⟩ (.slice (some ⟨wr.heap.size+1,0,none⟩) n1 n1)).alloc (.cells #[.slice A1 n1 c1,.slice A2 n2 c2] 57)) (.cells (madeCells #[.string ByteArray.empty,.string ByteArray.empty] (n1*2)) 59);simpa using this
   have E3:w3.heap[wr.heap.size]? =some (.cells #[.slice A1 n1 c1,.slice A2 n2 c2] 57 (0,0)):=by
    rw[hw3];have:=AL (wr.setCell ⟨w.heap.size,k*2,none⟩ (.slice (some ⟨wr.heap.size+1,0,none⟩) n1 n1)) (.cells #[.slice A1 n1 c1,.slice A2 n2 c2] 57);exact(Ay _ _ _ Ah).trans (by simpa using this)
   have E5:w3.heap.size=wr.heap.size+2:=by rw[hw3];simp
   have am7:=Al hrow;have HB:=Al hb;have ael:=Al hrest;have HOWN:=Al hown;clear hrow hb hrest hown hl hm he hkh;have HW3:=Al hw3.symm;clear F1 g1 g2 hw3;go_upto_region 7 with fail;rw[HW3.1];clear HW3;have y0:w3.cell? ⟨w.heap.size,k*2,none⟩=some (.slice (some ⟨wr.heap.size+1,0,none⟩) n1 n1):=(Co _ _ _ _ _ _ E1).trans (YZ.1 _);have y1:w3.cell? ⟨wr.heap.size,0,none⟩=some (.slice A1 n1 c1):=Co _ _ 0 _ _ _ E3;have B3:Below w.heap.size w w3:=HB.1.grown E4 HB.1.size (fun r e=>by cases e;exact Nr _);have X1:=Al E1;have X2:=Al E2;have X3:=Al E3;have X4:=Al E4;have X5:=Al E5;have HB3:=Al B3;have XT:Kept ((mQ b[k].1).length=Nat.min n1 n1*2):=⟨by rw[dW,←(R1.1 w (Ae _ _)).len];simp⟩
   have Tq:Kept ((madeCells #[.string ByteArray.empty,.string ByteArray.empty] (n1*2)).toList.length=(mQ b[k].1).length):=⟨by rw[XT.1];simp[madeCells]⟩
   have ahL:Kept (0< (mQ b[k].1).length→0<n1):=⟨fun h=>by rw[XT.1]at h;simp at h;exact h⟩
   clear E0 E1 E2 E3 E4 E5 B3 mk1 q1 q2 q3 q4;go_region_held3 (fun w'=>w'.cell? ⟨w.heap.size,k*2,none⟩=some (.slice (some ⟨wr.heap.size+1,0,none⟩) n1 n1)∧w'.cell? ⟨wr.heap.size,0,none⟩=some (.slice A1 n1 c1)) (first|exact⟨y0,y1⟩|exact k9)
    (first
     |(refine ve 2 Ai ?g1 (.tmp 31) (.tmp 33) 54 54 ?g2 59 underlying54 aeh (some ⟨wr.heap.size+1,0,none⟩) A1 n1 n1 n1 c1 ?g3 ?g4 (wr.heap.size+1) 0 (madeCells #[.string ByteArray.empty,.string ByteArray.empty] (n1*2)).toList 59 ?g5 (mQ b[k].1) ?g6 ?g7 ?g8 ?g9 ?_;(case g1=>rfl);(case g2=>rfl);(case g3=>rfl);(case g4=>rfl);(case g5=>rw[Array.toArray_toList];exact X2.1);(case g6=>exact XT.1);(case g7=>exact fun h=>⟨rfl,Rd.src (R1.1 _ HB3.1.drew) (ahL.1 h)⟩);(case g8=>rw[Tq.1];omega);(case g9=>exact KV _);intro w4 hg4 Ii;rw[nC Tq.1]at hg4;have Y1:=Al ((Ii.block w.heap.size (by have:=X5.1;show _<w3.heap.size;omega) (by intro e;have:=Oj e;omega)).trans X1.1);have Y3:=Al ((Ii.block wr.heap.size (by have:=X5.1;show _<w3.heap.size;omega) (by intro e;have:=Oj e;omega)).trans X3.1);have k9:w4.cell? ⟨w.heap.size,k*2,none⟩=some (.slice (some ⟨wr.heap.size+1,0,none⟩) n1 n1)∧w4.cell? ⟨wr.heap.size,0,none⟩=some (.slice A1 n1 c1):=⟨(Co _ _ _ _ _ _ Y1.1).trans (YZ.1 _),Co _ _ 0 _ _ _ Y3.1⟩;have Y2:=Al hg4.out;have Y4:=Al Ii;clear hg4 Ii))
   have G4:wr.grownBy w4 (some w.heap.size):=Uq X4.1 (MX Y4.1) om;have B4:=Al (HB.1.grown G4 HB.1.size (fun r e=>by cases e;exact Nr _));have yu:wr.heap.size+2≤w4.heap.size:=by have h1:=Y4.1.size;have h2:=X5.1;have h1:w3.heap.size≤w4.heap.size:=h1;omega
   have mk2:=fun W=>rX n2 hn2 W
   have z1:w4.cell? ⟨wr.heap.size,1,none⟩=some (.slice A2 n2 c2):=Co _ _ 1 _ _ _ Y3.1;have F2:∀o,(w4.alloc o).heap[w.heap.size]? =some (.cells ((ax ks).set (k*2) (.slice (some ⟨wr.heap.size+1,0,none⟩) n1 n1)).toArray 57 (0,0)):=fun o=>(Ay _ _ _ om).trans Y1.1
   have q5:∀o,(w4.alloc o).cell? ⟨w.heap.size,k*2+1,none⟩=some (.slice A2 n2 c2):=fun o=>(Co _ _ _ _ _ _ (F2 o)).trans (aek.1 _)
   have q6:∀o,(w4.alloc o).frozen? ⟨w.heap.size,k*2+1,none⟩=false:=fun o=>Fr _ _ _ _ _ (F2 o)
   obtain⟨w5,hw5⟩:∃w5,w5=((w4.alloc (.cells (madeCells #[.int .i64 0,.int .u64 0] (n2*2)) 127)).setCell ⟨w.heap.size,k*2+1,none⟩ (.slice (some ⟨w4.heap.size,0,none⟩) n2 n2)):=⟨_,rfl⟩
   have E4:wr.grownBy w5 (some w.heap.size):=by rw[hw5];exact(G4.trans (Ga _ _ _)).trans (jV _ ⟨w.heap.size,k*2+1,none⟩ _)
   have E6:w4.grownBy w5 (some w.heap.size):=by rw[hw5];exact(Ga _ _ _).trans (jV _ ⟨w.heap.size,k*2+1,none⟩ _)
   have E1:w5.heap[w.heap.size]? =some (.cells (((ax ks).set (k*2) (.slice (some ⟨wr.heap.size+1,0,none⟩) n1 n1)).set (k*2+1) (.slice (some ⟨w4.heap.size,0,none⟩) n2 n2)).toArray 57 (0,0)):=by
    rw[hw5];rw[Ag _ _ _ _ _ _ (F2 _)];simp
   have E2:w5.heap[w4.heap.size]? =some (.cells (madeCells #[.int .i64 0,.int .u64 0] (n2*2)) 127 (0,0)):=by
    rw[hw5];rw[heap_setCell_other _ _ _ _ (by show w4.heap.size≠w.heap.size;omega)];exact AL w4 _
   have E3:w5.heap[wr.heap.size]? =some (.cells #[.slice A1 n1 c1,.slice A2 n2 c2] 57 (0,0)):=(E6.block _ om (by intro e;have:=Oj e;omega)).trans Y3.1;have E5:w5.heap[wr.heap.size+1]? =some (.cells (mQ b[k].1).toArray 59 (0,0)):=(E6.block _ om (by intro e;have:=Oj e;omega)).trans Y2.1;have E7:w5.heap.size=w4.heap.size+1:=by rw[hw5];simp
   have G8:=Al hw5.symm;clear F2 G4 E6 hw5;go_upto_region 9 with fail;rw[G8.1];clear G8;have y2:w5.cell? ⟨w.heap.size,k*2+1,none⟩=some (.slice (some ⟨w4.heap.size,0,none⟩) n2 n2):=(Co _ _ _ _ _ _ E1).trans (YY.1 _ _);have y3:w5.cell? ⟨wr.heap.size,1,none⟩=some (.slice A2 n2 c2):=Co _ _ 1 _ _ _ E3;have Pm:=Al (HB.1.grown E4 HB.1.size (fun r e=>by cases e;exact Nr _));have Z1:=Al E1;have Z2:=Al E2;have Z3:=Al E3;have Z4:=Al E4;have Z5:=Al E5;have Z7:=Al E7;have XU:Kept ((kD b[k].2).length=Nat.min n2 n2*2):=⟨by rw[jJ,←(R2.1 w (Ae _ _)).len];simp⟩
   have aem:Kept ((madeCells #[.int .i64 0,.int .u64 0] (n2*2)).toList.length=(kD b[k].2).length):=⟨by rw[XU.1];simp[madeCells]⟩
   have ahM:Kept (0< (kD b[k].2).length→0<n2):=⟨fun h=>by rw[XU.1]at h;simp at h;exact h⟩
   have yu:=Al yu;clear E1 E2 E3 E4 E5 E7 mk2 q5 q6 z1 k9;go_region_held3 (fun w'=>w'.cell? ⟨w.heap.size,k*2+1,none⟩=some (.slice (some ⟨w4.heap.size,0,none⟩) n2 n2)∧w'.cell? ⟨wr.heap.size,1,none⟩=some (.slice A2 n2 c2)) (first|exact⟨y2,y3⟩|exact k9)
    (first
     |(refine ve 2 Ai ?g1 (.tmp 47) (.tmp 49) 55 55 ?g2 127 underlying55 aei (some ⟨w4.heap.size,0,none⟩) A2 n2 n2 n2 c2 ?g3 ?g4 w4.heap.size 0 (madeCells #[.int .i64 0,.int .u64 0] (n2*2)).toList 127 ?g5 (kD b[k].2) ?g6 ?g7 ?g8 ?g9 ?_;(case g1=>rfl);(case g2=>rfl);(case g3=>rfl);(case g4=>rfl);(case g5=>rw[Array.toArray_toList];exact Z2.1);(case g6=>exact XU.1);(case g7=>exact fun h=>⟨rfl,Rd.src (R2.1 _ Pm.1.drew) (ahM.1 h)⟩);(case g8=>rw[aem.1];omega);(case g9=>exact KX _);intro w6 PG Ur;rw[nC aem.1]at PG;have V1:=Al ((Ur.block w.heap.size (by have:=Z7.1;have:=yu.1;show _<w5.heap.size;omega) (by intro e;have:=Oj e;have:=yu.1;omega)).trans Z1.1);have V3:=Al ((Ur.block wr.heap.size (by have:=Z7.1;have:=yu.1;show _<w5.heap.size;omega) (by intro e;have:=Oj e;have:=yu.1;omega)).trans Z3.1);have V5:=Al ((Ur.block (wr.heap.size+1) (by have:=Z7.1;have:=yu.1;show _<w5.heap.size;omega) (by intro e;have:=Oj e;have:=yu.1;omega)).trans Z5.1);have k9:w6.cell? ⟨w.heap.size,k*2+1,none⟩=some (.slice (some ⟨w4.heap.size,0,none⟩) n2 n2)∧w6.cell? ⟨wr.heap.size,1,none⟩=some (.slice A2 n2 c2):=⟨(Co _ _ _ _ _ _ V1.1).trans (YY.1 _ _),Co _ _ 1 _ _ _ V3.1⟩;have V2:=Al PG.out;have V4:=Al Ur;clear PG Ur))
   have G6:wr.grownBy w6 (some w.heap.size):=Uq Z4.1 (MX V4.1) (by have:=yu.1;omega);have CL6:=Al (YX.step (A1:=some ⟨wr.heap.size+1,0,none⟩) (n1:=n1) (c1:=n1) (A2:=some ⟨w4.heap.size,0,none⟩) (n2:=n2) hlen ael.1 HOWN.1 hlt hkb G6 (by rw[←hset.1];exact V1.1)
    (vg om (by rw[XT.1];simp) (by unfold maxLen;omega) V5.1) (vg (by have:=yu.1;omega) (by rw[XU.1];simp) (by unfold maxLen;omega) V2.1))
   have HB6:=Al (HB.1.grown G6 HB.1.size (fun r e=>by cases e;exact Nr _));clear G6;go_wp2;go_roundw
   case rel=>exact⟨k+1,om,by go_num,CL6,HB6.1⟩
   case measure=>simp[intOf];omega
  ·obtain rfl:k=n:=by omega
   have RES:=Al hcl.1;have BX:=Al hb;clear hb hcl;go_wp2;go_ret;exact⟨rfl,⟨hs,RES.1⟩,BX.1⟩
end
section
open Go.RowKit Go.Shelf
namespace EI
theorem lh {α} [Inhabited α] (l:List α) {n} (hn:n=l.length):dI (fun t=>l.getD t default) n=l:=by
 subst hn;apply CW
 ·simp[dI]
 ·intro i h1 h2;simp[dI,List.getD,h2]
theorem rY {α β} (f) (v:α→β) (n):dI (fun t=>v (f t)) n=(dI f n).map v:=by simp[dI]
theorem vo {w:World} {base q n T xs} (h:w.ownsRow base T 2 (.slice (some ⟨q,0,none⟩) n n) n xs):w.heap[q]? =some (.cells xs.toArray T (0,0)):=by
 rcases h.2 with⟨h',_⟩|⟨g',cap',cur,h',_,hg,_,_,hcs,htake⟩
 ·simp at h'
 ·simp only[Value.slice.injEq,gU,Ce,BO,true_and]at h';obtain⟨rfl,rfl⟩:=h';have:xs.toArray=cur:=by
   rw[←htake,←hcs];have:cur.size=cur.toList.length:=Ah;rw[this,List.take_length]
  rw[this];exact hg
end EI
open EI
theorem Pw (q n base) (l:Cs.fI) (w) (ho:aH w base (some ⟨q,0,none⟩) n n l) (hn:n≤1000000) (hs:l.Pairwise fun x y=>x.1<y.1):
  Calls prog 107 #[.slice (some ⟨q,0,none⟩) n n,.func (.func 94) #[] #[]] w fun e w'=>e= .returned (.tuple #[])∧Below w.heap.size w w':=by
 have hl:n=l.length:=fO.len ho.rd;have hx:ax ((dI (fun t=>l.getD t default) n).map fun x:II=>((.int .i64 x.1,.int .u64 (x.2:Int)):Value×Value))=kD l:=by
  rw[lh l hl];unfold ax kD;rw[Ez]
  rfl
 have hsw:Sw (fun x:II=>((.int .i64 x.1,.int .u64 (x.2:Int)):Value×Value)) (tT false) w base q n (fun t=>l.getD t default) w:=
  ⟨by rw[rY (fun t=>l.getD t default) (fun x:II=>((.int .i64 x.1,.int .u64 (x.2:Int)):Value×Value)) n,hx];exact ho,Ci _ _,fun _=>⟨rfl,rfl⟩⟩
 refine(xQ (c:=Bk.fJ) (S:=fun _=>True) false hsw (fun _ _=>trivial) (fun W x y _ _ _=>tN x y W) Bk.woT hn).mono ?_;rintro e w' ⟨rfl,f',h1,h2,h3⟩;refine⟨rfl,?_⟩;have hp:(dI f' n).Perm l:=by
  have:=h2.perm n Aj;rwa[show(List.range n).map (fun t=>l.getD t default)=l from lh l hl]at this
 have he:dI f' n=l:=by
  refine List.Perm.eq_of_pairwise (le:=fun x y:II=>x.1≤y.1) (fun x y hx hy h1 h2=>?_) ((MR h3).imp fun{a b} h=>?_) (hs.imp fun{a b} h=>om) hp
  ·have e1:x.1=y.1:=by omega
   obtain⟨i,hi,rfl⟩:=iC.1 (hp.mem_iff.1 hx);obtain⟨j,hj,rfl⟩:=iC.1 hy;rcases Dj i j with h|h|h
   ·have:=AF.1 hs i j hi hj h;omega
   ·subst h;rfl
   ·have:=AF.1 hs j i hj hi h;omega
  ·have h:=Eo h;have:=Bk.dA b a;omega
 have ho':=h1.own;rw[rY f' (fun x:II=>((.int .i64 x.1,.int .u64 (x.2:Int)):Value×Value)) n,he]at ho';have hx2:=hx;rw[lh l hl]at hx2;rw[hx2]at ho';have a1:=vo ho;have a2:=vo ho';refine⟨h1.gb.os,h1.gb.tape,h1.gb.output,h1.gb.size,fun k hk=>?_⟩;by_cases e:k=q
 ·subst e;exact a2.trans a1.symm
 ·exact h1.gb.block k hk (by simpa using e)
structure dE where
 A1:Option Addr
 n1:Nat
 c1:Nat
 A2:Option Addr
 n2:Nat
 s:Bk.yQ
instance:Inhabited dE:=⟨⟨none,0,0,none,0,default⟩⟩
def dE.val (v:dE):Value×Value:=(.slice v.A1 v.n1 v.c1,.slice v.A2 v.n2 v.n2)
def dE.Good (v:dE) (W:World) (g:Nat):Prop:=dH W W.heap.size v.A1 v.n1 v.c1 v.s.1∧(∀q,ab v.A1=some q→q≠g)∧aH W (g+1) v.A2 v.n2 v.n2 v.s.2
theorem dE.Good.below {v:dE} {W W' g} (h:v.Good W g) (hb:Below W.heap.size W W'):v.Good W' g:=
 ⟨(h.1.below hb).more hb.size,h.2.1,own_below h.2.2 hb fun q hq=>(ae h.2.2 q hq).2⟩
theorem Ut {w w' B sz n c g A xs} (h:Rd w B sz A n c xs) (hA:∀q,ab A=some q→q≠g) (hB:B≤w.heap.size) (hg:w.grownBy w' (some g)):Rd w' B sz A n c xs:=
 ⟨h.1,h.2.1,h.2.2.1,fun hn=>by
  obtain⟨b,off,e,hb,hc⟩:=h.2.2.2 hn;refine⟨b,off,e,hb,fun i u hu=>(hg.cell_far ⟨b,off+i,none⟩ (by show b<_;omega) (by have:=hA b (by rw[e];rfl);simpa using this)).trans (hc i u hu)⟩⟩
theorem dE.Good.but {v:dE} {W W' g} (h:v.Good W g) (hg:W.grownBy W' (some g)):v.Good W' g:=
 ⟨Rd.more (Ut h.1 h.2.1 Aj hg) hg.size,h.2.1,bS h.2.2 hg om⟩
def NP (g n:Nat) (vs:List dE) (W:World):Prop:=
 W.heap[g]? =some (.cells (ax (vs.map dE.val)).toArray 57 (0,0))∧vs.length=n∧∀v∈vs,v.Good W g
theorem YX.np {g n hs b W} (h:YX g n hs b n W) (hb:n=b.length):∃vs,NP g n vs W∧vs.map (·.s)=b:=by
 obtain⟨ks,hrow,hlen,-,hown⟩:=h;have H:∀i:Nat,∃v:dE,∀(h:i<ks.length) (h':i<b.length),ks[i]=v.val∧v.s=b[i]∧v.Good W g:=fun i=>by
  by_cases hi:i<ks.length∧i<b.length
  ·obtain⟨A1,n1,c1,A2,n2,e,o1,o2⟩:=hown i hi.1 hi.2 om;exact⟨⟨A1,n1,c1,A2,n2,b[i]⟩,fun _ _=>⟨e,rfl,o1.rd,fun q hq=>by have:=(ae o1 q hq).1;omega,o2⟩⟩
  ·exact⟨default,fun a b=>absurd ⟨a,b⟩ hi⟩
 obtain⟨F,hF⟩:=Classical.axiomOfChoice H;refine⟨(List.range n).map F,⟨?_,Ah,fun v hv=>?_⟩,?_⟩
 ·have:((List.range n).map F).map dE.val=ks:=by
   apply CW
   ·simp[hlen]
   ·intro i h1 h2;simp only[DL,List.getElem_range];exact(hF i h2 om).1.symm
  rw[this];exact hrow
 ·obtain⟨i,hi,rfl⟩:=dV.1 hv;have:=List.mem_range.1 hi;exact(hF i om om).2.2
 ·apply CW
  ·simp[hb]
  ·intro i h1 h2;simp only[DL,List.getElem_range];exact(hF i (by simp at h1;omega) h2).2.1
theorem NP.below {g n vs W W'} (h:NP g n vs W) (hb:Below W.heap.size W W'):NP g n vs W':=
 ⟨(hb.block g (Ge.1 h.1).1).trans h.1,h.2.1,fun v hv=>(h.2.2 v hv).below hb⟩
theorem NP.own {g n vs W} (h:NP g n vs W) (hn:n≤1000000):W.ownsRow g 57 2 (.slice (some ⟨g,0,none⟩) n n) n (ax (vs.map dE.val)):=
 vg Aj (by rw[aP,fM,h.2.1]) (by unfold maxLen;omega) h.1
theorem NP.rd {g n vs W} (h:NP g n vs W) (hn:n≤1000000):fK W W.heap.size (some ⟨g,0,none⟩) n n (vs.map (·.s)):=by
 refine⟨vs.map dE.val,Rd.bz (h.own hn),Ah,fun i h1 h2=>?_⟩;have hi:i<vs.length:=by simpa using h1
 have hg:=h.2.2 _ (dR hi);exact⟨vs[i].A1,vs[i].n1,vs[i].c1,vs[i].A2,vs[i].n2,vs[i].n2,by simp[dE.val],by simpa using hg.1,by simpa using hg.2.2.rd⟩
theorem Px (g n vs w) (h:NP g n vs w) (hn:n≤1000000):
  Calls prog 108 #[.slice (some ⟨g,0,none⟩) n n,.func (.func 46) #[] #[]] w fun e w'=>e= .returned (.tuple #[])∧w.grownBy w' (some g)∧
   ∃us,NP g n us w'∧(us.map (·.s)).Perm (vs.map (·.s))∧(us.map (·.s)).Pairwise fun x y=>decide (Bk.bE y x<0)=false:=by
 have hl:n=vs.length:=h.2.1.symm;have hsw:Sw dE.val (tT true) w g g n (fun t=>vs.getD t default) w:=⟨by rw[rY,lh vs hl];exact h.own hn,Ci _ _,fun _=>⟨rfl,rfl⟩⟩
 have hS:∀t,t<n→(vs.getD t default)∈vs:=fun t ht=>by
  rw[jN,kC om];exact dR _
 have hC:Cp true dE.val (fun x y:dE=>Bk.bE x.s y.s) (· ∈vs) w g:=fun W x y hg hx hy=>by
  have gx:=(h.2.2 x hx).but hg;have gy:=(h.2.2 y hy).but hg;exact xw _ _ _ _ _ _ _ _ _ _ _ _ _ _ W gx.1 gy.1
 refine(xQ (c:=fun x y:dE=>Bk.bE x.s y.s) (S:=(· ∈vs)) true hsw hS hC (Bk.woS.of fun v:dE=>v.s) hn).mono ?_;rintro e w' ⟨rfl,f',h1,h2,h3⟩;have hp:(dI f' n).Perm vs:=by
  have:=h2.perm n Aj;rwa[show(List.range n).map (fun t=>vs.getD t default)=vs from lh vs hl]at this
 refine⟨rfl,h1.gb,dI f' n,⟨?_,by simp[dI],fun v hv=>(h.2.2 v (hp.mem_iff.1 hv)).but h1.gb⟩,hp.map _,Ea.2 (MR h3)⟩;have:=vo h1.own;rwa[rY]at this
end
section
open Go.RowKit Go.Shelf
theorem Bk.Iw {l:Cs.fI} (h:Bk.qY Bk.fJ 20 l=0):l.Pairwise fun x y=>x.1<y.1:=by
 have hz:∀j,j<l.length→Bk.bH Bk.fJ 20 l j=0:=by
  rcases Lb.dX (Bk.bH Bk.fJ 20 l) l.length with⟨_,hz⟩|⟨k,_,hk0,he,_⟩
  ·exact hz
  ·exact absurd (he.symm.trans h) hk0
 have step:∀k (hk:k+1<l.length),l[k].1<l[k+1].1:=fun k hk=>by
  have h1:=hz (k+1) hk;rw[Bk.tQ Bk.fJ 20 hk om]at h1;simp only[Bj]at h1;rcases Bk.dA l[k] l[k+1]with⟨e,q⟩|⟨e,q⟩|⟨e,q⟩
  ·exact q
  ·rw[e]at h1;simp at h1
  ·rw[e]at h1;simp at h1
 rw[AF];intro i j hi hj hij;obtain⟨d,rfl⟩:∃d,j=i+1+d:=⟨j-(i+1),om⟩
 clear hij
 induction d with
 |zero=>exact step i hj
 |succ d ih=>exact Int.lt_trans (ih om) (step (i+1+d) hj)
theorem NP.cells {g n k vs W} (h:NP g n vs W) (hk:k<vs.length):W.cell? ⟨g,k*2,none⟩=some (.slice vs[k].A1 vs[k].n1 vs[k].c1)∧W.cell? ⟨g,k*2+1,none⟩=some (.slice vs[k].A2 vs[k].n2 vs[k].n2)∧W.frozen? ⟨g,k*2,none⟩=false:=by
 obtain⟨g1,g2⟩:=bR (vs.map dE.val) k (by simpa using hk);have e:(vs.map dE.val)[k]'(by simpa using hk)=vs[k].val:=Ah;rw[e]at g1 g2;exact⟨(Co _ _ _ _ _ _ h.1).trans (by rw[Er];exact g1),(Co _ _ _ _ _ _ h.1).trans (by rw[Er];exact g2),Fr _ _ _ _ _ h.1⟩
def dE.at_ (v:dE) (A:Option Addr) (n c:Nat):dE:=⟨A,n,c,v.A2,v.n2,v.s⟩
theorem NP.named {g n k n9 c9 vs W A9} (h:NP g n vs W) (hk:k<vs.length) (hr:dH W W.heap.size A9 n9 c9 vs[k].s.1) (hq:∀q,ab A9=some q→q≠g):
  NP g n (vs.set k (vs[k].at_ A9 n9 c9)) (W.setCell ⟨g,k*2,none⟩ (.slice A9 n9 c9)):=by
 have hgb:=jV W ⟨g,k*2,none⟩ (.slice A9 n9 c9);refine⟨?_,by rw[List.length_set];exact h.2.1,fun v hv=>?_⟩
 ·rw[Ag _ _ _ _ _ _ h.1];obtain⟨g1,g2⟩:=bR (vs.map dE.val) k (by simpa using hk);have e:(vs.map dE.val)[k]'(by simpa using hk)=vs[k].val:=Ah;rw[e]at g2;have hs:=qp (vs.map dE.val) k (by simpa using hk) (.slice A9 n9 c9) vs[k].val.2;rw[Ex,show(vs[k].at_ A9 n9 c9).val=(.slice A9 n9 c9,vs[k].val.2)from rfl,←hs];have h3:((ax (vs.map dE.val)).set (k*2) (.slice A9 n9 c9)).set (k*2+1) vs[k].val.2=(ax (vs.map dE.val)).set (k*2) (.slice A9 n9 c9):=by
   apply Ev;intro i;by_cases hi:i=k*2+1
   ·subst hi;rw[DF (by rw[List.length_set,aP,fM];omega),Dt om];exact g2.symm
   ·rw[Dt om]
  rw[h3];simp
 ·rcases List.mem_or_eq_of_mem_set hv with hm|rfl
  ·exact(h.2.2 v hm).but hgb
  ·have hg:=(h.2.2 _ (dR hk)).but hgb;exact⟨Rd.more (Ut hr hq Aj hgb) hgb.size,hq,hg.2.2⟩
theorem dE.aen (vs:List dE) (k) (hk:k<vs.length) (A n c):(vs.set k (vs[k].at_ A n c)).map (·.s)=vs.map (·.s):=by
 rw[Ex];apply Ev;intro i;by_cases hi:i=k
 ·subst hi;rw[DF (by simpa using hk)];simp[hk,dE.at_]
 ·rw[Dt om]
def NmP (w:World) (l:Bk.gN) (e:Ending) (w':World):Prop:=
 Below w.heap.size w w'∧∃m:Bk.gN,m.Perm l∧((¬(l.map (·.1)).Nodup∧e= .returned (.tuple #[.slice none 0 0,.int .i64 19]))∨
  ((l.map (·.1)).Nodup∧Bk.bN m=0∧∃A3 n3 c3,e= .returned (.tuple #[.slice A3 n3 c3,.int .i64 0])∧fK w' w'.heap.size A3 n3 c3 m))
theorem Uu (A n c l w) (hv:fK w w.heap.size A n c l) (ho:∀s∈l,Bk.one s=0) (hf:∀s∈l,Lb.Fit s.1) (hsz:n≤1000000) (hin:∀s∈l,s.1.length≤1000000∧s.2.length≤1000000) (hs:Bk.bu l≤16777216):
  Calls prog 59 #[.slice A n c] w (NmP w l):=by
 have CK:=Al (tO A n c w.heap.size l w hv Aj om);have hn:=Al hv.len;have hll:l.length≤1000000:=by have:=hn.1;omega
 rw[Ng om]at CK;have CL:=Al (fun W (g:Gr w W)=>Pv A n c l W ((hv.below g.below).more g.size) hsz hin);have HO:=Al ho;have HF:=Al hf;have ME:=Al hin;have HS:=Al hs;clear hv ho hf hin hs;go_enter func59,ntmps59;go_upto_region 6 with(first
  |(go_at_call 55;refine(CL.1 w1 G1.1).mono ?_;rintro e w2 ⟨rfl,⟨hs0,hcl⟩,hb⟩;have B2:=Al (G1.1.below.trans (hb.mono G1.1.size));have HCL:=Al hcl;clear hcl hb CL)
  |(go_at_call 43;refine CK.1.mono ?_;rintro e w1 ⟨rfl,g1⟩;have G1:=Al g1;clear g1 CK))
 have hgw:w.heap.size≤w1.heap.size:=G1.1.size;generalize w1.heap.size=g at*;have NP0:=Al (HCL.1.np hn.1);clear HCL;go_loopw [21] (fun i wr=>∃k:Nat,k≤n∧i= .int .i64 k∧Kept (∃vs,NP g n vs wr∧vs.map (·.s)=l)∧Below w.heap.size w wr) (fun i _=>n-(intOf i).toNat)
 case atStart=>exact⟨0,bf _,rfl,NP0,B2.1⟩
 case round=>
  clear NP0;obtain⟨k,hk,rfl,yI,hb⟩:=hrel;obtain⟨vs,yI,hvs⟩:=yI.1;have BW:=Al hb;by_cases hlt:k<n
  ·have hkl:k<vs.length:=by rw[yI.2.1];exact hlt
   have hlt':(k:Int)< (n:Int):=om;have hsk:vs[k].s∈l:=by rw[←hvs];exact dV.2 ⟨_,dR hkl,rfl⟩
   have hgd:=yI.2.2 _ (dR hkl);obtain⟨c0,c1,-⟩:=yI.cells hkl;obtain⟨hok,hne,hti⟩:=Bk.kT (HO.1 _ hsk);obtain⟨hsr,hon⟩:=Lb.dB hok;have LN:=Al (Kv vs[k].A1 vs[k].n1 vs[k].c1 wr.heap.size vs[k].s.1 wr hgd.1 Aj (HF.1 _ hsk) (by have:=hgd.1.len;have:=(ME.1 _ hsk).1;omega) hsr ((Lb.gq _).2 hon));have NPV:=Al (fun W (h:Below wr.heap.size wr W)=>yI.below h);have HV:=Al hvs;have GL:=Al hgd.2.2;have T1:=Al (Bk.Iw hti);have O1:=Al (HO.1 _ hsk);have F1:=Al (HF.1 _ hsk);have hgl:=Al (Ge.1 yI.1).1;have hn2:vs[k].n2≤1000000:=by have:=hgd.2.2.rd.len;have:=(ME.1 _ hsk).2;omega
   have Zf:0<vs[k].n2:=by
    have h1:=fO.len hgd.2.2.rd;have:=mH.2 hne;omega
   obtain⟨q,hq,hq1,-⟩:=gG hgd.2.2 Zf;clear hgd hok hne hti hsr hon hsk hb hvs yI;go_upto_region 10 with(go_at_call 106;refine LN.1.mono ?_;rintro e w3 ⟨A9,c9,rfl,hr9,hq9,hb3⟩;have N3:=Al (NPV.1 w3 hb3);have B3:=Al hb3;have R9:=Al hr9;have Q9:=Al hq9;clear hr9 hq9 hb3 LN)
   have h9:∀q,ab A9=some q→q≠g:=fun q e=>by have:=Q9.1 q e;have:=hgl.1;omega
   obtain⟨w4,hw4⟩:∃w4,w4=w3.setCell ⟨g,k*2,none⟩ (.slice A9 vs[k].n1 c9):=⟨_,rfl⟩
   have N4:=Al (N3.1.named hkl R9.1 h9);rw[←hw4]at N4;have V4:=Al (dE.aen vs k hkl A9 vs[k].n1 c9);have hk4:k< (vs.set k (vs[k].at_ A9 vs[k].n1 c9)).length:=by rw[List.length_set];exact hkl
   have e4:(vs.set k (vs[k].at_ A9 vs[k].n1 c9))[k]=vs[k].at_ A9 vs[k].n1 c9:=Ah;have B4:=Al (BW.1.trans (B3.1.mono BW.1.size));have B5:Kept (Below w.heap.size w w4):=⟨by rw[hw4];exact B4.1.grown (jV w3 ⟨g,k*2,none⟩ _) B4.1.size (fun r e=>by cases e;exact hgw)⟩
   obtain⟨d0,-,d2⟩:=N3.1.cells hkl;have HW4:=Al hw4.symm;clear hw4 c0 c1 h9;go_upto_region 13 with fail;rw[HW4.1];have G4:=N4.1.2.2 _ (dR hk4);have C4:=N4.1.cells hk4;rw[e4]at G4 C4;have SM:=Al (Pw q vs[k].n2 (g+1) vs[k].s.2 w4 (hq▸G4.2.2) hn2 T1.1);have NPV:=Al (fun W (h:Below w4.heap.size w4 W)=>N4.1.below h);obtain⟨-,y1,-⟩:=C4;rw[show(vs[k].at_ A9 vs[k].n1 c9).A2=some ⟨q,0,none⟩from hq]at y1;have y1:w4.cell? ⟨g,k*2+1,none⟩=some (.slice (some ⟨q,0,none⟩) vs[k].n2 vs[k].n2):=y1;clear G4 d0 d2 HW4;go_upto_region 14 with(go_at_call 107;refine SM.1.mono ?_;rintro e w5 ⟨rfl,hb5⟩;have N5:=Al (NPV.1 w5 hb5);have B6:=Al (B5.1.trans (hb5.mono B5.1.size));clear hb5 SM NPV)
   have G5:=N5.1.2.2 _ (dR hk4);have C5:=N5.1.cells hk4;rw[e4]at G5 C5;obtain⟨z0,z1,-⟩:=C5;have SI:=Al (nZ A9 vs[k].A2 vs[k].n1 c9 vs[k].n2 vs[k].n2 w5.heap.size vs[k].s.1 vs[k].s.2 w5 G5.1 (aH.rd G5.2.2) Aj F1.1);rw[show(vs[k].s.1,vs[k].s.2)=vs[k].s from rfl,O1.1]at SI;have z0:w5.cell? ⟨g,k*2,none⟩=some (.slice A9 vs[k].n1 c9):=z0;have z1:w5.cell? ⟨g,k*2+1,none⟩=some (.slice vs[k].A2 vs[k].n2 vs[k].n2):=z1;clear G5 y1 hq;go_wp2_with (go_at_call 44;refine SI.1.mono ?_;rintro e w6 ⟨rfl,g6⟩;have N6:Kept (∃vs,NP g n vs w6∧vs.map (·.s)=l):=⟨_,N5.1.below g6.below,V4.1.trans HV.1⟩;have B7:=Al (B6.1.trans (g6.below.mono B6.1.size));clear g6 SI);go_roundw
   case rel=>exact⟨k+1,om,by go_num,N6,B7.1⟩
   case measure=>simp[intOf];omega
  ·obtain rfl:k=n:=by omega
   have hlt':¬(k:Int)< (k:Int):=om;have SO:=Al (Px g k vs wr yI hsz);rw[hvs]at SO;clear hb yI hvs;go_upto_region 19 with(go_at_call 108;refine SO.1.mono ?_;rintro e w3 ⟨rfl,hg3,us,hnu,hp,hpw⟩;have N3:=Al hnu;have B3:=Al (BW.1.grown hg3 BW.1.size (fun r e=>by cases e;exact hgw));have P3:=Al hp;have W3:=Al hpw;clear hg3 hnu hp hpw SO)
   have J:=Al (Bk.join P3.1 W3.1 HO.1 om HS.1);have AS:=Al (FH (some ⟨g,0,none⟩) k k w3.heap.size (us.map (·.s)) 19 w3 (N3.1.rd hsz) Aj Ai);rcases J.1 with⟨hnd,ha,hck⟩|⟨hnd,ha⟩
   ·rw[ha]at AS;have ND:=Al hnd;have CKM:=Al hck;clear hnd hck ha J;go_wp2_with (go_at_call 45;refine AS.1.mono ?_;rintro e w4 ⟨rfl,g4⟩;have N4:=Al ((N3.1.rd hsz).below g4.below);have B4:=Al (B3.1.trans (g4.below.mono B3.1.size));have Z4:=Al g4.size;clear g4 AS);go_ret2;exact⟨B4.1,_,P3.1,.inr ⟨ND.1,CKM.1,_,_,_,rfl,N4.1.more Z4.1⟩⟩
   ·rw[ha]at AS;have ND:=Al hnd;clear hnd ha J;go_wp2_with (go_at_call 45;refine AS.1.mono ?_;rintro e w4 ⟨rfl,g4⟩;have B4:=Al (B3.1.trans (g4.below.mono B3.1.size));clear g4 AS);go_ret2;exact⟨B4.1,_,P3.1,.inl ⟨ND.1,rfl⟩⟩
end
namespace Bk
theorem Iy {a b} (h:a.Perm b) (hs:wh b):wh a:=by
 have hf:(sets a).flatten.Perm (sets b).flatten:=by
  unfold sets;rw[←List.flatMap_def,←List.flatMap_def];exact h.flatMap_right _
 refine⟨by rw[h.length_eq];exact hs.fE,by rw[hf.length_eq];exact hs.lab,by rw[uZ h];exact hs.bu,?_⟩;have:Sy.tot (Lb.strs (sets a).flatten)=Sy.tot (Lb.strs (sets b).flatten):=by
  unfold Sy.tot Lb.strs;exact((hf.flatMap_right _).map _).sum_nat
 rw[this];exact hs.str
end Bk
section
open Go.RowKit Go.Shelf
theorem Py (n:Nat) (w) (hn:n≤20000000):
  Calls prog 57 #[.slice none 0 0,.int .i64 n] w fun e w'=>∃A c,e= .returned (.slice A 0 c)∧w'.ownsRow w.heap.size 57 2 (.slice A 0 c) 0 []∧Below w.heap.size w w':=by
 by_cases h0:n=0
 ·subst h0;go_enter func57,ntmps57;go_wp2;go_ret;exact⟨none,0,rfl,Bb _ _ _ _,Ae _ _⟩
 ·obtain⟨i0,hi0,hz0,hz1,hz2⟩:=AY FF;have hp:(0:Int)< (n:Int):=om;have hrz:∀ty,(Builtin.append_ #[24,3] ty #[.slice none 0 0,.int .i64 (n:Int)]).run prog w=
    .ok (.slice (some ⟨w.heap.size,0,none⟩) (0+n) (grownCap w (0+n) 0 57)) (w.drew.alloc (.cells (([]:List Value).toArray++Builtin.zeroCells (Value.agg #[.slice none 0 0,.slice none 0 0]).cells n++Builtin.zeroCells (Value.agg #[.slice none 0 0,.slice none 0 0]).cells (grownCap w (0+n) 0 57-(0+n))) 57)):=fun ty=>by
   refine Lib.run_append_grow_zeros w 24 3 ty 57 i0 (.agg #[.slice none 0 0,.slice none 0 0]) .i64 .i64 underlying24 underlying3 hi0 hz0 none 0 0 [] (run_firstCells_none w.drew i0.size 0 0 0) n om om om om (by rw[hz2];omega) ?_;rw[hz2];exact growslice_fits om om
  have hlo:=grownCap_ge w (0+n) 0 57;have hhi:=grownCap_le_maxLen w (0+n) 0 57 (by unfold maxLen;omega);have hsz:(([]:List Value).toArray++Builtin.zeroCells (Value.agg #[.slice none 0 0,.slice none 0 0]).cells n++Builtin.zeroCells (Value.agg #[.slice none 0 0,.slice none 0 0]).cells (grownCap w (0+n) 0 57-(0+n))).size=grownCap w (0+n) 0 57*2:=by
   rw[bO]at hlo⊢;simp[Builtin.zeroCells,Value.cells];omega
  generalize (([]:List Value).toArray++Builtin.zeroCells (Value.agg #[.slice none 0 0,.slice none 0 0]).cells n++Builtin.zeroCells (Value.agg #[.slice none 0 0,.slice none 0 0]).cells (grownCap w (0+n) 0 57-(0+n)))=C at*;generalize grownCap w (0+n) 0 57=G at*;have ho:(w.drew.alloc (.cells C 57)).ownsRow w.heap.size 57 2 (.slice (some ⟨w.heap.size,0,none⟩) 0 G) 0 []:=World.ownsRow_made w.drew C G Aj hhi om;have hb:Below w.heap.size w (w.drew.alloc (.cells C 57)):=((Ae _ w).drew).alloc Aj _;unfold maxLen at hhi;rw[bO]at hrz hlo;have Ho:=Al ho;have Hb:=Al hb;clear ho hb hsz hz0 hz1 hz2 hi0;have hn':(n:Int)≤20000000:=om;have ag0:(n:Int)≤(G:Int):=om;clear hn hlo;go_enter func57,ntmps57;go_wp2_with (at_builtin;refine Lib.wpList_append_run _ rfl _ _ _ _ rfl _ _ rfl rfl _ _ (hrz _) ?_)
  all_goals
   go_ret;exact⟨_,G,rfl,Ho.1,Hb.1⟩
def RdC (w:World) (B:Nat) (A:Option Addr) (n c:Nat) (LL:List (List (Value×Value))):Prop:=
 n=LL.length∧n≤c∧c≤maxLen∧∀k (h:k<LL.length),(∀v∈ax LL[k],v.oneCell'=true)∧∃b off A' n' c',A=some ⟨b,off,none⟩∧b<B∧w.cell? ⟨b,off+k,none⟩=some (.slice A' n' c')∧n'=LL[k].length∧Rd w B 2 A' n' c' (ax LL[k])
def oK (LL:List (List (Value×Value))):Nat:=LL.flatten.length
theorem xU {LL:List (List (Value×Value))} {k} (h:k<LL.length):oK (LL.take (k+1))=oK (LL.take k)+LL[k].length:=by
 unfold oK;rw[←List.take_append_getElem h,ED];simp
theorem M0 (LL k):oK (LL.take k)≤oK LL:=by
 have:LL.flatten=(LL.take k).flatten++(LL.drop k).flatten:=by rw[←ED,je]
 unfold oK;rw[this,La];omega
theorem Uv {LL:List (List (Value×Value))} {k} (h:k<LL.length):ax (LL.take k).flatten++ax LL[k]=ax (LL.take (k+1)).flatten:=by
 rw[←List.take_append_getElem h,ED];unfold ax;rw[nH];simp
theorem Iz (A n c B LL w) (hv:RdC w B A n c LL) (hB:B≤w.heap.size) (hl:oK LL≤1000000):
  Calls prog 27 #[.slice A n c] w fun e w'=>∃A3 n3 c3,e= .returned (.slice A3 n3 c3)∧w'.ownsRow w.heap.size 57 2 (.slice A3 n3 c3) n3 (ax LL.flatten)∧Below w.heap.size w w':=by
 obtain⟨i0,hi0,hz0,hz1,hz2⟩:=AY FF;have HI:=Al (And.intro hi0 (And.intro hz0 (And.intro hz1 hz2)));obtain⟨h1,hcp1,hcp2,h4⟩:=hv;have HN:=Al h1;unfold maxLen at hcp2;have HV:=Al h4;have HL:=Al hl;have hl':(oK LL:Int)≤1000000:=om;clear hl h1 h4 hi0 hz0 hz1 hz2;go_enter func27,ntmps27;go_wp2;go_loop [3,11] (fun s i=>∃k t:Nat,k≤n∧i= .int .i64 k∧s= .int .i64 t∧Kept (t=oK (LL.take k))∧(t:Int)≤1000000) (fun _ i=>n-(intOf i).toNat)
 case atStart=>exact⟨0,0,om,rfl,rfl,⟨rfl⟩,om⟩
 case round=>
  obtain⟨k,t,hk,rfl,rfl,Ht,ht2⟩:=hrel;by_cases hlt:k<n
  ·have hkn:k<LL.length:=by rw[←HN.1];exact hlt
   obtain⟨-,b,off,A',n',c',rfl,ni,hcell,Ig,-⟩:=HV.1 k hkn;have htk:=xU hkn;have hle:=M0 LL (k+1);have ht:=Ht.1;have hs:((t+n':Nat):Int)≤1000000:=by have:=HL.1;omega
   have E1:=Al (show t+n'=oK (LL.take (k+1))from om);clear htk hle ht Ig;go_wp2;go_round
   case rel=>exact⟨k+1,t+n',om,by go_num,by go_num,E1,hs⟩
   case measure=>simp[intOf];try omega
  ·obtain rfl:k=n:=by omega
   have HT:=Al (show t=oK LL by rw[Ht.1,HN.1,jc Aj]);clear Ht hlt hk;go_wp2_with (go_at_call 57;refine(Py t _ om).mono ?_;rintro e w1 ⟨A0,c0,rfl,ho,hb⟩);go_loopw [6,27] (fun o i wr=>∃j n3 A3 c3,j≤k∧i= .int .i64 (j:Nat)∧o= .slice A3 n3 c3∧Kept (wr.ownsRow w.heap.size 57 2 (.slice A3 n3 c3) n3 (ax (LL.take j).flatten))∧Below w.heap.size w wr∧Kept (n3=oK (LL.take j))∧(n3:Int)≤1000000) (fun _ i _=>k-(intOf i).toNat)
   case atStart=>exact⟨0,0,A0,c0,om,rfl,rfl,⟨ho⟩,hb,⟨rfl⟩,om⟩
   case round=>
    clear ho hb;obtain⟨j,n3,A3,c3,hj,rfl,rfl,ho,hb,Hn3,U6⟩:=hrel;by_cases hlt2:j<k
    ·have hjn:j<LL.length:=by rw[←HN.1];exact hlt2
     obtain⟨hone,b,off,A',n',c',rfl,ni,hcell,Ig,hr⟩:=HV.1 j hjn;have hl0:=(hb.cell (p:=⟨b,off+j,none⟩) (by show b<_;omega)).trans hcell;have hz:=hb.size;have hA:=Al (ae ho.1);have R1:=Al ((Rd.more hr hB).below hb);have HO1:=Al hone;have rD:=Hn3.1;have htk:=xU hjn;have hle:=M0 LL (j+1);have hs:((n3+n':Nat):Int)≤1000000:=by have:=HL.1;omega
     have hs3:n3+n'≤1000000:=om;have E1:=Al (show n3+n'=oK (LL.take (j+1))from om);clear rD htk hle U6 Ig hr hone;go_wp2_with (at_builtin;refine bA _ rfl (.tmp 31) (.tmp 32) 24 rfl w.heap.size 57 i0 (.agg #[.slice none 0 0,.slice none 0 0]) 2 48 underlying24 HI.1.1 HI.1.2.1 HI.1.2.2.1 HI.1.2.2.2 rfl Ai A3 n3 c3 _ rfl ho.1 w.heap.size A' n' c' _ rfl R1.1 HO1.1 (by unfold maxLen;omega) om hz ?_;intro A4 c4 w4 au af bT);have hb4:Below w.heap.size w w4:=hb.grown af hz (fun g hg=>(hA.1 g hg).1);rw[Uv hjn]at au;go_roundw
     case rel=>exact⟨j+1,n3+n',A4,c4,om,by go_num,rfl,⟨au⟩,hb4,⟨E1.1⟩,hs⟩
     case measure=>simp[intOf];try omega
    ·obtain rfl:j=k:=by omega
     clear hlt2 hj;go_wp2;go_ret;refine⟨A3,n3,c3,rfl,?_,hb⟩;have ho:=ho.1;rw[HN.1,jc Aj]at ho;exact ho
end
section
open Go.RowKit Go.Shelf
theorem Bk.Uw {b s} (h:s∈b):s.1.length≤(Bk.sets b).flatten.length∧s.2.length≤Bk.bu b:=by
 unfold Bk.sets Bk.bu
 induction b with
 |nil=>cases h
 |cons x b ih=>
  rw[AJ,Cg,La,AJ,Bv];rcases iW.1 h with rfl|h
  ·omega
  ·have:=ih h;omega
theorem IA (A A2 n c n2 c2 a b w) (hv:fK w w.heap.size A n c a) (hv2:fK w w.heap.size A2 n2 c2 b) (hl:a.length+b.length≤1000000):
  Calls prog 27 #[.slice (some ⟨w.heap.size,0,none⟩) 2 2] (w.alloc (.cells #[.slice A n c,.slice A2 n2 c2] 24)) fun e w'=>∃A3 n3 c3,e= .returned (.slice A3 n3 c3)∧fK w' w'.heap.size A3 n3 c3 (a++b)∧Below w.heap.size w w':=by
 have hbx:=(Ae _ w).alloc Aj (.cells #[.slice A n c,.slice A2 n2 c2] 24);have hz:=hbx.size;obtain⟨ha,h1,h2,h3⟩:=hv;obtain⟨hb,g1,g2,g3⟩:=hv2;have na:n=ha.length:=by have:=h1.2.2.1;rw[aP]at this;omega
 have nb:n2=hb.length:=by have:=g1.2.2.1;rw[aP]at this;omega
 have sl:∀{hs:List (Value×Value)} {rs:Bk.gN},hs.length=rs.length→(∀(i:Nat) (h:i<hs.length) (h':i<rs.length),∃A1 n1 c1 A2 n2 c2,hs[i]=(.slice A1 n1 c1,.slice A2 n2 c2)∧dH w w.heap.size A1 n1 c1 rs[i].1∧fO w w.heap.size A2 n2 c2 rs[i].2)→∀v∈ax hs,v.oneCell'=true:=fun hl h=>xS fun i hi=>by
  obtain⟨A1,n1,c1,A2,n2,c2,e,-,-⟩:=h i hi om;exact⟨A1,n1,c1,A2,n2,c2,e⟩
 have hC:RdC (w.alloc (.cells #[.slice A n c,.slice A2 n2 c2] 24)) (w.alloc (.cells #[.slice A n c,.slice A2 n2 c2] 24)).heap.size (some ⟨w.heap.size,0,none⟩) 2 2 [ha,hb]:=by
  refine⟨rfl,Nr _,by unfold maxLen;omega,fun k hk=>?_⟩
  match k,hk with
  |0,_=>exact⟨sl h2 h3,_,0,A,n,c,rfl,Ah,Aq w _ _ _ 0,na,Rd.more (Rd.below h1 hbx) hz⟩
  |1,_=>exact⟨sl g2 g3,_,0,A2,n2,c2,rfl,Ah,Aq w _ _ _ 1,nb,Rd.more (Rd.below g1 hbx) hz⟩
 refine(Iz _ 2 2 _ [ha,hb] _ hC Aj (by unfold oK;simp;omega)).mono ?_;rintro e w' ⟨A3,n3,c3,rfl,ho,hbl⟩;have hbw:Below w.heap.size w w':=hbx.trans (hbl.mono hz);refine⟨A3,n3,c3,rfl,⟨ha++hb,by have:=Rd.bz ho;simpa using this,by simp[h2,g2],fun i q q'=>?_⟩,hbw⟩;by_cases hi:i<ha.length
 ·obtain⟨A1,n1,c1,A2,n2,c2,e,p,q⟩:=h3 i hi om;rw[pF hi,pF (show i<a.length from om)];exact⟨A1,n1,c1,A2,n2,c2,e,(p.below hbw).more hbw.size,(q.below hbw).more hbw.size⟩
 ·have hi2:i-ha.length<hb.length:=by rw[La]at q;omega
  obtain⟨A1,n1,c1,A2,n2,c2,e,p,q⟩:=g3 (i-ha.length) hi2 om;rw[Dk om,Dk om];refine⟨A1,n1,c1,A2,n2,c2,e,?_,?_⟩
  ·have:=(p.below hbw).more hbw.size;simpa[h2]using this
  ·have:=(q.below hbw).more hbw.size;simpa[h2]using this
def abh (w:World) (l:Bk.gN) (e:Ending) (w':World):Prop:=
 Below w.heap.size w w'∧((¬(l.map (·.1)).Nodup∧e= .returned (.tuple #[.slice none 0 0,.int .i64 19]))∨
  ((l.map (·.1)).Nodup∧∃m:Bk.gN,m.Perm l∧Bk.bN m=0∧∃A3 n3 c3 L,e= .returned (.tuple #[.slice A3 n3 c3,.int .i64 0])∧Bk.File m L∧aY w' w'.heap.size A3 n3 c3 L))
theorem XV (A n c l w) (hv:fK w w.heap.size A n c l) (ho:∀s∈l,Bk.one s=0) (hf:∀s∈l,Lb.Fit s.1) (hS:Bk.wh l) (hi:∀s∈l,Cs.In s.2) (hG:Gl w):
  Calls prog 29 #[.slice A n c] w (abh w l):=by
 have NM:=Al (Uu A n c l w hv ho hf (by have:=hv.len;have:=hS.fE;omega) (fun s hs=>by have:=Bk.Uw hs;have:=hS.lab;have:=hS.bu;omega) (by have:=hS.bu;omega));have EN:=Al (fun(m:Bk.gN) (w1:World) (A':Option Addr) (n' c':Nat) (hp:m.Perm l) (hc:Bk.bN m=0) (hb:Below w.heap.size w w1) (hk:fK w1 w1.heap.size A' n' c' m)=>MM A' n' c' m w1 hk ((Bk.Iy hp hS).ok hc (fun s hs=>hi s (hp.mem_iff.1 hs))) (hG.below hb));clear hv ho hf hS hi hG;go_enter func29,ntmps29;go_wp2_with (first
  |(go_at_call 16;refine(EN.1 m w2 A3 n3 c3 P2.1 hck B2.1 hk).mono ?_;rintro e w3 ⟨A5,n5,c5,L,rfl,hf,ho,hb⟩;have F3:=Al hf;have O3:=Al ho.rd;have B3:=Al (B2.1.trans (hb.mono B2.1.size));clear hf ho hb EN)
  |(go_at_call 59;refine NM.1.mono ?_;rintro e w2 ⟨hb,m,hp,h⟩;have B2:=Al hb;have P2:=Al hp;clear hb hp NM;rcases h with⟨hnd,rfl⟩|⟨hnd,hck,A3,n3,c3,rfl,hk⟩;all_goals (have ND:=Al hnd;clear hnd)))
 ·go_ret2;exact⟨B2.1,.inl ⟨ND.1,rfl⟩⟩
 ·go_ret2;exact⟨B3.1,.inr ⟨ND.1,m,P2.1,hck,A5,n5,c5,L,rfl,F3.1,O3.1⟩⟩
end
section
open Go.RowKit Go.Shelf
theorem jW {w W base g} (hb:Below base w W) (hg:base≤g) (k u v):Below base w ((W.setCell ⟨g,k*2,none⟩ u).setCell ⟨g,k*2+1,none⟩ v):=
 (hb.setCell (p:=⟨g,k*2,none⟩) hg _).setCell (p:=⟨g,k*2+1,none⟩) hg _
theorem rZ (w:World) (a b t):Rd (w.alloc (.cells #[a,b] t)) (w.heap.size+1) 2 (some ⟨w.heap.size,0,none⟩) 1 1 [a,b]:=
 ⟨Nr _,by unfold maxLen;omega,rfl,fun _=>⟨_,0,rfl,om,fun i u hu=>by
  rw[bO];exact(Aq w _ _ _ i).trans (by simpa using hu)⟩⟩
theorem vv {α:Type} {l:List α} {k x} (h:l[k]? =some x):l.set k x=l:=by
 apply Ev;intro i;by_cases hi:i=k
 ·subst hi;rw[DF (l5.1 h).1];exact h.symm
 ·rw[Dt om]
theorem zS (A n c B l w) (hv:dH w B A n c l) (hB:B≤w.heap.size) (hf:Lb.Fit l) (hn4:n≤1000000) (hs:Lb.aN l) (ho:Lb.ones l=0):
  Calls prog 61 #[.slice A n c] w fun r w'=>∃A2 n2 c2,r= .returned (.tuple #[.slice A2 n2 c2,.int .i64 0])∧aJ w' w.heap.size A2 n2 c2 l∧Below w.heap.size w w':=by
 have hlc:=hv.1;have hcm:=hv.2.1;unfold maxLen at hcm;have hn:=Al hv.len;have V:=Al hv;have F:=Al hf;have H1:=Al ((Lb.gq l).1 ho);have HS:=Al (AF.1 hs);clear hv hf hs ho;go_enter func61,ntmps61;go_wp2;go_loopw [5] (fun i wr=>∃k:Nat,k≤n∧i= .int .i64 k∧Gr w wr) (fun i _=>n-(intOf i).toNat)
 case atStart=>exact⟨0,om,rfl,Gr.refl w⟩
 case round=>
  obtain⟨k,hk,rfl,gr⟩:=hrel;by_cases hlt:k<n
  ·have hkl:k<l.length:=by rw[←hn.1];exact hlt
   obtain⟨b,off,rfl,hc⟩:=V.1.cells hB hkl;obtain⟨c0,c1⟩:=hc wr gr.below;have G:=Al gr;obtain⟨hf1,hf2⟩:=F.1.at hkl;have ONE:=Al (fun W=>tu l[k] W hf1 hf2);rw[H1.1 _ (dR hkl)]at ONE;clear hc gr hf1 hf2;generalize l[k].n=xn at*;generalize l[k].v=xv at*;go_wp2_with (go_at_call 109;refine(ONE.1 _).mono ?_;rintro e w2 ⟨rfl,g2⟩;have G2:=Al (G.1.trans g2);clear g2);go_roundw
   case rel=>exact⟨k+1,om,by go_num,G2.1⟩
   case measure=>simp[intOf];omega
  ·have G:=Al gr;clear gr;go_wp2
   rename World=>ws
   go_loopw [4,7] (fun o i wr=>∃k:Nat,k≤n∧i= .int .i64 k∧∃A2 c2,o= .slice A2 k c2∧Kept (aJ wr w.heap.size A2 k c2 (l.take k))∧Below w.heap.size w wr) (fun _ i _=>n-(intOf i).toNat)
   case atStart=>exact⟨0,om,rfl,none,0,rfl,⟨aJ.nil _ _⟩,G.1.below⟩
   case round=>
    clear G hk hlt;obtain⟨i,hi,rfl,A2,c2,rfl,ho,hb⟩:=hrel;by_cases hlt:i<n
    ·have hil:i<l.length:=by rw[←hn.1];exact hlt
     have abj:=ho.1.rd;have Nv:=abj.1;have hcm2:=abj.2.1;unfold maxLen at hcm2;have HB:=Al hb;obtain⟨b,off,rfl,hc⟩:=V.1.cells hB hil;have CX:=Al hc;have HT:=Al (Ts hil);have LT:=Al (fun q (hq:q<i)=>HS.1 q i om hil hq);have TG:=Al (fun q (hq:q<i)=>(show(l.take i)[q]'(by rw[jD];omega)=l[q]'om from List.getElem_take));have hlt':(i:Int)< (n:Int):=om;clear abj hb hc;generalize l[i]=x at*;obtain⟨xn,xv⟩:=x;go_wp2
     rename World=>wo
     go_loopw [8] (fun p wr=>∃q:Nat,q≤i∧p= .int .i64 q∧∃m,wr=wo.drewN m) (fun p _=>i-(intOf p).toNat)
     case atStart=>exact⟨0,om,rfl,0,rfl⟩
     case round=>
      obtain⟨q,hq,rfl,m,rfl⟩:=hrel;obtain⟨cw0,cw1⟩:=CX.1 wo HB.1;by_cases hqn:q<i
      ·obtain⟨g,rfl,hg1,hg2⟩:=ho.1.pos om;obtain⟨p0,p1,-,-⟩:=aJ.at_ ho.1 (k:=q) (by rw[jD];omega);rw[TG.1 q hqn]at p0 p1;have JB:Op.bytesLess (l[q]'om).n.toList xn.toList=St.lt (l[q]'om).n xn:=rfl;rw[LT.1 q hqn]at JB;generalize (l[q]'om).n=pn at*;generalize (l[q]'om).v=pv at*;have aal:(q:Int)< (i:Int):=om;go_wp2_with fail;go_quiet (fail);go_wp2;go_roundw
       case rel=>exact⟨q+1,om,by go_num,_,rfl⟩
       case measure=>simp[intOf];omega
      ·obtain rfl:q=i:=by omega
       have aal:¬(q:Int)< (q:Int):=om;go_wp2_with fail;go_quiet (fail)
       rename Nat=>nq1
       go_wp2;go_quiet (fail);clear cw0 cw1 aal hqn;have WQ:Kept (Below w.heap.size w (((wo.drewN m).drewN nq1).drewN nq)):=⟨below_drewN (below_drewN (below_drewN HB.1 _) _) _⟩
       have OQ:Kept (aJ (((wo.drewN m).drewN nq1).drewN nq) w.heap.size A2 q c2 (l.take q)):=⟨ho.1⟩
       have CQ:=Al (CX.1 (((wo.drewN m).drewN nq1).drewN nq) WQ.1);have hzq:w.heap.size≤(((wo.drewN m).drewN nq1).drewN nq).heap.size:=WQ.1.size;generalize ((wo.drewN m).drewN nq1).drewN nq=wq at*;obtain⟨cx0,cx1⟩:=CQ.1;go_upto_region 18 with(at_builtin;refine iR rfl (.tmp 66) (.tmp 71) rfl w.heap.size A2 q c2 _ rfl (Oa OQ.1 _) (wq.heap.size+1) _ _ _ [⟨xn,xv⟩] rfl (rZ wq (.string xn) (.string xv) 59) om (by simp;omega) ?_;intro A4 c4 w4 au af bT;rw[←HT.1]at au;have O4:=Al au;have B4:=Al ((WQ.1.alloc hzq (.cells #[.string xn,.string xv] 59)).grown af (by simp;omega) (fun g e=>(ae OQ.1 g e).1));clear au af bT)
       obtain⟨g4,rfl,hg4,-⟩:=O4.1.pos om;have hc4:=O4.1.rd.1;have Ux:=O4.1.rd.2.1;unfold maxLen at Ux;have hl4:(l.take (q+1)).length=q+1:=by rw[jD];omega
       have LX:=Al (show(l.take (q+1))[q]? =some (⟨xn,xv⟩:aU)by rw[HT.1,Bp (by rw[jD];omega),jD,show q-min q l.length=0 from om];rfl);clear OQ WQ cx0 cx1 CQ;go_loopw [9] (fun j wr=>j= .int .i64 q∧Kept (aJ wr w.heap.size (some ⟨g4,0,none⟩) (q+1) c4 (l.take (q+1)))∧Kept (Below w.heap.size w wr)) (fun j _=>0)
       case atStart=>exact⟨by go_num,O4,B4⟩
       case round=>
        clear O4 B4;obtain⟨rfl,ho,hb⟩:=hrel;obtain⟨x0,x1,f0,f1⟩:=aJ.at_ (k:=q) ho.1 om;have OS:=Al (aJ.set ho.1 q ⟨xn,xv⟩);rw[vv LX.1]at OS;have BS:=Al (jW hb.1 hg4 q (.string xn) (.string xv));obtain⟨d0,d1⟩:=CX.1 wr hb.1;generalize ((l.take (q+1))[q]'_).n=un at*;generalize ((l.take (q+1))[q]'_).v=uv at*;have y1:∀v,(wr.setCell ⟨g4,q*2,none⟩ v).cell? ⟨g4,q*2+1,none⟩=some (.string uv):=fun v=>(AO wr ⟨g4,q*2,none⟩ ⟨g4,q*2+1,none⟩ v Ah).trans x1
        have ek4:(q:Int)< ((q:Int)+1):=om;have ek5:¬(q:Int)< (q:Int):=om;clear ho hb;go_wp2;go_roundw
        case rel=>exact⟨q+1,om,by go_num,some ⟨g4,0,none⟩,c4,rfl,OS,BS.1⟩
        case measure=>simp[intOf];omega
    ·obtain rfl:i=n:=by omega
     have ht:Kept (l.take i=l):=⟨jc (by have:=hn.1;omega)⟩
     rw[ht.1]at ho;have HB:=Al hb;have hlt':¬(i:Int)< (i:Int):=om;clear hb;go_wp2;go_ret2;exact⟨A2,i,c2,rfl,ho.1,HB.1⟩
end
section
open Go.RowKit Go.Shelf
theorem vw (A n c B) (l:Cs.fI) (w) (hv:fO w B A n c l) (hB:B≤w.heap.size) (hn4:n≤1000000) (hs:l.Pairwise fun x y=>x.1<y.1):
  Calls prog 62 #[.slice A n c] w fun r w'=>∃A2 n2 c2,r= .returned (.slice A2 n2 c2)∧aH w' w.heap.size A2 n2 c2 l∧Below w.heap.size w w':=by
 have hlc:=hv.1;have hcm:=hv.2.1;unfold maxLen at hcm;have hn:=Al hv.len;have V:=Al hv;have HS:=Al (AF.1 hs);clear hv hs;go_enter func62,ntmps62;go_wp2;go_loopw [3,4] (fun o i wr=>∃k:Nat,k≤n∧i= .int .i64 k∧∃A2 c2,o= .slice A2 k c2∧Kept (aH wr w.heap.size A2 k c2 (l.take k))∧Below w.heap.size w wr) (fun _ i _=>n-(intOf i).toNat)
 case atStart=>exact⟨0,om,rfl,none,0,rfl,⟨aH.nil _ _⟩,Ae _ _⟩
 case round=>
  obtain⟨i,hi,rfl,A2,c2,rfl,ho,hb⟩:=hrel;by_cases hlt:i<n
  ·have hil:i<l.length:=by rw[←hn.1];exact hlt
   have hlt':(i:Int)< (n:Int):=om;have HB:=Al hb;have hz:=hb.size;obtain⟨b,off,rfl,hc⟩:=V.1.cells hB hil;have CX:=Al hc;obtain⟨c0,c1⟩:=hc wr hb;have HT:=Al (Ts hil);have LX:=Al (show(l.take (i+1))[i]? =some l[i]by rw[HT.1,Bp (by rw[jD];omega),jD,show i-min i l.length=0 from om];rfl);have LT:=Al (fun(h:0<i)=>HS.1 (i-1) i om hil om);have LP:=Al (fun(h:0<i)=>(show(l.take (i+1))[i-1]'(by rw[jD];omega)=l[i-1]'om from List.getElem_take));clear hb hc;generalize l[i]=x at*;obtain⟨xt,xv⟩:=x;go_upto_region 7 with(at_builtin;refine kK rfl (.tmp 14) (.tmp 19) rfl w.heap.size A2 i c2 _ rfl (Oa ho.1 _) (wr.heap.size+1) _ _ _ [(xt,xv)] rfl (rZ wr (.int .i64 xt) (.int .u64 (xv:Int)) 127) om (by simp;omega) ?_;intro A4 c4 w4 au af bT;rw[←HT.1]at au;have O4:=Al au;have B4:=Al ((HB.1.alloc hz (.cells #[.int .i64 xt,.int .u64 (xv:Int)] 127)).grown af (by simp;omega) (fun g e=>(ae ho.1 g e).1));clear au af bT)
   obtain⟨g4,rfl,hg4,-⟩:=O4.1.pos om;have hc4:=O4.1.rd.1;have Ux:=O4.1.rd.2.1;unfold maxLen at Ux;have hl4:(l.take (i+1)).length=i+1:=by rw[jD];omega
   clear ho c0 c1;go_loopw [5] (fun j wr=>j= .int .i64 i∧Kept (aH wr w.heap.size (some ⟨g4,0,none⟩) (i+1) c4 (l.take (i+1)))∧Kept (Below w.heap.size w wr)) (fun j _=>0)
   case atStart=>exact⟨by go_num,O4,B4⟩
   case round=>
    clear O4 B4;obtain⟨rfl,ho,hb⟩:=hrel;have ek4:(i:Int)< ((i:Int)+1):=om;by_cases h0:0<i
    ·have h0':(0:Int)< (i:Int):=by omega
     obtain⟨d0,d1⟩:=CX.1 wr hb.1;obtain⟨p0,p1,-,-⟩:=aH.at_ (k:=i-1) ho.1 om;rw[LP.1 h0]at p0 p1;have hgt:¬xt< (l[i-1]'om).1:=by have h:_<xt:=LT.1 h0;omega
     have ek:(i:Int)-1=((i-1:Nat):Int):=om;have Nz:((i-1:Nat):Int)< ((i:Int)+1):=om;have ew:IntKind.i64.wrap ((i-1:Nat):Int)=((i-1:Nat):Int):=by rw[AZ];omega
     generalize (l[i-1]'om).1=pt at*;generalize (l[i-1]'om).2=pv at*;go_wp2_with fail;go_quiet (fail);clear d0 d1 p0 p1 ek Nz ew h0'
     rename Nat=>nq
     have hb2:=Al (below_drewN hb.1 nq);have ho2:Kept (aH (wr.drewN nq) w.heap.size (some ⟨g4,0,none⟩) (i+1) c4 (l.take (i+1))):=⟨ho.1⟩
     generalize wr.drewN nq=wq at*;clear ho hb;obtain⟨d0,d1⟩:=CX.1 wq hb2.1;have OS:=Al (aH.set ho2.1 i (xt,xv));rw[vv LX.1]at OS;have BS:=Al (jW hb2.1 hg4 i (.int .i64 xt) (.int .u64 (xv:Int)));obtain⟨x0,x1,f0,f1⟩:=aH.at_ (k:=i) ho2.1 om;generalize ((l.take (i+1))[i]'_).1=un at*;generalize ((l.take (i+1))[i]'_).2=uv at*;have y1:∀v,(wq.setCell ⟨g4,i*2,none⟩ v).cell? ⟨g4,i*2+1,none⟩=some (.int .u64 (uv:Int)):=fun v=>(AO wq ⟨g4,i*2,none⟩ ⟨g4,i*2+1,none⟩ v Ah).trans x1
     go_wp2;go_roundw
     case rel=>exact⟨i+1,om,by go_num,some ⟨g4,0,none⟩,c4,rfl,OS,BS.1⟩
     case measure=>simp[intOf];omega
    ·have h0':¬(0:Int)< (i:Int):=by omega
     go_wp2_with fail;go_quiet (fail);clear h0'
     rename Nat=>nq
     have hb2:=Al (below_drewN hb.1 nq);have ho2:Kept (aH (wr.drewN nq) w.heap.size (some ⟨g4,0,none⟩) (i+1) c4 (l.take (i+1))):=⟨ho.1⟩
     generalize wr.drewN nq=wq at*;clear ho hb;obtain⟨d0,d1⟩:=CX.1 wq hb2.1;have OS:=Al (aH.set ho2.1 i (xt,xv));rw[vv LX.1]at OS;have BS:=Al (jW hb2.1 hg4 i (.int .i64 xt) (.int .u64 (xv:Int)));obtain⟨x0,x1,f0,f1⟩:=aH.at_ (k:=i) ho2.1 om;generalize ((l.take (i+1))[i]'_).1=un at*;generalize ((l.take (i+1))[i]'_).2=uv at*;have y1:∀v,(wq.setCell ⟨g4,i*2,none⟩ v).cell? ⟨g4,i*2+1,none⟩=some (.int .u64 (uv:Int)):=fun v=>(AO wq ⟨g4,i*2,none⟩ ⟨g4,i*2+1,none⟩ v Ah).trans x1
     go_wp2;go_roundw
     case rel=>exact⟨i+1,om,by go_num,some ⟨g4,0,none⟩,c4,rfl,OS,BS.1⟩
     case measure=>simp[intOf];omega
  ·obtain rfl:i=n:=by omega
   have ht:Kept (l.take i=l):=⟨jc (by have:=hn.1;omega)⟩
   rw[ht.1]at ho;have HB:=Al hb;have hlt':¬(i:Int)< (i:Int):=om;clear hb;go_wp2;go_ret;exact⟨A2,i,c2,rfl,ho.1,HB.1⟩
end
section
open Go.RowKit Go.Shelf
section
variable {α:Type}
theorem abk (O:List α) (m y) (h:m≤O.length):(O.take m++y::O.drop m).length=O.length+1:=by
 rw[La,jD,Lc,kz];omega
theorem abl (O:List α) (m y) (h1:0<m) (h:m≤O.length):(O.take m++y::O.drop m)[m-1]? =O[m-1]?:=by
 rw[Cz (by rw[jD];omega),List.getElem?_take,Ps0 om]
theorem Ky (O:List α) (p y x) (h:p≤O.length):(O.take p++y::O.drop p).set p x=O.take p++x::O.drop p:=by
 rw[List.set_append_right _ _ (by rw[jD];omega),jD,show p-min p O.length=0 from om];rfl
theorem XW (O:List α) (m:Nat) (y:α) (h1:0<m) (h:m≤O.length):(O.take m++y::O.drop m).set m (O[m-1]'om)=O.take (m-1)++(O[m-1]'om)::O.drop (m-1):=by
 rw[Ky O m y _ h];have e2:O.take m=O.take (m-1)++[O[m-1]'om]:=by
  have:=Ts (show m-1<O.length from om);rwa[show m-1+1=m from om]at this
 have e3:O.drop (m-1)=(O[m-1]'om)::O.drop m:=by
  have:=oQ (show m-1<O.length from om);rwa[show m-1+1=m from om]at this
 rw[e2,e3,Af];rfl
end
structure sj where
 A:Option Addr
 n:Nat
 c:Nat
 A2:Option Addr
 n2:Nat
 c2:Nat
 L:List aU
def sj.val (u:sj):Value×Value:=(.slice u.A u.n u.c,.slice u.A2 u.n2 u.c2)
def sj.Good (u:sj) (W:World) (A:Option Addr):Prop:=dH W W.heap.size u.A u.n u.c u.L∧∀q,ab u.A=some q→q<W.heap.size∧ab A≠some q
def Sh (W:World) (base:Nat) (A:Option Addr) (n c:Nat) (us:List sj):Prop:=
 W.ownsRow base 57 2 (.slice A n c) n (ax (us.map sj.val))∧∀u∈us,u.Good W A
section
variable {W W':World} {base n c g:Nat} {A:Option Addr} {us:List sj}
theorem sj.Good.below {u:sj} (h:u.Good W A) (hb:Below W.heap.size W W'):u.Good W' A:=⟨(h.1.below hb).more hb.size,fun q e=>⟨jE (h.2 q e).1 hb.size,(h.2 q e).2⟩⟩
theorem Kz {w w' B sz n c A A2 xs} (h:Rd w B sz A n c xs) (hA:∀q,ab A=some q→ab A2≠some q) (hB:B≤w.heap.size) (hg:w.grownBy w' (ab A2)):Rd w' B sz A n c xs:=
 ⟨h.1,h.2.1,h.2.2.1,fun hn=>by
  obtain⟨b,off,e,hb,hc⟩:=h.2.2.2 hn;exact⟨b,off,e,hb,fun i u hu=>(hg.cell_far ⟨b,off+i,none⟩ (by show b<_;omega) (fun q=>hA b (by rw[e];rfl) q.symm)).trans (hc i u hu)⟩⟩
theorem sj.Good.far {u:sj} (h:u.Good W A) (hg:W.grownBy W' (ab A)):u.Good W' A:=⟨Rd.more (Kz h.1 (fun q e=>(h.2 q e).2) Aj hg) hg.size,fun q e=>⟨jE (h.2 q e).1 hg.size,(h.2 q e).2⟩⟩
theorem Sh.nil (W base):Sh W base none 0 0 []:=⟨Bb _ _ _ _,fun u h=>absurd h Ah⟩
theorem Sh.len (h:Sh W base A n c us):n=us.length:=by
 have:=h.1.1;rw[aP,fM]at this;omega
theorem Sh.below (h:Sh W base A n c us) (hb:Below W.heap.size W W'):Sh W' base A n c us:=⟨own_below h.1 hb fun q e=>(ae h.1 q e).2,fun u hu=>(h.2 u hu).below hb⟩
theorem Sh.cells (h:Sh W base (some ⟨g,0,none⟩) n c us) {k} (hk:k<us.length):
  W.cell? ⟨g,k*2,none⟩=some (.slice us[k].A us[k].n us[k].c)∧W.cell? ⟨g,k*2+1,none⟩=some (.slice us[k].A2 us[k].n2 us[k].c2)∧W.frozen? ⟨g,k*2,none⟩=false∧W.frozen? ⟨g,k*2+1,none⟩=false:=by
 have hn:=h.len;obtain⟨g1,g2⟩:=bR (us.map sj.val) k (by simpa using hk);have e:(us.map sj.val)[k]'(by simpa using hk)=us[k].val:=Ah;rw[e]at g1 g2;exact⟨(Bq h.1 (k*2) om).trans g1,(Bq h.1 (k*2+1) om).trans g2,AX h.1 _,AX h.1 _⟩
theorem Sh.set (h:Sh W base (some ⟨g,0,none⟩) n c us) {k} (hk:k<us.length) {y} (hy:y.Good W (some ⟨g,0,none⟩)):
  Sh ((W.setCell ⟨g,k*2,none⟩ (.slice y.A y.n y.c)).setCell ⟨g,k*2+1,none⟩ (.slice y.A2 y.n2 y.c2)) base (some ⟨g,0,none⟩) n c (us.set k y):=by
 have hG:W.grownBy ((W.setCell ⟨g,k*2,none⟩ (.slice y.A y.n y.c)).setCell ⟨g,k*2+1,none⟩ (.slice y.A2 y.n2 y.c2)) (ab (some ⟨g,0,none⟩)):=(jV W ⟨g,k*2,none⟩ _).trans (jV _ ⟨g,k*2+1,none⟩ _);refine⟨?_,fun u hu=>?_⟩
 ·have h1:=(BJ h.1 (k*2) (.slice y.A y.n y.c)).1;have h2:=(BJ h1 (k*2+1) (.slice y.A2 y.n2 y.c2)).1;rw[qp _ k (by simpa using hk)]at h2;rw[Ex];exact h2
 ·rcases List.mem_or_eq_of_mem_set hu with hm|rfl
  ·exact(h.2 u hm).far hG
  ·exact hy.far hG
theorem Sh.put {w} {x y:sj} {p vs} (h:Sh W base (some ⟨g,0,none⟩) n c us) {k} (hk:k<us.length) (hy:y.Good W (some ⟨g,0,none⟩)) (hx:x.Good W (some ⟨g,0,none⟩))
  (hP:Rd W W.heap.size 2 (some ⟨p,0,none⟩) 1 1 vs) (hp:ab (some ⟨g,0,none⟩)≠some p) (hb:Below base w W) (hg:base≤g):
  Sh ((W.setCell ⟨g,k*2,none⟩ (.slice y.A y.n y.c)).setCell ⟨g,k*2+1,none⟩ (.slice y.A2 y.n2 y.c2)) base (some ⟨g,0,none⟩) n c (us.set k y)∧x.Good ((W.setCell ⟨g,k*2,none⟩ (.slice y.A y.n y.c)).setCell ⟨g,k*2+1,none⟩ (.slice y.A2 y.n2 y.c2)) (some ⟨g,0,none⟩)∧
   Rd ((W.setCell ⟨g,k*2,none⟩ (.slice y.A y.n y.c)).setCell ⟨g,k*2+1,none⟩ (.slice y.A2 y.n2 y.c2)) ((W.setCell ⟨g,k*2,none⟩ (.slice y.A y.n y.c)).setCell ⟨g,k*2+1,none⟩ (.slice y.A2 y.n2 y.c2)).heap.size 2 (some ⟨p,0,none⟩) 1 1 vs∧
   Below base w ((W.setCell ⟨g,k*2,none⟩ (.slice y.A y.n y.c)).setCell ⟨g,k*2+1,none⟩ (.slice y.A2 y.n2 y.c2)):=by
 have hG:W.grownBy ((W.setCell ⟨g,k*2,none⟩ (.slice y.A y.n y.c)).setCell ⟨g,k*2+1,none⟩ (.slice y.A2 y.n2 y.c2)) (ab (some ⟨g,0,none⟩)):=(jV W ⟨g,k*2,none⟩ _).trans (jV _ ⟨g,k*2+1,none⟩ _);exact⟨h.set hk hy,hx.far hG,Rd.more (Kz hP (fun q e=>by cases e;exact hp) Aj hG) hG.size,jW hb hg k _ _⟩
theorem Sh.push {w4 c4 A4 y tmp} (h:Sh W base A n c us) (hy:y.Good W A)
  (au:w4.ownsRow base 57 2 (.slice A4 (n+1) c4) (n+1) (ax (us.map sj.val)++[.slice y.A y.n y.c,.slice y.A2 y.n2 y.c2])) (hg:(W.alloc tmp).grownBy w4 (ab A)) (hat:ab A4=ab A∨ab A4=some (W.alloc tmp).heap.size):
  Sh w4 base A4 (n+1) c4 (us++[y])∧y.Good w4 A4:=by
 have mv:∀u:sj,u.Good W A→u.Good w4 A4:=fun u hu=>by
  have h1:=(hu.below ((Ae _ W).alloc Aj tmp)).far hg;refine⟨h1.1,fun q e=>⟨(h1.2 q e).1,?_⟩⟩;rcases hat with e4|e4
  ·rw[e4];exact(hu.2 q e).2
  ·rw[e4];have:=(hu.2 q e).1;simp;omega
 refine⟨⟨?_,fun u hu=>?_⟩,mv y hy⟩
 ·rw[dN,pE];exact au
 ·rcases gY.1 hu with hm|hm
  ·exact mv u (h.2 u hm)
  ·rw[iP.1 hm];exact mv y hy
end
def Ord (us:List sj):Prop:=us.Pairwise fun x y=>Lb.cmpL x.L y.L≤0
theorem XX {a b c} (h1:Lb.cmpL a b≤0) (h2:Lb.cmpL b c≤0):Lb.cmpL a c≤0:=by
 have:=(Lb.wU a b c).1;omega
theorem Ord.ins {us:List sj} {x:sj} (h:Ord us) (t:Nat) (ht:t≤us.length) (h1:∀(h:0<t),Lb.cmpL (us[t-1]'om).L x.L≤0) (h2:∀j (hj:j<us.length),t≤j→0<Lb.cmpL us[j].L x.L):Ord (us.take t++x::us.drop t):=by
 have hp:=AF.1 h;refine BZ.2 ⟨h.sublist (List.take_sublist _ _),BH.2 ⟨fun y hy=>?_,h.sublist (List.drop_sublist _ _)⟩,fun a ha b hb=>?_⟩
 ·obtain⟨j,hj,rfl⟩:=iC.1 hy;rw[Dc];have hj':t+j<us.length:=by rw[kz]at hj;omega
  have:=h2 (t+j) hj' om;have:=Lb.fZ us[t+j].L x.L;omega
 ·obtain⟨i,hi,rfl⟩:=iC.1 ha;rw[List.getElem_take];have hi':i<t:=by rw[jD]at hi;omega
  have hle:Lb.cmpL (us[i]'om).L x.L≤0:=by
   have hq:=h1 om;by_cases e:i=t-1
   ·subst e;exact hq
   ·exact XX (hp i (t-1) om om om) hq
  rcases iW.1 hb with rfl|hb
  ·exact hle
  ·obtain⟨j,hj,rfl⟩:=iC.1 hb;rw[Dc];exact hp i (t+j) om (by rw[kz]at hj;omega) om
theorem xV {us:List sj} {x} (t):((us.take t++x::us.drop t).map (·.L)).Perm (us.map (·.L)++[x.L]):=by
 have h1:(us.take t++x::us.drop t).Perm (x::us):=by
  have:=List.perm_middle (a:=x) (l₁:=us.take t) (l₂:=us.drop t);rwa[je]at this
 refine(h1.map _).trans ?_;rw[AJ];exact(List.perm_append_singleton _ _).symm
end
section
open Go.RowKit Go.Shelf
theorem aeo {A4 A2 p n} (h:ab A4=ab A2∨ab A4=some n) (h1:∀q,ab A2=some q→q<p) (h2:p<n):ab A4≠some p:=fun e=>by
 rcases h with h|h
 ·have:=h1 p (h.symm.trans e);omega
 ·have:=Oj (h.symm.trans e);omega
noncomputable def Bk.dup (l:Bk.gN):Int:=open Classical in if(l.map (·.1)).Nodup then 0 else 19
theorem Sh.dup {us l} (ho:Ord us) (hp:(us.map (·.L)).Perm (l.map (·.1))):Bk.qY Bk.bE 19 (us.map fun u=>(u.L,[]))=Bk.dup l:=by
 have hn:((us.map fun u=>((u.L,[]):Bk.yQ)).map (·.1))=us.map (·.L):=by rw[BQ];rfl
 have hs:(us.map fun u=>((u.L,[]):Bk.yQ)).Pairwise fun x y=>decide (Bk.bE y x<0)=false:=by
  rw[Ea];refine ho.imp fun{a b} h=>AA ?_
  have:=Lb.fZ a.L b.L;show¬Lb.cmpL b.L a.L<0;omega
 unfold Bk.dup;rcases Bk.MU hs with⟨a,b,-⟩|⟨a,b⟩
 ·rw[hn]at b;rw[a,Ps0 (hp.nodup_iff.1 b)]
 ·rw[hn]at b;rw[a,Ng (fun q=>b (hp.nodup_iff.2 q))]
theorem zT (A n c l w) (hv:fK w w.heap.size A n c l) (ho:∀s∈l,Bk.one s=0) (hf:∀s∈l,Lb.Fit s.1) (hsz:n≤100000) (hin:∀s∈l,s.1.length≤1000000∧s.2.length≤1000000) (hs:Bk.bu l≤16777216):
  Calls prog 30 #[.slice A n c] w fun r w'=>∃A2 n2 c2,r= .returned (.tuple #[.slice A2 n2 c2,.int .i64 (Bk.dup l)])∧Below w.heap.size w w':=by
 have mixed:prog.follows .mixedOrders=true:=kr;have LG:=Al (og A n c w.heap.size l w hv Aj om);have hn:=Al hv.len;have hcp:=hv.cap;unfold maxLen at hcp;obtain⟨hcp1,hcp2⟩:=hcp;have hll:l.length≤100000:=by have:=hn.1;omega
 rw[AA om]at LG;have V:=Al hv;have HO:=Al ho;have HF:=Al hf;have ME:=Al hin;obtain⟨r,hr⟩:∃r,r=Bk.dup l:=⟨_,rfl⟩
 rw[←hr];have HR0:=Al hr;clear hv ho hf hin hs hr;go_enter func30,ntmps30;go_wp2_with (go_at_call 60;refine LG.1.mono ?_;rintro e w1 ⟨rfl,g1⟩;have G1:=Al g1;clear g1 LG);go_loopw [4,5] (fun o i wr=>∃k:Nat,k≤n∧i= .int .i64 k∧∃A2 c2 us,o= .slice A2 k c2∧Kept (Sh wr w.heap.size A2 k c2 us)∧Kept (Ord us∧(us.map (·.L)).Perm ((l.take k).map (·.1)))∧Below w.heap.size w wr) (fun _ i _=>n-(intOf i).toNat)
 case atStart=>exact⟨0,om,rfl,none,0,[],rfl,⟨Sh.nil _ _⟩,⟨List.Pairwise.nil,Ah⟩,G1.1.below⟩
 case round=>
  clear G1;obtain⟨k,hk,rfl,A2,c2,us,rfl,hsh,gz,hb⟩:=hrel;have HB:=Al hb;by_cases hlt:k<n
  ·have hkl:k<l.length:=by rw[←hn.1];exact hlt
   have hlt':(k:Int)< (n:Int):=om;obtain⟨b,off,A1,n1,c1,Am,nm,cm,rfl,hl,hm,hc⟩:=V.1.cells Aj hkl;have hsk:l[k]∈l:=dR hkl;obtain⟨hok,hne,hti⟩:=Bk.kT (HO.1 _ hsk);obtain⟨hsr,hon⟩:=Lb.dB hok;have hm1:n1≤1000000:=by have:=hl.len;have:=(ME.1 _ hsk).1;omega
   have hm2:nm≤1000000:=by have:=fO.len hm;have:=(ME.1 _ hsk).2;omega
   have hmp:((nm:Int)==0)=false:=by
    have h1:=fO.len hm;have:=mH.2 hne;simp;omega
   have CX:=Al hc;obtain⟨d0,d1⟩:=hc wr hb;have LN:=Al (zS A1 n1 c1 w.heap.size l[k].1 wr (hl.below hb) hb.size (HF.1 _ hsk) hm1 hsr ((Lb.gq _).2 hon));have MS:=Al (fun W (h:Below w.heap.size w W)=>vw Am nm cm w.heap.size l[k].2 W (hm.below h) h.size hm2 (Bk.Iw hti));have TI:=Al (fun W A c' n' (h:fO W W.heap.size A n' c' l[k].2)=>qG A n' c' W.heap.size l[k].2 W h Aj);rw[hti]at TI;have HT:=Al (Ts hkl);clear hl hm hc hok hne hti hsr hon hsk hb;go_upto_region 10 with(go_at_call 61;refine LN.1.mono ?_;rintro e w2 ⟨A9,n9,c9,rfl,ho9,xE⟩;have O9:=Al ho9;have B9:=Al (HB.1.trans (xE.mono HB.1.size));have S9:=Al (hsh.1.below xE);have Z9:=Al xE.size;clear ho9 xE LN)
   obtain⟨e0,e1⟩:=CX.1 w2 B9.1;clear d0 d1;go_upto_region 16 with(first
    |(go_at_call 63;refine TQ.1.mono ?_;rintro e w4 ⟨rfl,g4⟩;have G4:=Al g4;clear g4 TQ)
    |(go_at_call 62;refine(MS.1 w2 B9.1).mono ?_;rintro e w3 ⟨A8,n8,c8,rfl,Yb,hb8⟩;have B8:=Al hb8;have TQ:=Al (TI.1 w3 A8 c8 n8 (aH.rd Yb));clear Yb hb8 MS TI))
   have B4:=Al (B8.1.trans (G4.1.below.mono B8.1.size));have O4:=Al (own_below O9.1 B4.1 (fun q e=>(ae O9.1 q e).2));have S4:=Al (S9.1.below B4.1);have W4:=Al (B9.1.trans (B4.1.mono B9.1.size));have X4:Kept ((⟨A9,n9,c9,A8,n8,c8,l[k].1⟩:sj).Good w4 A2):=⟨⟨aJ.rd O4.1,fun q e=>⟨(ae O4.1 q e).2,fun e2=>by have:=(ae hsh.1.1 q e2).2;have:=(ae O9.1 q e).1;omega⟩⟩⟩
   clear B8 G4 O9 S9 e0 e1;obtain⟨i0,hi0,hz0,hz1,hz2⟩:=AY FF;have HI:=Al (And.intro hi0 (And.intro hz0 (And.intro hz1 hz2)));clear hi0 hz0 hz1 hz2;have hbx:=(Ae _ w4).alloc Aj (.cells #[.slice A9 n9 c9,.slice A8 n8 c8] 57);have S5:=Al (S4.1.below hbx);have X5:=Al (X4.1.below hbx);have W5:=Al (W4.1.alloc W4.1.size (.cells #[.slice A9 n9 c9,.slice A8 n8 c8] 57));have P5:=Al (rZ w4 (.slice A9 n9 c9) (.slice A8 n8 c8) 57);have RL:Rd ((w4.alloc (.cells #[.slice A9 n9 c9,.slice A8 n8 c8] 57)).alloc (.cells #[.slice A9 n9 c9,.slice A8 n8 c8] 57)) (w4.heap.size+2) 2 (some ⟨w4.heap.size+1,0,none⟩) 1 1 [.slice A9 n9 c9,.slice A8 n8 c8]:=by
    have:=rZ (w4.alloc (.cells #[.slice A9 n9 c9,.slice A8 n8 c8] 57)) (.slice A9 n9 c9) (.slice A8 n8 c8) 57;simpa using this
   have RK:=Al RL;have HN2:Kept (∀q,ab A2=some q→q<w4.heap.size):=⟨fun q e=>(ae S4.1.1 q e).2⟩
   have HU:=Al S4.1.len;clear hbx RL S4 X4;go_upto_region 19 with(at_builtin;refine bA _ rfl (.tmp 55) (.tmp 57) 24 rfl w.heap.size 57 i0 (.agg #[.slice none 0 0,.slice none 0 0]) 2 48 underlying24 HI.1.1 HI.1.2.1 HI.1.2.2.1 HI.1.2.2.2 rfl Ai A2 k c2 _ rfl (Oa S5.1.1 _) (w4.heap.size+2) _ 1 1 _ rfl RK.1 (by intro u hu;simp at hu;rcases hu with rfl|rfl<;>rfl) (by unfold maxLen;omega) om (by have:=W4.1.size;simp;omega) ?_;intro A4 c4 w6 hown6 iK JO;have PX:=S5.1.push X5.1 hown6 iK JO;have S6:=Al PX.1;have X6:=Al PX.2;have W6:=Al ((W5.1.alloc W5.1.size (.cells #[.slice A9 n9 c9,.slice A8 n8 c8] 57)).grown iK (by have:=W4.1.size;simp;omega) (fun q e=>(ae S5.1.1 q e).1));have P6:Kept (Rd w6 w6.heap.size 2 (some ⟨w4.heap.size,0,none⟩) 1 1 [.slice A9 n9 c9,.slice A8 n8 c8]):=⟨Rd.more (Kz (Rd.alloc P5.1 Ah _) (fun q e e2=>by cases e;exact absurd (HN2.1 _ e2) (Et w4.heap.size)) Ah iK) (by have:=iK.size;simp at this;omega)⟩;have F6:Kept (ab A4≠some w4.heap.size):=⟨aeo JO HN2.1 (by simp;omega)⟩;clear PX hown6 iK JO)
   have YJ:=HU.1;obtain⟨g4,rfl,hg4,-⟩:=gG S6.1.1 om;have hc4:=(Rd.bz S6.1.1).1;have Ux:=(Rd.bz S6.1.1).2.1;unfold maxLen at Ux;have XL:Kept ((⟨A9,n9,c9,A8,n8,c8,l[k].1⟩:sj).L=l[k].1):=⟨rfl⟩
   obtain⟨x,hx⟩:∃x:sj,x=⟨A9,n9,c9,A8,n8,c8,l[k].1⟩:=⟨_,rfl⟩
   rw[←hx]at X6 S6 XL;have HX:=Al hx;generalize w4.heap.size=p at*;clear S5 X5 W5 P5 RK HN2 B4 O4 W4 hx YJ;go_loopw [9] (fun j wx=>∃(t:Nat) (y:sj),t≤k∧j= .int .i64 t∧Kept (Sh wx w.heap.size (some ⟨g4,0,none⟩) (k+1) c4 (us.take t++y::us.drop t))∧Kept (∀j (hj:j<us.length),t≤j→0<Lb.cmpL us[j].L x.L)∧Kept (x.Good wx (some ⟨g4,0,none⟩))∧Kept (Rd wx wx.heap.size 2 (some ⟨p,0,none⟩) 1 1 [.slice A9 n9 c9,.slice A8 n8 c8])∧Kept (Below w.heap.size w wx)) (fun j _=>(intOf j).toNat)
   case atStart=>exact⟨k,x,Nr _,by go_num,⟨by rw[jc (Nat.le_of_eq HU.1.symm),Ei (Nat.le_of_eq HU.1.symm)];exact S6.1⟩,⟨fun j hj h=>by have:=HU.1;omega⟩,X6,P6,W6⟩
   case round=>
    clear S6 X6 P6 W6;obtain⟨t,y,htk,rfl,hS,hup,hX,hP,hW⟩:=hrel;have htu:t≤us.length:=by have:=HU.1;omega
    have hst:t< (us.take t++y::us.drop t).length:=by rw[abk _ _ _ htu];omega
    have hst':(t:Int)< (k:Int)+1:=om;have GP:=Al (show ab (some ⟨g4,0,none⟩:Option Addr)≠some p from F6.1);by_cases ht:0<t
    ·have ht':(0:Int)< (t:Int):=by omega
     have htl:t-1<us.length:=om;have hsl:t-1< (us.take t++y::us.drop t).length:=om;have hge:(us.take t++y::us.drop t)[t-1]=us[t-1]:=by
      have:=abl us t y ht htu;rw[kC hsl,kC htl]at this;exact Oj this
     obtain⟨z0,-,-,-⟩:=hS.1.cells hsl;have hgd:=hS.1.2 _ (dR hsl);rw[hge]at z0 hgd;have XR:dH wr wr.heap.size A9 n9 c9 x.L:=by
      have:=hX.1.1;rw[HX.1]at this⊢;exact this
     have CMP:=Al (fe us[t-1].A A9 us[t-1].n us[t-1].c n9 c9 us[t-1].L x.L wr hgd.1 XR);have GD:=Al hgd;have SS:=Al (XW us t y ht htu);have ek:(t:Int)-1=((t-1:Nat):Int):=om;have Nz:((t-1:Nat):Int)< (k:Int)+1:=om;have ew:IntKind.i64.wrap ((t-1:Nat):Int)=((t-1:Nat):Int):=by rw[AZ];omega
     have hge:=Al hge;clear hgd XR;by_cases hr:0<Lb.cmpL us[t-1].L x.L
     ·have UPN:Kept (∀j (hj:j<us.length),t-1≤j→0<Lb.cmpL us[j].L x.L):=⟨fun j hj hjt=>by
       by_cases e:j=t-1
       ·subst e;exact hr
       ·exact hup.1 j hj om⟩
      go_upto_region 20 with(go_at_call 39;refine CMP.1.mono ?_;rintro e w7 ⟨rfl,g7⟩;have G7:=Al g7;clear g7 CMP)
      have S7:=Al (hS.1.below G7.1.below);obtain⟨q0,q1,-,-⟩:=S7.1.cells hsl;obtain⟨x0,x1,f0,f1⟩:=S7.1.cells hst;rw[hge.1]at q0 q1;have PU:=S7.1.put hst (GD.1.below G7.1.below) (hX.1.below G7.1.below) (Rd.more (Rd.below hP.1 G7.1.below) G7.1.size) GP.1 (hW.1.trans (G7.1.below.mono hW.1.size)) hg4;rw[SS.1]at PU;have PU:=Al PU;clear z0 hr;generalize (us.take t++y::us.drop t)[t]=un at*;generalize us[t-1]=v at*;have y1:∀u,(w7.setCell ⟨g4,t*2,none⟩ u).cell? ⟨g4,t*2+1,none⟩=some (.slice un.A2 un.n2 un.c2):=fun u=>(AO w7 ⟨g4,t*2,none⟩ ⟨g4,t*2+1,none⟩ u Ah).trans x1
      go_wp2;go_roundw
      case rel=>exact⟨t-1,v,om,by go_num,⟨PU.1.1⟩,UPN,⟨PU.1.2.1⟩,⟨PU.1.2.2.1⟩,⟨PU.1.2.2.2⟩⟩
      case measure=>simp[intOf];omega
     ·have UB:Kept (∀(h:0<t),Lb.cmpL (us[t-1]'om).L x.L≤0):=⟨fun _=>om⟩
      go_upto_region 22 with(go_at_call 39;refine CMP.1.mono ?_;rintro e w7 ⟨rfl,g7⟩;have G7:=Al g7;clear g7 CMP)
      have S7:=Al (hS.1.below G7.1.below);have X7:=Al (hX.1.below G7.1.below);have P7:=Al (Rd.more (Rd.below hP.1 G7.1.below) G7.1.size);have W7:=Al (hW.1.trans (G7.1.below.mono hW.1.size));clear z0 hr hS hX hP hW GD SS hge ek Nz ew;obtain⟨x0,x1,f0,f1⟩:=S7.1.cells hst;obtain⟨bb,bo,be,-,bc⟩:=P7.1.2.2.2 om;cases be;have b0:=bc 0 _ rfl;have b1:=bc 1 _ rfl;rw[bO]at b0 b1;have PU:=S7.1.put hst X7.1 X7.1 P7.1 GP.1 W7.1 hg4;rw[Ky us t y x htu]at PU;have PU:=Al PU;have YC:=HX.1;rw[YC]at PU;have ORD:Kept (Ord (us.take t++x::us.drop t)∧((us.take t++x::us.drop t).map (·.L)).Perm ((l.take (k+1)).map (·.1))):=⟨gz.1.1.ins t htu UB.1 hup.1,(xV (us:=us) (x:=x) t).trans (by rw[HT.1,dN,XL.1];exact gz.1.2.append_right _)⟩
      rw[YC]at ORD;clear bc;generalize (us.take t++y::us.drop t)[t]=un at*;have y1:∀u,(w7.setCell ⟨g4,t*2,none⟩ u).cell? ⟨g4,t*2+1,none⟩=some (.slice un.A2 un.n2 un.c2):=fun u=>(AO w7 ⟨g4,t*2,none⟩ ⟨g4,t*2+1,none⟩ u Ah).trans x1
      go_wp2;go_roundw
      case rel=>exact⟨k+1,om,by go_num,some ⟨g4,0,none⟩,c4,_,rfl,⟨PU.1.1⟩,ORD,PU.1.2.2.2⟩
      case measure=>simp[intOf];omega
    ·have ht':¬(0:Int)< (t:Int):=by omega
     have UB:Kept (∀(h:0<t),Lb.cmpL (us[t-1]'om).L x.L≤0):=⟨fun h=>absurd h ht⟩
     have S7:=hS;have X7:=hX;have P7:=hP;have W7:=hW;obtain⟨x0,x1,f0,f1⟩:=S7.1.cells hst;obtain⟨bb,bo,be,-,bc⟩:=P7.1.2.2.2 om;cases be;have b0:=bc 0 _ rfl;have b1:=bc 1 _ rfl;rw[bO]at b0 b1;have PU:=S7.1.put hst X7.1 X7.1 P7.1 GP.1 W7.1 hg4;rw[Ky us t y x htu]at PU;have PU:=Al PU;have YC:=HX.1;rw[YC]at PU;have ORD:Kept (Ord (us.take t++x::us.drop t)∧((us.take t++x::us.drop t).map (·.L)).Perm ((l.take (k+1)).map (·.1))):=⟨gz.1.1.ins t htu UB.1 hup.1,(xV (us:=us) (x:=x) t).trans (by rw[HT.1,dN,XL.1];exact gz.1.2.append_right _)⟩
     rw[YC]at ORD;clear bc;generalize (us.take t++y::us.drop t)[t]=un at*;have y1:∀u,(wr.setCell ⟨g4,t*2,none⟩ u).cell? ⟨g4,t*2+1,none⟩=some (.slice un.A2 un.n2 un.c2):=fun u=>(AO wr ⟨g4,t*2,none⟩ ⟨g4,t*2+1,none⟩ u Ah).trans x1
     go_wp2;go_roundw
     case rel=>exact⟨k+1,om,by go_num,some ⟨g4,0,none⟩,c4,_,rfl,⟨PU.1.1⟩,ORD,PU.1.2.2.2⟩
     case measure=>simp[intOf];omega
  ·obtain rfl:k=n:=by omega
   have hlt':¬(k:Int)< (k:Int):=om;have htk:l.take k=l:=jc (by have:=hn.1;omega);have YJ:=Al hsh.1.len;have hfin:=Sh.dup (l:=l) gz.1.1 (by have h:=gz.1.2;rw[htk]at h;exact h);rw[←HR0.1]at hfin;have HR:=Al hfin;have OP:=Al (AF.1 gz.1.1);have hc2:=(Rd.bz hsh.1.1).1;have ahN:=(Rd.bz hsh.1.1).2.1;unfold maxLen at ahN;have ML:Kept (∀j (h:j<us.length),((us.map fun u=>((u.L,[]):Bk.yQ)))[j]'(by simpa using h)=(us[j].L,[])):=⟨fun j h=>Ah⟩
   clear hfin htk hb gz;go_wp2
   rename World=>ws
   go_loopw [11] (fun i wr=>∃j:Nat,1≤j∧(j≤k∨j=1)∧i= .int .i64 j∧Kept (∀q,q<j→Bk.bH Bk.bE 19 (us.map fun u=>(u.L,[])) q=0)∧Gr ws wr) (fun i _=>k-(intOf i).toNat)
   case atStart=>exact⟨1,om,.inr rfl,rfl,⟨fun j hj=>by rw[show j=0 from om];exact Bk.gZ _ _ _⟩,Gr.refl ws⟩
   case round=>
    obtain⟨j,hj1,hjk,rfl,hd,gr⟩:=hrel;have G:=Al gr;by_cases hlt:j<k
    ·have hju:j<us.length:=by rw[←YJ.1];exact hlt
     have abn:j-1<us.length:=om;obtain⟨g,rfl,-,-⟩:=gG hsh.1.1 om;have hcase:=Al (Bk.rO (f:=Bk.bE) (q:=19) (l:=us.map fun u=>((u.L,[]):Bk.yQ)) (k:=j) (by simpa using hju) om Ai hd.1);rw[HR.1]at hcase;simp only[DL]at hcase;have hcs:∀a b:List aU,Bk.bE (a,[]) (b,[])=Lb.cmpL a b:=fun _ _=>rfl
     rw[hcs]at hcase;have hle:=OP.1 (j-1) j abn hju om;have SG:=fun m os=>hsh.1.below (gr.trans ⟨m,os,rfl⟩:Gr ws (Sort.grow (wr.drewN m) os)).below
     have f0:=fun m os=>((SG m os).cells hju).1
     have p0:=fun m os=>((SG m os).cells abn).1
     have BG:=Al (fun m os=>fe us[j-1].A us[j].A us[j-1].n us[j-1].c us[j].n us[j].c us[j-1].L us[j].L _ ((SG m os).2 _ (dR abn)).1 ((SG m os).2 _ (dR hju)).1);have ek:(j:Int)-1=((j-1:Nat):Int):=om;have Nz:((j-1:Nat):Int)< (k:Int):=om;have ek3:(j:Int)< (k:Int):=om;have ew:IntKind.i64.wrap ((j-1:Nat):Int)=((j-1:Nat):Int):=by rw[AZ];omega
     clear SG gr hcs;generalize Lb.cmpL us[j-1].L us[j].L=s at*;go_wp2_with fail;go_quiet_grown (first|(go_at_call 39;refine BU (BG.1 _ _)));clear f0 p0 BG;rcases hcase.1 with⟨rfl,hres⟩|⟨hs,hres⟩|⟨hs,hd2⟩
     ·have hres:=Al hres;go_wp2;go_ret2;exact⟨⟨none,0,0,by first|rfl|(rw[hres.1];rfl)⟩,HB.1.trans ((G.1.trans ⟨_,_,rfl⟩).below.mono HB.1.size)⟩
     ·omega
     ·have hd2:=Al hd2;have hs0:(s==0)=false:=by simp;omega
      go_wp2;go_roundw
      case rel=>exact⟨j+1,om,.inl om,by go_num,hd2,G.1.trans ⟨_,_,rfl⟩⟩
      case measure=>simp[intOf];omega
    ·have hlt2:¬(j:Int)< (k:Int):=by omega
     have hd2:Kept (r=0):=⟨HR.1.symm.trans (Bk.nY fun q hq=>hd.1 q (by have:=YJ.1;simp at hq;omega))⟩
     clear gr;go_wp2;go_ret2;rw[hd2.1];exact⟨⟨A2,k,c2,rfl⟩,HB.1.trans (G.1.below.mono HB.1.size)⟩
end
section
open Go.RowKit Go.Shelf
theorem abh.cases {w w' l e} (h:abh w l e w') (hS:Bk.wh l) (hi:∀s∈l,Cs.In s.2) (hG:Gl w):
  Below w.heap.size w w'∧((Bk.dup l=19∧e= .returned (.tuple #[.slice none 0 0,.int .i64 19]))∨
   (Bk.dup l=0∧∃A3 n3 c3,e= .returned (.tuple #[.slice A3 n3 c3,.int .i64 0])∧∀W,Below w'.heap.size w' W→Calls prog 9 #[.slice A3 n3 c3] W fun e W'=>∃m A4 n4 c4,e= .returned (.tuple #[.slice A4 n4 c4,.int .i64 0])∧fK W' W'.heap.size A4 n4 c4 m∧n4=l.length∧Bk.bu m=Bk.bu l∧Below W.heap.size W W')):=by
 obtain⟨hb,h⟩:=h;refine⟨hb,?_⟩;rcases h with⟨hn,he⟩|⟨hn,m,hp,hc,A3,n3,c3,L,he,hf,hr⟩
 ·exact .inl ⟨Ng hn,he⟩
 ·refine .inr ⟨Ps0 hn,A3,n3,c3,he,fun W hW=>?_⟩;obtain⟨s1,s2,s3⟩:=(Bk.Iy hp hS).short hc (fun s hs=>hi s (hp.mem_iff.1 hs)) hf;have hl:=hr.len;have DE:=MN A3 n3 c3 L W ((hr.below hW).more hW.size) om s1 (hG.below (hb.trans (hW.mono hb.size)));rw[s3]at DE;refine DE.mono ?_;rintro e W' ⟨A4,n4,c4,rfl,hk,hb4⟩;exact⟨m,A4,n4,c4,rfl,hk,hk.len.trans hp.length_eq,Bk.uZ hp,hb4⟩
theorem Pz (A A2 n c n2 c2 a b w) (hv:fK w w.heap.size A n c a) (hv2:fK w w.heap.size A2 n2 c2 b) (hfa:∀s∈a,Lb.Fit s.1∧Cs.In s.2) (Fx:∀s∈b,Lb.Fit s.1∧Cs.In s.2) (hG:Gl w):
  Calls prog 7 #[.slice A n c,.slice A2 n2 c2] w fun e w'=>e= .returned (.bool true)∧Below w.heap.size w w':=by
 have HV:=Al hv;have HV2:=Al hv2;have HF:Kept (∀s∈a++b,Lb.Fit s.1):=⟨fun s hs=>(gY.1 hs).elim (fun h=>(hfa s h).1) (fun h=>(Fx s h).1)⟩
 have ME:Kept (∀s∈a++b,Cs.In s.2):=⟨fun s hs=>(gY.1 hs).elim (fun h=>(hfa s h).2) (fun h=>(Fx s h).2)⟩
 have HG:=Al hG;have ST:=Al (fun(W:World) (h:Below w.heap.size w W)=>Kr W (hG.below h));have BLA:=Al (xO A n c w.heap.size a w hv Aj (fun s hs=>(hfa s hs).1));have BLB:=Al (fun(W:World) (h:Below w.heap.size w W)=>xO A2 n2 c2 w.heap.size b W (hv2.below h) h.size (fun s hs=>(Fx s hs).1));have hcp:=hv.cap;have hcp2:=hv2.cap;unfold maxLen at hcp hcp2;clear hG hfa Fx hv hv2;go_enter func7,ntmps7;go_upto_region 3 with(first
  |(go_at_call 8;refine(ST.1 _ BB.1).mono ?_;rintro e w9 ⟨rfl,hb⟩;have B9:=Al (BB.1.trans (hb.mono BB.1.size));clear hb)
  |(go_at_call 19;refine(BLB.1 w1 B1.1).mono ?_;rintro e w2 ⟨v,rfl,hv,hb⟩;have BB:=Al (B1.1.trans (hb.mono B1.1.size));have KB:=Al hv;clear hb hv BLB B1;cases v)
  |(go_at_call 19;refine BLA.1.mono ?_;rintro e w1 ⟨v,rfl,hv,hb⟩;have B1:=Al hb;have BB:=Al hb;have KA:=Al hv;clear hb hv BLA;cases v))
 ·go_ret;exact⟨rfl,B9.1⟩
 ·go_ret;exact⟨rfl,B9.1⟩
 obtain⟨hSa,XZ⟩:=KA.1 trivial;obtain⟨hSb,hcb⟩:=KB.1 trivial;have CC:=Al (IA A A2 n c n2 c2 a b w2 ((HV.1.below BB.1).more BB.1.size) ((HV2.1.below BB.1).more BB.1.size) (by have:=hSa.fE;have:=hSb.fE;omega));have ONE:Kept (∀s∈a++b,Bk.one s=0):=⟨fun s hs=>(gY.1 hs).elim (fun h=>(Bk.dB XZ).2.2.1 s h) (fun h=>(Bk.dB hcb).2.2.1 s h)⟩
 have SA:=Al (fun(W:World) (h:Below w.heap.size w W)=>ja A n c w.heap.size a W (HV.1.below h) h.size (by have:=hSa.bu;omega));have SB:=Al (fun(W:World) (h:Below w.heap.size w W)=>ja A2 n2 c2 w.heap.size b W (HV2.1.below h) h.size (by have:=hSb.bu;omega));have SUM:Kept (Bk.bu (a++b)=Bk.bu a+Bk.bu b∧Bk.bu a≤3000∧Bk.bu b≤3000):=⟨Bk.mV a b,hSa.bu,hSb.bu⟩
 clear KA KB hSa hSb XZ hcb;go_upto_region 6 with(first
  |(go_at_call 8;refine(ST.1 w4 B4.1).mono ?_;rintro e w9 ⟨rfl,hb⟩;have B9:=Al (B4.1.trans (hb.mono B4.1.size));clear hb)
  |(go_at_call 28;refine LG.1.mono ?_;rintro e w4 ⟨v,rfl,hv,hb⟩;have B4:=Al (B3.1.trans (hb.mono B3.1.size));have K4:=Al ((K3.1.below hb).more hb.size);have VS:=Al hv;clear hv hb LG;by_cases h0:0<v)
  |(go_at_call 27;refine CC.1.mono ?_;rintro e w3 ⟨A3,n3,c3,rfl,hk,hb⟩;have B3:=Al (BB.1.trans (hb.mono BB.1.size));have K3:=Al hk;have LG:=Al (qP A3 n3 c3 w3.heap.size (a++b) w3 hk Aj HF.1);clear hk hb CC))
 ·go_ret;exact⟨rfl,B9.1⟩
 have hS:=VS.1 om;have HS:=Al hS;have rD:=Al K4.1.len;have RW:=Al ((XV A3 n3 c3 (a++b) w4 K4.1 ONE.1 HF.1 hS ME.1 (HG.1.below B4.1)).mono fun e w' h=>h.cases hS ME.1 (HG.1.below B4.1));have NK:=Al (fun(W:World) (h:Below w4.heap.size w4 W)=>zT A3 n3 c3 (a++b) W ((K4.1.below h).more h.size) ONE.1 HF.1 (by have:=rD.1;have:=hS.fE;omega) (fun s hs=>by have:=Bk.Uw hs;have:=hS.lab;have:=hS.bu;omega) (by have:=hS.bu;omega));have SM:=Al (fun(W:World) (m:Bk.gN) (A:Option Addr) (n c B:Nat) (h:fK W B A n c m) (hB:B≤W.heap.size) (hm:Bk.bu m=Bk.bu (a++b))=>hm▸qF A n c B m W h hB (by have:=hS.bu;omega));have hsum:=SUM.1.1;have hb1:=SUM.1.2.1;have hb2:=SUM.1.2.2;generalize Bk.bu (a++b)=st at*;generalize Bk.bu a=sa at*;generalize Bk.bu b=sb at*;have aj4:(st:Int)=(sa:Int)+(sb:Int):=om;clear hS VS SUM hsum ONE HF ME;go_upto_region 8 with(first
  |(go_at_call 30;refine(NQ.1).mono ?_;rintro e w6 ⟨A6,n6,c6,rfl,hb⟩;have B6:=Al (B5.1.trans (hb.mono B5.1.size));have C6:=Al hb;clear hb NQ)
  |(go_at_call 29;refine RW.1.mono ?_;rintro e w5 ⟨hb,h⟩;have B5:=Al (B4.1.trans (hb.mono B4.1.size));have NQ:=Al (NK.1 w5 hb);clear hb NK RW;rcases h with⟨hd,rfl⟩|⟨hd,A5,n5,c5,rfl,hdec⟩;all_goals (rw[hd]at NQ;clear hd)))
 ·go_wp2_with (go_at_call 8;refine(ST.1 w6 B6.1).mono ?_;rintro e w9 ⟨rfl,hb⟩;have B9:=Al (B6.1.trans (hb.mono B6.1.size));clear hb);go_ret;exact⟨rfl,B9.1⟩
 have DE:=Al (hdec w6 C6.1);clear hdec;go_wp2_with (first
  |(go_at_call 32;refine(SB.1 PH B10.1).mono ?_;rintro e PI ⟨rfl,hg⟩;have B11:=Al (B10.1.trans (hg.below.mono B10.1.size));clear hg SB)
  |(go_at_call 32;refine(SA.1 w9 B9.1).mono ?_;rintro e PH ⟨rfl,hg⟩;have B10:=Al (B9.1.trans (hg.below.mono B9.1.size));clear hg SA)
  |(go_at_call 31;refine(SM.1 w8 m A7 n7 c7 w7.heap.size (K7.1.below C8.1) C8.1.size S7.1).mono ?_;rintro e w9 ⟨rfl,hg⟩;have B9:=Al (B8.1.trans (hg.below.mono B8.1.size));clear hg SM)
  |(go_at_call 8;refine(ST.1 w7 B7.1).mono ?_;rintro e w8 ⟨rfl,hb⟩;have B8:=Al (B7.1.trans (hb.mono B7.1.size));have C8:=Al hb;clear hb ST)
  |(go_at_call 9;refine DE.1.mono ?_;rintro e w7 ⟨m,A7,n7,c7,rfl,hk,hl,hsm,hb⟩;have B7:=Al (B6.1.trans (hb.mono B6.1.size));have K7:=Al hk;have S7:=Al hsm;have Ya:=congrArg (Nat.cast:Nat→Int) (hl.trans rD.1.symm);clear hk hl hsm hb DE))
 go_ret;exact⟨rfl,B11.1⟩
end
end Go.Proofs.YtongopommlghgaaGreatDoor
