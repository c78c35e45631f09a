/- Part 15. -/
import Derived.Test.YtongopommlghgaaGreatDoorZVAN
import Derived.Shelf.Spec.TrailingZeros
namespace Go.Proofs.YtongopommlghgaaGreatDoor
set_option maxRecDepth 100000
set_option maxHeartbeats 0
open _root_.Go.Proofs.Tryz
open Go.RowKit
section
open Go.Shelf
def Di.G7 (r:List Bool):List Nat×List Bool×Int:=if(Tm.rd 7 r).2.2≠0 then([],(Tm.rd 7 r).2)else Di.gd ((Tm.rd 7 r).1+1) [] (Tm.rd 7 r).2.1
structure GdI (w:World) (p K:Nat) (Q:List Nat×List Bool×Int) (i:Nat) (A:Option Addr) (c:Nat) (W:World) (acc:List Nat) (r:List Bool):Prop where
 gd:Di.gd (K-i) acc r=Q
 len:acc.length=i
 own:aJ W w.heap.size A i c acc
 br:Br W p r
 grown:w.grownBy W (some p)
theorem Di.Xl (acc r):Di.gd 0 acc r=(acc,r,0):=by simp[Di.gd]
theorem Di.Xm {m} (hm:0<m) (acc r):Di.gd m acc r=if(Tm.rd 64 r).2.2≠0 then([],(Tm.rd 64 r).2)else if∃y∈acc.getLast?,(Tm.rd 64 r).1≤y then([],(Tm.rd 64 r).2.1,8)else Di.gd (m-1) (acc++[(Tm.rd 64 r).1]) (Tm.rd 64 r).2.1:=by
 obtain⟨k,rfl⟩:∃k,m=k+1:=⟨m-1,om⟩
 rw[Di.gd];rfl
theorem OX (p r w) (h:Br w p r):
  Calls prog 264 #[.pointer (some ⟨p,0,none⟩)] w fun e w'=>∃A2 n2 c2,e= .returned (.tuple #[.slice A2 n2 c2,.int .i64 (Di.G7 r).2.2])∧aJ w' w.heap.size A2 n2 c2 (Di.G7 r).1∧Br w' p (Di.G7 r).2.1∧w.grownBy w' (some p):=by
 have hp:=h.lt;have RB:=Aj (dL p 7 r w h om);have hlt:=Tm.jH 7 r;have mV:=Tm.qi 7 r;obtain⟨X,hX⟩:∃X,X=Di.G7 r:=⟨_,rfl⟩
 rw[←hX];unfold Di.G7 at hX;generalize Tm.rd 7 r=Y at*;obtain⟨k,r1,e1⟩:=Y;simp only[]at RB hlt mV hX;clear h;rcases mV with rfl|rfl
 ·rw[Ng sm]at hX;have HX:=Aj hX.symm;obtain⟨K,hK⟩:∃K,K=k+1:=⟨_,rfl⟩
  rw[←hK]at HX;have hki:(k:Int)+1=(K:Int):=om;have hks:IntKind.i64.wrap (k:Int)=(k:Int):=OQ om om;have hK1:K≤128:=om;clear hX hK;go_enter func264,ntmps264;go_wp2_with (go_at_call 213;refine RB.1.mono ?_;rintro e w1 ⟨rfl,hb,hg⟩;have B1:=Aj hb;have G1:=Aj hg;clear hb hg);go_loopw [6,21] (fun v iv wr=>∃(i:Nat) (A2:Option Addr) (c2:Nat) (acc:List Nat) (r2:List Bool),v= .slice A2 i c2∧iv= .int .i64 (i:Int)∧i≤K∧GdI w p K X i A2 c2 wr acc r2) (fun _ iv _=>K-(intOf iv).toNat)
  case atStart=>exact⟨0,none,0,[],r1,rfl,rfl,bH _,HX.1,rfl,⟨rfl,.inl ⟨rfl,rfl⟩⟩,B1.1,G1.1⟩
  case round=>
   clear B1 G1 HX;obtain⟨i,A2,c2,acc,r2,rfl,rfl,hiK,I⟩:=hrel;have HI:=Aj I;clear I;by_cases hi:i<K
   ·have hi':(i:Int)< (K:Int):=by omega
    have RB2:=Aj (dL p 64 r2 wr HI.1.br om);have hst:=Aj (Di.Xm (m:=K-i) om acc r2);rw[HI.1.gd]at hst;have mV:=Tm.qi 64 r2;have hlt2:=Tm.jH 64 r2;generalize Tm.rd 64 r2=Y at*;obtain⟨x,r3,e3⟩:=Y;simp only[]at RB2 hst mV hlt2;have O1:=Aj (show∀w2,wr.grownBy w2 (some p)→aJ w2 w.heap.size A2 i c2 acc from fun w2 hg=>lu HI.1.own hg hp);rcases mV with rfl|rfl
    ·rw[Ng sm]at hst;have hwr:=HI.1.grown.size;by_cases hi0:i=0
     ·subst hi0;have ha:acc=[]:=nL HI.1.len;subst ha;rw[Ng sm]at hst;go_wp2_with (first
       |(at_builtin;refine dJ rfl (.tmp 45) (.tmp 47) rfl w.heap.size A2 0 c2 _ rfl (Oa O2.1 _) _ _ _ _ _ rfl (kF.one w2 x) om (by have:=G2.1.size;simp;omega) ?_;intro A4 c4 w5 av af cO;have O4:=Aj av;have B4:=Aj ((B2.1.grown (Ga w2 _ none) (fun g e=>by cases e)).grown af (fun g e=>by have:=(ae O2.1 g e).1;omega));have G4:=Aj ((G2.1.andThen (Ga w2 _ none) (fun j hj=>by cases hj)).andThen af (fun j hj=> .inl (ae O2.1 j hj).1));clear av af cO)
       |(go_at_call 213;refine RB2.1.mono ?_;rintro e w2 ⟨rfl,hb,hg⟩;have B2:=Aj hb;have G2:=Aj (HI.1.grown.trans hg);have O2:=Aj (O1.1 w2 hg);clear hb hg))
      go_roundw
      case rel=>
       refine⟨1,A4,c4,[x],r3,rfl,by go_num,om,?_,rfl,O4.1,B4.1,G4.1⟩;rw[show K-1=K-0-1 from om];exact hst.1.symm
      case measure=>simp[intOf];omega
     ·have hl:=HI.1.len;have hil:i-1<acc.length:=om;have hlast:acc.getLast? =some acc[i-1]:=by
       rw[List.getLast?_eq_getElem?,hl];exact ja hil
      rw[hlast]at hst;obtain⟨g,rfl,hg1,hg2⟩:=HI.1.own.pos om;have CE:=Aj (fun(w2:World) (hg:wr.grownBy w2 (some p))=>((O1.1 w2 hg).at_ hil).1);have hx0:(0:Int)< (i:Int):=om;have hcap:=HI.1.own.rd.1;generalize acc[i-1]=y at*;clear hlast hil;by_cases hxy:x≤y
      ·rw[Ps0 ⟨y,rfl,hxy⟩]at hst;have hxy':(x:Int)≤(y:Int):=om;go_wp2_with (go_at_call 213;refine RB2.1.mono ?_;rintro e w2 ⟨rfl,hb,hg⟩;have B2:=Aj hb;have G2:=Aj (HI.1.grown.trans hg);have k0:=CE.1 w2 hg;clear hb hg);go_ret2;rw[hst.1];exact⟨none,0,0,rfl,⟨rfl,.inl ⟨rfl,rfl⟩⟩,B2.1,G2.1⟩
      ·rw[Ng (by rintro⟨z,hz,hxz⟩;cases hz;exact hxy hxz)]at hst;have hxy':¬(x:Int)≤(y:Int):=om;go_wp2_with (first
        |(at_builtin;refine dJ rfl (.tmp 45) (.tmp 47) rfl w.heap.size (some ⟨g,0,none⟩) i c2 _ rfl (Oa O2.1 _) _ _ _ _ _ rfl (kF.one w2 x) om (by have:=G2.1.size;simp;omega) ?_;intro A4 c4 w5 av af cO;have O4:=Aj av;have B4:=Aj ((B2.1.grown (Ga w2 _ none) (fun g e=>by cases e)).grown af (fun g e=>by have:=(ae O2.1 g e).1;omega));have G4:=Aj ((G2.1.andThen (Ga w2 _ none) (fun j hj=>by cases hj)).andThen af (fun j hj=> .inl (ae O2.1 j hj).1));clear av af cO)
        |(go_at_call 213;refine RB2.1.mono ?_;rintro e w2 ⟨rfl,hb,hg⟩;have B2:=Aj hb;have G2:=Aj (HI.1.grown.trans hg);have O2:=Aj (O1.1 w2 hg);have k0:=CE.1 w2 hg;clear hb hg))
       go_roundw
       case rel=>
        refine⟨i+1,A4,c4,acc++[x],r3,rfl,by go_num,om,?_,by simp[HI.1.len],O4.1,B4.1,G4.1⟩;rw[show K-(i+1)=K-i-1 from om];exact hst.1.symm
       case measure=>simp[intOf];omega
    ·rw[Ps0 sm]at hst;go_wp2_with (go_at_call 213;refine RB2.1.mono ?_;rintro e w2 ⟨rfl,hb,hg⟩;have B2:=Aj hb;have G2:=Aj (HI.1.grown.trans hg);clear hb hg);go_ret2;rw[hst.1];exact⟨none,0,0,rfl,⟨rfl,.inl ⟨rfl,rfl⟩⟩,B2.1,G2.1⟩
   ·obtain rfl:i=K:=by omega
    have hq:Kept (X=(acc,r2,0)):=⟨by rw[←HI.1.gd,Dy,Di.Xl]⟩
    go_wp2;go_ret2;rw[hq.1];exact⟨A2,i,c2,rfl,HI.1.own,HI.1.br,HI.1.grown⟩
 ·rw[Ps0 sm]at hX;have HX:=Aj hX;clear hX;go_enter func264,ntmps264;go_wp2_with (go_at_call 213;refine RB.1.mono ?_;rintro e w1 ⟨rfl,hb,hg⟩;have B1:=Aj hb;have G1:=Aj hg;clear hb hg);go_ret2;rw[HX.1];exact⟨none,0,0,rfl,⟨rfl,.inl ⟨rfl,rfl⟩⟩,B1.1,G1.1⟩
end
section
open Go.Shelf
theorem Di.aaB {r} (h:(Di.G7 r).2.2=0):Di.Up (Di.G7 r).1∧(∀x∈(Di.G7 r).1,x<2^64)∧1≤(Di.G7 r).1.length∧(Di.G7 r).1.length≤128:=by
 unfold Di.G7 at*;have h7:=Tm.jH 7 r;by_cases h0:(Tm.rd 7 r).2.2≠0
 ·rw[Ps0 h0]at h;exact absurd h h0
 ·rw[Ng h0]at h⊢;obtain⟨m,hm,hl,hu,hx,-⟩:=Di.Re ((Tm.rd 7 r).1+1) [] (Tm.rd 7 r).2.1 _ _ List.Pairwise.nil (show Di.gd ((Tm.rd 7 r).1+1) [] (Tm.rd 7 r).2.1=(_,_,0)by rw[←h]);refine⟨hu,?_,?_,?_⟩
  ·rw[hm];simpa using hx
  ·rw[hm];simp;omega
  ·rw[hm];simp;omega
theorem Di.Xn (n r):Di.dec n r=if n=0 then([],r,0)else if(Di.G7 r).2.2≠0 then([],(Di.G7 r).2)else Di.wu n (Di.G7 r).1 (Di.G7 r).2.1:=by
 unfold Di.dec Di.G7;by_cases h0:(Tm.rd 7 r).2.2≠0
 ·simp only[Ps0 h0]
 ·simp only[Ng h0]
theorem Di.Xp {m} (hm:0<m) (d acc r):Di.gv d m acc r=if(Tm.rd (Di.ng d.length) r).2.2≠0 then([],(Tm.rd (Di.ng d.length) r).2)else if d.length≤(Tm.rd (Di.ng d.length) r).1 then([],(Tm.rd (Di.ng d.length) r).2.1,8)else Di.gv d (m-1) (acc++[d.getD (Tm.rd (Di.ng d.length) r).1 0]) (Tm.rd (Di.ng d.length) r).2.1:=by
 obtain⟨k,rfl⟩:∃k,m=k+1:=⟨m-1,om⟩
 rw[Di.gv];rfl
theorem Di.count {d acc ks:List Nat} (hu:Di.Up d) (hk:∀i∈ks,i<d.length) (hn:ks.Nodup) (hm:∀z,z∈acc↔∃i∈ks,d.getD i 0=z):(Di.fe acc).length=ks.length:=by
 have e:∀i (h:i<d.length),d.getD i 0=d[i]:=fun i h=>by rw[fZ,ja h];rfl
 have hnd:(ks.map fun i=>d.getD i 0).Nodup:=by
  refine List.pairwise_map.2 (hn.imp_of_mem fun{i j} hi hj hne hij=>hne ?_);rw[e i (hk i hi),e j (hk j hj)]at hij;rcases Ea i j with q|q|q
  ·have:=(Di.TH hu (hk i hi) (hk j hj)).2 q;omega
  ·exact q
  ·have:=(Di.TH hu (hk j hj) (hk i hi)).2 q;omega
 have h1:(Di.fe acc).Nodup:=(Di.pO acc).imp fun h=>Nat.ne_of_lt h
 have hs:∀z,z∈Di.fe acc↔z∈ks.map fun i=>d.getD i 0:=fun z=>by
  rw[Di.fE,hm z,bY]
 have a:=iK h1 (fun z h=>(hs z).1 h);have b:=iK hnd (fun z h=>(hs z).2 h);rw[fM]at a b;omega
structure DgI (w:World) (p n b K:Nat) (A2:Option Addr) (c2:Nat) (d:List Nat) (Q:List Nat×List Bool×Int) (j:Nat) (A:Option Addr) (c:Nat) (W:World) (acc:List Nat) (r:List Bool) (D:DataW Unit) (ks:List Nat):Prop where
 gv:Di.gv d (n-j) acc r=Q
 len:acc.length=j
 own:aJ W (b+1) A j c acc
 fe:aJ W w.heap.size A2 K c2 d
 below:∀g,ab A2=some g→g<b
 km:Km W b j D ks
 mem:∀z,z∈acc↔∃i∈ks,d.getD i 0=z
 idx:∀i∈ks,i<K
 br:Br W p r
 grown:w.grownBy W (some p)
 le:w.heap.size≤b
theorem DgI.next {w W w2 w3 w5 p n b K c2 j c i c4 A2 A A4 d acc ks Q r r4 D E} (I:DgI w p n b K A2 c2 d Q j A c W acc r D ks)
  (hp:p<w.heap.size) (hst:Q=Di.gv d (n-j-1) (acc++[d.getD i 0]) r4) (hi:i<K) (_:j<n) (hb2:Br w2 p r4) (hg2:W.grownBy w2 (some p)) (FV:w3.ownsMap prog 125 (plainElem prog 4) b (j+1) (D.put (kl i) E)) (hg3:w2.grownBy w3 (some b)) (o)
  (h5:aJ w5 (b+1) A4 (j+1) c4 (acc++[d.getD i 0])) (hg5:(w3.alloc o).grownBy w5 (ab A)):DgI w p n b K A2 c2 d Q (j+1) A4 c4 w5 (acc++[d.getD i 0]) r4 (D.put (kl i) E) (i::ks.filter (· ≠i)):=by
 have hlb:=I.le;have hlA:∀g,ab A=some g→b+1≤g:=fun g e=>(ae I.own g e).1
 have hga:w3.grownBy (w3.alloc o) none:=Ga w3 o none;have hd2:aJ w2 w.heap.size A2 K c2 d:=lu I.fe hg2 hp;have hd3:aJ w3 w.heap.size A2 K c2 d:=ag hd2 hg3 (by
  rcases hA:ab A2 with _|g
  ·exact .inl rfl
  ·exact .inr fun e=>by have:=I.below g hA;have:=Oj e;omega)
 have hd4:aJ (w3.alloc o) w.heap.size A2 K c2 d:=Oa hd3 o;have hd5:aJ w5 w.heap.size A2 K c2 d:=ag hd4 hg5 (by
  rcases hA:ab A2 with _|g
  ·exact .inl rfl
  ·refine .inr fun e=>?_
   have h1:=I.below g hA;have h2:=hlA g e.symm;omega)
 have ZZ:Km w3 b (j+1) (D.put (kl i) E) (i::ks.filter (· ≠i)):=(I.km.kept hg2 (fun e=>by have:=Oj e;omega)).put i FV;have QH:=(ZZ.kept hga sm).kept hg5 (fun e=>by have:=hlA b e.symm;omega);have hb5:=(((hb2.grown hg3 (fun g e=>by cases e;omega)).grown hga (fun g e=>by cases e)).grown hg5 (fun g e=>by have:=hlA g e;omega))
 have hgr:=(((I.grown.trans hg2).andThen hg3 (fun j hj=> .inl (by cases hj;exact hlb))).andThen hga (fun j hj=>by cases hj)).andThen hg5 (fun j hj=> .inl (by have:=hlA j hj;omega));refine⟨by rw[show n-(j+1)=n-j-1 from om];exact hst.symm,by simp[I.len],h5,hd5,I.below,QH,fun z=>?_,fun q hq=>?_,hb5,hgr,hlb⟩
 ·rw[je,I.mem z,gJ];constructor
  ·rintro(⟨q,hq,rfl⟩|rfl)
   ·by_cases hqi:q=i
    ·exact⟨i,sm,by rw[hqi]⟩
    ·exact⟨q,by simp[hq,hqi],rfl⟩
   ·exact⟨i,sm,rfl⟩
  ·rintro⟨q,hq,rfl⟩;rcases eH.1 hq with rfl|hq
   ·exact .inr rfl
   ·exact .inl ⟨q,(BP.1 hq).1,rfl⟩
 ·rcases eH.1 hq with rfl|hq
  ·exact hi
  ·exact I.idx q (BP.1 hq).1
theorem TI (p n:Nat) (r w) (h:Br w p r) (hn:n≤1000000):
  Calls prog 223 #[.pointer (some ⟨p,0,none⟩),.int .i64 (n:Int)] w fun e w'=>∃A2 n2 c2,e= .returned (.tuple #[.slice A2 n2 c2,.int .i64 (Di.dec n r).2.2])∧aJ w' w.heap.size A2 n2 c2 (Di.dec n r).1∧Br w' p (Di.dec n r).2.1∧w.grownBy w' (some p):=by
 have hp:=h.lt;have GD:=Aj (OX p r w h);have hok:= @Di.aaB r;obtain⟨X,hX⟩:∃X,X=Di.dec n r:=⟨_,rfl⟩
 rw[←hX];rw[Di.Xn]at hX;generalize Di.G7 r=Y at*;obtain⟨d,r1,e1⟩:=Y;simp only[]at GD hok hX;have H0:=Aj h;clear h;have hnn:¬(n:Int)<0:=om;by_cases hn0:n=0
 ·subst hn0;rw[Ps0 rfl]at hX;have HX:=Aj hX;clear hX;go_enter func223,ntmps223;go_wp2;go_ret2;rw[HX.1];exact⟨none,0,0,rfl,⟨rfl,.inl ⟨rfl,rfl⟩⟩,H0.1,⟨rfl,rfl,rfl,Nr _,fun _ _ _=>rfl⟩⟩
 ·have hn1:¬(n:Int)=0:=by omega
  rw[Ng hn0]at hX;by_cases he:e1=0
  ·subst he;rw[Ng sm]at hX;obtain⟨hu,mr,hK0,hK1⟩:=hok rfl;obtain⟨Q,hQ⟩:∃Q,Di.gv d n [] r1=Q:=⟨_,rfl⟩
   obtain⟨K,hKd⟩:∃K,d.length=K:=⟨_,rfl⟩
   have HX:Kept (X=if Q.2.2≠0 then([],Q.2)else if(Di.fe Q.1).length<K then([],Q.2.1,8)else Q):=⟨by rw[hX];unfold Di.wu;rw[hQ,hKd]⟩
   rw[hKd]at hK0 hK1;have HQ:=Aj hQ;have HU:=Aj hu;have HKd:=Aj hKd;have W0:=Aj (fun w=>qj K om w);have hv7:Di.ng K≤7:=Di.Kk hK1;have hmm:= @run_makeMap prog;clear hX hok hQ hu mr;have hKu:IntKind.u64.wrap (K:Int)=(K:Int):=by rw[Bv];omega
   go_enter func223,ntmps223;go_wp2_with (go_at_call 264;refine GD.1.mono ?_;rintro e w1 ⟨A2,n2,c2,rfl,ho,hb,hg⟩;obtain rfl:n2=K:=ho.len.trans hKd;have B1:=Aj hb;have G1:=Aj hg;have O1:=Aj ho;clear ho hb hg);obtain⟨v,hv⟩:∃v,Di.ng n2=v:=⟨_,rfl⟩
   rw[hv]at W0 hv7;have HV:=Aj hv;have hA2:∃g,A2=some ⟨g,0,none⟩∧w.heap.size≤g∧g<w1.heap.size:=O1.1.pos om;obtain⟨g,rfl,hg1,hg2⟩:=hA2;have hcap:=O1.1.rd.1;have hwb:=G1.1.size;have I0:DgI w p n w1.heap.size n2 (some ⟨g,0,none⟩) c2 d Q 0 none 0 (w1.alloc (.map #[] 0)) [] r1 (.map []) []:=
    ⟨HQ.1,rfl,⟨rfl,.inl ⟨rfl,rfl⟩⟩,Oa O1.1 _,fun q e=>by have:=(show g=q by simpa[ab]using e);omega,Km.made w1,sm,sm,B1.1.grown (Ga w1 _ none) (fun g e=>by cases e),G1.1.andThen (Ga w1 _ none) (fun j hj=>by cases hj),hwb⟩
   clear hv hKd B1 G1 O1 GD H0 HQ;go_loopw [8,31] (fun u iv wr=>∃(j:Nat) (A3:Option Addr) (c3:Nat) (acc:List Nat) (r2:List Bool) (D:DataW Unit) (ks:List Nat),u= .slice A3 j c3∧iv= .int .i64 (j:Int)∧j≤n∧DgI w p n w1.heap.size n2 (some ⟨g,0,none⟩) c2 d Q j A3 c3 wr acc r2 D ks) (fun _ iv _=>n-(intOf iv).toNat)
   case atStart=>exact⟨0,none,0,[],r1,.map [],[],rfl,rfl,bH _,I0⟩
   case round=>
    clear I0;obtain⟨j,A3,c3,acc,r2,D,ks,rfl,rfl,hjn,I⟩:=hrel;have HI:=Aj I;have hwz:=I.grown.size;have al3:w1.heap.size<wr.heap.size:=I.km.1.lt;clear I;by_cases hjl:j<n
    ·have agI:(j:Int)< (n:Int):=by omega
     have RB:=Aj (dL p v r2 wr HI.1.br om);have hst:=Aj (Di.Xp (m:=n-j) om d acc r2);rw[HI.1.gv,HKd.1,HV.1]at hst;have mV:=Tm.qi v r2;have hlt2:(Tm.rd v r2).1<2^64:=j6 (Tm.jH v r2) (kR Ah om);generalize Tm.rd v r2=Y at*;obtain⟨i,r4,e4⟩:=Y;simp only[]at RB hst mV hlt2;rcases mV with rfl|rfl
     ·rw[Ng sm]at hst;by_cases hik:n2≤i
      ·rw[Ps0 hik]at hst;have agJ:(n2:Int)≤(i:Int):=om;have hx:Kept (X=([],r4,8)):=⟨by rw[HX.1,hst.1];simp⟩
       go_wp2_with (first
        |(go_at_call 262;refine(W0.1 _).mono ?_;rintro e w2 ⟨rfl,rfl⟩)
        |(go_at_call 213;refine RB.1.mono ?_;rintro e w2 ⟨rfl,hb,hg⟩;have B2:=Aj hb;have G2:=Aj (HI.1.grown.trans hg);clear hb hg))
       go_ret2;rw[hx.1];exact⟨none,0,0,rfl,⟨rfl,.inl ⟨rfl,rfl⟩⟩,B2.1,G2.1⟩
      ·rw[Ng hik]at hst;have agJ:¬(n2:Int)≤(i:Int):=om;have hid:i<d.length:=by have:=HKd.1;omega
       have HKY:=Aj (TD hlt2);have CE:=Aj (show∀w2 w3,wr.grownBy w2 (some p)→w2.grownBy w3 (some w1.heap.size)→w3.cell? ⟨g,i,none⟩=some (.int .u64 ((d.getD i 0:Nat):Int))from fun w2 w3 h2 h3=>by
        have hd2:aJ w2 w.heap.size (some ⟨g,0,none⟩) n2 c2 d:=lu HI.1.fe h2 hp;have hd3:aJ w3 w.heap.size (some ⟨g,0,none⟩) n2 c2 d:=ag hd2 h3 (.inr (fun e=>by have:=(show g=w1.heap.size by simpa[ab]using e);omega));have e:d.getD i 0=d[i]:=by rw[fZ,ja hid];rfl
        rw[e];exact(hd3.at_ hid).1)
       have OA:=Aj (show∀w2 w3,wr.grownBy w2 (some p)→w2.grownBy w3 (some w1.heap.size)→aJ w3 (w1.heap.size+1) A3 j c3 acc from fun w2 w3 h2 h3=>ag (lu HI.1.own h2 om) h3 (by
        rcases hA:ab A3 with _|q
        ·exact .inl rfl
        ·exact .inr fun e=>by have:=(ae HI.1.own q hA).1;have:=Oj e;omega))
       have KM2:=Aj (show∀w2,wr.grownBy w2 (some p)→Km w2 w1.heap.size j D ks from fun w2 h2=>HI.1.km.kept h2 (fun e=>by have:=Oj e;omega));have hin2:i<n2:=om;have NX:=Aj (fun(w2 w3 w5:World) (A4:Option Addr) (c4:Nat) (E:DataW Unit) (o:Obj) (hb2:Br w2 p r4) (hg2:wr.grownBy w2 (some p)) (FV:w3.ownsMap prog 125 (plainElem prog 4) w1.heap.size (j+1) (D.put (kl i) E)) (hg3:w2.grownBy w3 (some w1.heap.size)) h5 h6=>HI.1.next (w5:=w5) (A4:=A4) (c4:=c4) (E:=E) hp hst.1 hin2 hjl hb2 hg2 FV hg3 o h5 h6);clear hid hlt2;generalize d.getD i 0=x at*;go_wp2_with (first
        |(go_at_call 262;refine(W0.1 _).mono ?_;rintro e w2 ⟨rfl,rfl⟩)
        |(at_mapUpdate;refine wpList_mapUpdate_own _ rfl _ _ _ 386 rfl 125 4 Xi underlying386 _ w1.heap.size j _ rfl (KM2.1 w2 G2.1).1 (by unfold maxLen;omega) _ _ _ rfl rfl HKY.1 _ [] (plainElem_bool underlying4 true) ?_;intro w3 hown3 hgrow3;have k0:=CE.1 w2 w3 G2.1 hgrow3;have M3:=Aj hown3;have G3:=Aj hgrow3;have O3:=Aj (OA.1 w2 w3 G2.1 hgrow3);have hz3:=hgrow3.size;clear hown3 hgrow3)
        |(at_builtin;refine dJ rfl (.tmp 53) (.tmp 58) rfl (w1.heap.size+1) A3 j c3 _ rfl (Oa O3.1 _) _ _ _ _ _ rfl (kF.one w3 x) om (by simp;omega) ?_;intro A4 c4 w5 av af cO;have IX:=Aj (NX.1 w2 w3 w5 A4 c4 _ _ B2.1 G2.1 M3.1 G3.1 av af);clear av af cO)
        |(go_at_call 213;refine RB.1.mono ?_;rintro e w2 ⟨rfl,hb,hg⟩;have B2:=Aj hb;have G2:=Aj hg;have hz2:=hg.size;clear hb hg))
       go_roundw
       case rel=>exact⟨j+1,A4,c4,_,_,_,_,rfl,by go_num,om,IX.1⟩
       case measure=>simp[intOf];omega
     ·rw[Ps0 sm]at hst;have hx:Kept (X=([],r4,3)):=⟨by rw[HX.1,hst.1];simp⟩
      go_wp2_with (first
       |(go_at_call 262;refine(W0.1 _).mono ?_;rintro e w2 ⟨rfl,rfl⟩)
       |(go_at_call 213;refine RB.1.mono ?_;rintro e w2 ⟨rfl,hb,hg⟩;have B2:=Aj hb;have G2:=Aj (HI.1.grown.trans hg);clear hb hg))
      go_ret2;rw[hx.1];exact⟨none,0,0,rfl,⟨rfl,.inl ⟨rfl,rfl⟩⟩,B2.1,G2.1⟩
    ·obtain rfl:j=n:=by omega
     have hq:Q=(acc,r2,0):=by rw[←HI.1.gv,Dy];simp[Di.gv]
     have hcnt:=Di.count HU.1 (fun i hi=>by rw[HKd.1];exact HI.1.idx i hi) HI.1.km.2.choose_spec.2.2 HI.1.mem;have hx:Kept (X=if ks.length<n2 then([],r2,8)else(acc,r2,0)):=⟨by rw[HX.1,hq];simp[hcnt]⟩
     have hlen:=HI.1.km.1.len underlying386 3;rw[HI.1.km.size]at hlen;clear hcnt hq;by_cases hks:ks.length<n2
     ·rw[Ps0 hks]at hx;have agL:(ks.length:Int)< (n2:Int):=om;go_wp2;go_ret2;rw[hx.1];exact⟨none,0,0,rfl,⟨rfl,.inl ⟨rfl,rfl⟩⟩,HI.1.br,HI.1.grown⟩
     ·rw[Ng hks]at hx;have agL:¬(ks.length:Int)< (n2:Int):=om;go_wp2;go_ret2;rw[hx.1];exact⟨A3,j,c3,rfl,Kg HI.1.own om,HI.1.br,HI.1.grown⟩
  ·rw[Ps0 he]at hX;have HX:=Aj hX;clear hX hok;have hne:(e1 !=0)=true:=by simpa using he
   clear he;go_enter func223,ntmps223;go_wp2_with (go_at_call 264;refine GD.1.mono ?_;rintro e w1 ⟨A2,n2,c2,rfl,ho,hb,hg⟩;have B1:=Aj hb;have G1:=Aj hg;clear ho hb hg);go_ret2;rw[HX.1];exact⟨none,0,0,rfl,⟨rfl,.inl ⟨rfl,rfl⟩⟩,B1.1,G1.1⟩
end
section
open Go.Shelf
attribute [local go_sem] Oper.semAt_some
theorem qh.wk {w w' base p} (h:qh w) (hk:Wk base p w w') (hg:0<base):qh w':=fun i v hi=>(hk.aZ.cell (p:=⟨_,i,none⟩) hg).trans (h i v hi)
theorem Boxed.wk {w w' base p bx t v} (h:Boxed w bx t v) (hk:Wk base p w w') (hne:bx≠p) (ht:t≠5):Boxed w' bx t v:=
 (hk.rest bx h.lt hne (fun cs fr e=>by
  have e2:=(show w.heap[bx]? =some (.cells #[v] t (0,0))from h).symm.trans e;simp only[gT,DU]at e2;exact ht e2.2.1)).trans h
theorem Wk.kept {w w' base p g cs t fr} (hk:Wk base p w w') (hg:w.heap[g]? =some (.cells cs t fr)) (hne:g≠p) (ht:t≠5):w'.heap[g]? =some (.cells cs t fr):=
 (hk.rest g (Ge.1 hg).1 hne (fun cs2 fr2 e=>by
  have e2:=hg.symm.trans e;simp only[gT,DU]at e2;exact ht e2.2.1)).trans hg
theorem Wk.keeps {base p B w w'} (h:Wk base p w w') (hp:∀o,w.heap[p]? =some o→o.isCells=true):KeepsFrom B w w':=
 ⟨h.aZ.size,fun r _ o ho hc=>(h.rest r (Ge.1 ho).1 (fun e=>by subst e;rw[hp _ ho]at hc;cases hc) (fun cs fr e=>by rw[ho]at e;cases e;cases hc)).trans ho⟩
theorem fJ.cells {w base p bs} (h:fJ w base p bs):∀o,w.heap[p]? =some o→o.isCells=true:=by
 obtain⟨A,n,c,L,h1,-⟩:=h;intro o ho;rw[h1]at ho;cases ho;rfl
theorem fJ.gr {w w' base p bs} (h:fJ w base p bs) (hg:Gr w w'):fJ w' base p bs:=by
 obtain⟨A,n,c,L,h1,h2,h3,h4⟩:=h;have hp:=(Ge.1 h1).1;exact⟨A,n,c,L,(hg.below.block p hp).trans h1,own_below h2 hg.below (fun g e=>(ae h2 g e).2),h3,h4⟩
theorem Wk.gr {base p w w'} (h:Gr w w') (hb:base≤w.heap.size):Wk base p w w':=⟨h.below.mono hb,fun k hk _ _=>h.below.block k hk⟩
theorem fJ.alloc {w base p bs} (h:fJ w base p bs) (o):fJ (w.alloc o) base p bs:=h.gr ((Gr.refl w).alloc o)
theorem fJ.apart {w w' base p bs row} (h:fJ w base p bs) (hg:w.grownBy w' row) (hr:∀r,row=some r→∃o:Obj,w.heap[r]? =some o∧o.isCells=false):fJ w' base p bs:=by
 obtain⟨A,n,c,L,h1,h2,h3,h4⟩:=h;refine⟨A,n,c,L,(hg.block p (Ge.1 h1).1 (fun e=>?_)).trans h1,h2.apart hg (fun r e=> .inr (hr r e)),h3,h4⟩;obtain⟨o,ho,hc⟩:=hr p e.symm;rw[h1]at ho;cases ho;cases hc
theorem Wk.more {base p w W W' row} (h:Wk base p w W) (hg:W.grownBy W' row) (hb:base≤w.heap.size) (hr:∀r,row=some r→w.heap.size≤r):Wk base p w W':=
 ⟨h.aZ.grown hg (by have:=h.aZ.size;omega) (fun r e=>by have:=hr r e;omega),fun k hk hp hn=>(hg.block k (by have:=h.aZ.size;omega) (fun e=>by have:=hr k e.symm;omega)).trans (h.rest k hk hp hn)⟩
def uV (w:World) (base p:Nat) (bs:List Bool) (bx:Nat) (v:Value) (pre:List Int) (W:World):Prop:=
 fJ W base p (bs++pre.flatMap Tm.ch)∧Wk base p w W∧Boxed W w.heap.size 302 (.pointer (some ⟨p,0,none⟩))∧Boxed W bx 281 v
theorem uV.own {w base p N bx v bs} (hb:base≤w.heap.size) (hN:w.heap.size<N) (hx:bx<N):aI N (fun _=>False) (uV w base p bs bx v):=by
 rintro s W W' row ⟨h1,h2,h3,h4⟩ hg hr;have hrow:∀r,row=some r→N≤r∧∃o:Obj,W.heap[r]? =some o∧o.isCells=false:=fun r e=>by
  rcases hr r e with h|h
  ·exact h.elim
  ·exact h
 exact⟨h1.apart hg (fun r e=>(hrow r e).2),h2.more hg hb (fun r e=>by have:=(hrow r e).1;omega),h3.kept hg (fun e=>by have:=(hrow _ e.symm).1;omega),h4.kept hg (fun e=>by have:=(hrow _ e.symm).1;omega)⟩
def Tm.fst:List Int→List Bool
 |[]=>[]
 |t::_=>Bt.bw 64 (Tm.wd t)
theorem Tm.Xq (l):(Tm.fst l).length≤64:=by cases l<;>simp[Tm.fst,Bt.aj]
theorem Tm.TJ (l):(Tm.uT l).length≤l.length:=by
 cases l with
 |nil=>simp[Tm.uT]
 |cons t l=>rw[Tm.uT,Ck.yT];simp
theorem Tm.Xr (l:List Int):(l.flatMap Tm.ch).length≤68*l.length:=Ck.oh (f:=Tm.ch) (B:=68) (fun x=>by
 unfold Tm.ch;rw[La,Bt.aj,Bt.aj];exact Ck.YI (Tm.FH x)) l
theorem TK (base p B bs A n c l w) (h:fJ w base p bs) (hr:vX w B A n c l) (hB:B≤base) (hF:qh w) (hg:0<base)
  (hin:∀x∈l,Tm.In x) (hn:n≤1000000) (hl:bs.length≤100000000):
  Calls prog 192 #[.pointer (some ⟨p,0,none⟩),.slice A n c] w fun e w'=>e= .returned (.int .i64 0)∧fJ w' base p (bs++Tm.enc l)∧Wk base p w w':=by
 have hln:=Aj hr.len;have hlc:=hr.1;have hcm:=hr.2.1;unfold maxLen at hcm;have hz:=h.lt;have henc:Kept (Tm.enc l=Tm.fst l++(Tm.uT l).flatMap Tm.ch):=⟨by cases l<;>rfl⟩
 have YA:p≠w.heap.size:=om;have hbx:=Bd w 302 (.pointer (some ⟨p,0,none⟩));have H0:=Aj (h.alloc (.cells #[.pointer (some ⟨p,0,none⟩)] 302));have K0:=Aj ((Wk.refl base p w).alloc (.cells #[.pointer (some ⟨p,0,none⟩)] 302) om);have R0:=Aj hr;obtain⟨W0,hW0⟩:∃W0,W0=w.alloc (.cells #[.pointer (some ⟨p,0,none⟩)] 302):=⟨_,rfl⟩
 have hz0:W0.heap.size=w.heap.size+1:=by rw[hW0];simp
 have HW0:=Aj hW0.symm;rw[←hW0]at hbx H0 K0;have hc0:=hbx.cell;have HBX:=Aj hbx;have HF:=Aj hF;clear h hr hW0 hbx hF;refine(Bl (n:=9)).1 ?_;refine Cv func192 rfl trivial ?_ rfl;simp only[ntmps192,Cg,Lc,Ba,Nat.reduceAdd,Nat.reduceSub,Cj,Cm,CY,Cx,AA,Bb];refine Bu.2 ?_;go_upto_if 11 with(fail)
 rw[HW0.1];go_cut []from 5 (fun wx=>fJ wx base p (bs++Tm.fst l)∧Wk base p w wx∧Boxed wx w.heap.size 302 (.pointer (some ⟨p,0,none⟩)))
 case first=>
  cases l with
  |nil=>
   have hn0:n=0:=hln.1;subst hn0;go_wp2;go_meet;exact⟨by simpa[Tm.fst]using H0.1,K0.1,HBX.1⟩
  |cons t l=>
   obtain⟨b,off,rfl,kK,hck⟩:=R0.1.at_ (k:=0) sm;simp only[Ct,BI]at hck;have hwl:=Tm.LK t;have hwd:=Tm.zM t;have hpos:(0:Int)< (n:Int):=by have:=hln.1;simp at this;omega
   have al4:W0.cell? ⟨b,off,none⟩=some (.int .i64 t):=by
    rw[←HW0.1];exact(AB _ _ ⟨b,off,none⟩ (by show b<_;omega)).trans hck
   clear hck;go_upto_region 4 with(fail)
   refine wp_region_still_tail 5 kr kr ?_;simp only[Cc,Eh,AY,Bp]
   repeat still_step
   refine wpStill_nil ?_
   change wpList _ _ _ _ _ W0.drew
   go_wp2_with (go_at_call 191;refine(cB base p (Tm.wd t) 64 bs _ (by exact H0.1) hwl om om).mono ?_;rintro e w2 ⟨rfl,hw2,hk2⟩;have H2:=Aj hw2;have K2:=Aj (K0.1.drew.trans hk2);have X2:=Aj (show Boxed w2 w.heap.size _ _ from Boxed.wk (show Boxed W0.drew w.heap.size _ _ from HBX.1) hk2 YA.symm Ah);clear hw2 hk2);go_meet;exact⟨H2.1,K2.1,X2.1⟩
 case rest=>
  rename World=>wx
  obtain⟨hwx,hkx,hbx⟩:=hcut;clear hc0 HBX H0 K0 HW0 hz0;go_wp2_with (go_at_call 241;refine(GU _ _ _ wx).mono ?_;rintro e w3 ⟨rfl,hw3⟩;have HW3:=Aj hw3;clear hw3);have hzx:=hkx.aZ.size;have hz3:w3.heap.size=wx.heap.size+1:=by rw[HW3.1];simp
  have g3:wx.grownBy w3 none:=by rw[HW3.1];exact Ga _ _ _
  have hI0:uV w base p (bs++Tm.fst l) wx.heap.size (.slice A n c) [] w3:=⟨by rw[Dp,Bh];exact hwx.apart g3 (fun r e=>by cases e),hkx.more g3 om (fun r e=>by cases e),hbx.kept g3 (fun e=>by cases e),by rw[HW3.1];exact Bd _ _ _⟩
  have b3:Boxed w3 wx.heap.size 281 (.slice A n c):=by rw[HW3.1];exact Bd _ _ _
  have r3:vX w3 B A n c l:=(R0.1.below (hkx.aZ.mono hB)).below ((Ae B wx).grown g3 om (fun r e=>by cases e));have HFx:=Aj (HF.1.wk hkx hg);clear hwx hkx hbx;refine(Bu (n:=9)).1 ?_;refine ji Ah (gf:=270) (lb:= #[.pointer (some ⟨wx.heap.size,0,none⟩)]) rfl (BH func270 kr rfl)
   (encs:=Xg) (O:=fun _=>False) (Kp:=EO B wx.heap.size) (L:=Tm.uT l)
   (by rintro r h;exact h.elim) (fun h k=>h.trans k) (fun W W' row hW hg hr=>EO.grown hW om om hg hr) (fun _=>rfl)
   (uV w base p (bs++Tm.fst l) wx.heap.size (.slice A n c)) (fun _ _ _=>False)
   (fun pre x a₁ W=>uV w base p (bs++Tm.fst l) wx.heap.size (.slice A n c) pre W∧
    a₁={tmps:= #[.pointer (some ⟨p,0,none⟩),.slice A n c,.pointer (some ⟨w.heap.size,0,none⟩),undef,.int .i64 0,.int .i64 x,u6,u7,u8,u9,u10,u11,u12,u13,u14,u15,u16,u17,.slice A n c,.func (.func 270) #[] #[.pointer (some ⟨wx.heap.size,0,none⟩)],.int .i64 x,u21,u22,u23,u24,u25,u26,u27,u28,u29,u30,u31,u32,u33,u34,u35,u36],defers:=[]})
   (uU 8 wx.heap.size B 0 n c A l w3 _ b3 r3 (bH _) (fun pre W ⟨_,h⟩=>h))
   ?hI (fun _ _ _ _ _ h _ _=>h) ?hM hI0 ?assign ?body ?done ?stop
  case hI=>rw[hz3];exact uV.own om om om
  case hM=>
   rw[hz3];rintro pre x a₁ u W W' row ⟨hI,ha⟩ hgr hr;exact⟨uV.own om om om _ _ _ _ hI hgr hr,ha⟩
  case assign=>
   rintro lp pre x W hI hpre hW;unfold Xg
   gi_wp2
   exact⟨⟨Nr _,fun _ _ _ h _=>h⟩,⟨Ae _ _,rfl⟩,hI,trivial⟩
  case body=>
   rintro lp pre x a₁ W ⟨⟨hw1,hk1,hb1,hb2⟩,rfl⟩ hpre hW;have hx:Tm.In x:=Tm.Xf l x (hpre.subset sm);have hlx:=hpre.length_le;rw[La,DJ]at hlx;have hcl:=Tm.TJ l;have hlb:Kept ((bs++Tm.fst l++pre.flatMap Tm.ch).length≤900000000):=⟨by
    have h1:=Tm.Xr pre;have h2:=Tm.Xq l;have h3:=hln.1;simp only[La];omega⟩
   have HF1:=HF.1.wk hk1 hg;have hi4:=Tm.FH x;have hwl:=Tm.LK x;have hwd:=Tm.zM x;have hfw:=Tm.Y8 (Tm.fm x);have hfl:Tm.fl (Tm.fm x)≤4:=by unfold Tm.fl;split<;>omega
   have Qe:Tm.fb (Tm.fm x)≤15:=by unfold Tm.fb;split<;>omega
   have hcell:Kept (∀w1,qh w1→w1.cell? ⟨0,Tm.fm x*3,none⟩=some (.int .u64 ((Tm.fb (Tm.fm x):Nat):Int))∧w1.cell? ⟨0,Tm.fm x*3+1,none⟩=some (.int .i64 ((Tm.fl (Tm.fm x):Nat):Int))∧
     w1.cell? ⟨0,Tm.fm x*3+2,none⟩=some (.int .i64 ((Tm.fw (Tm.fm x):Nat):Int))):=⟨fun w1 h1=>by
    rcases(by omega:Tm.fm x=0∨Tm.fm x=1∨Tm.fm x=2∨Tm.fm x=3∨Tm.fm x=4)with h|h|h|h|h<;>rw[h]
    ·exact⟨h1 0 _ rfl,h1 1 _ rfl,h1 2 _ rfl⟩
    ·exact⟨h1 3 _ rfl,h1 4 _ rfl,h1 5 _ rfl⟩
    ·exact⟨h1 6 _ rfl,h1 7 _ rfl,h1 8 _ rfl⟩
    ·exact⟨h1 9 _ rfl,h1 10 _ rfl,h1 11 _ rfl⟩
    ·exact⟨h1 12 _ rfl,h1 13 _ rfl,h1 14 _ rfl⟩⟩
   have FO:=Aj (Bl (n:=6).2 (uS x W hx HF1));have hch:Kept (Tm.ch x=Bt.bw (Tm.fl (Tm.fm x)) (Tm.fb (Tm.fm x))++Bt.bw (Tm.fw (Tm.fm x)) (Tm.wd x)):=⟨rfl⟩
   generalize hi:Tm.fm x=i at*;have hi5:(i:Int)<5:=om;have H1:=Aj hw1;have K1:=Aj hk1;have X1:=Aj hb1;have Z1:=Aj hb2;have F1:=Aj HF1;clear hw1 hk1 hb1 hb2 HF1 hi;have tf1:Fence.wide.fn 242:=trivial;have tf2:Fence.wide.fn 191:=trivial;have WB:=Aj (fun(w1:World) (h1:fJ w1 base p (bs++Tm.fst l++pre.flatMap Tm.ch))=>DX lp (Bl (n:=6).2 (cB base p (Tm.fb i) (Tm.fl i) _ w1 h1 om om (by have:=hlb.1;omega))));have WC:=Aj (fun(w1:World) (h1:fJ w1 base p (bs++Tm.fst l++pre.flatMap Tm.ch++Bt.bw (Tm.fl i) (Tm.fb i)))=>DX lp (Bl (n:=6).2 (cB base p (Tm.wd x) (Tm.fw i) _ w1 h1 hwl om (by have:=hlb.1;rw[La,Bt.aj];omega))))
   gi_wp2_with (first
    |(gi_at_call 191;refine(WC.1 w3 H3.1).mono ?_;rintro e w4 ⟨rfl,hw4,hk4⟩;have H4:=Aj hw4;have K4:=Aj (K3.1.trans hk4);have X4:=Aj (Boxed.wk X3.1 hk4 YA.symm Ah);clear hw4 hk4)
    |(gi_at_call 191;refine(WB.1 _ H2.1).mono ?_;rintro e w3 ⟨rfl,hw3,hk3⟩;have H3:=Aj hw3;have K3:=Aj (K2.1.trans hk3);have X3:=Aj (Boxed.wk X2.1 hk3 YA.symm Ah);have d0:=DW X3.1;have d1:=Co _ _ 2 _ _ _ (Wk.kept hk3 Y2.1 hy1 Ah);clear hw3 hk3)
    |(gi_at_call 242;refine(DX lp FO.1).mono ?_;rintro e w1 ⟨rfl,hg1⟩;obtain⟨c0,c1,c2⟩:=hcell.1 _ (F1.1.gr hg1);have hg2:=(hg1.alloc (.cells #[.int .u64 ((Tm.fb i:Nat):Int),.int .i64 ((Tm.fl i:Nat):Int),.int .i64 ((Tm.fw i:Nat):Int)] 355));have H2:=Aj (H1.1.gr hg2);have k12:=(Wk.gr (base:=base) (p:=p) hg2 (by have:=K1.1.aZ.size;omega));have K2:=Aj k12;have X2:=Aj (Boxed.wk X1.1 k12 YA.symm Ah);clear hg2 k12;have d2:=DW X2.1;have hy1:w1.heap.size≠p:=(by have h1:=hg1.size;have h2:=H1.1.lt;omega);have Y2:=Aj (Av w1 (.cells #[.int .u64 ((Tm.fb i:Nat):Int),.int .i64 ((Tm.fl i:Nat):Int),.int .i64 ((Tm.fw i:Nat):Int)] 355));clear hg1))
   have hxp:wx.heap.size≠p:=om;refine⟨K4.1.keeps H1.1.cells,⟨K4.1.aZ.mono hB,(Wk.kept K4.1 Z1.1 hxp Ah).trans Z1.1.symm⟩,?_,K1.1.trans K4.1,X4.1,Wk.kept K4.1 Z1.1 hxp Ah⟩;have:=H4.1;rw[Af,←hch.1,Af]at this;rw[pz,List.flatMap_singleton];exact this
  case done=>
   rintro D W hD ⟨hw1,hk1,hb1,-⟩ hK;have H1:=Aj hw1;have K1:=Aj hk1;clear hw1 hk1 hb1;go_wp2;refine⟨sm,.inl ⟨_,_,rfl,CV hK,?_⟩⟩;have hgo:W.grownBy (W.putObj D (.deferred none)) (some D):=Bg W D _;refine⟨_,results_tmp rfl _ _ _,rfl,?_,K1.1.more hgo om (fun r e=>by cases e;omega)⟩;rw[henc.1,←Af];exact H1.1.apart hgo (fun r e=>by cases e;exact⟨_,hK,rfl⟩)
  case stop=>
   rintro D c pre W _ _ h _;exact h.elim
end
section
open Go.Shelf
attribute [local go_sem] Oper.semAt_some
def encR (x:Nat×Nat):Array Value:= #[.agg #[.int .u64 (x.1:Int),.int .i64 (x.2:Int)]]
theorem Ru.xQ:∀(l),∀p∈(Ru.runs l).head?,l.head? =some p.1
 |[],p,h=>by simp[Ru.runs]at h
 |x::l,p,h=>by
  have ih:=Ru.xQ l;rw[Ru.runs]at h;cases hr:Ru.runs l with
  |nil=>rw[hr]at h;simp at h;rw[←h];rfl
  |cons q rs=>
   obtain⟨y,c⟩:=q;rw[hr]at h;simp only[]at h;split at h
   ·rename_i hxy;simp at h;rw[←h,hxy];rfl
   ·simp at h;rw[←h];rfl
theorem Ru.MH {l:List Nat} {a b:Nat} (h1:a<b) (h2:b≤l.length) (h3:∀(j:Nat) (hj:j<l.length),a≤j→j<b→l[j]=l[a]) (h4:∀(hb:b<l.length),l[b]≠l[a]):
  Ru.runs (l.drop a)=(l[a],b-a)::Ru.runs (l.drop b):=by
 have e:l.drop a=List.replicate (b-a-1+1) l[a]++l.drop b:=by
  apply DD
  ·simp;omega
  ·intro i i1 i2;rw[DZ];by_cases hi:i<b-a
   ·rw[tK (by simp;omega),List.getElem_replicate];exact h3 _ _ om om
   ·rw[List.getElem_append_right (by simp;omega),DZ]
    congr 1;simp;omega
 rw[e,Ru.pR (Ru.runs (l.drop b)) rfl (fun p hp=>?_)]
 ·rw[show b-a-1+1=b-a from om]
 ·have:=Ru.xQ _ p hp;rw[List.head?_drop]at this;by_cases hb:b<l.length
  ·rw[ja hb]at this;have h5:=h4 hb;intro e2;exact h5 (by rw[Oj this,e2])
  ·rw[BN om]at this;cases this
theorem qX (n bx B m c A l w X) (hw:Boxed w bx 284 (.slice A m c)) (hr:kF w B A m c l) (hm:m≤128)
  (hX:∀pre W,¬X pre W):
  rO n prog 281 #[.pointer (some ⟨bx,0,none⟩)] encR (fun _=>False) (EO B bx) (Ru.runs l) w X:=by
 intro lp J Jx W hK hJ hJx Ql aW h0;have hW:Boxed W bx 284 (.slice A m c):=hK.2.trans hw;have hR:kF W B A m c l:=hr.below hK.1;have bL:=Aj aW;have HX:Kept (∀pre W,¬Jx pre W):=⟨fun pre W h=>hX pre W (Ql pre W h)⟩
 have hln:=Aj hr.len;have hc1:=hr.1;have hc2:=hr.2.1;unfold maxLen at hc2;have HJ:=Aj hJ;clear hw hK aW hJ hX Ql hr hJx;refine Bl.2 ?_;go_enter func281,ntmps281;go_wp2;go_loopw [3] (fun i wr=>∃(pre:List (Nat×Nat)) (k:Nat),i= .int .i64 k∧Boxed wr bx 284 (.slice A m c)∧kF wr B A m c l∧k≤m∧
  Kept (Ru.runs l=pre++Ru.runs (l.drop k))∧Kept (J pre wr)) (fun i _=>m-(intOf i).toNat)
 case atStart=>exact⟨[],0,rfl,hW,hR,om,⟨rfl⟩,⟨h0⟩⟩
 case round=>
  clear hW hR h0;obtain⟨pre,k,rfl,hb,hr,hk,hm1,hj⟩:=hrel;have hc:=hb.cell;have Hb:=Aj hb;have Hr:=Aj hr;clear hb hr;by_cases hlt:k<m
  ·have hlt':(k:Int)< (m:Int):=by omega
   have hkl:k<l.length:=by have:=hln.1;omega
   obtain⟨b,off,rfl,kK,hck⟩:=Hr.1.at_ hkl;have aaC:Kept (∀(j:Nat) (hj:j<l.length),wr.cell? ⟨b,off+j,none⟩=some (.int .u64 (l[j]:Int))):=⟨fun j hj=>by
    obtain⟨b',off',e,_,hc⟩:=Hr.1.at_ hj;simp only[gT,Cf,BJ]at e;obtain⟨rfl,rfl⟩:=e;exact hc⟩
   obtain⟨x,hx⟩:∃x,x=l[k]:=⟨_,rfl⟩
   rw[←hx]at hck;have HXk:=Aj hx;clear hx;go_upto_block 2 with(fail)
   go_cut [4] (fun tv wx=>∃(t q:Nat),tv= .int .i64 t∧k<t∧t≤m∧wx=wr.drewN q∧Kept (Ru.runs (l.drop k)=(x,t-k)::Ru.runs (l.drop t)))
   case first=>
    go_wp2;go_loopw [4] (fun i w2=>∃(t q:Nat),i= .int .i64 t∧k<t∧t≤m∧w2=wr.drewN q∧Kept (∀(j:Nat) (hj:j<l.length),k≤j→j<t→l[j]=l[k])) (fun i _=>m-(intOf i).toNat)
    case atStart=>exact⟨k+1,0,by go_num,om,om,rfl,⟨fun j hj h1 h2=>by congr 1;omega⟩⟩
    case round=>
     obtain⟨t,q,rfl,h1,h2,rfl,h3⟩:=hrel;by_cases htm:t<m
     ·have htl:t<l.length:=by have:=hln.1;omega
      have hct:=aaC.1 t htl;have g1:decide ((t:Int)< (m:Int))=true:=Bj om;have g2:(t:Int)< (m:Int):=om;have g3:decide ((t:Int)-(k:Int)<128)=true:=Bj om;have g4:(t:Int)-(k:Int)<128:=om;obtain⟨y,hy⟩:∃y,y=l[t]:=⟨_,rfl⟩
      rw[←hy]at hct;by_cases hyx:y=x
      ·have h3':Kept (∀(j:Nat) (hj:j<l.length),k≤j→j<t+1→l[j]=l[k]):=⟨fun j hj a1 a2=>by
        rcases Nat.lt_or_eq_of_le (Nat.le_of_lt_succ a2)with h|h
        ·exact h3.1 j hj a1 h
        ·subst h;rw[←hy,hyx,HXk.1]⟩
       have g5:((y:Int)==(x:Int))=true:=by simp;omega
       clear hy hyx h3 htl;go_wp2;go_quiet (fail);go_wp2;go_roundw
       case rel=>exact⟨t+1,_,by go_num,om,om,by first|rfl|exact jG _ _ _,h3'⟩
       case measure=>simp[intOf];omega
      ·have hR2:Kept (Ru.runs (l.drop k)=(x,t-k)::Ru.runs (l.drop t)):=⟨by
        rw[Ru.MH h1 (by have:=hln.1;omega) h3.1 (fun hb e=>hyx (by rw[hy,e,HXk.1])),←HXk.1]⟩
       have g5:((y:Int)==(x:Int))=false:=by simp;omega
       clear hy hyx h3 htl;go_wp2;go_quiet (fail);go_wp2;go_meet;exact⟨t,_,rfl,h1,h2,by first|rfl|exact jG _ _ _,hR2⟩
     ·obtain rfl:t=m:=by omega
      have hR2:Kept (Ru.runs (l.drop k)=(x,t-k)::Ru.runs (l.drop t)):=⟨by
       rw[Ru.MH h1 (by have:=hln.1;omega) h3.1 (fun hb e=>by have:=hln.1;omega),←HXk.1]⟩
      have g1:decide ((t:Int)< (t:Int))=false:=AF om;clear h3;go_wp2;go_quiet (fail);go_wp2;go_meet;exact⟨t,_,rfl,h1,h2,by first|rfl|exact jG _ _ _,hR2⟩
   case rest=>
    rename World=>wx
    obtain⟨t,q,rfl,h1,h2,rfl,hR2⟩:=hcut;obtain⟨w2,hw2⟩:∃w2,w2=wr.drewN q:=⟨_,rfl⟩
    have hgd:wr.grownBy w2 none:=by rw[hw2];exact⟨rfl,rfl,rfl,Nr _,fun _ _ _=>rfl⟩
    have hj2:=Aj (HJ.1 _ _ _ none hj.1 hgd (fun r e=>by cases e));have hb2:Boxed w2 bx 284 (.slice (some ⟨b,off,none⟩) m c):=by rw[hw2];exact Hb.1
    have al7:=DW hb2;have al8:w2.cell? ⟨b,off+k,none⟩=some (.int .u64 (x:Int)):=by rw[hw2];exact hck
    have Hb2:=Aj hb2;have Xh:=Aj (show kF w2 B _ m c l from by rw[hw2];exact Hr.1.drewN q);have hm2:Kept (Ru.runs l=pre++[(x,t-k)]++Ru.runs (l.drop t)):=⟨by rw[hm1.1,hR2.1];simp⟩
    rw[←hw2];clear hw2 hgd hc hck hj Hb Hr hb2;obtain⟨fn,tmps,assign,body,hy,oN⟩:=bL.1 pre (x,t-k) w2 hj2.1 ⟨_,hm2.1.symm⟩;unfold encR at hy;have ee:((t-k:Nat):Int)=(t:Int)-(k:Int):=om;simp only[ee]at hy;clear ee;go_upto_region 5 with(fail)
    refine(Bu (n:=n)).1 ?_
    gi_wp2
    refine⟨(fun h=>by simp[Fence.wide]at h),oN.mono ?_⟩;rintro e W' (⟨rfl,hj',hb'⟩|⟨rfl,rf⟩)
    ·have Hb3:=Aj (show Boxed W' bx 284 _ from hb'.2.trans Hb2.1);have Hr3:=Aj (Xh.1.below hb'.1);have Yu:=Aj hj';clear hj' hb' oN hy
     gi_wp2
     go_wp2;go_roundw
     case rel=>exact⟨pre++[(x,t-k)],t,rfl,Hb3.1,Hr3.1,h2,hm2,Yu⟩
     case measure=>simp[intOf];omega
    ·exact absurd rf (HX.1 _ _)
  ·obtain rfl:k=m:=by omega
   have hm2:Kept (Ru.runs l=pre):=⟨by
    rw[hm1.1,ru (by have:=hln.1;omega)];simp[Ru.runs]⟩
   go_wp2;go_end0;exact⟨⟨_,rfl⟩,.inl (by rw[hm2.1];exact hj.1)⟩
theorem G8 (A n c w):Calls prog 258 #[.slice A n c] w fun e w'=>
  e= .returned (.func (.func 281) #[] #[.pointer (some ⟨w.heap.size,0,none⟩)])∧w'=w.alloc (.cells #[.slice A n c] 284):=by
 go_enter func258,ntmps258;go_wp2;go_ret;exact⟨rfl,rfl⟩
end
section
open Go.Shelf
attribute [local go_sem] Oper.semAt_some
theorem Ru.bD (l):(Ru.enc l).length=71*(Ru.runs l).length:=by
 unfold Ru.enc;generalize Ru.runs l=rs
 induction rs with
 |nil=>rfl
 |cons p rs ih=>rw[Au,La,ih];simp only[Ru.one,La,Bt.aj,Lc];omega
theorem Ru.MI (l):(Ru.runs l).length≤l.length:=by
 induction l with
 |nil=>simp[Ru.runs]
 |cons x l ih=>
  rw[Ru.runs];cases hr:Ru.runs l with
  |nil=>simp
  |cons q rs=>
   obtain⟨y,c⟩:=q;rw[hr]at ih;simp only[]at*;split<;>simp at* <;>omega
def Kl (w:World) (bn bx:Nat) (v:Value) (pre:List (Nat×Nat)) (W:World):Prop:=
 Boxed W bn 3 (.int .i64 ((71*pre.length:Nat):Int))∧Below w.heap.size w W∧Boxed W bx 284 v
theorem Kl.own {w bn bx N v} (hb:bn<N) (hN:w.heap.size≤N) (hx:bx<N):aI N (fun _=>False) (Kl w bn bx v):=by
 rintro s W W' row ⟨h1,h2,h3⟩ hg hr;have hrow:∀r,row=some r→N≤r:=fun r e=>by
  rcases hr r e with h|h
  ·exact h.elim
  ·exact h.1
 exact⟨h1.kept hg (fun e=>by have:=hrow _ e.symm;omega),h2.grown hg h2.size (fun r e=>by have:=hrow r e;omega),h3.kept hg (fun e=>by have:=hrow _ e.symm;omega)⟩
theorem OY (A n c B l w) (hr:kF w B A n c l) (hB:B≤w.heap.size) (hn:n≤128):
  Calls prog 218 #[.slice A n c] w fun e w'=>e= .returned (.int .i64 (((Ru.enc l).length:Nat):Int))∧Below w.heap.size w w':=by
 have hln:=Aj hr.len;have hle:=Ru.MI l;have R0:=Aj hr;have hbx:=Bd w 3 (.int .i64 0);obtain⟨W0,hW0⟩:∃W0,W0=w.alloc (.cells #[.int .i64 0] 3):=⟨_,rfl⟩
 have hz0:W0.heap.size=w.heap.size+1:=by rw[hW0];simp
 have hb0:Below w.heap.size w W0:=by rw[hW0];exact(Ae _ w).alloc Ai _
 have HW0:=Aj hW0.symm;rw[←hW0]at hbx;clear hW0 hr;refine(Bl (n:=9)).1 ?_;refine Cv func218 rfl trivial ?_ rfl;simp only[ntmps218,Cg,Lc,Ba,Nat.reduceAdd,Nat.reduceSub,Cj,Cm,CY,Cx,AA,Bb];refine Bu.2 ?_;go_wp2_with (go_at_call 258;refine(G8 _ _ _ _).mono ?_;rintro e w3 ⟨rfl,hw3⟩;rw[HW0.1]at hw3;have HW3:=Aj hw3;clear hw3);have hz3:w3.heap.size=W0.heap.size+1:=by rw[HW3.1];simp
 have g3:W0.grownBy w3 none:=by rw[HW3.1];exact Ga _ _ _
 have b3:Boxed w3 (w.heap.size+1) 284 (.slice A n c):=by rw[HW3.1,←hz0];exact Bd _ _ _
 have hI0:Kl w w.heap.size (w.heap.size+1) (.slice A n c) [] w3:=⟨Boxed.kept hbx g3 (fun e=>by cases e),hb0.grown g3 om (fun r e=>by cases e),b3⟩
 have r3:kF w3 B A n c l:=R0.1.below (hI0.2.1.mono hB);clear hbx;refine(Bu (n:=9)).1 ?_;refine ji Ah (gf:=281) (lb:= #[.pointer (some ⟨w.heap.size+1,0,none⟩)]) rfl (BH func281 kr rfl)
  (encs:=encR) (O:=fun _=>False) (Kp:=EO B (w.heap.size+1)) (L:=Ru.runs l)
  (by rintro r h;exact h.elim) (fun h k=>h.trans k) (fun W W' row hW hg hr=>EO.grown hW om om hg hr) (fun _=>rfl)
  (Kl w w.heap.size (w.heap.size+1) (.slice A n c)) (fun _ _ _=>False)
  (fun pre x a₁ W=>Kl w w.heap.size (w.heap.size+1) (.slice A n c) pre W∧
   a₁={tmps:= #[.slice A n c,undef,.int .i64 0,.pointer (some ⟨w.heap.size,0,none⟩),.slice A n c,.func (.func 281) #[] #[.pointer (some ⟨w.heap.size+1,0,none⟩)],.agg #[.int .u64 (x.1:Int),.int .i64 (x.2:Int)],undef,undef,undef],defers:=[]})
  (qX 8 (w.heap.size+1) B n c A l w3 _ b3 r3 hn (fun pre W ⟨_,h⟩=>h))
  ?hI (fun _ _ _ _ _ h _ _=>h) ?hM hI0 ?assign ?body ?done ?stop
 case hI=>exact Kl.own om om om
 case hM=>
  rintro pre x a₁ u W W' row ⟨hI,ha⟩ hgr hr;exact⟨Kl.own om om om _ _ _ _ hI hgr hr,ha⟩
 case assign=>
  rintro lp pre x W hI hpre hW;unfold encR
  gi_wp2
  exact⟨⟨Nr _,fun _ _ _ h _=>h⟩,⟨Ae _ _,rfl⟩,hI,sm⟩
 case body=>
  rintro lp pre x a₁ W ⟨⟨hb1,hk1,hb2⟩,rfl⟩ hpre hW;have hlx:=hpre.length_le;rw[La,DJ]at hlx;have hl3:=hln.1;have hp2:pre.length≤128:=om;have c1:=DW hb1;have f1:=Boxed.frozen hb1;obtain⟨k,hk⟩:∃k,k=71*pre.length:=⟨_,rfl⟩
  rw[←hk]at c1;have hk3:k≤9088:=om;have HK:=Aj hk;have B1:=Aj hb1;have K1:=Aj hk1;have B2:=Aj hb2;clear hb1 hk1 hb2 hk hlx
  gi_wp2
  have gs:=au W ⟨w.heap.size,0,none⟩ (.int .i64 ((k:Int)+71));have hz1:=Boxed.lt B1.1;refine⟨KeepsOthers.from (Cu _ _ _) _,⟨(Ae B W).grown gs om (fun r e=>by cases e;exact hB),gs.block _ om (fun e=>by have:=Oj e;simp only at this;omega)⟩,?_,K1.1.grown gs om (fun r e=>by cases e;exact Nr _),Boxed.kept B2.1 gs (fun e=>by have:=Oj e;simp only at this;omega)⟩;have:=Boxed.set (.int .i64 ((k:Int)+71)) B1.1;have e:((71*(pre++[x]).length:Nat):Int)=(k:Int)+71:=by rw[HK.1];simp;omega
  rw[e];exact this
 case done=>
  rintro D W hD ⟨hb1,hk1,hb2⟩ hK;have c1:=DW hb1;have K1:=Aj hk1;have hE:=Aj (Ru.bD l);rw[←hE.1]at c1;clear hk1 hb1 hb2;go_wp2;refine⟨sm,.inl ⟨_,_,rfl,CV hK,?_⟩⟩;have hgo:W.grownBy (W.putObj D (.deferred none)) (some D):=Bg W D _;exact⟨_,results_tmp rfl _ _ _,rfl,K1.1.grown hgo (K1.1.size) (fun r e=>by cases e;omega)⟩
 case stop=>
  rintro D c pre W _ _ h _;exact h.elim
theorem Ru.G9:∀{rs} {last},Ru.Good last rs→∀q∈rs,1≤q.2∧q.2≤128∧q.1<2^64
 |[],_,_,q,h=>by simp at h
 |p::rs,_,⟨_,h1,h2,h3,h4⟩,q,h=>by
  rcases eH.1 h with rfl|h
  ·exact⟨h1,h2,h3⟩
  ·exact Ru.G9 h4 q h
def Ha {X:Type} (ty:TypeId) (f:X→List Bool) (w:World) (base p:Nat) (bs:List Bool) (bx:Nat) (v:Value) (pre:List X) (W:World):Prop:=
 fJ W base p (bs++pre.flatMap f)∧Wk base p w W∧Boxed W w.heap.size 302 (.pointer (some ⟨p,0,none⟩))∧Boxed W bx ty v
theorem Ha.own {X ty} {f:X→List Bool} {w base p N bx v bs} (hb:base≤w.heap.size) (hN:w.heap.size<N) (hx:bx<N):aI N (fun _=>False) (Ha ty f w base p bs bx v):=by
 rintro s W W' row ⟨h1,h2,h3,h4⟩ hg hr;have hrow:∀r,row=some r→N≤r∧∃o:Obj,W.heap[r]? =some o∧o.isCells=false:=fun r e=>by
  rcases hr r e with h|h
  ·exact h.elim
  ·exact h
 exact⟨h1.apart hg (fun r e=>(hrow r e).2),h2.more hg hb (fun r e=>by have:=(hrow r e).1;omega),h3.kept hg (fun e=>by have:=(hrow _ e.symm).1;omega),h4.kept hg (fun e=>by have:=(hrow _ e.symm).1;omega)⟩
theorem TN (base p B bs A n c l w) (h:fJ w base p bs) (hr:kF w B A n c l) (hB:B≤base) (hin:∀x∈l,x<2^64) (hn:n≤128) (hl:bs.length≤100000000):
  Calls prog 219 #[.pointer (some ⟨p,0,none⟩),.slice A n c] w fun e w'=>e= .returned (.int .i64 0)∧fJ w' base p (bs++Ru.enc l)∧Wk base p w w':=by
 have hln:=Aj hr.len;have hgood:=Aj (Ru.G9 (Ru.pQ l (by have:=hr.len;omega) hin));have hle:=Ru.MI l;have hz:=h.lt;have YA:p≠w.heap.size:=om;have hbx:=Bd w 302 (.pointer (some ⟨p,0,none⟩));have H0:=Aj (h.alloc (.cells #[.pointer (some ⟨p,0,none⟩)] 302));have K0:=Aj ((Wk.refl base p w).alloc (.cells #[.pointer (some ⟨p,0,none⟩)] 302) om);have R0:=Aj hr;obtain⟨W0,hW0⟩:∃W0,W0=w.alloc (.cells #[.pointer (some ⟨p,0,none⟩)] 302):=⟨_,rfl⟩
 have hz0:W0.heap.size=w.heap.size+1:=by rw[hW0];simp
 have HW0:=Aj hW0.symm;rw[←hW0]at hbx H0 K0;have hc0:=hbx.cell;have HBX:=Aj hbx;clear h hr hW0 hbx hin;refine(Bl (n:=9)).1 ?_;refine Cv func219 rfl trivial ?_ rfl;simp only[ntmps219,Cg,Lc,Ba,Nat.reduceAdd,Nat.reduceSub,Cj,Cm,CY,Cx,AA,Bb];refine Bu.2 ?_;go_wp2_with (go_at_call 258;refine(G8 _ _ _ _).mono ?_;rintro e w3 ⟨rfl,hw3⟩;rw[HW0.1]at hw3;have HW3:=Aj hw3;clear hw3);have hz3:w3.heap.size=w.heap.size+1+1:=by rw[HW3.1,AU,hz0]
 have g3:W0.grownBy w3 none:=by rw[HW3.1];exact Ga _ _ _
 have hI0:Ha 284 Ru.one w base p bs (w.heap.size+1) (.slice A n c) [] w3:=⟨by rw[Dp,Bh];exact H0.1.apart g3 (fun r e=>by cases e),K0.1.more g3 om (fun r e=>by cases e),Boxed.kept HBX.1 g3 (fun e=>by cases e),by rw[HW3.1,←hz0];exact Bd _ _ _⟩
 have b3:=hI0.2.2.2;have r3:kF w3 B A n c l:=R0.1.below (hI0.2.1.aZ.mono hB);clear HBX H0 K0 HW0 hc0;refine(Bu (n:=9)).1 ?_;refine ji Ah (gf:=281) (lb:= #[.pointer (some ⟨w.heap.size+1,0,none⟩)]) rfl (BH func281 kr rfl)
  (encs:=encR) (O:=fun _=>False) (Kp:=EO B (w.heap.size+1)) (L:=Ru.runs l)
  (by rintro r h;exact h.elim) (fun h k=>h.trans k) (fun W W' row hW hg hr=>EO.grown hW om om hg hr) (fun _=>rfl)
  (Ha 284 Ru.one w base p bs (w.heap.size+1) (.slice A n c)) (fun _ _ _=>False)
  (fun pre x a₁ W=>Ha 284 Ru.one w base p bs (w.heap.size+1) (.slice A n c) pre W∧
   ∃g,w3.heap.size≤g∧W.heap[g]? =some (.cells #[.int .u64 (x.1:Int),.int .i64 (x.2:Int)] 378 (0,0))∧
   a₁={tmps:= #[.pointer (some ⟨p,0,none⟩),.slice A n c,.pointer (some ⟨w.heap.size,0,none⟩),undef,.int .i64 0,.pointer (some ⟨g,0,none⟩),.pointer (some ⟨p,0,none⟩),.bool false,.slice A n c,.func (.func 281) #[] #[.pointer (some ⟨w.heap.size+1,0,none⟩)],
    .agg #[.int .u64 (x.1:Int),.int .i64 (x.2:Int)],undef,undef,undef,undef,undef,undef,undef,undef,undef,undef],defers:=[]})
  (qX 8 (w.heap.size+1) B n c A l w3 _ b3 r3 hn (fun pre W ⟨_,h⟩=>h))
  ?hI (fun _ _ _ _ _ h _ _=>h) ?hM hI0 ?assign ?body ?done ?stop
 case hI=>exact Ha.own om om om
 case hM=>
  rintro pre x a₁ u W W' row ⟨hI,g,hg1,hg2,ha⟩ hgr hr;refine⟨Ha.own om om om _ _ _ _ hI hgr hr,g,hg1,(hgr.block g (Ge.1 hg2).1 (fun e=>?_)).trans hg2,ha⟩;rcases hr g e.symm with h|⟨_,o,ho,hc⟩
  ·exact h.elim
  ·rw[hg2]at ho;cases ho;cases hc
 case assign=>
  rintro lp pre x W hI hpre hW;unfold encR
  gi_wp2
  refine⟨KeepsOthers.from (DY W _) _,⟨(Ae B W).alloc om _,Aw _ _ _ om⟩,?_,W.heap.size,hW,Av W _,rfl⟩;exact Ha.own (N:=W.heap.size) om om om _ _ _ none hI (Ga _ _ _) (fun r e=>by cases e)
 case body=>
  rintro lp pre x a₁ W ⟨⟨hw1,hk1,hb1,hb2⟩,g,hg1,hg2,rfl⟩ hpre hW;obtain⟨hx1,hx2,hx3⟩:=hgood.1 x (hpre.subset sm);have hlx:=hpre.length_le;rw[La,DJ]at hlx;have hlb:Kept ((bs++pre.flatMap Ru.one).length≤900000000):=⟨by
   have h1:=Ck.oh (f:=Ru.one) (B:=71) (fun x=>by simp only[Ru.one,La,Bt.aj];omega) pre;have h3:=hln.1;simp only[La];omega⟩
  have hone:Kept (Ru.one x=Bt.bw 64 x.1++Bt.bw 7 (x.2-1)):=⟨rfl⟩
  obtain⟨y,cn⟩:=x;simp only[]at*;have e1:IntKind.u64.wrap ((cn:Int)-1)=((cn-1:Nat):Int):=by rw[Bv];omega
  have c1:=DW hb1;have d0:W.cell? ⟨g,0,none⟩=some (.int .u64 (y:Int)):=Co _ _ 0 _ _ _ hg2;have wM:g≠p:=om;have H1:=Aj hw1;have K1:=Aj hk1;have X1:=Aj hb1;have Z1:=Aj hb2;have Y1:=Aj hg2;have tf2:Fence.wide.fn 191:=trivial;have WB:=Aj (DX lp (Bl (n:=6).2 (cB base p y 64 _ W hw1 om om (by have:=hlb.1;omega))));have WC:=Aj (fun(w1:World) (h1:fJ w1 base p (bs++pre.flatMap Ru.one++Bt.bw 64 y))=>DX lp (Bl (n:=6).2 (cB base p (cn-1) 7 _ w1 h1 om om (by have:=hlb.1;rw[La,Bt.aj];omega))));clear hw1 hk1 hb1 hb2 hg2
  gi_wp2_with (first
   |(gi_at_call 191;refine(WC.1 w5 H5.1).mono ?_;rintro e w4 ⟨rfl,hw4,hk4⟩;have H4:=Aj hw4;have K4:=Aj (K5.1.trans hk4);have X4:=Aj (Boxed.wk X5.1 hk4 YA.symm Ah);clear hw4 hk4)
   |(gi_at_call 191;refine WB.1.mono ?_;rintro e w5 ⟨rfl,hw3,hk3⟩;have H5:=Aj hw3;have K5:=Aj hk3;have X5:=Aj (Boxed.wk X1.1 hk3 YA.symm Ah);have d0:=DW X5.1;have d1:w5.cell? ⟨g,1,none⟩=some (.int .i64 (cn:Int)):=Co _ _ 1 _ _ _ (Wk.kept hk3 Y1.1 wM Ah);clear hw3 hk3))
  have hxp:w.heap.size+1≠p:=om;refine⟨K4.1.keeps H1.1.cells,⟨K4.1.aZ.mono hB,(Wk.kept K4.1 Z1.1 hxp Ah).trans Z1.1.symm⟩,?_,K1.1.trans K4.1,X4.1,Wk.kept K4.1 Z1.1 hxp Ah⟩;have:=H4.1;rw[Af,←hone.1,Af]at this;rw[pz,List.flatMap_singleton];exact this
 case done=>
  rintro D W hD ⟨hw1,hk1,hb1,-⟩ hK;have H1:=Aj hw1;have K1:=Aj hk1;clear hw1 hk1 hb1;go_wp2;refine⟨sm,.inl ⟨_,_,rfl,CV hK,?_⟩⟩;have hgo:W.grownBy (W.putObj D (.deferred none)) (some D):=Bg W D _;exact⟨_,results_tmp rfl _ _ _,rfl,H1.1.apart hgo (fun r e=>by cases e;exact⟨_,hK,rfl⟩),K1.1.more hgo om (fun r e=>by cases e;omega)⟩
 case stop=>
  rintro D c pre W _ _ h _;exact h.elim
end
abbrev Xt:=Nat×Nat
def rnc (x:Xt):List Value:=[.int .u64 (x.1:Int),.int .i64 (x.2:Int)]
def MK (L:List Xt):List Value:=L.flatMap rnc
theorem uW (L):(MK L).length=L.length*2:=by
 unfold MK
 induction L with
 |nil=>rfl
 |cons x L ih=>rw[Au,La,ih,Lc];simp[rnc];omega
theorem ML (L i k) (h:i<L.length) (hk:k<2):(MK L)[i*2+k]? =(rnc L[i])[k]?:=by
 unfold MK
 induction L generalizing i with
 |nil=>simp at h
 |cons x L ih=>
  rw[Au];have hx:(rnc x).length=2:=rfl;cases i with
  |zero=>rw[Dk om];simp
  |succ i=>
   rw[Bn om,hx,show(i+1)*2+k-2=i*2+k from om];exact ih i (by simpa using h)
theorem Xu (L):∀u∈MK L,u.oneCell'=true:=by
 intro u hu;obtain⟨c,_,hc⟩:=mh.1 hu;simp[rnc]at hc;rcases hc with rfl|rfl<;>rfl
theorem Kn (a b):MK (a++b)=MK a++MK b:=by simp[MK]
def qm (w:World) (B:Nat) (A:Option Addr) (n c:Nat) (l:List Xt):Prop:=Rd w B 2 A n c (MK l)
theorem qm.len {w B n c A l} (h:qm w B A n c l):n=l.length:=by have:=h.2.2.1;rw[uW]at this;omega
section
variable {w w':World} {B n c:Nat} {A:Option Addr} {l:List Xt}
theorem qm.below (h:qm w B A n c l) (hb:Below B w w'):qm w' B A n c l:=Rd.below h hb
end
theorem qm.at_ {w B n c k A l} (h:qm w B A n c l) (hk:k<l.length):∃b off,A=some ⟨b,off,none⟩∧b<B∧w.cell? ⟨b,off+k*2,none⟩=some (.int .u64 (l[k].1:Int))∧w.cell? ⟨b,off+(k*2+1),none⟩=some (.int .i64 (l[k].2:Int)):=by
 obtain⟨b,off,e,hb,hc⟩:=h.2.2.2 (by have:=h.len;omega);refine⟨b,off,e,hb,hc _ _ ?_,hc _ _ ?_⟩
 ·have:=ML l k 0 hk om;simpa[rnc]using this
 ·have:=ML l k 1 hk om;simpa[rnc]using this
def oH (w:World) (base:Nat) (A:Option Addr) (n c:Nat) (l:List Xt):Prop:=w.ownsRow base 378 2 (.slice A n c) n (MK l)
theorem oH.rd {w base n c A l} (h:oH w base A n c l):qm w w.heap.size A n c l:=Rd.bC h
theorem oH.len {w base n c A l} (h:oH w base A n c l):n=l.length:=h.rd.len
theorem aaE:(prog.info? 378).map (fun i=>(i.zero,i.size,i.bytes))=some (some (.agg #[.int .u64 0,.int .i64 0]),2,16):=kr
theorem qm.lit (w:World) (l fr) (h:l.length≤9223372036854775807):qm (w.alloc (.cells (MK l).toArray 378 fr)) (w.heap.size+1) (some ⟨w.heap.size,0,none⟩) l.length l.length l:=
 ⟨Nr _,by unfold maxLen;omega,by rw[uW],fun _=>⟨_,0,rfl,om,fun i u hu=>by
  rw[cK];exact(Ao w _ _ _ i).trans (by simpa using hu)⟩⟩
section
open Go.Shelf
def Ru.gtr (r:List Bool):(Nat×Nat)×List Bool×Int:=
 if(Tm.rd 64 r).2.2≠0 then((0,0),(Tm.rd 64 r).2)else(((Tm.rd 64 r).1,(Tm.rd 7 (Tm.rd 64 r).2.1).1+1),(Tm.rd 7 (Tm.rd 64 r).2.1).2)
theorem OZ {w:World} {base n c g sz e A xs} (h:w.ownsRow base e sz (.slice A n c) n xs) {cs t fr} (hg:w.heap[g]? =some (.cells cs t fr)) (ht:t≠e):some g≠ab A:=by
 rcases h.2 with⟨hv,_⟩|⟨g2,cap,cur,hv,_,hgb,_⟩
 ·injection hv with hv1;rw[hv1];exact fun e=>by cases e
 ·injection hv with hv1
  rw[hv1];intro e;obtain rfl:g=g2:=by simpa[ab]using e
  rw[hg]at hgb;simp only[gT,DU]at hgb;exact ht hgb.2.1
def wP (w:World) (g:Nat) (a b:Value):World:=(w.setCell ⟨g,0,none⟩ a).setCell ⟨g,1,none⟩ b
theorem lC (w g a b) {cs t} (h:w.heap[g]? =some (.cells cs t (0,0))) (hs:cs.size=2):(wP w g a b).heap[g]? =some (.cells #[a,b] t (0,0)):=by
 unfold wP;rw[Ag _ g 1 _ _ _ (Ag _ g 0 _ _ _ h)];obtain⟨l⟩:=cs
 match l,hs with
 |[x,y],_=>simp
theorem eD (w:World) (g a b):w.grownBy (wP w g a b) (some g):=(au w ⟨g,0,none⟩ a).trans (au _ ⟨g,1,none⟩ b)
theorem Ko (p r w) (h:Br w p r):
  Calls prog 259 #[.pointer (some ⟨p,0,none⟩)] w fun e w'=>e= .returned (.tuple #[.agg #[.int .u64 ((Ru.gtr r).1.1:Int),.int .i64 ((Ru.gtr r).1.2:Int)],.int .i64 (Ru.gtr r).2.2])∧Br w' p (Ru.gtr r).2.1∧w.grownBy w' (some p):=by
 have hp:=h.lt;obtain⟨W0,hW0⟩:∃W0,W0=w.alloc (.cells #[.int .u64 0,.int .i64 0] 378):=⟨_,rfl⟩
 have hg0:W0.heap[w.heap.size]? =some (.cells #[.int .u64 0,.int .i64 0] 378 (0,0)):=by rw[hW0];exact Av w _
 have gr0:w.grownBy W0 (some p):=by rw[hW0];exact Ga _ _ _
 have H0:=Aj (h.grown (row:=none) (show w.grownBy W0 none by rw[hW0];exact Ga _ _ _) (fun g e=>by cases e));have RB:=Aj (dL p 64 r W0 H0.1 om);have hgt:Kept (Ru.gtr r=if(Tm.rd 64 r).2.2≠0 then((0,0),(Tm.rd 64 r).2)else(((Tm.rd 64 r).1,(Tm.rd 7 (Tm.rd 64 r).2.1).1+1),(Tm.rd 7 (Tm.rd 64 r).2.1).2)):=⟨rfl⟩
 obtain⟨G,hG⟩:∃G,G=Ru.gtr r:=⟨_,rfl⟩
 rw[←hG]at hgt⊢;have her:=Tm.qi 64 r;obtain⟨X,hX⟩:∃X,X=Tm.rd 64 r:=⟨_,rfl⟩
 rw[←hX]at RB her hgt;obtain⟨x,r1,e1⟩:=X;simp only[]at RB her hgt;have HW0:=Aj hW0.symm;have HG0:=Aj hg0;have GR0:=Aj gr0;have hwz:Kept (p<w.heap.size):=⟨hp⟩
 clear hX hG h hW0 hg0 gr0;rcases her with rfl|rfl
 ·rw[Ng sm]at hgt;have hr7:=Tm.jH 7 r1;have R7:=Aj (fun(w1:World) (hb:Br w1 p r1)=>dL p 7 r1 w1 hb om);obtain⟨X,hX⟩:∃X,X=Tm.rd 7 r1:=⟨_,rfl⟩
  rw[←hX]at R7 hgt hr7;obtain⟨cn,r2,e2⟩:=X;simp only[]at R7 hgt hr7;have hw1:wrap64 (cn:Int)=(cn:Int):=by unfold wrap64;omega
  clear hX;go_enter func259,ntmps259;go_wp2_with (first
   |(go_at_call 213;refine(R7.1 w1 B1.1).mono ?_;rintro e w2 ⟨rfl,hb2,hg2⟩;have B2:=Aj hb2;have G2:=Aj (G1.1.trans hg2);have C2:=Aj ((hg2.block _ (Ge.1 C1.1).1 (fun e=>by have:=Oj e;have:=hwz.1;omega)).trans C1.1);have f0:=Fr _ _ 0 _ _ C2.1;have f1:=Fr _ _ 1 _ _ C2.1;have k0:=Co _ _ 0 _ _ _ C2.1;have k1:=Co _ _ 1 _ _ _ C2.1;clear hb2 hg2)
   |(go_at_call 213;rw[HW0.1];refine RB.1.mono ?_;rintro e w1 ⟨rfl,hb1,hg1⟩;have B1:=Aj hb1;have G1:=Aj (GR0.1.trans hg1);have C1:=Aj ((hg1.block _ (Ge.1 HG0.1).1 (fun e=>by have:=Oj e;have:=hwz.1;omega)).trans HG0.1);clear hb1 hg1))
  rw[hgt.1];refine Bi (v:= .tuple #[.agg #[.int .u64 (x:Int),.int .i64 ((cn:Int)+1)],.int .i64 e2]) ?_ rfl ⟨rfl,B2.1.grown (eD w2 w.heap.size (.int .u64 (x:Int)) (.int .i64 ((cn:Int)+1))) (fun g e=>by cases e;exact hwz.1),?_⟩
  ·exact di (fn:=Tryz.f259) (a:=2) (u:=3) (T1:=378) rfl _ _ w.heap.size _ _ _ _ rfl (lC w2 w.heap.size (.int .u64 (x:Int)) (.int .i64 ((cn:Int)+1)) C2.1 rfl) underlying378 rfl kr
  ·exact G2.1.andThen (eD w2 w.heap.size (.int .u64 (x:Int)) (.int .i64 ((cn:Int)+1))) (fun j hj=> .inl (by cases hj;exact Nr _))
 ·rw[Ps0 sm]at hgt;go_enter func259,ntmps259;go_wp2_with (go_at_call 213;rw[HW0.1];refine RB.1.mono ?_;rintro e w1 ⟨rfl,hb1,hg1⟩;have B1:=Aj hb1;have G1:=Aj (GR0.1.trans hg1);have C1:=Aj ((hg1.block _ (Ge.1 HG0.1).1 (fun e=>by have:=Oj e;have:=hwz.1;omega)).trans HG0.1);have f0:=Fr _ _ 0 _ _ C1.1;have f1:=Fr _ _ 1 _ _ C1.1;have k0:=Co _ _ 0 _ _ _ C1.1;have k1:=Co _ _ 1 _ _ _ C1.1;clear hb1 hg1);rw[hgt.1];refine Bi (v:= .tuple #[.agg #[.int .u64 0,.int .i64 0],.int .i64 3]) ?_ rfl ⟨rfl,B1.1.grown (eD w1 w.heap.size (.int .u64 0) (.int .i64 0)) (fun g e=>by cases e;exact hwz.1),?_⟩
  ·exact di (fn:=Tryz.f259) (a:=2) (u:=3) (T1:=378) rfl _ _ w.heap.size _ _ _ _ rfl (lC w1 w.heap.size (.int .u64 0) (.int .i64 0) C1.1 rfl) underlying378 rfl kr
  ·exact G1.1.andThen (eD w1 w.heap.size (.int .u64 0) (.int .i64 0)) (fun j hj=> .inl (by cases hj;exact Nr _))
theorem O0 (A n c B rs w) (hr:qm w B A n c rs) (hB:B≤w.heap.size) (hc:∀q∈rs,q.2≤128) (ht:Ru.tot rs≤1000000):
  Calls prog 260 #[.slice A n c] w fun e w'=>∃A2 n2 c2,e= .returned (.slice A2 n2 c2)∧aJ w' w.heap.size A2 n2 c2 (Ru.join rs)∧Below w.heap.size w w':=by
 have hln:=Aj hr.len;have hlc:=hr.1;have hcm:=hr.2.1;unfold maxLen at hcm;have R0:=Aj hr;have HC:=Aj hc;clear hr hc;go_enter func260,ntmps260;go_wp2;go_loopw [3,8] (fun v i wr=>∃(k:Nat) (A2:Option Addr) (n2 c2:Nat),k≤n∧i= .int .i64 k∧v= .slice A2 n2 c2∧aJ wr w.heap.size A2 n2 c2 (Ru.join (rs.take k))∧Below w.heap.size w wr) (fun _ i _=>n-(intOf i).toNat)
 case atStart=>exact⟨0,none,0,0,om,rfl,rfl,⟨rfl,.inl ⟨rfl,rfl⟩⟩,Ae _ _⟩
 case round=>
  obtain⟨k,A2,n2,c2,hk,rfl,rfl,ho,hb⟩:=hrel;by_cases hlt:k<n
  ·have hlt':(k:Int)< (n:Int):=by omega
   have hkl:k<rs.length:=by have:=hln.1;omega
   have hrr:=(R0.1.below (hb.mono hB))
   obtain⟨b,off,rfl,kK,hc0,hc1⟩:=hrr.at_ hkl;have hcn:=HC.1 _ (gG hkl);obtain⟨q,hq⟩:∃q,q=rs[k]:=⟨_,rfl⟩
   rw[←hq]at hc0 hc1 hcn;obtain⟨x,cn⟩:=q;simp only[]at hc0 hc1 hcn;rw[←fA]at hc1;have hcn':¬(128:Int)< (cn:Int):=om;have hz:=hb.size;have HO:=Aj ho;have HB:=Aj hb;have HQ:=Aj hq;clear ho hb hrr hq;go_wp2;have hnew:=Av wr (.cells #[.int .u64 (x:Int),.int .i64 (cn:Int)] 378);have hO1:aJ (wr.alloc (.cells #[.int .u64 (x:Int),.int .i64 (cn:Int)] 378)) w.heap.size A2 n2 c2 (Ru.join (rs.take k)):=Oa HO.1 _;have hB1:=HB.1.alloc hz (.cells #[.int .u64 (x:Int),.int .i64 (cn:Int)] 378);have hjl:Kept ((Ru.join (rs.take k)).length+cn≤1000000):=⟨by
    have e:=congrArg Ru.tot (jJ k rs);rw[o9 hkl,←HQ.1]at e;simp only[Ru.tot,dR,Dv,Az,AZ]at e ht;rw[Ru.nZ];unfold Ru.tot;omega⟩
   generalize wr.alloc (.cells #[.int .u64 (x:Int),.int .i64 (cn:Int)] 378)=W1 at*;generalize wr.heap.size=g at*;clear hc0 hc1;go_loopw [3,17] (fun v i wi=>∃(j:Nat) (A3:Option Addr) (n3 c3:Nat),j≤cn∧i= .int .i64 j∧v= .slice A3 n3 c3∧aJ wi w.heap.size A3 n3 c3 (Ru.join (rs.take k)++List.replicate j x)∧Below w.heap.size w wi∧
    Kept (wi.heap[g]? =some (.cells #[.int .u64 (x:Int),.int .i64 (cn:Int)] 378 (0,0)))) (fun _ i _=>cn-(intOf i).toNat)
   case atStart=>exact⟨0,A2,n2,c2,om,rfl,rfl,by simpa using hO1,hB1,⟨hnew⟩⟩
   case round=>
    obtain⟨j,A3,n3,c3,hj,rfl,rfl,ho3,hb3,hc3⟩:=hrel;by_cases hjc:j<cn
    ·have ama:(j:Int)< (cn:Int):=by omega
     have k0:=Co _ _ 0 _ _ _ hc3.1;have hl3:=ho3.len;have mG:n3≤1000000:=by rw[hl3,La,Eu];have:=hjl.1;omega
     have O3:=Aj ho3;have B3:=Aj hb3;have hz3:=hb3.size;clear ho3 hb3 hl3;have hal:=Ga wr (.cells #[.int .u64 (x:Int)] 125) none;have hzb:w.heap.size≤(wr.alloc (.cells #[.int .u64 (x:Int)] 125)).heap.size:=by simp;omega
     have hc4:=Aj ((hal.block g (Ge.1 hc3.1).1 (fun e=>by cases e)).trans hc3.1);go_wp2_with (at_builtin;refine dJ rfl (.tmp 19) (.tmp 22) rfl w.heap.size A3 n3 c3 _ rfl (Oa O3.1 _) _ _ _ _ _ rfl (kF.one wr x) om hzb ?_;intro A4 c4 w5 av af cO;have O4:=Aj av;have G4:=Aj af;clear av af);go_roundw
     case rel=>
      refine⟨j+1,A4,n3+1,c4,om,by go_num,rfl,?_,((B3.1.alloc hz3 _).grown G4.1 hzb (fun r e=>(ae O3.1 r e).1)),⟨(G4.1.block g (Ge.1 hc4.1).1 (OZ (Oa O3.1 _) hc4.1 Ah)).trans hc4.1⟩⟩;have:=O4.1;rw[Af,show List.replicate j x++[x]=List.replicate (j+1) x by rw[List.replicate_succ']]at this;exact this
     case measure=>simp[intOf];omega
    ·obtain rfl:j=cn:=by omega
     have O3:=Aj ho3;have B3:=Aj hb3;clear ho3 hb3;go_wp2;go_roundw
     case rel=>
      refine⟨k+1,A3,n3,c3,om,by go_num,rfl,?_,B3.1⟩;have e:Ru.join (rs.take (k+1))=Ru.join (rs.take k)++List.replicate j x:=by
       rw[Ts hkl,←HQ.1];simp[Ru.join]
      rw[e];exact O3.1
     case measure=>simp[intOf];omega
  ·obtain rfl:k=n:=by omega
   have e:rs.take k=rs:=iM (by have:=hln.1;omega);rw[e]at ho;have HO:=Aj ho;have HB:=Aj hb;clear ho hb;go_wp2;go_ret;exact⟨A2,n2,c2,rfl,HO.1,HB.1⟩
theorem Kq {w ops o a K Q E} (hgd:o.guard=none) (s x)
  (ho:o.op= .call {callee:= .builtin .append,args:= #[s,x],argTypes:= #[379,379]})
  (base A n c l) (hs:a.eval s= .slice A n c) (hown:oH w base A n c l)
  (B S m d k) (hx:a.eval x= .slice S m d) (hr:qm w B S m d k)
  (hlen:n+m≤4398046511104) (hbase:base≤w.heap.size)
  (h:∀A2 c2 w',oH w' base A2 (n+m) c2 (l++k)→w.grownBy w' (ab A)→(ab A2=ab A∨ab A2=some w.heap.size)→K (a.put o.dst (.slice A2 (n+m) c2)) w'):
  if Region.wanted o (yielded ops a.tmps)=true then Oper.wp prog o a w K Q else E:=by
 have hw:Region.wanted o (yielded ops a.tmps)=true:=by simp[Region.wanted,hgd]
 rw[Ps0 hw];obtain⟨i0,hi0,hz0,hz1,hz2⟩:=AV aaE;refine mO w s x _ ho base 378 i0 (.agg #[.int .u64 0,.int .i64 0]) 2 16 underlying379 hi0 hz0 hz1 hz2 rfl Ah A n c (MK l) hs hown B S m d (MK k) hx hr (Xu k) (by unfold maxLen;omega) om hbase ?_;rw[←Kn];exact h
theorem Ru.Xv (f last acc r):Ru.gr f 0 last acc r=(acc,r,0):=by cases f<;>simp[Ru.gr]
theorem Ru.Xw {f m} (hm:0<m) (hf:m≤f) (last acc r):
  Ru.gr f m last acc r=if(Ru.gtr r).2.2≠0 then([],(Ru.gtr r).2)else if m< (Ru.gtr r).1.2∨last=some (Ru.gtr r).1.1 then([],(Ru.gtr r).2.1,8)else Ru.gr (f-1) (m-(Ru.gtr r).1.2) (some (Ru.gtr r).1.1) (acc++[(Ru.gtr r).1]) (Ru.gtr r).2.1:=by
 obtain⟨f,rfl⟩:∃g,f=g+1:=⟨f-1,om⟩
 rw[Ru.gr,Ng om];unfold Ru.gtr;by_cases h:(Tm.rd 64 r).2.2≠0
 ·rw[Ps0 h,Ps0 h,Ps0 h]
 ·rw[Ng h,Ng h];simp only[Bz]
structure MM (w:World) (p n gl:Nat) (Q:List Xt×List Bool×Int) (m:Nat) (A2:Option Addr) (n2 c2:Nat) (W:World) (f:Nat) (last:Option Nat) (acc:List Xt) (r2:List Bool) (lv lc:Nat):Prop where
 fuel:m≤f
 tot:Ru.tot acc+m=n
 all:∀q∈acc,1≤q.2∧q.2≤128
 gr:Ru.gr f m last acc r2=Q
 own:oH W w.heap.size A2 n2 c2 acc
 br:Br W p r2
 grown:w.grownBy W (some p)
 row:W.heap[gl]? =some (.cells #[.int .u64 (lv:Int),.int .i64 (lc:Int)] 378 (0,0))
 ko:(last=none∧lc=128)∨(last=some lv∧lc<128)
 apart:ab A2≠some gl
theorem Ru.MN:∀{acc:List Xt},(∀q∈acc,1≤q.2∧q.2≤128)→acc.length≤Ru.tot acc
 |[],_=>sm
 |q::acc,h=>by
  have h1:=Ru.MN (acc:=acc) (fun q hq=>h q (kH _ hq));have h2:=(h q jQ).1;unfold Ru.tot at*;simp only[Lc,Az,AZ];omega
theorem Pb {w wr w2 p n m n2 c2 f lv lc x cn A2 Q last acc r2 r3}
  (I:MM w p n w.heap.size Q m A2 n2 c2 wr f last acc r2 lv lc) (hst:Q=Ru.gr (f-1) (m-cn) (some x) (acc++[(x,cn)]) r3) (h1:1≤cn) (h2:cn≤128) (hcm:cn≤m) (hp:p<w.heap.size)
  (hb2:Br w2 p r3) (hg2:wr.grownBy w2 (some p)) (hr2:(w2.alloc (.cells #[.int .u64 (x:Int),.int .i64 (cn:Int)] 378)).heap[w.heap.size]? =some (.cells #[.int .u64 (lv:Int),.int .i64 (lc:Int)] 378 (0,0))):
  ∀(o) (A4) (c4) (w5),oH w5 w.heap.size A4 (n2+1) c4 (acc++[(x,cn)])→((w2.alloc (.cells #[.int .u64 (x:Int),.int .i64 (cn:Int)] 378)).alloc o).grownBy w5 (ab A2)→
   (ab A4=ab A2∨ab A4=some (w2.heap.size+1+1))→cn<128→MM w p n w.heap.size Q (m-cn) A4 (n2+1) c4 (wP w5 w.heap.size (.int .u64 (x:Int)) (.int .i64 (cn:Int))) (f-1) (some x) (acc++[(x,cn)]) r3 x cn:=by
 intro o A4 c4 w5 hown hgr hat hlt;have hz:=I.grown.size;have hz2:=hg2.size;have hgl:=(Ge.1 I.row).1;have ha2:∀g,ab A2=some g→w.heap.size<g∧g<wr.heap.size:=fun g e=>by
  have h:=ae I.own g e;have h3:g≠w.heap.size:=fun e2=>I.apart (by rw[e,e2])
  omega
 have ga:w2.grownBy ((w2.alloc (.cells #[.int .u64 (x:Int),.int .i64 (cn:Int)] 378)).alloc o) none:=(Ga w2 (.cells #[.int .u64 (x:Int),.int .i64 (cn:Int)] 378) none).trans (Ga _ o none);have hap:ab A4≠some w.heap.size:=fun e=>by
  rcases hat with h|h
  ·exact I.apart (h.symm.trans e)
  ·have:=Oj (h.symm.trans e);omega
 have gp:=eD w5 w.heap.size (.int .u64 (x:Int)) (.int .i64 (cn:Int));have Lm:=(hgr.block w.heap.size (by simp;omega) (fun e=>(I.apart e.symm))).trans ((Aw (w2.alloc (.cells #[.int .u64 (x:Int),.int .i64 (cn:Int)] 378)) o _ (by simp;omega)).trans hr2);refine⟨by have:=I.fuel;omega,?_,?_,hst.symm,ag hown gp (.inr hap),?_,?_,lC w5 w.heap.size _ _ Lm rfl,.inr ⟨rfl,hlt⟩,hap⟩
 ·have:=I.tot;unfold Ru.tot at*;simp only[dR,Dv,Az,List.map_nil,AZ,List.sum_nil];omega
 ·intro q hq;rcases je.1 hq with h|h
  ·exact I.all q h
  ·rw[gJ.1 h];exact⟨h1,h2⟩
 ·exact((hb2.grown ga (fun g e=>by cases e)).grown hgr (fun g e=>by have:=(ha2 g e).1;omega)).grown gp (fun g e=>by cases e;exact hp)
 ·have h1:w.grownBy w2 (some p):=I.grown.trans hg2;have h2:w.grownBy ((w2.alloc (.cells #[.int .u64 (x:Int),.int .i64 (cn:Int)] 378)).alloc o) (some p):=h1.andThen ga (fun j hj=>by cases hj);exact(h2.andThen hgr (fun j hj=> .inl (by have:=(ha2 j hj).1;omega))).andThen gp (fun j hj=> .inl (by cases hj;exact Nr _))
theorem TP (p n:Nat) (r w) (h:Br w p r) (hn:n≤127):
  Calls prog 220 #[.pointer (some ⟨p,0,none⟩),.int .i64 (n:Int)] w fun e w'=>∃A2 n2 c2,e= .returned (.tuple #[.slice A2 n2 c2,.int .i64 (Ru.dec n r).2.2])∧aJ w' w.heap.size A2 n2 c2 (Ru.dec n r).1∧Br w' p (Ru.dec n r).2.1∧w.grownBy w' (some p):=by
 have mq:=h.lt;obtain⟨W0,hW0⟩:∃W0,W0=w.alloc (.cells #[.int .u64 0,.int .i64 128] 378):=⟨_,rfl⟩
 have gn0:w.grownBy W0 none:=by rw[hW0];exact Ga _ _ _
 have gp0:w.grownBy W0 (some p):=by rw[hW0];exact Ga _ _ _
 obtain⟨Q,hQ⟩:∃Q,Ru.gr n n none [] r=Q:=⟨_,rfl⟩
 have hD:Ru.dec n r=(Ru.join Q.1,Q.2):=by unfold Ru.dec;rw[hQ]
 have I0:MM w p n w.heap.size Q n none 0 0 W0 n none [] r 0 128:=
  ⟨Nr _,by simp[Ru.tot],sm,hQ,⟨rfl,.inl ⟨rfl,rfl⟩⟩,h.grown gn0 (fun g e=>by cases e),gp0,by rw[hW0];exact Av w _,.inl ⟨rfl,rfl⟩,by simp[ab]⟩
 rw[hD];have HW0:=Aj hW0.symm;have hn0:¬(n:Int)<0:=om;have hwz:Kept (p<w.heap.size):=⟨mq⟩
 clear h hW0 gn0 gp0 hQ hD;go_enter func220,ntmps220;go_wp2;rw[HW0.1];go_loopw [1,6] (fun mv v wr=>∃(m:Nat) (A2:Option Addr) (n2 c2 f:Nat) (last:Option Nat) (acc:List Xt) (r2:List Bool) (lv lc:Nat),mv= .int .i64 m∧v= .slice A2 n2 c2∧m≤n∧MM w p n w.heap.size Q m A2 n2 c2 wr f last acc r2 lv lc) (fun mv _ _=>(intOf mv).toNat)
 case atStart=>exact⟨n,none,0,0,n,none,[],r,0,128,rfl,rfl,Nr _,I0⟩
 case round=>
  clear I0 HW0;obtain⟨m,A2,n2,c2,f,last,acc,r2,lv,lc,rfl,rfl,hmn,I⟩:=hrel;have HI:=Aj I;clear I;by_cases hm0:m=0
  ·subst hm0;have hq:Kept (Q=(acc,r2,0)):=⟨by rw[←HI.1.gr,Ru.Xv]⟩
   have J:=Aj (O0 A2 n2 c2 _ acc wr HI.1.own.rd Ai (fun q hq=>(HI.1.all q hq).2) (by have:=HI.1.tot;omega));go_wp2_with (go_at_call 260;refine J.1.mono ?_;rintro e w1 ⟨A3,n3,c3,rfl,ho,hb⟩;have O1:=Aj ho;have B1:=Aj hb;clear ho hb);go_ret2;rw[hq.1];exact⟨A3,n3,c3,rfl,Kg O1.1 HI.1.grown.size,HI.1.br.below B1.1 HI.1.br.lt,HI.1.grown.andThen (row':=none) ⟨B1.1.os,B1.1.tape,B1.1.output,B1.1.size,fun k hk _=>B1.1.block k hk⟩ (fun j hj=>by cases hj)⟩
  ·have hm':(0:Int)< (m:Int):=by omega
   have GR:=Aj (Ko p r2 wr HI.1.br);have hst:=Aj (Ru.Xw om HI.1.fuel last acc r2);rw[HI.1.gr]at hst;have Xx:(Ru.gtr r2).2.2=0→1≤(Ru.gtr r2).1.2∧(Ru.gtr r2).1.2≤128:=fun h=>by
    unfold Ru.gtr at h⊢;have h7:=Tm.jH 7 (Tm.rd 64 r2).2.1;by_cases h0:(Tm.rd 64 r2).2.2≠0
    ·rw[Ps0 h0]at h;exact absurd h h0
    ·rw[Ng h0];simp only[];omega
   obtain⟨X,hX⟩:∃X,X=Ru.gtr r2:=⟨_,rfl⟩
   rw[←hX]at GR hst Xx;clear hX;obtain⟨⟨x,cn⟩,r3,e1⟩:=X;simp only[]at GR hst Xx;by_cases he:e1=0
   ·subst he;rw[Ng sm]at hst;obtain⟨hc1,hc2⟩:=Xx rfl;by_cases hbad:m<cn∨last=some x
    ·rw[Ps0 hbad]at hst;have hcs:(m:Int)< (cn:Int)∨(¬(m:Int)< (cn:Int)∧((x:Int)==(lv:Int))=true∧(lc:Int)<128):=by
      rcases hbad with h|h
      ·exact .inl om
      ·by_cases h1:(m:Int)< (cn:Int)
       ·exact .inl h1
       ·rcases HI.1.ko with⟨h2,_⟩|⟨h2,h3⟩
        ·rw[h2]at h;cases h
        ·rw[h2]at h;exact .inr ⟨h1,by simp;rw[Oj h],om⟩
     clear hbad;rcases hcs with hcs|⟨hcs1,hcs2,amb⟩
     all_goals
      go_wp2_with (go_at_call 259;refine GR.1.mono ?_;rintro e w2 ⟨rfl,hb2,hg2⟩;have B2:=Aj hb2;have G2:=Aj (HI.1.grown.trans hg2);have hrow:=(hg2.block _ (Ge.1 HI.1.row).1 (fun e=>by have:=Oj e;have:=hwz.1;omega)).trans HI.1.row;have ga:=Ga w2 (.cells #[.int .u64 (x:Int),.int .i64 (cn:Int)] 378) none;have hrow2:=(ga.block _ (Ge.1 hrow).1 (fun e=>by cases e)).trans hrow;have k0:=Co _ _ 0 _ _ _ hrow2;have k1:=Co _ _ 1 _ _ _ hrow2;have BA:=Aj (B2.1.grown ga (fun g e=>by cases e));have GA:=Aj (G2.1.trans (Ga w2 (.cells #[.int .u64 (x:Int),.int .i64 (cn:Int)] 378) _));clear hb2 hg2 hrow ga hrow2);go_ret2;rw[hst.1];exact⟨none,0,0,rfl,⟨rfl,.inl ⟨rfl,rfl⟩⟩,BA.1,GA.1⟩
    ·rw[Ng hbad]at hst;have hcm:cn≤m:=om;have hcs:((x:Int)==(lv:Int))=false∨(((x:Int)==(lv:Int))=true∧lc=128):=by
      by_cases h:x=lv
      ·rcases HI.1.ko with⟨_,h2⟩|⟨h2,_⟩
       ·exact .inr ⟨by simp[h],h2⟩
       ·exact absurd (.inr (by rw[h2,h])) hbad
      ·exact .inl (by simp;omega)
     have hcm1:¬(m:Int)< (cn:Int):=om;clear hbad;rcases hcs with hcs|⟨hcs1,hcs2⟩
     all_goals
      go_upto_region 13 with(go_at_call 259;refine GR.1.mono ?_;rintro e w2 ⟨rfl,hb2,hg2⟩;have B2:=Aj hb2;have G2:=Aj hg2;have hrow:=(hg2.block _ (Ge.1 HI.1.row).1 (fun e=>by have:=Oj e;have:=hwz.1;omega)).trans HI.1.row;have ga:=Ga w2 (.cells #[.int .u64 (x:Int),.int .i64 (cn:Int)] 378) none;have hrow2:=(ga.block _ (Ge.1 hrow).1 (fun e=>by cases e)).trans hrow;have k0:=Co _ _ 0 _ _ _ hrow2;have k1:=Co _ _ 1 _ _ _ hrow2;have HR2:=Aj hrow2;clear hb2 hg2 hrow ga hrow2)
      obtain⟨gx,hgx⟩:∃gx,gx=w2.heap.size:=⟨_,rfl⟩
      have T:=Aj (Pb HI.1 hst.1 hc1 hc2 hcm mq B2.1 G2.1 HR2.1);rw[←hgx]at T;have hn0:=Av w2 (.cells #[.int .u64 (x:Int),.int .i64 (cn:Int)] 378);rw[←hgx]at hn0⊢;have hzx:w.heap.size<gx:=by rw[hgx];have h1:=HI.1.grown.size;have h2:=G2.1.size;have h3:=(Ge.1 HI.1.row).1;omega
      have hlA:∀g,ab A2=some g→g<gx∧g≠w.heap.size:=fun g e=>⟨by rw[hgx];have h1:=(ae HI.1.own g e).2;have h2:=G2.1.size;omega,fun e2=>HI.1.apart (by rw[e,e2])⟩
      have hO3:=Aj (show oH (w2.alloc (.cells #[.int .u64 (x:Int),.int .i64 (cn:Int)] 378)) w.heap.size A2 n2 c2 acc from Oa (lu HI.1.own G2.1 mq) _);have hz3:(w2.alloc (.cells #[.int .u64 (x:Int),.int .i64 (cn:Int)] 378)).heap.size=gx+1:=by rw[hgx];simp
      have hn2:n2≤127:=by
       have h1:=HI.1.own.len;have h2:=Ru.MN HI.1.all;have h3:=HI.1.tot;omega
      have hst':=hst;clear hgx k0 k1 hst;generalize w2.alloc (.cells #[.int .u64 (x:Int),.int .i64 (cn:Int)] 378)=W3 at*;have hz5:Kept (∀o,(W3.alloc o).heap.size=gx+1+1):=⟨fun o=>by simp;omega⟩
      have hcn:Kept (cn<128):=⟨om⟩
      have d0:W3.cell? ⟨gx,0,none⟩=some (.int .u64 (x:Int)):=Co _ _ 0 _ _ _ hn0;have d1:W3.cell? ⟨gx,1,none⟩=some (.int .i64 (cn:Int)):=Co _ _ 1 _ _ _ hn0;have e0:∀o,(W3.alloc o).cell? ⟨gx,0,none⟩=some (.int .u64 (x:Int)):=fun o=>(AB _ _ ⟨gx,0,none⟩ (by show gx<_;omega)).trans d0
      have e1:∀o,(W3.alloc o).cell? ⟨gx,1,none⟩=some (.int .i64 (cn:Int)):=fun o=>(AB _ _ ⟨gx,1,none⟩ (by show gx<_;omega)).trans d1
      have f0:=Fr _ _ 0 _ _ HR2.1;have f1:=Fr _ _ 1 _ _ HR2.1;have k0:W3.cell? ⟨w.heap.size,0,none⟩=some (.int .u64 (lv:Int)):=Co _ _ 0 _ _ _ HR2.1;have k1:W3.cell? ⟨w.heap.size,1,none⟩=some (.int .i64 (lc:Int)):=Co _ _ 1 _ _ _ HR2.1;go_region_held3 (fun w'=>w'.cell? ⟨gx,0,none⟩=some (.int .u64 (x:Int))∧w'.cell? ⟨gx,1,none⟩=some (.int .i64 (cn:Int))) (first|exact⟨d0,d1⟩|exact⟨e0 _,e1 _⟩|exact k9|exact k10 _ _)
       ((refine Kq ?g1 (.tmp 43) (.tmp 45) ?g2 w.heap.size A2 n2 c2 acc ?g3 ?g4 (gx+1+1) (some ⟨gx+1,0,none⟩) 1 1 [(x,cn)] ?g5 ?g6 ?g7 ?g8 ?_;(case g1=>rfl);(case g2=>rfl);(case g3=>rfl);(case g5=>(rw[←hz3];rfl));(case g4=>exact Oa hO3.1 _);(case g6=>(rw[←hz3];exact qm.lit W3 [(x,cn)] (0,0) sm));(case g7=>omega);(case g8=>(simp;omega));intro A4 c4 w5 hown hgrow hat;have wK:(W3.alloc (.cells #[.int .u64 (x:Int),.int .i64 (cn:Int)] 378)).grownBy w5 (ab A2):=⟨hgrow.os,hgrow.tape,hgrow.output,hgrow.size,hgrow.block⟩;have hx5:w5.heap[gx]? =(W3.alloc (.cells #[.int .u64 (x:Int),.int .i64 (cn:Int)] 378)).heap[gx]?:=wK.block gx (by simp;omega) (fun e=>absurd (hlA gx e.symm).1 (Ez _));have k9:w5.cell? ⟨gx,0,none⟩=some (.int .u64 (x:Int))∧w5.cell? ⟨gx,1,none⟩=some (.int .i64 (cn:Int)):=⟨(AR (a:=⟨gx,0,none⟩) hx5).trans (e0 _),(AR (a:=⟨gx,1,none⟩) hx5).trans (e1 _)⟩;have k10:∀a b:Value,((w5.setCell ⟨w.heap.size,0,none⟩ a).setCell ⟨w.heap.size,1,none⟩ b).cell? ⟨gx,0,none⟩=some (.int .u64 (x:Int))∧((w5.setCell ⟨w.heap.size,0,none⟩ a).setCell ⟨w.heap.size,1,none⟩ b).cell? ⟨gx,1,none⟩=some (.int .i64 (cn:Int)):=fun a b=>⟨(AR (a:=⟨gx,0,none⟩) ((eD w5 w.heap.size a b).block gx (Bc w5 ⟨gx,0,none⟩ k9.1) (fun e=>by have:=Oj e;omega))).trans k9.1,(AR (a:=⟨gx,1,none⟩) ((eD w5 w.heap.size a b).block gx (Bc w5 ⟨gx,0,none⟩ k9.1) (fun e=>by have:=Oj e;omega))).trans k9.2⟩;have Lm:=(wK.block w.heap.size (by simp;omega) (fun e=>(hlA _ e.symm).2 rfl)).trans ((Aw W3 _ _ om).trans HR2.1);have g0:=Fr _ _ 0 _ _ Lm;have g1:=Fr _ _ 1 _ _ Lm;have q0:w5.cell? ⟨w.heap.size,0,none⟩=some (.int .u64 (lv:Int)):=Co _ _ 0 _ _ _ Lm;have q1:w5.cell? ⟨w.heap.size,1,none⟩=some (.int .i64 (lc:Int)):=Co _ _ 1 _ _ _ Lm;have T5:=Aj (T.1 _ A4 c4 w5 hown wK (by rcases hat with h|h<;>rw[h]<;>simp[hz3]) hcn.1);have X5:=Aj hx5;have XG:=Aj wK;clear hown hgrow wK hx5 Lm hat))
      obtain⟨kx,kc⟩:=k10 (.int .u64 (x:Int)) (.int .i64 (cn:Int));go_wp2;go_roundw
      case rel=>exact⟨m-cn,A4,n2+1,c4,f-1,some x,acc++[(x,cn)],r3,x,cn,congrArg (Value.int .i64) (show(m:Int)-(cn:Int)=((m-cn:Nat):Int)from om),rfl,om,T5.1⟩
      case measure=>simp[intOf];omega
   ·rw[Ps0 he]at hst;have hne:(e1 !=0)=true:=by simpa using he
    clear he Xx;go_wp2_with (go_at_call 259;refine GR.1.mono ?_;rintro e w2 ⟨rfl,hb2,hg2⟩;have B2:=Aj hb2;have G2:=Aj (HI.1.grown.trans hg2);have ga:=Ga w2 (.cells #[.int .u64 (x:Int),.int .i64 (cn:Int)] 378) none;have BA:=Aj (B2.1.grown ga (fun g e=>by cases e));have GA:=Aj (G2.1.trans (Ga w2 (.cells #[.int .u64 (x:Int),.int .i64 (cn:Int)] 378) _));clear hb2 hg2 ga);go_ret2;rw[hst.1];exact⟨none,0,0,rfl,⟨rfl,.inl ⟨rfl,rfl⟩⟩,BA.1,GA.1⟩
end
section
open Go.Shelf
def wQ (w:World):Prop:=TabAt 2 Lib.deBruijn64tab w
theorem Xy (x:Nat) (hx:x<18446744073709551616) (w):
  Calls prog 238 #[.int .u64 (x:Int)] w fun e w'=>e= .returned (.int .i64 ((Di.bl x:Nat):Int))∧w'=w:=by
 have h:=Any.bits_Len64 (P:=prog) (ρ:=Tryz.sortS_ren) {Tryz.sortS with} (x:Int) w om om;rw[kz,bitLen_eq _ hx]at h;exact h
theorem adq (x:Nat) (hx:x<18446744073709551616) (w):
  Calls prog 294 #[.int .u64 (x:Int)] w fun e w'=>e= .returned (.int .i64 ((Xo.lz x:Nat):Int))∧w'=w:=by
 have L:=Aj (Xy x hx w);have hb:Di.bl x≤64:=Xo.Rh (n:=64) om;have he:Kept (((Xo.lz x:Nat):Int)=64-((Di.bl x:Nat):Int)):=⟨by unfold Xo.lz;omega⟩
 rw[he.1];generalize Di.bl x=q at*;go_enter func294,ntmps294;go_wp2_with (go_at_call 238;refine L.1.mono ?_;rintro e w1 ⟨rfl,rfl⟩);go_ret;exact⟨rfl,rfl⟩
theorem Hu:∀(f x),Lib.ctzFrom f x=Xo.tz f x
 |0,_=>rfl
 |f+1,x=>by rw[Lib.ctzFrom,Xo.tz,Hu f]
theorem MO:∀f:Nat,Xo.tz f 0=f
 |0=>rfl
 |f+1=>by rw[Xo.tz,Ng Ah,Nat.zero_div,MO f];omega
theorem aaF (f x):Lib.ctz f x=Xo.tz f x:=by
 unfold Lib.ctz;by_cases h:x=0
 ·subst h;rw[Ps0 rfl,MO]
 ·rw[Ng h,Hu]
theorem TQ (x k idx:Nat) (w) (hx0:((x:Int)==0)=false)
  (key:IntKind.u64.wrap (bits BinOp.and IntKind.u64 (x:Int) (IntKind.u64.wrap (-(x:Int)))*285870213051353865)/288230376151711744=(idx:Int))
  (hi:idx<64) (hk:k<64) (hcell:w.cell? ⟨2,idx,none⟩=some (.int .u8 k)):
  Calls prog 295 #[.int .u64 (x:Int)] w fun e w'=>e= .returned (.int .i64 k)∧w'=w:=by
 go_enter func295,ntmps295;go_wp2_with (simp only[key]);go_ret;exact⟨rfl,rfl⟩
theorem Xz (w):Calls prog 295 #[.int .u64 0] w fun e w'=>e= .returned (.int .i64 64)∧w'=w:=by
 go_enter func295,ntmps295;go_wp2;go_ret;exact⟨rfl,rfl⟩
theorem adr (x:Nat) (hx:x<18446744073709551616) (w) (hT:wQ w):
  Calls prog 295 #[.int .u64 (x:Int)] w fun e w'=>e= .returned (.int .i64 ((Xo.tz 64 x:Nat):Int))∧w'=w:=by
 rw[←aaF];by_cases h0:x=0
 ·subst h0;exact Xz w
 ·obtain⟨hlow,hk⟩:=Lib.lowest_bit 64 x h0 hx;obtain⟨hi,htab⟩:=Lib.deBruijn64_at _ hk;have hcell:=hT _ hi;rw[htab]at hcell;exact TQ x _ _ w (by simp;omega) (tz64_key x _ hx h0 hlow) hi hk hcell
def wv (c:Nat×Nat):Value:= .agg #[.int .i64 (c.1:Int),.int .i64 (c.2:Int)]
theorem bG {P:Program} {fn:Func} {a:Tmp} {T1:TypeId} (h:fn.results= #[.cell a T1]) (tmps:Array Value) (w:World) (g1:Nat) (cs1:Array Value) (t1:TypeId) (f1:Nat×Nat) (d1:TypeDesc)
  (ha:tmps.getD a undef= .pointer (some ⟨g1,0,none⟩)) (hg1:w.heap[g1]? =some (.cells cs1 t1 f1))
  (hu1:P.underlying T1=some d1) (hd1:(match d1 with| .struct _| .array _ _=>true|_=>false)=true) (hi1:(P.info? T1).map (·.size)=some cs1.size):
  (results fn tmps).run P w= .ok (.agg cs1) w:=by
 have ha':tmps[a]?.getD undef= .pointer (some ⟨g1,0,none⟩):=by simpa using ha
 simp[results,h,ha',asAddr,run_loadVar_row w g1 t1 T1 cs1 f1 d1 hg1 hu1 hd1 hi1]
theorem Gr.TS (w t x y a b):Gr w (wP (w.alloc (.cells #[x,y] t)) w.heap.size a b):=by
 refine⟨0,#[.cells #[a,b] t],?_⟩;have e:∀(p q:Value) (k:Nat) (v:Value),(w.alloc (.cells #[p,q] t)).setCell ⟨w.heap.size,k,none⟩ v=w.alloc (.cells (#[p,q].setIfInBounds k v) t):=fun p q k v=>by
  unfold World.setCell World.alloc
  congr 1
  apply Array.ext_getElem?;intro j;simp only[DK,Array.getElem?_push];by_cases hj:w.heap.size=j
  ·subst hj;simp
  ·simp[hj,show¬j=w.heap.size from om]
 unfold wP;rw[e x y 0 a];have h0:(#[x,y].setIfInBounds 0 a)= #[a,y]:=sm;rw[h0,e a y 1 b];have h1:(#[a,y].setIfInBounds 1 b)= #[a,b]:=sm;rw[h1,←Sort.alloc_eq_grow]
 rfl
theorem jY (x:Nat) (hx:x<18446744073709551616) (h0:x≠0) (w) (hT:wQ w) (hg:2<w.heap.size):
  Calls prog 279 #[.int .u64 (x:Int)] w fun e w'=>e= .returned (wv (Xo.win x))∧Gr w w':=by
 obtain⟨W0,hW0⟩:∃W0,W0=w.alloc (.cells #[.int .i64 0,.int .i64 0] 368):=⟨_,rfl⟩
 have hT0:wQ W0:=fun j hj=>by rw[hW0];exact(AB _ _ ⟨_,j,none⟩ hg).trans (hT j hj)
 have hr0:W0.heap[w.heap.size]? =some (.cells #[.int .i64 0,.int .i64 0] 368 (0,0)):=by rw[hW0];exact Av w _
 have C1:=Aj (adq x hx W0);have C2:=Aj (adr x hx W0 hT0);obtain⟨w1,w2,w3,w4,-⟩:=Xo.kX (x:=x) hx h0;have ht:=Xo.Rf 64 x;have hwn:Xo.win x=(Xo.lz x,64-Xo.lz x-Xo.tz 64 x):=rfl;have hwd:(64:Int)-((Xo.lz x:Nat):Int)-((Xo.tz 64 x:Nat):Int)=(((Xo.win x).2:Nat):Int):=by
  rw[hwn]at w1 w2 w3⊢;simp only[]at w1 w2 w3⊢;omega
 have hl:Xo.lz x=(Xo.win x).1:=rfl;rw[hl]at C1 hwd;generalize Xo.win x=c at*;obtain⟨a,b⟩:=c;simp only[]at*;generalize Xo.tz 64 x=t at*;have hGR:=Aj (Gr.TS w 368 (.int .i64 0) (.int .i64 0) (.int .i64 (a:Int)) (.int .i64 (b:Int)));rw[←hW0]at hGR;have k0:=Fr _ _ 0 _ _ hr0;have k1:=Fr _ _ 1 _ _ hr0;have c0:=Co _ _ 0 _ _ _ hr0;have c1:=Co _ _ 1 _ _ _ hr0;have HR0:=Aj hr0;have HW0:=Aj hW0.symm;clear hwn hT hT0 hr0 hW0 hx h0 hl w4;go_enter func279,ntmps279;go_wp2_with (first
  |(go_at_call 295;refine C2.1.mono ?_;rintro e w1 ⟨rfl,rfl⟩)
  |(go_at_call 294;rw[HW0.1];refine C1.1.mono ?_;rintro e w1 ⟨rfl,rfl⟩))
 refine Bi (v:= .agg #[.int .i64 (a:Int),.int .i64 (b:Int)]) ?_ rfl ⟨rfl,hGR.1⟩;exact bG (fn:=Tryz.f279) (a:=2) (T1:=368) rfl _ _ w.heap.size _ _ _ _ rfl (lC _ w.heap.size (.int .i64 (a:Int)) (.int .i64 (b:Int)) HR0.1 rfl) underlying368 rfl kr
theorem ik (c) (hc:c.1+c.2≤64) (w):
  Calls prog 278 #[wv c] w fun e w'=>e= .returned (.int .i64 ((Xo.trail c:Nat):Int))∧Gr w w':=by
 obtain⟨a,b⟩:=c;have ht:Kept (((Xo.trail (a,b):Nat):Int)=64-(a:Int)-(b:Int)):=⟨by unfold Xo.trail;simp only[]at*;omega⟩
 rw[ht.1];simp only[]at hc;unfold wv;have G0:=Aj ((Gr.refl w).alloc (.cells #[.int .i64 (a:Int),.int .i64 (b:Int)] 368));go_enter func278,ntmps278;go_wp2;go_ret;exact⟨rfl,G0.1⟩
end
section
open Go.Shelf
def Wn (w:World) (g k:Nat) (c:Nat×Nat):Prop:=w.cell? ⟨g,k,none⟩=some (.int .i64 (c.1:Int))∧w.cell? ⟨g,k+1,none⟩=some (.int .i64 (c.2:Int))
theorem Wn.gr {w w' g k c} (h:Wn w g k c) (hg:Gr w w') (hl:g<w.heap.size):Wn w' g k c:=⟨(hg.cell g k hl).trans h.1,(hg.cell g (k+1) hl).trans h.2⟩
theorem Wn.lt {w g k c} (h:Wn w g k c):g<w.heap.size:=Bc w ⟨g,k,none⟩ h.1
theorem Wn.mv {w w' g k c} (h:Wn w g k c) (hg:Gr w w'):Wn w' g k c:=h.gr hg h.lt
theorem Hw (g x:Nat) (c) (hx:x<18446744073709551616) (h0:x≠0) (hc:Xo.Cw c) (w) (hT:wQ w) (hg:2<w.heap.size) (hw:Wn w g 1 c) (hl:g<w.heap.size):
  Calls prog 280 #[.pointer (some ⟨g,0,none⟩),.int .u64 (x:Int)] w fun e w'=>e= .returned (.bool (Xo.fits c x))∧Gr w w':=by
 have WO:=Aj (jY x hx h0 w hT hg);obtain⟨w1,w2,w3,w4,-⟩:=Xo.kX (x:=x) hx h0;have hf:Kept (Xo.fits c x=(c !=(0,0)&& (decide (c.1≤(Xo.win x).1)&&decide (Xo.trail c≤Xo.trail (Xo.win x))))):=⟨rfl⟩
 rw[hf.1];generalize Xo.win x=v at*;obtain⟨p,q⟩:=v;have T1:=Aj (ik (p,q) w2);unfold wv at WO T1;have HW:=Aj hw;obtain⟨c1,c2⟩:=hw;clear hf hT hx h0 w4;by_cases hcz:c=(0,0)
 ·subst hcz;go_enter func280,ntmps280;go_wp2;go_ret;exact⟨rfl,Gr.refl w⟩
 ·have T2:=Aj (ik c (by rcases hc with h|h;exact absurd h hcz;exact h.2));unfold wv at T2;obtain⟨a,b⟩:=c;simp only[]at*;have hab:¬((a:Int)=0)∨(((a:Int)=0)∧¬((b:Int)=0)):=by
   by_cases h1:a=0
   ·refine .inr ⟨om,fun h2=>hcz ?_⟩;rw[h1,show b=0 from om]
   ·exact .inl om
  have hne:Kept (((a,b) !=((0:Nat),(0:Nat)))=true):=⟨by simpa using hcz⟩
  rcases hab with ha|⟨ha,hb⟩
  all_goals
   go_enter func280,ntmps280;go_wp2_with (go_at_call 279;refine WO.1.mono ?_;rintro e w5 ⟨rfl,g5⟩;have G5:=Aj g5;have Hz:=Aj (HW.1.gr g5 hl);clear g5);have k6:Wn (w5.alloc (.cells #[.int .i64 (p:Int),.int .i64 (q:Int)] 368)) w5.heap.size 0 (p,q)∧Wn (w5.alloc (.cells #[.int .i64 (p:Int),.int .i64 (q:Int)] 368)) g 1 (a,b):=
    ⟨⟨Co _ _ 0 _ _ _ (Av w5 _),Co _ _ 1 _ _ _ (Av w5 _)⟩,Hz.1.mv ((Gr.refl w5).alloc _)⟩
   have G6:=Aj (G5.1.alloc (.cells #[.int .i64 (p:Int),.int .i64 (q:Int)] 368));generalize w5.alloc (.cells #[.int .i64 (p:Int),.int .i64 (q:Int)] 368)=W6 at*;generalize w5.heap.size=h at*;have MV:=Aj (show∀w1 w2,(Wn w1 h 0 (p,q)∧Wn w1 g 1 (a,b))→Gr w1 w2→(Wn w2 h 0 (p,q)∧Wn w2 g 1 (a,b))from fun w1 w2 k hg=>⟨k.1.mv hg,k.2.mv hg⟩);have T2:=T2
   (try rw[ha]at T2)
   have KP:=Aj k6;unfold Wn at k6 MV KP;simp only[cK,Nat.reduceAdd]at k6 MV KP;obtain⟨tv,htv⟩:∃tv,Xo.trail (p,q)=tv:=⟨_,rfl⟩
   obtain⟨tc,htc⟩:∃tc,Xo.trail (a,b)=tc:=⟨_,rfl⟩
   rw[htv]at T1;rw[htc]at T2;have HTV:=Aj htv;have HTC:=Aj htc;clear htv htc;clear WO HW c1 c2 hc G5 Hz;have hap:(a≤p∧(a:Int)≤(p:Int))∨(¬a≤p∧decide ((a:Int)≤(p:Int))=false):=by
    by_cases h:a≤p
    ·exact .inl ⟨h,om⟩
    ·exact .inr ⟨h,AF om⟩
   rcases hap with⟨hap,agN⟩|⟨hap,agN⟩
   ·go_region_held3 (fun w'=>(w'.cell? ⟨h,0,none⟩=some (.int .i64 (p:Int))∧w'.cell? ⟨h,1,none⟩=some (.int .i64 (q:Int)))∧w'.cell? ⟨g,1,none⟩=some (.int .i64 (a:Int))∧w'.cell? ⟨g,2,none⟩=some (.int .i64 (b:Int))) (first|exact k6|exact ka|exact kb)
     (first
      |(go_at_call 278;refine(T1.1 _).mono ?_;rintro e wa ⟨rfl,ga⟩;have ka:=MV.1 _ wa (by first|exact kb|exact k6) ga;have GA:=Aj (show Gr w wa from(by first|exact GB.1.trans ga|exact(G6.1.drew).trans ga));clear ga)
      |(go_at_call 278;refine(T2.1 _).mono ?_;rintro e wb ⟨rfl,gb⟩;have kb:=MV.1 _ wb (by first|exact ka|exact k6) gb;have GB:=Aj (show Gr w wb from(by first|exact GA.1.trans gb|exact(G6.1.drew).trans gb));clear gb))
    all_goals
     go_wp2;go_ret;rw[hne.1];refine⟨?_,(by first|exact GB.1|exact GA.1)⟩;show Ending.returned (Value.bool (decide (tc≤tv)))=_;rw[HTV.1,HTC.1];simp[hap]
   ·first
    |(exfalso;omega)
    |(go_quiet (fail)
      go_wp2;go_ret;rw[hne.1];refine⟨by simp[hap],G6.1.drewN _⟩)
end
end Go.Proofs.YtongopommlghgaaGreatDoor
