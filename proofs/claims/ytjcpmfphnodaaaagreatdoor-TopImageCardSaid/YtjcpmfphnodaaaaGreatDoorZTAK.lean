/- Part 11. -/
import Derived.Test.YtjcpmfphnodaaaaGreatDoorZTAJ
import Derived.Test.YtjcpmfphnodaaaaGreatDoorZTAI
namespace Go.Proofs.YtjcpmfphnodaaaaGreatDoor
set_option maxRecDepth 100000
set_option maxHeartbeats 0
open _root_.Go.Proofs.Tryz
namespace Ru
open Bt Tm
def runs:List Nat→List (Nat×Nat)
 |[]=>[]
 |x::l=>match runs l with
  |[]=>[(x,1)]
  |(y,c)::rs=>if x=y then(y,c+1)::rs else(x,1)::(y,c)::rs
def join (rs:List (Nat×Nat)):List Nat:=rs.flatMap fun p=>List.replicate p.2 p.1
def tot (rs:List (Nat×Nat)):Nat:=(rs.map (·.2)).sum
def one (p:Nat×Nat):List Bool:=bw 64 p.1++bw 7 (p.2-1)
def enc (l:List Nat):List Bool:=(runs l).flatMap one
def Good:Option Nat→List (Nat×Nat)→Prop
 |_,[]=>True
 |last,p::rs=>last≠some p.1∧1≤p.2∧p.2≤128∧p.1<2^64∧Good (some p.1) rs
theorem nT (rs):(join rs).length=tot rs:=by
 induction rs with
 |nil=>rfl
 |cons p rs ih=>
  have h:join (p::rs)=List.replicate p.2 p.1++join rs:=rfl;have h2:tot (p::rs)=p.2+tot rs:=by simp[tot]
  rw[h,h2,La,DI,ih]
theorem lF:∀(l),join (runs l)=l
 |[]=>rfl
 |x::l=>by
  have ih:=lF l;rw[runs];cases hr:runs l with
  |nil=>rw[hr]at ih;simp only[join,CR]at ih;simp[join,←ih]
  |cons p rs=>
   obtain⟨y,c⟩:=p;rw[hr]at ih;simp only[];by_cases hx:x=y
   ·subst hx;rw[Ps0 rfl];simp only[join,Aq]at ih⊢;rw[List.replicate_succ,AU,ih]
   ·rw[Ng hx];simp only[join,Aq]at ih⊢;rw[ih];rfl
theorem pK:∀(l),l.length≤128→(∀x∈l,x<2^64)→Good none (runs l)
 |[],_,_=>trivial
 |x::l,hl,hx=>by
  simp only[Lc]at hl;have ih:=pK l om (fun y hy=>hx y (nS _ hy));have hj:=congrArg List.length (lF l);rw[nT]at hj;have hx0:=hx x jM;rw[runs];cases hr:runs l with
  |nil=>exact⟨sm,sm,sm,hx0,trivial⟩
  |cons p rs=>
   obtain⟨y,c⟩:=p;rw[hr]at ih hj;simp only[];have hc:c≤l.length:=by
    have:tot ((y,c)::rs)=c+tot rs:=by simp[tot]
    omega
   obtain⟨-,h2,h3,h4,h5⟩:=ih;by_cases hxy:x=y
   ·subst hxy;rw[Ps0 rfl];exact⟨sm,sm,by simp only[];omega,h4,h5⟩
   ·rw[Ng hxy];exact⟨sm,sm,sm,hx0,by simpa using hxy,h2,h3,h4,h5⟩
theorem pM {x} {l} (rs) (hr:runs l=rs) (h:∀p∈rs.head?,p.1≠x):∀(c),runs (List.replicate (c+1) x++l)=(x,c+1)::rs
 |0=>by
  rw[show List.replicate (0+1) x++l=x::l from rfl,runs,hr];cases rs with
  |nil=>rfl
  |cons p rs=>
   obtain⟨y,c⟩:=p;simp only[];rw[Ng (fun e=>h (y,c) rfl e.symm)]
 |c+1=>by
  rw[List.replicate_succ,AU,runs,pM rs hr h c];simp
theorem nU:∀{rs} {last},Good last rs→runs (join rs)=rs
 |[],_,_=>rfl
 |(x,c)::rs,last,h=>by
  obtain⟨-,h2,h3,h4,h5⟩:=h;have ih:=nU h5;obtain⟨k,rfl⟩:∃k,c=k+1:=⟨c-1,by simp only[]at h2;omega⟩
  rw[show join ((x,k+1)::rs)=List.replicate (k+1) x++join rs from rfl];refine pM rs ih (fun p hp=>?_) k;cases rs with
  |nil=>simp at hp
  |cons q rs=>
   simp only[List.head?_cons,Option.mem_def,gV]at hp;subst hp;exact fun e=>h5.1 (by rw[e])
def gr:Nat→Nat→Option Nat→List (Nat×Nat)→List Bool→List (Nat×Nat)×List Bool×Int
 |0,_,_,acc,r=>(acc,r,0)
 |f+1,n,last,acc,r=>if n=0 then(acc,r,0)
  else if(rd 64 r).2.2≠0 then([],(rd 64 r).2)
  else if(rd 7 (rd 64 r).2.1).2.2≠0 then([],(rd 7 (rd 64 r).2.1).2)
  else if n< (rd 7 (rd 64 r).2.1).1+1∨last=some (rd 64 r).1 then([],(rd 7 (rd 64 r).2.1).2.1,8)
  else gr f (n-((rd 7 (rd 64 r).2.1).1+1)) (some (rd 64 r).1) (acc++[((rd 64 r).1,(rd 7 (rd 64 r).2.1).1+1)]) (rd 7 (rd 64 r).2.1).2.1
def dec (n:Nat) (r:List Bool):List Nat×List Bool×Int:=(join (gr n n none [] r).1,(gr n n none [] r).2)
theorem XW {f n} {last} {acc} {x c} (r) (hx:x<2^64) (h1:1≤c) (h2:c≤128) (hc:c≤n) (hl:last≠some x):
  gr (f+1) n last acc (one (x,c)++r)=gr f (n-c) (some x) (acc++[(x,c)]) r:=by
 have e1:x%2^64=x:=jA hx;have e2:(c-1)%2^7=c-1:=jA om;have e3:c-1+1=c:=om;rw[gr,Ng om];unfold one;rw[Af,il,e1];simp only[];rw[il,e2];simp only[];rw[Ng sm,Ng sm,e3,Ng (fun h=>h.elim (fun h=>om) hl)]
theorem PX:∀(rs) (f n) (last) (acc) (r),Good last rs→tot rs=n→n≤f→gr f n last acc (rs.flatMap one++r)=(acc++rs,r,0)
 |[],f,n,last,acc,r,_,ht,hf=>by
  have:n=0:=by rw[←ht];rfl
  subst this;cases f<;>simp[gr]
 |(x,c)::rs,f,n,last,acc,r,hg,ht,hf=>by
  obtain⟨h1,h2,h3,h4,h5⟩:=hg;simp only[]at h1 h2 h3 h4;have ht2:c+tot rs=n:=by rw[←ht];simp[tot]
  obtain⟨f,rfl⟩:∃k,f=k+1:=⟨f-1,om⟩
  rw[Aq,Af,XW _ h4 h2 h3 om h1,PX rs f (n-c) (some x) _ r h5 om om];simp
theorem bT {l} (hl:l.length≤128) (hx:∀x∈l,x<2^64) (r):dec l.length (enc l++r)=(l,r,0):=by
 unfold dec enc;have hj:=congrArg List.length (lF l);rw[nT]at hj;rw[PX (runs l) l.length l.length none [] r (pK l hl hx) hj Ai,Ay,lF]
theorem Wy:∀(f n) (last) (acc) (r) (out) (r'),n≤f→gr f n last acc r=(out,r',0)→
  ∃rs,out=acc++rs∧Good last rs∧tot rs=n∧r=rs.flatMap one++r'
 |0,n,last,acc,r,out,r',hf,h=>by
  simp only[gr,ay]at h;exact⟨[],by simp[h.1],trivial,by simp[tot];omega,by simp[h.2.1]⟩
 |f+1,n,last,acc,r,out,r',hf,h=>by
  rw[gr]at h;by_cases hn:n=0
  ·subst hn;rw[Ps0 rfl]at h;simp only[ay]at h;exact⟨[],by simp[h.1],trivial,by simp[tot],by simp[h.2.1]⟩
  ·rw[Ng hn]at h;obtain⟨x,r1,e1,hg⟩:∃x r1 e1,rd 64 r=(x,r1,e1):=⟨_,_,_,rfl⟩
   rw[hg]at h;simp only[]at h;by_cases he:e1=0
   ·subst he;rw[Ng sm]at h;obtain⟨c,r2,e2,hg2⟩:∃c r2 e2,rd 7 r1=(c,r2,e2):=⟨_,_,_,rfl⟩
    rw[hg2]at h;simp only[]at h;by_cases he2:e2=0
    ·subst he2;rw[Ng sm]at h;by_cases hq:n<c+1∨last=some x
     ·rw[Ps0 hq]at h;simp at h
     ·rw[Ng hq]at h;obtain⟨d1,d2⟩:=jk hg;obtain⟨d3,d4⟩:=jk hg2;obtain⟨rs,h1,h2,h3,h4⟩:=Wy f (n-(c+1)) _ _ _ _ _ om h;refine⟨(x,c+1)::rs,by simp[h1],⟨fun e=>hq (.inr e),sm,by simp only[];omega,d2,h2⟩,?_,?_⟩
      ·have:tot ((x,c+1)::rs)=c+1+tot rs:=by simp[tot]
       omega
      ·rw[Aq,one,d1,d3,h4];simp
    ·rw[Ps0 he2]at h;simp only[ay]at h;exact absurd h.2.2 he2
   ·rw[Ps0 he]at h;simp only[ay]at h;exact absurd h.2.2 he
theorem J7:∀{rs} {last},Good last rs→∀x∈join rs,x<2^64
 |[],_,_,x,hx=>by simp[join]at hx
 |p::rs,_,h,x,hx=>by
  have e:join (p::rs)=List.replicate p.2 p.1++join rs:=rfl;rw[e]at hx;rcases jl.1 hx with hx|hx
  ·rw[(List.mem_replicate.1 hx).2];exact h.2.2.2.1
  ·exact J7 h.2.2.2.2 x hx
theorem fG {n} {r r'} {l} (h:dec n r=(l,r',0)):l.length=n∧(∀x∈l,x<2^64)∧r=enc l++r':=by
 unfold dec at h;obtain⟨out,r2,e,hg⟩:∃out r2 e,gr n n none [] r=(out,r2,e):=⟨_,_,_,rfl⟩
 rw[hg]at h;simp only[ay]at h;obtain⟨rfl,rfl,rfl⟩:=h;obtain⟨rs,h1,h2,h3,h4⟩:=Wy n n none [] r out r2 Ai hg;rw[Ay]at h1;subst h1;refine⟨by rw[nT,h3],J7 h2,?_⟩;unfold enc;rw[nU h2];exact h4
end Ru
namespace Ck
open Bt Tm
theorem lG (b:UInt8) (L:List UInt8):Bt.bits (b::L)=bw 8 b.toNat++Bt.bits L:=by
 apply Dy
 ·rw[La,ik,ik,ak,Lc];omega
 ·intro i h1 h2;rw[ji];by_cases hi:i<8
  ·rw[sP (by rw[ak];exact hi),Ij];unfold bit;rw[show i/8=0 from om,show 7-i%8=8-1-i from om]
   rfl
  ·rw[List.getElem_append_right (by rw[ak];omega),ji];unfold bit;rw[ak,show i/8=(i-8)/8+1 from om,show i%8=(i-8)%8 from om,ku,List.getElem?_cons_succ,←ku]
theorem Ud {L:List UInt8} {bs:List Bool} (h:Wr L bs):∃p,p<8∧Bt.bits L=bs++List.replicate p false:=by
 have hl:=h.len;refine⟨8*L.length-bs.length,om,?_⟩;apply Dy
 ·rw[ik,La,DI];omega
 ·intro i h1 h2;rw[ji];by_cases hi:i<bs.length
  ·rw[sP hi,h.get i hi]
  ·rw[List.getElem_append_right om,List.getElem_replicate,h.pad i om]
theorem aaU {L:List UInt8} {bs:List Bool} {p:Nat} (hp:p<8) (h:Bt.bits L=bs++List.replicate p false):Wr L bs:=by
 have hl:=congrArg List.length h;rw[ik,La,DI]at hl;refine⟨om,fun k hk=>?_,fun k hk=>?_⟩
 ·have h1:k< (Bt.bits L).length:=by rw[ik];omega
  rw[←ji L k h1,List.getElem_of_eq h h1,sP hk]
 ·by_cases h1:k< (Bt.bits L).length
  ·rw[←ji L k h1,List.getElem_of_eq h h1,List.getElem_append_right hk,List.getElem_replicate]
  ·rw[ik]at h1;unfold bit;rw[ku,BC om];simp
def vals (tag:Nat) (l:List Nat):List Bool:=if tag=1 then Xo.enc l else if tag=2 then Ru.enc l else Di.enc l
def gy (tag n:Nat) (r:List Bool):List Nat×List Bool×Int:=if tag=1 then Xo.dec n r else if tag=2 then Ru.dec n r else Di.dec n r
def choose (l:List Nat):Nat:=
 if(Di.enc l).length<min (Xo.enc l).length (Ru.enc l).length then 3 else if(Ru.enc l).length< (Xo.enc l).length then 2 else 1
theorem sU (l):1≤choose l∧choose l≤3:=by unfold choose;split<;>(try split)<;>omega
def cb (l:List (Int×Nat)):List Bool:=bw 8 (choose (l.map (·.2)))++(bw 8 (l.length-1)++(Tm.enc (l.map (·.1))++vals (choose (l.map (·.2))) (l.map (·.2))))
def fin (r:List Bool):Int:=if 8≤r.length∨true∈r then 4 else 0
def Ue (tag n:Nat) (r:List Bool):List (Int×Nat)×Int:=
 if(Tm.dec n r).2.2≠0 then([],(Tm.dec n r).2.2)
 else if(gy tag n (Tm.dec n r).2.1).2.2≠0 then([],(gy tag n (Tm.dec n r).2.1).2.2)
 else if fin (gy tag n (Tm.dec n r).2.1).2.1≠0 then([],4)
 else if choose (gy tag n (Tm.dec n r).2.1).1≠tag then([],8)
 else((Tm.dec n r).1.zip (gy tag n (Tm.dec n r).2.1).1,0)
def dec:List UInt8→List (Int×Nat)×Int
 |[]=>([],3)
 |[t]=>if t.toNat<1∨3<t.toNat then([],9)else([],3)
 |t::m::b=>if t.toNat<1∨3<t.toNat then([],9)else if 120≤m.toNat then([],7)else Ue t.toNat (m.toNat+1) (Bt.bits b)
def Ok (l:List (Int×Nat)):Prop:=l≠[]∧l.length≤120∧∀p∈l,Tm.In p.1∧p.2<2^64
theorem Il (l):(Di.dZ l).length≤l.length:=by
 induction l with
 |nil=>simp[Di.dZ]
 |cons x l ih=>
  have h:∀(m:List Nat),(Di.ins x m).length≤m.length+1:=by
   intro m
   induction m with
   |nil=>simp[Di.ins]
   |cons y m ih=>rw[Di.ins];split<;>(try split)<;>simp<;>omega
  have e:Di.dZ (x::l)=Di.ins x (Di.dZ l):=rfl;have:=h (Di.dZ l);rw[e,Lc];omega
theorem Im {tag} {l} (h1:l.length≤120) (hx:∀x∈l,x<2^64) (r):gy tag l.length (vals tag l++r)=(l,r,0):=by
 unfold gy vals;split
 ·exact Xo.bT hx r
 ·split
  ·exact Ru.bT om hx r
  ·exact Di.bT hx (by have:=Il l;omega) r
theorem Ev {tag n} {r r'} {l} (h:gy tag n r=(l,r',0)):l.length=n∧(∀x∈l,x<2^64)∧r=vals tag l++r':=by
 unfold gy at h;unfold vals;split at h
 ·rename_i q;rw[Ps0 q];exact Xo.fG h
 ·rename_i q
  rw[Ng q];split at h
  ·rename_i q2;rw[Ps0 q2];exact Ru.fG h
  ·rename_i q2
   rw[Ng q2];obtain⟨a,b,-,d⟩:=Di.fG h;exact⟨a,b,d⟩
theorem Uf {p} (hp:p<8):fin (List.replicate p false)=0:=by unfold fin;rw[Ng (by simp;omega)]
theorem Io {r} (h:fin r=0):∃p,p<8∧r=List.replicate p false:=by
 unfold fin at h;split at h
 ·simp at h
 ·rename_i q
  refine⟨r.length,om,?_⟩;apply List.eq_replicate_iff.2 ⟨rfl,fun b hb=>?_⟩;cases b with
  |false=>rfl
  |true=>exact absurd (.inr hb) q
theorem PY (l:List (Int×Nat)):(l.map (·.1)).zip (l.map (·.2))=l:=by
 induction l with
 |nil=>rfl
 |cons p l ih=>simp[ih]
theorem bw8 {b:UInt8} {n} (h:bw 8 b.toNat=bw 8 n) (hn:n<256):b.toNat=n:=by
 have h2:=congrArg oG h;rw[sS,sS]at h2;have:=b.toNat_lt;omega
theorem XX {L} {l} (hl:Ok l) (h:Wr L (cb l)):dec L=(l,0):=by
 obtain⟨h0,h1,h2⟩:=hl;have hpos:=oJ.2 h0;obtain⟨p,hp,hb⟩:=Ud h;obtain⟨c1,c2⟩:=sU (l.map (·.2));have hlen:=h.len;have hcl:16≤(cb l).length:=by
  unfold cb;rw[La,La,ak,ak];omega
 match L,hb,hlen with
 |[],_,q=>simp only[AB]at q;omega
 |[t],_,q=>simp only[Dh]at q;omega
 |t::m::b,hb,_=>
  rw[lG,lG]at hb;unfold cb at hb;simp only[Af]at hb;obtain⟨e1,hb⟩:=List.append_inj hb (by rw[ak,ak]);obtain⟨e2,hb⟩:=List.append_inj hb (by rw[ak,ak]);have et:=bw8 e1 om;have em:=bw8 e2 om;rw[dec,Ng om,Ng om,et,em,show l.length-1+1=l.length from om];unfold Ue;have a1:=Tm.bT (l:=l.map (·.1)) (fun u hu=>by
   obtain⟨q,hq,rfl⟩:=dM.1 hu;exact(h2 q hq).1) (vals (choose (l.map (·.2))) (l.map (·.2))++List.replicate p false)
  have a2:=Im (tag:=choose (l.map (·.2))) (l:=l.map (·.2)) (by simpa using h1) (fun u hu=>by
   obtain⟨q,hq,rfl⟩:=dM.1 hu;exact(h2 q hq).2) (List.replicate p false)
  rw[fu]at a1 a2;rw[hb,a1];simp only[];rw[a2];simp only[];rw[Ng sm,Ng sm,Ng (by rw[Uf hp];simp),Ng sm,PY]
theorem fG {L} {l} (h:dec L=(l,0)):Ok l∧Wr L (cb l):=by
 match L,h with
 |[],h=>simp[dec]at h
 |[t],h=>rw[dec]at h;split at h<;>simp at h
 |t::m::b,h=>
  rw[dec]at h;by_cases q1:t.toNat<1∨3<t.toNat
  ·rw[Ps0 q1]at h;simp at h
  ·rw[Ng q1]at h;by_cases q2:120≤m.toNat
   ·rw[Ps0 q2]at h;simp at h
   ·rw[Ng q2]at h;unfold Ue at h;obtain⟨ts,r1,e1,hg⟩:∃ts r1 e1,Tm.dec (m.toNat+1) (Bt.bits b)=(ts,r1,e1):=⟨_,_,_,rfl⟩
    rw[hg]at h;simp only[]at h;by_cases he:e1=0
    ·subst he;rw[Ng sm]at h;obtain⟨vs,r2,e2,hg2⟩:∃vs r2 e2,gy t.toNat (m.toNat+1) r1=(vs,r2,e2):=⟨_,_,_,rfl⟩
     rw[hg2]at h;simp only[]at h;by_cases he2:e2=0
     ·subst he2;rw[Ng sm]at h;by_cases hf:fin r2=0
      ·rw[Ng (by rw[hf];simp)]at h;by_cases hc:choose vs=t.toNat
       ·rw[Ng (by simp[hc])]at h;simp only[ay,Bi]at h;obtain⟨a1,a2,a3⟩:=Tm.fG hg;obtain⟨b1,b2,b3⟩:=Ev hg2;obtain⟨p,hp,hr⟩:=Io hf;have hlen:ts.length=vs.length:=om;have m1:l.map (·.1)=ts:=by rw[←h];exact List.map_fst_zip om
        have m2:l.map (·.2)=vs:=by rw[←h];exact List.map_snd_zip om
        have ll:l.length=m.toNat+1:=by rw[←a1,←m1,fu]
        refine⟨⟨fun e=>by rw[e]at ll;simp at ll,om,fun q hq=>⟨a2 _ (by rw[←m1];exact List.mem_map_of_mem hq),b2 _ (by rw[←m2];exact List.mem_map_of_mem hq)⟩⟩,?_⟩;refine aaU hp ?_;unfold cb;rw[m1,m2,hc,ll,Bn,lG,lG,a3,b3,hr];simp only[Af]
       ·rw[Ps0 hc]at h;simp at h
      ·rw[Ps0 hf]at h;simp at h
     ·rw[Ps0 he2]at h;simp only[ay]at h;exact absurd h.2 he2
    ·rw[Ps0 he]at h;simp only[ay]at h;exact absurd h.2 he
def psh (L:List UInt8) (n:Nat) (b:Bool):List UInt8:=
 let L2:=if n%8=0 then L++[0]else L
 L2.set (n/8) (UInt8.ofNat ((L2.getD (n/8) 0).toNat|||(b.toNat<<< (7-n%8))))
def pkF:List UInt8→Nat→List Bool→List UInt8
 |L,_,[]=>L
 |L,n,b::bs=>pkF (psh L n b) (n+1) bs
def pk (bs:List Bool):List UInt8:=pkF [] 0 bs
theorem XY {L} {bs} (h:Wr L bs) (b):Wr (psh L bs.length b) (bs++[b]):=by
 refine(h.push b (L2:=if bs.length%8=0 then L++[0]else L) rfl ?_).2;rw[Cr];apply jA;apply Nat.or_lt_two_pow (n:=8)
 ·exact UInt8.toNat_lt _
 ·have h1:b.toNat≤1:=by cases b<;>simp
  have h2:2^ (7-bs.length%8)≤2^7:=j5 Ah om;rw[BH];have h3:=Nat.mul_le_mul h1 h2;omega
theorem PZ:∀(bs:List Bool) {L:List UInt8} {aS:List Bool},Wr L aS→Wr (pkF L aS.length bs) (aS++bs)
 |[],L,aS,h=>by simpa[pkF]using h
 |b::bs,L,aS,h=>by
  have:=PZ bs (XY h b);rw[La,Dh,Af]at this;exact this
theorem J8 (bs):Wr (pk bs) bs:=by
 have:=PZ bs Wr.nil;rw[Ay]at this;exact this
def enc (l:List (Int×Nat)):List UInt8:=pk (cb l)
theorem bC (l):(enc l).length=((cb l).length+7)/8:=(J8 (cb l)).len
theorem bT {l} (hl:Ok l):dec (enc l)=(l,0):=XX hl (J8 (cb l))
theorem Ug {L} {l} (h:dec L=(l,0)):Ok l∧L=enc l:=by
 obtain⟨h1,h2⟩:=fG h;exact⟨h1,h2.inj (J8 (cb l))⟩
def jm (l:List (Int×Nat)):List (List (Int×Nat)):=if l=[]then[]else l.take 120::jm (l.drop 120)
termination_by l.length
decreasing_by
 rename_i h
 have:=oJ.2 h;rw[jX];omega
theorem dN:jm []=[]:=by rw[jm,Ps0 rfl]
theorem jN {l} (h:l≠[]):jm l=l.take 120::jm (l.drop 120):=by rw[jm,Ng h]
theorem nV {X:Type} {f:X→List Bool} {B} (h:∀x,(f x).length≤B) (l:List X):(l.flatMap f).length≤B*l.length:=by
 induction l with
 |nil=>simp
 |cons x l ih=>
  have:=h x;rw[Aq,La,Lc,Nat.mul_add,CV];omega
theorem Wz {i} (h:i≤4):fl i+fw i≤68:=by
 rcases(by omega:i=0∨i=1∨i=2∨i=3∨i=4)with rfl|rfl|rfl|rfl|rfl<;>simp[fl,fw]
theorem yA:∀(l) (t d),(Tm.yw t d l).length=l.length
 |[],_,_=>rfl
 |u::l,t,d=>by rw[Tm.yw,Lc,yA l,Lc]
theorem WA (l):(Tm.enc l).length≤68*l.length:=by
 cases l with
 |nil=>simp[Tm.enc]
 |cons t l=>
  have h:=nV (f:=Tm.ch) (B:=68) (fun x=>by
   unfold Tm.ch;rw[La,ak,ak];exact Wz (Et x)) (Tm.yw t 0 l)
  rw[yA]at h;rw[Tm.enc,La,ak,Lc];omega
theorem XZ (last v) (c) (hc:c.2≤64):(Xo.put last c v).1.length≤78∧(Xo.put last c v).2.2≤64:=by
 unfold Xo.put;split
 ·exact⟨by simp only[ak];omega,hc⟩
 ·split
  ·exact⟨by simp only[La,ak];omega,hc⟩
  ·have:(Xo.win (v^^^last)).2≤64:=by unfold Xo.win;simp only[];omega
   exact⟨by simp only[La,ak];omega,this⟩
theorem J9:∀(l) (last) (c),c.2≤64→(Xo.puts last c l).length≤78*l.length
 |[],_,_,_=>by simp[Xo.puts]
 |v::l,last,c,hc=>by
  obtain⟨h1,h2⟩:=XZ last v c hc;have:=J9 l v (Xo.put last c v).2 h2;rw[Xo.puts,La,Lc];omega
theorem WE (l):(Xo.enc l).length≤78*l.length:=by
 cases l with
 |nil=>simp[Xo.enc]
 |cons v l=>
  have:=J9 l v (0,0) sm;rw[Xo.enc,La,ak,Lc];omega
theorem Ka (l):(vals (choose l) l).length≤(Xo.enc l).length:=by
 unfold choose;split
 ·rw[show vals 3 l=Di.enc l from rfl];omega
 ·split
  ·rw[show vals 2 l=Ru.enc l from rfl];omega
  ·exact Nr _
theorem Uh {l} (h:l.length≤120):2≤(enc l).length∧(enc l).length≤2200:=by
 have h1:=WA (l.map (·.1));have h2:=Ka (l.map (·.2));have h3:=WE (l.map (·.2));rw[fu]at h1 h3;rw[bC];unfold cb;simp only[La,ak];omega
end Ck
namespace Cs
open Ck
abbrev gz:=List (Int×Nat)
def In (s:gz):Prop:=∀p∈s,Tm.In p.1∧p.2<2^64
def Ew:List Nat→gz→List UInt8→gz×List UInt8×Int
 |[],acc,d=>(acc,d,0)
 |n::ls,acc,d=>if(Ck.dec (d.take n)).2≠0 then([],d,(Ck.dec (d.take n)).2)else if ls≠[]∧(Ck.dec (d.take n)).1.length≠120 then([],d,23)else Ew ls (acc++(Ck.dec (d.take n)).1) (d.drop n)
def Gu:List (List Nat)→List gz→List UInt8→List gz×Int
 |[],acc,_=>(acc,0)
 |l::ls,acc,d=>if(Ew l [] d).2.2≠0 then([],(Ew l [] d).2.2)else Gu ls (acc++[(Ew l [] d).1]) (Ew l [] d).2.1
def lens (s:gz):List Nat:=(jm s).map fun c=>(Ck.enc c).length
def sV (s:gz):List UInt8:=(jm s).flatMap Ck.enc
theorem Ip (s:gz):jm s=[]↔s=[]:=by
 constructor
 ·intro h;by_cases q:s=[]
  ·exact q
  ·rw[jN q]at h;simp at h
 ·intro h;rw[h,dN]
theorem Ui {s:gz} (h0:s≠[]) (h:In s):Ck.Ok (s.take 120):=
 ⟨fun e=>by
  have:=congrArg List.length e;have h1:=oJ.2 h0;rw[lQ,AB]at this;omega,by rw[lQ];omega,fun p hp=>h p (List.mem_of_mem_take hp)⟩
theorem Kb (s) (acc) (r) (h:In s):Ew (lens s) acc (sV s++r)=(acc++s,r,0):=by
 by_cases h0:s=[]
 ·subst h0;simp[lens,sV,dN,Ew]
 ·have hk:=bT (Ui h0 h);have e1:lens s=(Ck.enc (s.take 120)).length::lens (s.drop 120):=by unfold lens;rw[jN h0];rfl
  have e2:sV s++r=Ck.enc (s.take 120)++(sV (s.drop 120)++r):=by unfold sV;rw[jN h0,Aq,Af]
  rw[e1,e2,Ew,List.take_left' rfl,List.drop_left' rfl,hk];simp only[];have hq:¬(lens (s.drop 120)≠[]∧(s.take 120).length≠120):=by
   rintro⟨a,b⟩;apply a;have:s.drop 120=[]:=by
    apply vg;rw[lQ]at b;rw[jX];omega
   unfold lens;rw[this,dN];rfl
  rw[Ng sm,Ng hq,Kb (s.drop 120) (acc++s.take 120) r (fun p hp=>h p (List.mem_of_mem_drop hp)),Af,jC]
termination_by s.length
decreasing_by
 have:=oJ.2 h0;rw[jX];omega
theorem Kc:∀(b acc) (r),(∀s∈b,In s)→Gu (b.map lens) acc (b.flatMap sV++r)=(acc++b,0)
 |[],acc,r,_=>by simp[Gu]
 |s::b,acc,r,h=>by
  rw[AA,Gu,Aq,Af,Kb s [] _ (h s jM)];simp only[Ay];rw[Ng sm,Kc b (acc++[s]) r (fun t ht=>h t (nS _ ht)),Af]
  rfl
theorem qF {s} (h:lens s=[]):s=[]:=by
 unfold lens at h;rw[List.map_eq_nil_iff]at h;exact(Ip s).1 h
theorem Uj {c s:gz} (h0:c≠[]) (h1:c.length≤120) (h:s≠[]→c.length=120):jm (c++s)=c::jm s:=by
 have hne:c++s≠[]:=fun e=>h0 (List.append_eq_nil_iff.1 e).1
 rw[jN hne];by_cases q:s=[]
 ·subst q;rw[AZ,jY h1,List.drop_of_length_le h1]
 ·have:=h q;rw[List.take_left' this,List.drop_left' this]
theorem P5:∀(ls) (acc) (d) (out) (d'),ls.sum≤d.length→Ew ls acc d=(out,d',0)→∃s,out=acc++s∧In s∧ls=lens s∧d=sV s++d'
 |[],acc,d,out,d',_,h=>by
  simp only[Ew,ay]at h;obtain⟨rfl,rfl,-⟩:=h;exact⟨[],sm,fun p hp=>by simp at hp,by simp[lens,dN],by simp[sV,dN]⟩
 |n::ls,acc,d,out,d',hs,h=>by
  rw[Bj]at hs;rw[Ew]at h;obtain⟨c,e,hg⟩:∃c e,Ck.dec (d.take n)=(c,e):=⟨_,_,rfl⟩
  rw[hg]at h;simp only[]at h;by_cases he:e=0
  ·subst he;rw[Ng sm]at h;by_cases hq:ls≠[]∧c.length≠120
   ·rw[Ps0 hq]at h;simp at h
   ·rw[Ng hq]at h;obtain⟨⟨o1,o2,o3⟩,hb⟩:=Ck.Ug hg;obtain⟨s,h1,h2,h3,h4⟩:=P5 ls _ _ _ _ (by rw[jX];omega) h;have hsp:jm (c++s)=c::jm s:=Uj o1 o2 (fun hne=>by
     by_cases q:c.length=120
     ·exact q
     ·refine absurd ⟨fun e=>hne (qF (by rw[←h3,e])),q⟩ hq)
    have hn:n=(Ck.enc c).length:=by rw[←hb,lQ];omega
    refine⟨c++s,by rw[h1,Af],fun p hp=>?_,?_,?_⟩
    ·rcases jl.1 hp with q|q
     ·exact o3 p q
     ·exact h2 p q
    ·unfold lens;rw[hsp,AA,←hn,h3]
     rfl
    ·unfold sV;rw[hsp,Aq,Af,←hb];have h5:(jm s).flatMap Ck.enc++d'=d.drop n:=h4.symm;rw[h5,jC]
  ·rw[Ps0 he]at h;simp only[ay]at h;exact absurd h.2.2 he
theorem Ke (s):(sV s).length=(lens s).sum:=by
 unfold sV lens;rw[List.length_flatMap]
theorem Iq:∀(ls) (acc) (d) (out),ls.flatten.sum=d.length→Gu ls acc d=(out,0)→∃b,out=acc++b∧(∀s∈b,In s)∧ls=b.map lens∧d=b.flatMap sV
 |[],acc,d,out,hs,h=>by
  simp only[Gu,ay,Bi]at h;exact⟨[],by simp[h],sm,rfl,vg (by rw[←hs];simp)⟩
 |l::ls,acc,d,out,hs,h=>by
  rw[Cc,CY]at hs;rw[Gu]at h;obtain⟨s0,d1,e,hg⟩:∃s0 d1 e,Ew l [] d=(s0,d1,e):=⟨_,_,_,rfl⟩
  rw[hg]at h;simp only[]at h;by_cases he:e=0
  ·subst he;rw[Ng sm]at h;obtain⟨s,h1,h2,h3,h4⟩:=P5 l [] d s0 d1 om hg;rw[Ay]at h1;subst h1;have hl:=congrArg List.length h4;rw[La,Ke,←h3]at hl;obtain⟨b,g1,g2,g3,g4⟩:=Iq ls _ d1 out om h;refine⟨s0::b,by rw[g1,Af];rfl,fun t ht=>?_,by rw[AA,←h3,←g3],by rw[Aq,←g4,←h4]⟩;rcases iM.1 ht with q|q
   ·rw[q];exact h2
   ·exact g2 t q
  ·rw[Ps0 he]at h;simp only[ay]at h;exact absurd h.2 he
end Cs
namespace Bk
open Cs (gz)
theorem gd {X:Type} [Inhabited X] {l:List X} {j} (h:j<l.length):l.getD j default=l[j]:=by simp[List.getD,h]
abbrev Mj:=List bf×gz
abbrev iP:=List Mj
instance:Inhabited Mj:=⟨([],[])⟩
def dG {X:Type} [Inhabited X] (f:X→X→Int) (q:Int) (l:List X) (j:Nat):Int:=
 if j=0 then 0 else if f (l.getD (j-1) default) (l.getD j default)=0 then q else if 0<f (l.getD (j-1) default) (l.getD j default)then 16 else 0
def yB {X:Type} [Inhabited X] (f:X→X→Int) (q:Int) (l:List X):Int:=Lb.gI (dG f q l) l.length
def iG (a b:Int×Nat):Int:=if a.1<b.1 then-1 else if b.1<a.1 then 1 else 0
def iQ (a b:Mj):Int:=Lb.cmpL a.1 b.1
def one (s:Mj):Int:=if Lb.bN s.1≠0 then Lb.bN s.1 else if s.2=[]then 21 else yB iG 20 s.2
def cK (b:iP):Nat:=(b.map fun s=>s.2.length).sum
def Gv (b:iP) (j:Nat):Int:=if one (b.getD j default)≠0 then one (b.getD j default)else dG iQ 19 b j
def bN (b:iP):Int:=if 1048576<b.length∨16777216<cK b then 7 else Lb.gI (Gv b) b.length
theorem Ir (a b):(iG a b= -1∧a.1<b.1)∨(iG a b=1∧b.1<a.1)∨(iG a b=0∧a.1=b.1):=by
 unfold iG;split
 ·exact .inl ⟨rfl,by assumption⟩
 ·split
  ·exact .inr (.inl ⟨rfl,by assumption⟩)
  ·exact .inr (.inr ⟨rfl,om⟩)
theorem sW (a b):cK (a++b)=cK a+cK b:=by simp[cK]
theorem sZ (b:iP) (k) (h:k<b.length):cK (b.take (k+1))=cK (b.take k)+b[k].2.length:=by
 rw[Ts h,sW];simp[cK]
theorem qG (b) (k):cK (b.take k)≤cK b:=by
 have:=sW (b.take k) (b.drop k);rw[jC]at this;omega
theorem iq {b:iP} (h:bN b=0):b.length≤1048576∧cK b≤16777216∧(∀s∈b,one s=0)∧∀j (hj:j+1<b.length),Lb.cmpL b[j].1 b[j+1].1<0:=by
 unfold bN at h;by_cases h1:1048576<b.length∨16777216<cK b
 ·rw[Ps0 h1]at h;cases h
 ·rw[Ng h1]at h;have hz:∀j,j<b.length→Gv b j=0:=by
   rcases Lb.sJ (Gv b) b.length with⟨_,hz⟩|⟨k,hk,hk0,he,_⟩
   ·exact hz
   ·rw[he]at h;exact absurd h hk0
  have hone:∀j (hj:j<b.length),one b[j]=0∧dG iQ 19 b j=0:=by
   intro j hj;have:=hz j hj;unfold Gv at this;rw[gd hj]at this;by_cases q:one b[j]=0
   ·rw[Ng (by simpa using q)]at this;exact⟨q,this⟩
   ·rw[Ps0 q]at this;exact absurd this q
  refine⟨om,om,fun s hs=>?_,fun j hj=>?_⟩
  ·obtain⟨j,hj,rfl⟩:=lV.1 hs;exact(hone j hj).1
  ·have:=(hone (j+1) hj).2;unfold dG at this;rw[Ng om,Bn,gd om,gd hj]at this;unfold iQ at this;by_cases q:Lb.cmpL b[j].1 b[j+1].1=0
   ·rw[Ps0 q]at this;cases this
   ·rw[Ng q]at this;by_cases q2:0<Lb.cmpL b[j].1 b[j+1].1
    ·rw[Ps0 q2]at this;cases this
    ·omega
end Bk
section
open Go.RowKit Go.Shelf
def P7 (w:World) (base:Nat) (A:Option Addr) (n c:Nat) (rs:Bk.iP):Prop:=
 ∃hs:List (Value×Value),w.ownsRow base 57 2 (.slice A n c) n (bS hs)∧hs.length=rs.length∧
  ∀(i:Nat) (h:i<hs.length) (h':i<rs.length),∃A1 n1 c1 A2 n2 c2,hs[i]=(.slice A1 n1 c1,.slice A2 n2 c2)∧bV w base A1 n1 c1 rs[i].1∧bF w base A2 n2 c2 rs[i].2
def iE (w:World) (B:Nat) (A:Option Addr) (n c:Nat) (rs:Bk.iP):Prop:=
 ∃hs:List (Value×Value),Rd w B 2 A n c (bS hs)∧hs.length=rs.length∧
  ∀(i:Nat) (h:i<hs.length) (h':i<rs.length),∃A1 n1 c1 A2 n2 c2,hs[i]=(.slice A1 n1 c1,.slice A2 n2 c2)∧fD w B A1 n1 c1 rs[i].1∧gN w B A2 n2 c2 rs[i].2
theorem P7.nil (w) (base):P7 w base none 0 0 []:=⟨[],⟨rfl,.inl ⟨rfl,rfl⟩⟩,rfl,fun i h=>by simp at h⟩
theorem P7.rd {w} {base n c} {A} {rs} (h:P7 w base A n c rs):iE w w.heap.size A n c rs:=by
 obtain⟨hs,h1,h2,h3⟩:=h;exact⟨hs,Rd.bP h1,h2,fun i a b=>by obtain⟨A1,n1,c1,A2,n2,c2,e,p,q⟩:=h3 i a b;exact⟨A1,n1,c1,A2,n2,c2,e,p.rd,q.rd⟩⟩
theorem iE.len {w} {B n c} {A} {rs} (h:iE w B A n c rs):n=rs.length:=by
 obtain⟨hs,h1,h2,-⟩:=h;have:=h1.2.2.1;rw[gT]at this;omega
theorem iE.below {w w'} {B n c} {A} {rs} (h:iE w B A n c rs) (hb:Below B w w'):iE w' B A n c rs:=by
 obtain⟨hs,h1,h2,h3⟩:=h;exact⟨hs,Rd.below h1 hb,h2,fun i a b=>by obtain⟨A1,n1,c1,A2,n2,c2,e,p,q⟩:=h3 i a b;exact⟨A1,n1,c1,A2,n2,c2,e,p.below hb,q.below hb⟩⟩
theorem iE.more {w} {B B' n c} {A} {rs} (h:iE w B A n c rs) (hB:B≤B'):iE w B' A n c rs:=by
 obtain⟨hs,h1,h2,h3⟩:=h;exact⟨hs,Rd.more h1 hB,h2,fun i a b=>by obtain⟨A1,n1,c1,A2,n2,c2,e,p,q⟩:=h3 i a b;exact⟨A1,n1,c1,A2,n2,c2,e,p.more hB,q.more hB⟩⟩
theorem aaV:(prog.info? 57).map (fun i=>(i.zero,i.size,i.bytes))=some (some (.agg #[.slice none 0 0,.slice none 0 0]),2,48):=kr
theorem iE.cells {w} {B n c k} {A} {rs} (h:iE w B A n c rs) (hB:B≤w.heap.size) (hk:k<rs.length):
  ∃b off A1 n1 c1 A2 n2 c2,A=some ⟨b,off,none⟩∧fD w B A1 n1 c1 rs[k].1∧gN w B A2 n2 c2 rs[k].2∧∀W,Below w.heap.size w W→W.cell? ⟨b,off+k*2,none⟩=some (.slice A1 n1 c1)∧W.cell? ⟨b,off+k*2+1,none⟩=some (.slice A2 n2 c2):=by
 have hn:=h.len;obtain⟨hs,h1,h2,h3⟩:=h;obtain⟨A1,n1,c1,A2,n2,c2,e,p,q⟩:=h3 k om hk;obtain⟨b,off,rfl,hb,hc⟩:=h1.2.2.2 om;obtain⟨g1,g2⟩:=fF hs k om;rw[e]at g1 g2;refine⟨b,off,A1,n1,c1,A2,n2,c2,rfl,p,q,fun W hW=>⟨(hW.cell (p:=⟨b,_,none⟩) (by show b<_;omega)).trans (hc _ _ g1),(hW.cell (p:=⟨b,_,none⟩) (by show b<_;omega)).trans ?_⟩⟩;rw[gM];exact hc _ _ g2
theorem iE.cap {w} {B n c} {A} {rs} (h:iE w B A n c rs):n≤c∧c≤maxLen:=by
 obtain⟨hs,h1,_⟩:=h;exact⟨h1.1,h1.2.1⟩
end
section
open Go.RowKit Go.Shelf
theorem mJ (x) (w):Calls prog 205 #[.int .i64 x] w fun e w'=>e= .returned (.bool false)∧w=w':=by
 have hx:(x !=x)=false:=sm;go_enter func205,ntmps205;go_wp2;go_ret;exact⟨sm,rfl⟩
theorem Iu (x y) (w):Calls prog 152 #[.int .i64 x,.int .i64 y] w fun e w'=>e= .returned (.int .i64 (if x<y then-1 else if y<x then 1 else 0))∧w=w':=by
 by_cases h1:x<y
 ·rw[Ps0 h1];go_enter func152,ntmps152;go_wp2_with (first|(go_at_call 205;refine(mJ _ _).mono ?_;rintro e w1 ⟨rfl,rfl⟩));go_ret;exact⟨rfl,rfl⟩
 ·rw[Ng h1];by_cases h2:y<x
  ·rw[Ps0 h2];go_enter func152,ntmps152;go_wp2_with (first|(go_at_call 205;refine(mJ _ _).mono ?_;rintro e w1 ⟨rfl,rfl⟩));go_ret;exact⟨rfl,rfl⟩
  ·rw[Ng h2];go_enter func152,ntmps152;go_wp2_with (first|(go_at_call 205;refine(mJ _ _).mono ?_;rintro e w1 ⟨rfl,rfl⟩));go_ret;exact⟨rfl,rfl⟩
theorem Iw (x y:Pg) (w):Calls prog 94 #[.agg #[.int .i64 x.1,.int .u64 (x.2:Int)],.agg #[.int .i64 y.1,.int .u64 (y.2:Int)]] w fun e w'=>e= .returned (.int .i64 (Bk.iG x y))∧Gr w w':=by
 have CT:=Aj (fun W=>Iu x.1 y.1 W);have hc:Kept (Bk.iG x y=if x.1<y.1 then-1 else if y.1<x.1 then 1 else 0):=⟨rfl⟩
 rw[hc.1];generalize (if x.1<y.1 then(-1:Int)else if y.1<x.1 then 1 else 0)=r at*;go_enter func94,ntmps94;go_wp2_with (go_at_call 152;refine(CT.1 _).mono ?_;rintro e w1 ⟨rfl,rfl⟩);go_ret;exact⟨rfl,((Gr.refl w).alloc _).alloc _⟩
theorem Mk (A A2 Am Am2) (n c n2 c2 nm cm nm2 cm2) (l l2) (w) (hv:fD w w.heap.size A n c l) (hv2:fD w w.heap.size A2 n2 c2 l2):
  Calls prog 46 #[.agg #[.slice A n c,.slice Am nm cm],.agg #[.slice A2 n2 c2,.slice Am2 nm2 cm2]] w fun e w'=>e= .returned (.int .i64 (Lb.cmpL l l2))∧Gr w w':=by
 have V:=Aj hv;have V2:=Aj hv2;clear hv hv2;go_enter func46,ntmps46;have hg:=((Gr.refl w).alloc (.cells #[.slice A n c,.slice Am nm cm] 57)).alloc (.cells #[.slice A2 n2 c2,.slice Am2 nm2 cm2] 57);have LC:=Aj (yj A A2 n c n2 c2 l l2 _ ((V.1.below hg.below).more hg.size) ((V2.1.below hg.below).more hg.size));have G:=Aj hg;clear hg;go_wp2_with (go_at_call 95;refine LC.1.mono ?_;rintro e w1 ⟨rfl,g1⟩;have G1:=Aj (G.1.trans g1);clear g1);go_ret;exact⟨rfl,G1.1⟩
theorem qH (A) (n c B) (b) (w) (hv:iE w B A n c b) (hB:B≤w.heap.size) (hs:Bk.cK b≤1000000000000):
  Calls prog 31 #[.slice A n c] w fun e w'=>e= .returned (.int .i64 (Bk.cK b:Int))∧Gr w w':=by
 obtain⟨hlc,hcm⟩:=hv.cap;unfold maxLen at hcm;have hn:=Aj hv.len;have V:=Aj hv;clear hv;go_enter func31,ntmps31;go_wp2;go_loopw [3,8] (fun s i wr=>∃k m:Nat,k≤n∧i= .int .i64 k∧s= .int .i64 m∧Kept (m=Bk.cK (b.take k))∧Gr w wr) (fun _ i _=>n-(intOf i).toNat)
 case atStart=>exact⟨0,0,om,rfl,rfl,⟨rfl⟩,Gr.refl w⟩
 case round=>
  obtain⟨k,m,hk,rfl,rfl,hm,gr⟩:=hrel;have G:=Aj gr;by_cases hlt:k<n
  ·have hkl:k<b.length:=by rw[←hn.1];exact hlt
   obtain⟨b0,off,A1,n1,c1,A2,n2,c2,rfl,h1,h2,hc⟩:=V.1.cells hB hkl;obtain⟨r0,r1⟩:=hc wr gr.below;have h3:=Bk.sZ b k hkl;have h4:=Bk.qG b (k+1);have h5:=h2.len;have hmn:m+n2≤1000000000000:=by have:=hm.1;omega
   have hm2:Kept (m+n2=Bk.cK (b.take (k+1))):=⟨by have:=hm.1;omega⟩
   clear h1 h2 hc gr h3 h4 h5;go_wp2;go_roundw
   case rel=>exact⟨k+1,m+n2,om,by go_num,by go_num,hm2,G.1.alloc _⟩
   case measure=>simp[intOf];omega
  ·have he:Kept (m=Bk.cK b):=⟨by have:=hm.1;rw[jY (by have:=hn.1;omega)]at this;exact this⟩
   clear gr;go_wp2;go_ret;exact⟨fP (by rw[he.1]),G.1⟩
theorem Iy (A) (n c B) (b) (w) (hv:iE w B A n c b) (hB:B≤w.heap.size) (hs:Bk.cK b≤1000000000000):
  Calls prog 43 #[.slice A n c] w fun e w'=>e= .returned (.int .i64 (if 1048576<b.length∨16777216<Bk.cK b then 7 else 0))∧Gr w w':=by
 have SM:=Aj (qH A n c B b w hv hB hs);have hn:=hv.len;obtain⟨hlc,hcm⟩:=hv.cap;unfold maxLen at hcm;rw[←hn];generalize Bk.cK b=m at*;clear hv hn;by_cases h1:1048576<n
 ·have h1':(1048576:Int)< (n:Int):=by omega
  rw[Ps0 (.inl h1)];go_enter func43,ntmps43;go_wp2;go_ret;exact⟨rfl,Gr.refl w⟩
 ·have h1':¬(1048576:Int)< (n:Int):=by omega
  by_cases h2:16777216<m
  ·have h2':(16777216:Int)< (m:Int):=by omega
   rw[Ps0 (.inr h2)];go_enter func43,ntmps43;go_wp2_with (go_at_call 31;refine SM.1.mono ?_;rintro e w1 ⟨rfl,g1⟩;have G1:=Aj g1;clear g1);go_ret;exact⟨rfl,G1.1⟩
  ·have h2':¬(16777216:Int)< (m:Int):=by omega
   rw[Ng om];go_enter func43,ntmps43;go_wp2_with (go_at_call 31;refine SM.1.mono ?_;rintro e w1 ⟨rfl,g1⟩;have G1:=Aj g1;clear g1);go_ret;exact⟨rfl,G1.1⟩
end
section
open Go.RowKit Go.Shelf
namespace Bk
theorem iJ {X} [Inhabited X] (f:X→X→Int) (q) (l):dG f q l 0=0:=rfl
theorem yC {X:Type} [Inhabited X] (f:X→X→Int) (q:Int) {l:List X} {k:Nat} (hk:k<l.length) (h0:k≠0):
  dG f q l k=if f (l[k-1]'om) l[k]=0 then q else if 0<f (l[k-1]'om) l[k]then 16 else 0:=by
 unfold dG;rw[Ng h0,gd hk,gd (show k-1<l.length from om)]
theorem Iz {X} [Inhabited X] {f:X→X→Int} {q} {l} {k} (h:∀j,j<k→dG f q l j=0) (hk:dG f q l k=0):∀j,j<k+1→dG f q l j=0:=fun j hj=>by
 by_cases e:j=k
 ·subst e;exact hk
 ·exact h j om
theorem yD {X:Type} [Inhabited X] {f:X→X→Int} {q:Int} {l:List X} {k:Nat} (hk:k<l.length) (h0:k≠0) (hq:q≠0) (h:∀j,j<k→dG f q l j=0):
  (f (l[k-1]'om) l[k]=0∧yB f q l=q)∨(0<f (l[k-1]'om) l[k]∧yB f q l=16)∨(f (l[k-1]'om) l[k]<0∧∀j,j<k+1→dG f q l j=0):=by
 have e:=yC f q hk h0;by_cases h1:f (l[k-1]'om) l[k]=0
 ·rw[Ps0 h1]at e;exact .inl ⟨h1,(Lb.bq _ _ k hk h (by rw[e];exact hq)).trans e⟩
 ·rw[Ng h1]at e;by_cases h2:0<f (l[k-1]'om) l[k]
  ·rw[Ps0 h2]at e;exact .inr (.inl ⟨h2,(Lb.bq _ _ k hk h (by rw[e];decide)).trans e⟩)
  ·rw[Ng h2]at e;exact .inr (.inr ⟨om,Iz h e⟩)
theorem tq {X} [Inhabited X] {f:X→X→Int} {q} {l} (h:∀j,j<l.length→dG f q l j=0):yB f q l=0:=Lb.dx _ _ h
end Bk
theorem gN.cells {w} {B n c k} {A} {l} (h:gN w B A n c l) (hB:B≤w.heap.size) (hk:k<l.length):
  ∃b off,A=some ⟨b,off,none⟩∧∀W,Below w.heap.size w W→W.cell? ⟨b,off+k*2,none⟩=some (.int .i64 l[k].1)∧W.cell? ⟨b,off+k*2+1,none⟩=some (.int .u64 (l[k].2:Int)):=by
 obtain⟨b,off,e,hb,h1,h2⟩:=h.at_ hk;exact⟨b,off,e,fun W hW=>⟨(hW.cell (p:=⟨b,_,none⟩) (by show b<_;omega)).trans h1,(hW.cell (p:=⟨b,_,none⟩) (by show b<_;omega)).trans (by rw[gM];exact h2)⟩⟩
theorem P8 (A) (n c B) (l:Cs.gz) (q) (w) (hv:gN w B A n c l) (hB:B≤w.heap.size) (hq:q≠0):
  Calls prog 93 #[.slice A n c,.func (.func 94) #[] #[],.int .i64 q] w fun e w'=>e= .returned (.int .i64 (Bk.yB Bk.iG q l))∧Gr w w':=by
 have mixed:prog.follows .mixedOrders=true:=kr;have hlc:=hv.1;have hcm:=hv.2.1;unfold maxLen at hcm;have hn:=Aj hv.len;have V:=Aj hv;have HQ:=Aj hq;obtain⟨r,hr⟩:∃r,r=Bk.yB Bk.iG q l:=⟨_,rfl⟩
 rw[←hr];have HR:=Aj hr;clear hv hq hr;go_enter func93,ntmps93;go_wp2;go_step3;go_wp2;go_step3;go_wp2;go_loopw [7,8] (fun e i wr=>∃k:Nat,1≤k∧(k≤n∨k=1)∧e= .int .i64 0∧i= .int .i64 k∧Kept (∀j,j<k→Bk.dG Bk.iG q l j=0)∧Gr w wr) (fun _ i _=>n-(intOf i).toNat)
 case atStart=>exact⟨1,om,.inr rfl,rfl,rfl,⟨fun j hj=>by rw[show j=0 from om];exact Bk.iJ _ _ _⟩,Gr.refl w⟩
 case round=>
  obtain⟨k,hk1,hkn,rfl,rfl,hd,gr⟩:=hrel;have G:=Aj gr;by_cases hlt:k<n
  ·have hkl:k<l.length:=by rw[←hn.1];exact hlt
   have nR:k-1<l.length:=om;obtain⟨b,off,rfl,hc⟩:=V.1.cells hB hkl;obtain⟨b',off',e',hp⟩:=V.1.cells hB nR;simp only[gV,BP,Bi]at e';obtain⟨rfl,rfl⟩:=e';have hcase:=Aj (Bk.yD (f:=Bk.iG) (q:=q) hkl om HQ.1 hd.1);rw[←HR.1]at hcase;have BT:=Aj (fun W=>Iw l[k-1] l[k] W);have ek:(k:Int)-1=((k-1:Nat):Int):=om;have XR:((k-1:Nat):Int)< (n:Int):=om;have ew:IntKind.i64.wrap ((k-1:Nat):Int)=((k-1:Nat):Int):=by rw[AV];omega
   have f0:=fun n os=>(hc (Sort.grow (wr.drewN n) os) (gr.trans ⟨n,os,rfl⟩).below).1
   have f1:=fun n os=>(hc (Sort.grow (wr.drewN n) os) (gr.trans ⟨n,os,rfl⟩).below).2
   have p0:=fun n os=>(hp (Sort.grow (wr.drewN n) os) (gr.trans ⟨n,os,rfl⟩).below).1
   have p1:=fun n os=>(hp (Sort.grow (wr.drewN n) os) (gr.trans ⟨n,os,rfl⟩).below).2
   clear hc hp gr;generalize Bk.iG l[k-1] l[k]=s at*;generalize l[k]=x at*;generalize l[k-1]=y at*;go_wp2_with fail;go_quiet_grown (first|(go_at_call 94;refine Calls.grown_of (BT.1 _)));clear f0 f1 p0 p1 BT;rcases hcase.1 with⟨rfl,hres⟩|⟨hs,hres⟩|⟨hs,hd2⟩
   ·have hres:=Aj hres;go_wp2
    (try rw[Exit.noGoto_ret]);go_ret
    exact⟨by first|rfl|(rw[hres.1];rfl),G.1.trans ⟨_,_,rfl⟩⟩
   ·have hres:=Aj hres;have hs0:(s==0)=false:=by simp;omega
    go_wp2
    (try rw[Exit.noGoto_ret]);go_ret
    exact⟨by first|rfl|(rw[hres.1];rfl),G.1.trans ⟨_,_,rfl⟩⟩
   ·have hd2:=Aj hd2;have hs0:(s==0)=false:=by simp;omega
    have hs1:¬0<s:=om;go_wp2;go_roundw
    case rel=>exact⟨k+1,om,.inl om,rfl,by go_num,hd2,G.1.trans ⟨_,_,rfl⟩⟩
    case measure=>simp[intOf];omega
  ·have hd2:Kept (r=0):=⟨HR.1.trans (Bk.tq fun j hj=>hd.1 j (by have:=hn.1;omega))⟩
   clear gr;go_wp2
   (try rw[Exit.noGoto_ret]);go_ret
   exact⟨by first|(rw[hd2.1];rfl)|exact fP hd2.1.symm,G.1⟩
end
section
open Go.RowKit Go.Shelf
theorem IA (hs) (k):(bS hs).drop (k*2)=bS (hs.drop k):=by
 unfold bS
 induction k generalizing hs with
 |zero=>simp
 |succ k ih=>
  cases hs with
  |nil=>simp
  |cons x hs=>
   rw[Aq,Bv,←ih hs,Nat.succ_mul]
   rfl
theorem IB (hs) (k):(bS hs).take (k*2)=bS (hs.take k):=by
 unfold bS
 induction k generalizing hs with
 |zero=>simp
 |succ k ih=>
  cases hs with
  |nil=>simp
  |cons x hs=>
   rw[Aq,Bu,Aq,←ih hs,Nat.succ_mul]
   rfl
theorem iE.sub {w} {B n c lo hi} {A} {b} (h:iE w B A n c b) (h1:lo≤hi) (h2:hi≤n):
  iE w B (if c=lo then A else A.map (·.add (lo*2))) (hi-lo) (c-lo) ((b.take hi).drop lo):=by
 have hn:=h.len;obtain⟨hs,g1,g2,g3⟩:=h;have e1:=(g1.take h2).drop h1;rw[IB,IA]at e1;refine⟨_,e1,by simp[g2],fun i a a'=>?_⟩;have ha:lo+i<hs.length:=by simp at a;omega
 obtain⟨A1,n1,c1,A2,n2,c2,q1,q2,q3⟩:=g3 (lo+i) ha om;refine⟨A1,n1,c1,A2,n2,c2,by simpa using q1,by simpa using q2,by simpa using q3⟩
theorem P9 (A) (n c B) (l) (q) (w) (hv:iE w B A n c l) (hB:B≤w.heap.size) (hq:q≠0):
  Calls prog 45 #[.slice A n c,.func (.func 46) #[] #[],.int .i64 q] w fun e w'=>e= .returned (.int .i64 (Bk.yB Bk.iQ q l))∧Gr w w':=by
 have mixed:prog.follows .mixedOrders=true:=kr;obtain⟨hlc,hcm⟩:=hv.cap;unfold maxLen at hcm;have hn:=Aj hv.len;have V:=Aj hv;have HQ:=Aj hq;obtain⟨r,hr⟩:∃r,r=Bk.yB Bk.iQ q l:=⟨_,rfl⟩
 rw[←hr];have HR:=Aj hr;clear hv hq hr;go_enter func45,ntmps45;go_wp2;go_step3;go_wp2;go_step3;go_wp2;go_loopw [7,8] (fun e i wr=>∃k:Nat,1≤k∧(k≤n∨k=1)∧e= .int .i64 0∧i= .int .i64 k∧Kept (∀j,j<k→Bk.dG Bk.iQ q l j=0)∧Gr w wr) (fun _ i _=>n-(intOf i).toNat)
 case atStart=>exact⟨1,om,.inr rfl,rfl,rfl,⟨fun j hj=>by rw[show j=0 from om];exact Bk.iJ _ _ _⟩,Gr.refl w⟩
 case round=>
  obtain⟨k,hk1,hkn,rfl,rfl,hd,gr⟩:=hrel;have G:=Aj gr;by_cases hlt:k<n
  ·have hkl:k<l.length:=by rw[←hn.1];exact hlt
   have nR:k-1<l.length:=om;obtain⟨b,off,A1,n1,c1,A2,n2,c2,rfl,hL,-,hc⟩:=V.1.cells hB hkl;obtain⟨b',off',A3,n3,c3,A4,n4,c4,e',hL',-,hp⟩:=V.1.cells hB nR;simp only[gV,BP,Bi]at e';obtain⟨rfl,rfl⟩:=e';have hcase:=Aj (Bk.yD (f:=Bk.iQ) (q:=q) hkl om HQ.1 hd.1);rw[←HR.1]at hcase;have BT:=Aj (fun W (g:Gr w W)=>Mk A3 A1 A4 A2 n3 c3 n1 c1 n4 c4 n2 c2 l[k-1].1 l[k].1 W ((hL'.below (g.below.mono hB)).more (Lt hB g.size)) ((hL.below (g.below.mono hB)).more (Lt hB g.size)));have hcs:Bk.iQ l[k-1] l[k]=Lb.cmpL l[k-1].1 l[k].1:=rfl;rw[hcs]at hcase;have ek:(k:Int)-1=((k-1:Nat):Int):=om;have XR:((k-1:Nat):Int)< (n:Int):=om;have ew:IntKind.i64.wrap ((k-1:Nat):Int)=((k-1:Nat):Int):=by rw[AV];omega
   have f0:=fun n os=>(hc (Sort.grow (wr.drewN n) os) (gr.trans ⟨n,os,rfl⟩).below).1
   have f1:=fun n os=>(hc (Sort.grow (wr.drewN n) os) (gr.trans ⟨n,os,rfl⟩).below).2
   have p0:=fun n os=>(hp (Sort.grow (wr.drewN n) os) (gr.trans ⟨n,os,rfl⟩).below).1
   have p1:=fun n os=>(hp (Sort.grow (wr.drewN n) os) (gr.trans ⟨n,os,rfl⟩).below).2
   have BG:=Aj (fun n os=>BT.1 (Sort.grow (wr.drewN n) os) (gr.trans ⟨n,os,rfl⟩));clear hc hp gr BT hL hL' hcs;generalize Lb.cmpL l[k-1].1 l[k].1=s at*;go_wp2_with fail;go_quiet_grown (first|(go_at_call 46;refine Calls.grown_of (BG.1 _ _)));clear f0 f1 p0 p1 BG;rcases hcase.1 with⟨rfl,hres⟩|⟨hs,hres⟩|⟨hs,hd2⟩
   ·have hres:=Aj hres;go_wp2
    (try rw[Exit.noGoto_ret]);go_ret
    exact⟨by first|rfl|(rw[hres.1];rfl),G.1.trans ⟨_,_,rfl⟩⟩
   ·have hres:=Aj hres;have hs0:(s==0)=false:=by simp;omega
    go_wp2
    (try rw[Exit.noGoto_ret]);go_ret
    exact⟨by first|rfl|(rw[hres.1];rfl),G.1.trans ⟨_,_,rfl⟩⟩
   ·have hd2:=Aj hd2;have hs0:(s==0)=false:=by simp;omega
    have hs1:¬0<s:=om;go_wp2;go_roundw
    case rel=>exact⟨k+1,om,.inl om,rfl,by go_num,hd2,G.1.trans ⟨_,_,rfl⟩⟩
    case measure=>simp[intOf];omega
  ·have hd2:Kept (r=0):=⟨HR.1.trans (Bk.tq fun j hj=>hd.1 j (by have:=hn.1;omega))⟩
   clear gr;go_wp2
   (try rw[Exit.noGoto_ret]);go_ret
   exact⟨by first|(rw[hd2.1];rfl)|exact fP hd2.1.symm,G.1⟩
theorem yE (A A2) (n c n2 c2 B) (L) (S:Cs.gz) (w) (hv:fD w B A n c L) (hm:gN w B A2 n2 c2 S) (hB:B≤w.heap.size) (hf:Lb.Fit L):
  Calls prog 44 #[.agg #[.slice A n c,.slice A2 n2 c2]] w fun e w'=>e= .returned (.int .i64 (Bk.one (L,S)))∧Gr w w':=by
 have hlc:=hm.1;have hcm:=hm.2.1;unfold maxLen at hcm;have hn:=hm.len;obtain⟨W,hW⟩:∃W,W=w.alloc (.cells #[.slice A n c,.slice A2 n2 c2] 57):=⟨_,rfl⟩
 have hg:Gr w W:=by rw[hW];exact(Gr.refl w).alloc _
 have hr:W.heap[w.heap.size]? =some (.cells #[.slice A n c,.slice A2 n2 c2] 57 (0,0)):=by rw[hW];exact Av w _
 have hsz:w.heap.size<W.heap.size:=by rw[hW];simp
 have LC:=Aj (Ii A n c B L W (hv.below (hg.below.mono hB)) (Lt hB hg.size) hf);have AS:=Aj (fun W' (g:Gr w W')=>P8 A2 n2 c2 B S 20 W' (hm.below (g.below.mono hB)) (Lt hB g.size) Ah);have k0:=Co _ _ 0 _ _ _ hr;have k1:=Co _ _ 1 _ _ _ hr;have K1:=Aj (show∀W',Gr W W'→W'.cell? ⟨w.heap.size,1,none⟩=some (.slice A2 n2 c2)from fun W' g=>(g.cell _ 1 hsz).trans k1);have HW:=Aj hW.symm;have G:=Aj hg;clear hv hm hf hr hW;have hone:Bk.one (L,S)=if Lb.bN L≠0 then Lb.bN L else if S=[]then 21 else Bk.yB Bk.iG 20 S:=rfl;have hS:S=[]↔n2=0:=by rw[hn];exact⟨fun h=>by rw[h];rfl,vg⟩
 rw[hone];generalize Lb.bN L=e at*;generalize Bk.yB Bk.iG 20 S=f at*;by_cases he:e=0
 ·subst he;rw[Ng sm];by_cases h0:n2=0
  ·rw[Ps0 (hS.2 h0)];subst h0;clear hS hone hn;go_enter func44,ntmps44;go_wp2_with (go_at_call 92;rw[HW.1];refine LC.1.mono ?_;rintro e w1 ⟨rfl,g1⟩;have G1:=Aj (G.1.trans g1);have k2:=K1.1 _ g1;clear g1);go_ret;exact⟨rfl,G1.1⟩
  ·rw[Ng (fun h=>h0 (hS.1 h))];have h0':((n2:Int)==0)=false:=by simp;omega
   clear hS hone hn;go_enter func44,ntmps44;go_wp2_with (first
    |(go_at_call 93;refine(AS.1 w1 G1.1).mono ?_;rintro e w2 ⟨rfl,g2⟩;have G2:=Aj (G1.1.trans g2);clear g2)
    |(go_at_call 92;rw[HW.1];refine LC.1.mono ?_;rintro e w1 ⟨rfl,g1⟩;have G1:=Aj (G.1.trans g1);have k2:=K1.1 _ g1;clear g1))
   go_ret;exact⟨rfl,G2.1⟩
 ·rw[Ps0 he];have he':(e !=0)=true:=by simpa using he
  clear hS hone hn he;go_enter func44,ntmps44;go_wp2_with (go_at_call 92;rw[HW.1];refine LC.1.mono ?_;rintro e w1 ⟨rfl,g1⟩;have G1:=Aj (G.1.trans g1);have k2:=K1.1 _ g1;clear g1);go_ret;exact⟨rfl,G1.1⟩
end
section
open Go.RowKit Go.Shelf
namespace Bk
theorem sub_zero {b:iP} (h:0<b.length):yB iQ 19 ((b.take 1).drop 0)=dG iQ 19 b 0:=by
 obtain⟨x,l,rfl⟩:∃x l,b=x::l:=by
  cases b with
  |nil=>simp at h
  |cons x l=>exact⟨x,l,rfl⟩
 rfl
theorem IC (f) (h:f 0=0):Lb.gI f 2=f 1:=by
 by_cases h1:f 1=0
 ·rw[Lb.dx f 2 fun j hj=>by
   have:j=0∨j=1:=om;rcases this with rfl|rfl
   ·exact h
   ·exact h1,h1]
 ·exact Lb.bq f 2 1 om (fun j hj=>by rw[show j=0 from om];exact h) h1
theorem sub_pos {b:iP} {k} (hk:k<b.length) (h0:k≠0):yB iQ 19 ((b.take (k+1)).drop (k-1))=dG iQ 19 b k:=by
 have hl:((b.take (k+1)).drop (k-1)).length=2:=by simp;omega
 unfold yB;rw[hl,IC (dG iQ 19 ((b.take (k+1)).drop (k-1))) (iJ _ _ _),yC iQ 19 (show 1< ((b.take (k+1)).drop (k-1)).length from om) om,yC iQ 19 hk h0];have e0:((b.take (k+1)).drop (k-1))[1-1]'om=b[k-1]:=sm;have e1:((b.take (k+1)).drop (k-1))[1]'om=b[k]:=by
  rw[Dq,List.getElem_take]
  congr 1
  omega
 rw[e0,e1]
theorem Kg {b} {k} (hk:k<b.length) (h:one b[k]≠0):Gv b k=one b[k]:=by
 unfold Gv;rw[gd hk,Ps0 h]
theorem Kh {b} {k} (hk:k<b.length) (h:one b[k]=0):Gv b k=dG iQ 19 b k:=by
 unfold Gv;rw[gd hk,Ng (by simpa using h)]
theorem yF {b} {k} (h:∀j,j<k→Gv b j=0) (hk:Gv b k=0):∀j,j<k+1→Gv b j=0:=fun j hj=>by
 by_cases e:j=k
 ·subst e;exact hk
 ·exact h j om
end Bk
theorem mK (A) (n c B) (b) (w) (hv:iE w B A n c b) (hB:B≤w.heap.size) (hs:Bk.cK b≤1000000000000) (hf:∀s∈b,Lb.Fit s.1):
  Calls prog 17 #[.slice A n c] w fun e w'=>e= .returned (.int .i64 (Bk.bN b))∧Gr w w':=by
 have CK:=Aj (Iy A n c B b w hv hB hs);obtain⟨hlc,hcm⟩:=hv.cap;unfold maxLen at hcm;have hn:=Aj hv.len;have V:=Aj hv;have F:=Aj hf;obtain⟨r,hr⟩:∃r,r=Bk.bN b:=⟨_,rfl⟩
 rw[←hr];by_cases hlim:1048576<b.length∨16777216<Bk.cK b
 ·have hr7:r=7:=by rw[hr];unfold Bk.bN;rw[Ps0 hlim]
  rw[Ps0 hlim]at CK;subst hr7;clear hv hf hs hr hlim;go_enter func17,ntmps17;go_wp2_with (go_at_call 43;refine CK.1.mono ?_;rintro e w1 ⟨rfl,g1⟩;have G1:=Aj g1;clear g1);go_ret;exact⟨rfl,G1.1⟩
 ·have HR:Kept (r=Lb.gI (Bk.Gv b) b.length):=⟨by rw[hr];unfold Bk.bN;rw[Ng hlim]⟩
  rw[Ng hlim]at CK;clear hv hf hs hr hlim;go_enter func17,ntmps17;go_wp2_with (go_at_call 43;refine CK.1.mono ?_;rintro e w1 ⟨rfl,g1⟩;have G1:=Aj g1;clear g1);go_loopw [15] (fun i wr=>∃k:Nat,k≤n∧i= .int .i64 k∧Kept (∀j,j<k→Bk.Gv b j=0)∧Gr w wr) (fun i _=>n-(intOf i).toNat)
  case atStart=>exact⟨0,om,rfl,⟨fun j hj=>om⟩,G1.1⟩
  case round=>
   clear G1;obtain⟨k,hk,rfl,hd,gr⟩:=hrel;have G:=Aj gr;by_cases hlt:k<n
   ·have hkl:k<b.length:=by rw[←hn.1];exact hlt
    obtain⟨b0,off,A1,n1,c1,A2,n2,c2,rfl,hL,hS,hc⟩:=V.1.cells hB hkl;obtain⟨r0,r1⟩:=hc wr gr.below;have SG:=Aj (fun W (g:Gr w W)=>yE A1 A2 n1 c1 n2 c2 B b[k].1 b[k].2 W (hL.below (g.below.mono hB)) (hS.below (g.below.mono hB)) (Lt hB g.size) (F.1 _ (ic hkl)));have hone:Bk.one (b[k].1,b[k].2)=Bk.one b[k]:=rfl;rw[hone]at SG;have ALN:Gr w (wr.alloc (.cells #[.slice A1 n1 c1,.slice A2 n2 c2] 57)):=gr.alloc _;have ZQ:=Aj (SG.1 _ ALN);have GAL:=Aj ALN;clear hL hS hc gr hone ALN;by_cases h1:Bk.one b[k]=0
    ·have hst:=Bk.Kh hkl h1;rw[h1]at ZQ;obtain⟨f,hfx⟩:∃f,f=Bk.dG Bk.iQ 19 b k:=⟨_,rfl⟩
     rw[←hfx]at hst;have hst:=Aj hst;have AK:Kept (∀W,Gr w W→Calls prog 45 #[.slice (some ⟨b0,off+(k-1)*2,none⟩) (k+1-(k-1)) (c-(k-1)),.func (.func 46) #[] #[],.int .i64 19] W fun e w'=>e= .returned (.int .i64 f)∧Gr W w'):=⟨fun W g=>by
      have h2:=V.1.sub (lo:=k-1) (hi:=k+1) om om;rw[Ng om]at h2;have h3:=P9 _ _ _ B _ 19 W (h2.below (g.below.mono hB)) (Lt hB g.size) Ah;have e:Bk.yB Bk.iQ 19 ((b.take (k+1)).drop (k-1))=f:=by
       by_cases h0:k=0
       ·subst h0;rw[hfx];exact Bk.sub_zero hkl
       ·rw[hfx];exact Bk.sub_pos hkl h0
      rw[e,DV,add_plain]at h3;exact h3⟩
     clear hfx;by_cases h0:k=0
     ·subst h0;simp only[Nat.zero_mul,Da]at r0 r1;have AK0:Kept (∀W,Gr w W→Calls prog 45 #[.slice (some ⟨b0,off,none⟩) 1 c,.func (.func 46) #[] #[],.int .i64 19] W fun e w'=>e= .returned (.int .i64 f)∧Gr W w'):=AK;have hc1:¬c=0:=om;clear AK h1;by_cases hf0:f=0
      ·subst hf0;have hd2:=Aj (Bk.yF hd.1 hst.1);clear hst;go_wp2_with (first
        |(go_at_call 45;refine(AK0.1 w2 G2.1).mono ?_;rintro e w3 ⟨rfl,g3⟩;have G3:=Aj (G2.1.trans g3);clear g3)
        |(go_at_call 44;refine ZQ.1.mono ?_;rintro e w2 ⟨rfl,g2⟩;have G2:=Aj (GAL.1.trans g2);clear g2))
       go_roundw
       case rel=>exact⟨1,om,by go_num,hd2,G3.1⟩
       case measure=>simp[intOf];omega
      ·have hd2:Kept (r=f):=⟨HR.1.trans ((Lb.bq _ _ 0 hkl hd.1 (by rw[hst.1];exact hf0)).trans hst.1)⟩
       have hf1:(f !=0)=true:=by simpa using hf0
       clear hst hf0;go_wp2_with (first
        |(go_at_call 45;refine(AK0.1 w2 G2.1).mono ?_;rintro e w3 ⟨rfl,g3⟩;have G3:=Aj (G2.1.trans g3);clear g3)
        |(go_at_call 44;refine ZQ.1.mono ?_;rintro e w2 ⟨rfl,g2⟩;have G2:=Aj (GAL.1.trans g2);clear g2))
       go_ret;exact⟨fP hd2.1.symm,G3.1⟩
     ·have AK0:=Aj AK.1;have hc1:¬c=k-1:=om;have ek:(k:Int)-1=((k-1:Nat):Int):=om;have ek4:¬(((k-1:Nat):Int)<0):=om;have ek5:((k-1:Nat):Int).toNat=k-1:=om;clear AK h1;by_cases hf0:f=0
      ·subst hf0;have hd2:=Aj (Bk.yF hd.1 hst.1);clear hst;go_wp2_with (first
        |(go_at_call 45;refine(AK0.1 w2 G2.1).mono ?_;rintro e w3 ⟨rfl,g3⟩;have G3:=Aj (G2.1.trans g3);clear g3)
        |(go_at_call 44;refine ZQ.1.mono ?_;rintro e w2 ⟨rfl,g2⟩;have G2:=Aj (GAL.1.trans g2);clear g2))
       go_roundw
       case rel=>exact⟨k+1,om,by go_num,hd2,G3.1⟩
       case measure=>simp[intOf];omega
      ·have hd2:Kept (r=f):=⟨HR.1.trans ((Lb.bq _ _ k hkl hd.1 (by rw[hst.1];exact hf0)).trans hst.1)⟩
       have hf1:(f !=0)=true:=by simpa using hf0
       clear hst hf0;go_wp2_with (first
        |(go_at_call 45;refine(AK0.1 w2 G2.1).mono ?_;rintro e w3 ⟨rfl,g3⟩;have G3:=Aj (G2.1.trans g3);clear g3)
        |(go_at_call 44;refine ZQ.1.mono ?_;rintro e w2 ⟨rfl,g2⟩;have G2:=Aj (GAL.1.trans g2);clear g2))
       go_ret;exact⟨fP hd2.1.symm,G3.1⟩
    ·have hd2:Kept (r=Bk.one b[k]):=⟨HR.1.trans ((Lb.bq _ _ k hkl hd.1 (by rw[Bk.Kg hkl h1];exact h1)).trans (Bk.Kg hkl h1))⟩
     have h1':(Bk.one b[k] !=0)=true:=by simpa using h1
     clear h1;generalize Bk.one b[k]=s at*;go_wp2_with (go_at_call 44;refine ZQ.1.mono ?_;rintro e w2 ⟨rfl,g2⟩;have G2:=Aj (GAL.1.trans g2);clear g2);go_ret;exact⟨fP hd2.1.symm,G2.1⟩
   ·have hd2:Kept (r=0):=⟨HR.1.trans (Lb.dx _ _ fun j hj=>hd.1 j (by have:=hn.1;omega))⟩
    clear gr;go_wp2;go_ret;exact⟨fP hd2.1.symm,G.1⟩
end
end Go.Proofs.YtjcpmfphnodaaaaGreatDoor
