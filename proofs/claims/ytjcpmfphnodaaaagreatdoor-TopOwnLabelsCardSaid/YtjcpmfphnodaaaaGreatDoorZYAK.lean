/- Part 11. -/
import Derived.Test.YtjcpmfphnodaaaaGreatDoorZYAJ
import Derived.Test.YtjcpmfphnodaaaaGreatDoorZYAI
namespace Go.Proofs.YtjcpmfphnodaaaaGreatDoor
set_option maxRecDepth 100000
set_option maxHeartbeats 0
open _root_.Go.Proofs.Tryz
namespace Ru
open Bt Tm
def runs:List Nat→List (Nat×Nat)
 |[]=>[]
 |x::l=>match runs l with
  |[]=>[(x,1)]
  |(y,c)::rs=>if x=y then(y,c+1)::rs else(x,1)::(y,c)::rs
def join (rs:List (Nat×Nat)):List Nat:=rs.flatMap fun p=>List.replicate p.2 p.1
def tot (rs:List (Nat×Nat)):Nat:=(rs.map (·.2)).sum
def one (p:Nat×Nat):List Bool:=bw 64 p.1++bw 7 (p.2-1)
def enc (l:List Nat):List Bool:=(runs l).flatMap one
def Good:Option Nat→List (Nat×Nat)→Prop
 |_,[]=>True
 |last,p::rs=>last≠some p.1∧1≤p.2∧p.2≤128∧p.1<2^64∧Good (some p.1) rs
theorem nO (rs):(join rs).length=tot rs:=by
 induction rs with
 |nil=>rfl
 |cons p rs ih=>
  have h:join (p::rs)=List.replicate p.2 p.1++join rs:=rfl;have h2:tot (p::rs)=p.2+tot rs:=by simp[tot]
  rw[h,h2,La,Eo,ih]
theorem lJ:∀(l),join (runs l)=l
 |[]=>rfl
 |x::l=>by
  have ih:=lJ l;rw[runs];cases hr:runs l with
  |nil=>rw[hr]at ih;simp only[join,Dq]at ih;simp[join,←ih]
  |cons p rs=>
   obtain⟨y,c⟩:=p;rw[hr]at ih;simp only[];by_cases hx:x=y
   ·subst hx;rw[Ps0 rfl];simp only[join,Au]at ih⊢;rw[List.replicate_succ,Ba,ih]
   ·rw[Ng hx];simp only[join,Au]at ih⊢;rw[ih];rfl
theorem pz:∀(l),l.length≤128→(∀x∈l,x<2^64)→Good none (runs l)
 |[],_,_=>trivial
 |x::l,hl,hx=>by
  simp only[Lc]at hl;have ih:=pz l om (fun y hy=>hx y (kF _ hy));have hj:=congrArg List.length (lJ l);rw[nO]at hj;have hx0:=hx x jO;rw[runs];cases hr:runs l with
  |nil=>exact⟨sm,sm,sm,hx0,trivial⟩
  |cons p rs=>
   obtain⟨y,c⟩:=p;rw[hr]at ih hj;simp only[];have hc:c≤l.length:=by
    have:tot ((y,c)::rs)=c+tot rs:=by simp[tot]
    omega
   obtain⟨-,h2,h3,h4,h5⟩:=ih;by_cases hxy:x=y
   ·subst hxy;rw[Ps0 rfl];exact⟨sm,sm,by simp only[];omega,h4,h5⟩
   ·rw[Ng hxy];exact⟨sm,sm,sm,hx0,by simpa using hxy,h2,h3,h4,h5⟩
theorem pE {x l} (rs) (hr:runs l=rs) (h:∀p∈rs.head?,p.1≠x):∀(c),runs (List.replicate (c+1) x++l)=(x,c+1)::rs
 |0=>by
  rw[show List.replicate (0+1) x++l=x::l from rfl,runs,hr];cases rs with
  |nil=>rfl
  |cons p rs=>
   obtain⟨y,c⟩:=p;simp only[];rw[Ng (fun e=>h (y,c) rfl e.symm)]
 |c+1=>by
  rw[List.replicate_succ,Ba,runs,pE rs hr h c];simp
theorem nP:∀{rs} {last},Good last rs→runs (join rs)=rs
 |[],_,_=>rfl
 |(x,c)::rs,last,h=>by
  obtain⟨-,h2,h3,h4,h5⟩:=h;have ih:=nP h5;obtain⟨k,rfl⟩:∃k,c=k+1:=⟨c-1,by simp only[]at h2;omega⟩
  rw[show join ((x,k+1)::rs)=List.replicate (k+1) x++join rs from rfl];refine pE rs ih (fun p hp=>?_) k;cases rs with
  |nil=>simp at hp
  |cons q rs=>
   simp only[List.head?_cons,Option.mem_def,gK]at hp;subst hp;exact fun e=>h5.1 (by rw[e])
def gr:Nat→Nat→Option Nat→List (Nat×Nat)→List Bool→List (Nat×Nat)×List Bool×Int
 |0,_,_,acc,r=>(acc,r,0)
 |f+1,n,last,acc,r=>if n=0 then(acc,r,0)
  else if(rd 64 r).2.2≠0 then([],(rd 64 r).2)
  else if(rd 7 (rd 64 r).2.1).2.2≠0 then([],(rd 7 (rd 64 r).2.1).2)
  else if n< (rd 7 (rd 64 r).2.1).1+1∨last=some (rd 64 r).1 then([],(rd 7 (rd 64 r).2.1).2.1,8)
  else gr f (n-((rd 7 (rd 64 r).2.1).1+1)) (some (rd 64 r).1) (acc++[((rd 64 r).1,(rd 7 (rd 64 r).2.1).1+1)]) (rd 7 (rd 64 r).2.1).2.1
def dec (n:Nat) (r:List Bool):List Nat×List Bool×Int:=(join (gr n n none [] r).1,(gr n n none [] r).2)
theorem YX {f n last acc x c} (r) (hx:x<2^64) (h1:1≤c) (h2:c≤128) (hc:c≤n) (hl:last≠some x):
  gr (f+1) n last acc (one (x,c)++r)=gr f (n-c) (some x) (acc++[(x,c)]) r:=by
 have e1:x%2^64=x:=kQ hx;have e2:(c-1)%2^7=c-1:=kQ om;have e3:c-1+1=c:=om;rw[gr,Ng om];unfold one;rw[Af,iy,e1];simp only[];rw[iy,e2];simp only[];rw[Ng sm,Ng sm,e3,Ng (fun h=>h.elim (fun h=>om) hl)]
theorem QC:∀(rs) (f n) (last) (acc) (r),Good last rs→tot rs=n→n≤f→gr f n last acc (rs.flatMap one++r)=(acc++rs,r,0)
 |[],f,n,last,acc,r,_,ht,hf=>by
  have:n=0:=by rw[←ht];rfl
  subst this;cases f<;>simp[gr]
 |(x,c)::rs,f,n,last,acc,r,hg,ht,hf=>by
  obtain⟨h1,h2,h3,h4,h5⟩:=hg;simp only[]at h1 h2 h3 h4;have ht2:c+tot rs=n:=by rw[←ht];simp[tot]
  obtain⟨f,rfl⟩:∃k,f=k+1:=⟨f-1,om⟩
  rw[Au,Af,YX _ h4 h2 h3 om h1,QC rs f (n-c) (some x) _ r h5 om om];simp
theorem bR {l} (hl:l.length≤128) (hx:∀x∈l,x<2^64) (r):dec l.length (enc l++r)=(l,r,0):=by
 unfold dec enc;have hj:=congrArg List.length (lJ l);rw[nO]at hj;rw[QC (runs l) l.length l.length none [] r (pz l hl hx) hj Ai,Az,lJ]
theorem XP:∀(f n) (last) (acc) (r) (out) (r'),n≤f→gr f n last acc r=(out,r',0)→
  ∃rs,out=acc++rs∧Good last rs∧tot rs=n∧r=rs.flatMap one++r'
 |0,n,last,acc,r,out,r',hf,h=>by
  simp only[gr,az]at h;exact⟨[],by simp[h.1],trivial,by simp[tot];omega,by simp[h.2.1]⟩
 |f+1,n,last,acc,r,out,r',hf,h=>by
  rw[gr]at h;by_cases hn:n=0
  ·subst hn;rw[Ps0 rfl]at h;simp only[az]at h;exact⟨[],by simp[h.1],trivial,by simp[tot],by simp[h.2.1]⟩
  ·rw[Ng hn]at h;obtain⟨x,r1,e1,hg⟩:∃x r1 e1,rd 64 r=(x,r1,e1):=⟨_,_,_,rfl⟩
   rw[hg]at h;simp only[]at h;by_cases he:e1=0
   ·subst he;rw[Ng sm]at h;obtain⟨c,r2,e2,hg2⟩:∃c r2 e2,rd 7 r1=(c,r2,e2):=⟨_,_,_,rfl⟩
    rw[hg2]at h;simp only[]at h;by_cases he2:e2=0
    ·subst he2;rw[Ng sm]at h;by_cases hq:n<c+1∨last=some x
     ·rw[Ps0 hq]at h;simp at h
     ·rw[Ng hq]at h;obtain⟨d1,d2⟩:=jy hg;obtain⟨d3,d4⟩:=jy hg2;obtain⟨rs,h1,h2,h3,h4⟩:=XP f (n-(c+1)) _ _ _ _ _ om h;refine⟨(x,c+1)::rs,by simp[h1],⟨fun e=>hq (.inr e),sm,by simp only[];omega,d2,h2⟩,?_,?_⟩
      ·have:tot ((x,c+1)::rs)=c+1+tot rs:=by simp[tot]
       omega
      ·rw[Au,one,d1,d3,h4];simp
    ·rw[Ps0 he2]at h;simp only[az]at h;exact absurd h.2.2 he2
   ·rw[Ps0 he]at h;simp only[az]at h;exact absurd h.2.2 he
theorem KH:∀{rs} {last},Good last rs→∀x∈join rs,x<2^64
 |[],_,_,x,hx=>by simp[join]at hx
 |p::rs,_,h,x,hx=>by
  have e:join (p::rs)=List.replicate p.2 p.1++join rs:=rfl;rw[e]at hx;rcases ja.1 hx with hx|hx
  ·rw[(List.mem_replicate.1 hx).2];exact h.2.2.2.1
  ·exact KH h.2.2.2.2 x hx
theorem iA {n r r' l} (h:dec n r=(l,r',0)):l.length=n∧(∀x∈l,x<2^64)∧r=enc l++r':=by
 unfold dec at h;obtain⟨out,r2,e,hg⟩:∃out r2 e,gr n n none [] r=(out,r2,e):=⟨_,_,_,rfl⟩
 rw[hg]at h;simp only[az]at h;obtain⟨rfl,rfl,rfl⟩:=h;obtain⟨rs,h1,h2,h3,h4⟩:=XP n n none [] r out r2 Ai hg;rw[Az]at h1;subst h1;refine⟨by rw[nO,h3],KH h2,?_⟩;unfold enc;rw[nP h2];exact h4
end Ru
namespace Ck
open Bt Tm
theorem lK (b:UInt8) (L:List UInt8):Bt.bits (b::L)=bw 8 b.toNat++Bt.bits L:=by
 apply Ef
 ·rw[La,iw,iw,aj,Lc];omega
 ·intro i h1 h2;rw[jv];by_cases hi:i<8
  ·rw[sU (by rw[aj];exact hi),IW];unfold bit;rw[show i/8=0 from om,show 7-i%8=8-1-i from om]
   rfl
  ·rw[List.getElem_append_right (by rw[aj];omega),jv];unfold bit;rw[aj,show i/8=(i-8)/8+1 from om,show i%8=(i-8)%8 from om,jw,List.getElem?_cons_succ,←jw]
theorem U5 {L:List UInt8} {bs:List Bool} (h:Wr L bs):∃p,p<8∧Bt.bits L=bs++List.replicate p false:=by
 have hl:=h.len;refine⟨8*L.length-bs.length,om,?_⟩;apply Ef
 ·rw[iw,La,Eo];omega
 ·intro i h1 h2;rw[jv];by_cases hi:i<bs.length
  ·rw[sU hi,h.get i hi]
  ·rw[List.getElem_append_right om,List.getElem_replicate,h.pad i om]
theorem abQ {L:List UInt8} {bs:List Bool} {p:Nat} (hp:p<8) (h:Bt.bits L=bs++List.replicate p false):Wr L bs:=by
 have hl:=congrArg List.length h;rw[iw,La,Eo]at hl;refine⟨om,fun k hk=>?_,fun k hk=>?_⟩
 ·have h1:k< (Bt.bits L).length:=by rw[iw];omega
  rw[←jv L k h1,List.getElem_of_eq h h1,sU hk]
 ·by_cases h1:k< (Bt.bits L).length
  ·rw[←jv L k h1,List.getElem_of_eq h h1,List.getElem_append_right hk,List.getElem_replicate]
  ·rw[iw]at h1;unfold bit;rw[jw,BM om];simp
def vals (tag:Nat) (l:List Nat):List Bool:=if tag=1 then Xo.enc l else if tag=2 then Ru.enc l else Di.enc l
def gB (tag n:Nat) (r:List Bool):List Nat×List Bool×Int:=if tag=1 then Xo.dec n r else if tag=2 then Ru.dec n r else Di.dec n r
def choose (l:List Nat):Nat:=
 if(Di.enc l).length<min (Xo.enc l).length (Ru.enc l).length then 3 else if(Ru.enc l).length< (Xo.enc l).length then 2 else 1
theorem sZ (l):1≤choose l∧choose l≤3:=by unfold choose;split<;>(try split)<;>omega
def cb (l:List (Int×Nat)):List Bool:=bw 8 (choose (l.map (·.2)))++(bw 8 (l.length-1)++(Tm.enc (l.map (·.1))++vals (choose (l.map (·.2))) (l.map (·.2))))
def fin (r:List Bool):Int:=if 8≤r.length∨true∈r then 4 else 0
def U6 (tag n:Nat) (r:List Bool):List (Int×Nat)×Int:=
 if(Tm.dec n r).2.2≠0 then([],(Tm.dec n r).2.2)
 else if(gB tag n (Tm.dec n r).2.1).2.2≠0 then([],(gB tag n (Tm.dec n r).2.1).2.2)
 else if fin (gB tag n (Tm.dec n r).2.1).2.1≠0 then([],4)
 else if choose (gB tag n (Tm.dec n r).2.1).1≠tag then([],8)
 else((Tm.dec n r).1.zip (gB tag n (Tm.dec n r).2.1).1,0)
def dec:List UInt8→List (Int×Nat)×Int
 |[]=>([],3)
 |[t]=>if t.toNat<1∨3<t.toNat then([],9)else([],3)
 |t::m::b=>if t.toNat<1∨3<t.toNat then([],9)else if 120≤m.toNat then([],7)else U6 t.toNat (m.toNat+1) (Bt.bits b)
def Ok (l:List (Int×Nat)):Prop:=l≠[]∧l.length≤120∧∀p∈l,Tm.In p.1∧p.2<2^64
theorem IZ (l):(Di.eO l).length≤l.length:=by
 induction l with
 |nil=>simp[Di.eO]
 |cons x l ih=>
  have h:∀(m:List Nat),(Di.ins x m).length≤m.length+1:=by
   intro m
   induction m with
   |nil=>simp[Di.ins]
   |cons y m ih=>rw[Di.ins];split<;>(try split)<;>simp<;>omega
  have e:Di.eO (x::l)=Di.ins x (Di.eO l):=rfl;have:=h (Di.eO l);rw[e,Lc];omega
theorem I1 {tag l} (h1:l.length≤120) (hx:∀x∈l,x<2^64) (r):gB tag l.length (vals tag l++r)=(l,r,0):=by
 unfold gB vals;split
 ·exact Xo.bR hx r
 ·split
  ·exact Ru.bR om hx r
  ·exact Di.bR hx (by have:=IZ l;omega) r
theorem EZ {tag n r r' l} (h:gB tag n r=(l,r',0)):l.length=n∧(∀x∈l,x<2^64)∧r=vals tag l++r':=by
 unfold gB at h;unfold vals;split at h
 ·rename_i q;rw[Ps0 q];exact Xo.iA h
 ·rename_i q
  rw[Ng q];split at h
  ·rename_i q2;rw[Ps0 q2];exact Ru.iA h
  ·rename_i q2
   rw[Ng q2];obtain⟨a,b,-,d⟩:=Di.iA h;exact⟨a,b,d⟩
theorem U7 {p} (hp:p<8):fin (List.replicate p false)=0:=by unfold fin;rw[Ng (by simp;omega)]
theorem YY {r} (h:fin r=0):∃p,p<8∧r=List.replicate p false:=by
 unfold fin at h;split at h
 ·simp at h
 ·rename_i q
  refine⟨r.length,om,?_⟩;apply List.eq_replicate_iff.2 ⟨rfl,fun b hb=>?_⟩;cases b with
  |false=>rfl
  |true=>exact absurd (.inr hb) q
theorem QD (l:List (Int×Nat)):(l.map (·.1)).zip (l.map (·.2))=l:=by
 induction l with
 |nil=>rfl
 |cons p l ih=>simp[ih]
theorem bw8 {b:UInt8} {n} (h:bw 8 b.toNat=bw 8 n) (hn:n<256):b.toNat=n:=by
 have h2:=congrArg oC h;rw[sW,sW]at h2;have:=b.toNat_lt;omega
theorem YZ {L l} (hl:Ok l) (h:Wr L (cb l)):dec L=(l,0):=by
 obtain⟨h0,h1,h2⟩:=hl;have hpos:=oH.2 h0;obtain⟨p,hp,hb⟩:=U5 h;obtain⟨c1,c2⟩:=sZ (l.map (·.2));have hlen:=h.len;have hcl:16≤(cb l).length:=by
  unfold cb;rw[La,La,aj,aj];omega
 match L,hb,hlen with
 |[],_,q=>simp only[AZ]at q;omega
 |[t],_,q=>simp only[DF]at q;omega
 |t::m::b,hb,_=>
  rw[lK,lK]at hb;unfold cb at hb;simp only[Af]at hb;obtain⟨e1,hb⟩:=List.append_inj hb (by rw[aj,aj]);obtain⟨e2,hb⟩:=List.append_inj hb (by rw[aj,aj]);have et:=bw8 e1 om;have em:=bw8 e2 om;rw[dec,Ng om,Ng om,et,em,show l.length-1+1=l.length from om];unfold U6;have a1:=Tm.bR (l:=l.map (·.1)) (fun u hu=>by
   obtain⟨q,hq,rfl⟩:=bQ.1 hu;exact(h2 q hq).1) (vals (choose (l.map (·.2))) (l.map (·.2))++List.replicate p false)
  have a2:=I1 (tag:=choose (l.map (·.2))) (l:=l.map (·.2)) (by simpa using h1) (fun u hu=>by
   obtain⟨q,hq,rfl⟩:=bQ.1 hu;exact(h2 q hq).2) (List.replicate p false)
  rw[fF]at a1 a2;rw[hb,a1];simp only[];rw[a2];simp only[];rw[Ng sm,Ng sm,Ng (by rw[U7 hp];simp),Ng sm,QD]
theorem iA {L l} (h:dec L=(l,0)):Ok l∧Wr L (cb l):=by
 match L,h with
 |[],h=>simp[dec]at h
 |[t],h=>rw[dec]at h;split at h<;>simp at h
 |t::m::b,h=>
  rw[dec]at h;by_cases q1:t.toNat<1∨3<t.toNat
  ·rw[Ps0 q1]at h;simp at h
  ·rw[Ng q1]at h;by_cases q2:120≤m.toNat
   ·rw[Ps0 q2]at h;simp at h
   ·rw[Ng q2]at h;unfold U6 at h;obtain⟨ts,r1,e1,hg⟩:∃ts r1 e1,Tm.dec (m.toNat+1) (Bt.bits b)=(ts,r1,e1):=⟨_,_,_,rfl⟩
    rw[hg]at h;simp only[]at h;by_cases he:e1=0
    ·subst he;rw[Ng sm]at h;obtain⟨vs,r2,e2,hg2⟩:∃vs r2 e2,gB t.toNat (m.toNat+1) r1=(vs,r2,e2):=⟨_,_,_,rfl⟩
     rw[hg2]at h;simp only[]at h;by_cases he2:e2=0
     ·subst he2;rw[Ng sm]at h;by_cases hf:fin r2=0
      ·rw[Ng (by rw[hf];simp)]at h;by_cases hc:choose vs=t.toNat
       ·rw[Ng (by simp[hc])]at h;simp only[az,BI]at h;obtain⟨a1,a2,a3⟩:=Tm.iA hg;obtain⟨b1,b2,b3⟩:=EZ hg2;obtain⟨p,hp,hr⟩:=YY hf;have hlen:ts.length=vs.length:=om;have m1:l.map (·.1)=ts:=by rw[←h];exact List.map_fst_zip om
        have m2:l.map (·.2)=vs:=by rw[←h];exact List.map_snd_zip om
        have ll:l.length=m.toNat+1:=by rw[←a1,←m1,fF]
        refine⟨⟨fun e=>by rw[e]at ll;simp at ll,om,fun q hq=>⟨a2 _ (by rw[←m1];exact List.mem_map_of_mem hq),b2 _ (by rw[←m2];exact List.mem_map_of_mem hq)⟩⟩,?_⟩;refine abQ hp ?_;unfold cb;rw[m1,m2,hc,ll,Bz,lK,lK,a3,b3,hr];simp only[Af]
       ·rw[Ps0 hc]at h;simp at h
      ·rw[Ps0 hf]at h;simp at h
     ·rw[Ps0 he2]at h;simp only[az]at h;exact absurd h.2 he2
    ·rw[Ps0 he]at h;simp only[az]at h;exact absurd h.2 he
def psh (L:List UInt8) (n:Nat) (b:Bool):List UInt8:=
 let L2:=if n%8=0 then L++[0]else L
 L2.set (n/8) (UInt8.ofNat ((L2.getD (n/8) 0).toNat|||(b.toNat<<< (7-n%8))))
def pkF:List UInt8→Nat→List Bool→List UInt8
 |L,_,[]=>L
 |L,n,b::bs=>pkF (psh L n b) (n+1) bs
def pk (bs:List Bool):List UInt8:=pkF [] 0 bs
theorem Y0 {L bs} (h:Wr L bs) (b):Wr (psh L bs.length b) (bs++[b]):=by
 refine(h.push b (L2:=if bs.length%8=0 then L++[0]else L) rfl ?_).2;rw[Dp];apply kQ;apply Nat.or_lt_two_pow (n:=8)
 ·exact UInt8.toNat_lt _
 ·have h1:b.toNat≤1:=by cases b<;>simp
  have h2:2^ (7-bs.length%8)≤2^7:=kP Ah om;rw[Cc];have h3:=Nat.mul_le_mul h1 h2;omega
theorem QE:∀(bs:List Bool) {L:List UInt8} {aS:List Bool},Wr L aS→Wr (pkF L aS.length bs) (aS++bs)
 |[],L,aS,h=>by simpa[pkF]using h
 |b::bs,L,aS,h=>by
  have:=QE bs (Y0 h b);rw[La,DF,Af]at this;exact this
theorem KJ (bs):Wr (pk bs) bs:=by
 have:=QE bs Wr.nil;rw[Az]at this;exact this
def enc (l:List (Int×Nat)):List UInt8:=pk (cb l)
theorem bq (l):(enc l).length=((cb l).length+7)/8:=(KJ (cb l)).len
theorem bR {l} (hl:Ok l):dec (enc l)=(l,0):=YZ hl (KJ (cb l))
theorem U8 {L l} (h:dec L=(l,0)):Ok l∧L=enc l:=by
 obtain⟨h1,h2⟩:=iA h;exact⟨h1,h2.inj (KJ (cb l))⟩
def jA (l:List (Int×Nat)):List (List (Int×Nat)):=if l=[]then[]else l.take 120::jA (l.drop 120)
termination_by l.length
decreasing_by
 rename_i h
 have:=oH.2 h;rw[lZ];omega
theorem dS:jA []=[]:=by rw[jA,Ps0 rfl]
theorem jP {l} (h:l≠[]):jA l=l.take 120::jA (l.drop 120):=by rw[jA,Ng h]
theorem nQ {X:Type} {f:X→List Bool} {B} (h:∀x,(f x).length≤B) (l:List X):(l.flatMap f).length≤B*l.length:=by
 induction l with
 |nil=>simp
 |cons x l ih=>
  have:=h x;rw[Au,La,Lc,Nat.mul_add,C8];omega
theorem XQ {i} (h:i≤4):fl i+fw i≤68:=by
 rcases(by omega:i=0∨i=1∨i=2∨i=3∨i=4)with rfl|rfl|rfl|rfl|rfl<;>simp[fl,fw]
theorem yB:∀(l) (t d),(Tm.yx t d l).length=l.length
 |[],_,_=>rfl
 |u::l,t,d=>by rw[Tm.yx,Lc,yB l,Lc]
theorem XR (l):(Tm.enc l).length≤68*l.length:=by
 cases l with
 |nil=>simp[Tm.enc]
 |cons t l=>
  have h:=nQ (f:=Tm.ch) (B:=68) (fun x=>by
   unfold Tm.ch;rw[La,aj,aj];exact XQ (EW x)) (Tm.yx t 0 l)
  rw[yB]at h;rw[Tm.enc,La,aj,Lc];omega
theorem Y5 (last v c) (hc:c.2≤64):(Xo.put last c v).1.length≤78∧(Xo.put last c v).2.2≤64:=by
 unfold Xo.put;split
 ·exact⟨by simp only[aj];omega,hc⟩
 ·split
  ·exact⟨by simp only[La,aj];omega,hc⟩
  ·have:(Xo.win (v^^^last)).2≤64:=by unfold Xo.win;simp only[];omega
   exact⟨by simp only[La,aj];omega,this⟩
theorem KL:∀(l) (last) (c),c.2≤64→(Xo.puts last c l).length≤78*l.length
 |[],_,_,_=>by simp[Xo.puts]
 |v::l,last,c,hc=>by
  obtain⟨h1,h2⟩:=Y5 last v c hc;have:=KL l v (Xo.put last c v).2 h2;rw[Xo.puts,La,Lc];omega
theorem XT (l):(Xo.enc l).length≤78*l.length:=by
 cases l with
 |nil=>simp[Xo.enc]
 |cons v l=>
  have:=KL l v (0,0) sm;rw[Xo.enc,La,aj,Lc];omega
theorem KM (l):(vals (choose l) l).length≤(Xo.enc l).length:=by
 unfold choose;split
 ·rw[show vals 3 l=Di.enc l from rfl];omega
 ·split
  ·rw[show vals 2 l=Ru.enc l from rfl];omega
  ·exact Nr _
theorem U9 {l} (h:l.length≤120):2≤(enc l).length∧(enc l).length≤2200:=by
 have h1:=XR (l.map (·.1));have h2:=KM (l.map (·.2));have h3:=XT (l.map (·.2));rw[fF]at h1 h3;rw[bq];unfold cb;simp only[La,aj];omega
end Ck
namespace Cs
open Ck
abbrev gD:=List (Int×Nat)
def In (s:gD):Prop:=∀p∈s,Tm.In p.1∧p.2<2^64
def E8:List Nat→gD→List UInt8→gD×List UInt8×Int
 |[],acc,d=>(acc,d,0)
 |n::ls,acc,d=>if(Ck.dec (d.take n)).2≠0 then([],d,(Ck.dec (d.take n)).2)else if ls≠[]∧(Ck.dec (d.take n)).1.length≠120 then([],d,23)else E8 ls (acc++(Ck.dec (d.take n)).1) (d.drop n)
def Ic:List (List Nat)→List gD→List UInt8→List gD×Int
 |[],acc,_=>(acc,0)
 |l::ls,acc,d=>if(E8 l [] d).2.2≠0 then([],(E8 l [] d).2.2)else Ic ls (acc++[(E8 l [] d).1]) (E8 l [] d).2.1
def lens (s:gD):List Nat:=(jA s).map fun c=>(Ck.enc c).length
def tq (s:gD):List UInt8:=(jA s).flatMap Ck.enc
theorem I4 (s:gD):jA s=[]↔s=[]:=by
 constructor
 ·intro h;by_cases q:s=[]
  ·exact q
  ·rw[jP q]at h;simp at h
 ·intro h;rw[h,dS]
theorem Va {s:gD} (h0:s≠[]) (h:In s):Ck.Ok (s.take 120):=
 ⟨fun e=>by
  have:=congrArg List.length e;have h1:=oH.2 h0;rw[oF,AZ]at this;omega,by rw[oF];omega,fun p hp=>h p (List.mem_of_mem_take hp)⟩
theorem KN (s acc r) (h:In s):E8 (lens s) acc (tq s++r)=(acc++s,r,0):=by
 by_cases h0:s=[]
 ·subst h0;simp[lens,tq,dS,E8]
 ·have hk:=bR (Va h0 h);have e1:lens s=(Ck.enc (s.take 120)).length::lens (s.drop 120):=by unfold lens;rw[jP h0];rfl
  have e2:tq s++r=Ck.enc (s.take 120)++(tq (s.drop 120)++r):=by unfold tq;rw[jP h0,Au,Af]
  rw[e1,e2,E8,List.take_left' rfl,List.drop_left' rfl,hk];simp only[];have hq:¬(lens (s.drop 120)≠[]∧(s.take 120).length≠120):=by
   rintro⟨a,b⟩;apply a;have:s.drop 120=[]:=by
    apply oG;rw[oF]at b;rw[lZ];omega
   unfold lens;rw[this,dS];rfl
  rw[Ng sm,Ng hq,KN (s.drop 120) (acc++s.take 120) r (fun p hp=>h p (List.mem_of_mem_drop hp)),Af,jH]
termination_by s.length
decreasing_by
 have:=oH.2 h0;rw[lZ];omega
theorem KR:∀(b acc) (r),(∀s∈b,In s)→Ic (b.map lens) acc (b.flatMap tq++r)=(acc++b,0)
 |[],acc,r,_=>by simp[Ic]
 |s::b,acc,r,h=>by
  rw[AA,Ic,Au,Af,KN s [] _ (h s jO)];simp only[Az];rw[Ng sm,KR b (acc++[s]) r (fun t ht=>h t (kF _ ht)),Af]
  rfl
theorem qD {s} (h:lens s=[]):s=[]:=by
 unfold lens at h;rw[List.map_eq_nil_iff]at h;exact(I4 s).1 h
theorem Vb {c s:gD} (h0:c≠[]) (h1:c.length≤120) (h:s≠[]→c.length=120):jA (c++s)=c::jA s:=by
 have hne:c++s≠[]:=fun e=>h0 (List.append_eq_nil_iff.1 e).1
 rw[jP hne];by_cases q:s=[]
 ·subst q;rw[Bg,iL h1,List.drop_of_length_le h1]
 ·have:=h q;rw[List.take_left' this,List.drop_left' this]
theorem QF:∀(ls) (acc) (d) (out) (d'),ls.sum≤d.length→E8 ls acc d=(out,d',0)→∃s,out=acc++s∧In s∧ls=lens s∧d=tq s++d'
 |[],acc,d,out,d',_,h=>by
  simp only[E8,az]at h;obtain⟨rfl,rfl,-⟩:=h;exact⟨[],sm,fun p hp=>by simp at hp,by simp[lens,dS],by simp[tq,dS]⟩
 |n::ls,acc,d,out,d',hs,h=>by
  rw[Bp]at hs;rw[E8]at h;obtain⟨c,e,hg⟩:∃c e,Ck.dec (d.take n)=(c,e):=⟨_,_,rfl⟩
  rw[hg]at h;simp only[]at h;by_cases he:e=0
  ·subst he;rw[Ng sm]at h;by_cases hq:ls≠[]∧c.length≠120
   ·rw[Ps0 hq]at h;simp at h
   ·rw[Ng hq]at h;obtain⟨⟨o1,o2,o3⟩,hb⟩:=Ck.U8 hg;obtain⟨s,h1,h2,h3,h4⟩:=QF ls _ _ _ _ (by rw[lZ];omega) h;have hsp:jA (c++s)=c::jA s:=Vb o1 o2 (fun hne=>by
     by_cases q:c.length=120
     ·exact q
     ·refine absurd ⟨fun e=>hne (qD (by rw[←h3,e])),q⟩ hq)
    have hn:n=(Ck.enc c).length:=by rw[←hb,oF];omega
    refine⟨c++s,by rw[h1,Af],fun p hp=>?_,?_,?_⟩
    ·rcases ja.1 hp with q|q
     ·exact o3 p q
     ·exact h2 p q
    ·unfold lens;rw[hsp,AA,←hn,h3]
     rfl
    ·unfold tq;rw[hsp,Au,Af,←hb];have h5:(jA s).flatMap Ck.enc++d'=d.drop n:=h4.symm;rw[h5,jH]
  ·rw[Ps0 he]at h;simp only[az]at h;exact absurd h.2.2 he
theorem KS (s):(tq s).length=(lens s).sum:=by
 unfold tq lens;rw[List.length_flatMap]
theorem QG:∀(ls) (acc) (d) (out),ls.flatten.sum=d.length→Ic ls acc d=(out,0)→∃b,out=acc++b∧(∀s∈b,In s)∧ls=b.map lens∧d=b.flatMap tq
 |[],acc,d,out,hs,h=>by
  simp only[Ic,az,BI]at h;exact⟨[],by simp[h],sm,rfl,oG (by rw[←hs];simp)⟩
 |l::ls,acc,d,out,hs,h=>by
  rw[Cy,Dx]at hs;rw[Ic]at h;obtain⟨s0,d1,e,hg⟩:∃s0 d1 e,E8 l [] d=(s0,d1,e):=⟨_,_,_,rfl⟩
  rw[hg]at h;simp only[]at h;by_cases he:e=0
  ·subst he;rw[Ng sm]at h;obtain⟨s,h1,h2,h3,h4⟩:=QF l [] d s0 d1 om hg;rw[Az]at h1;subst h1;have hl:=congrArg List.length h4;rw[La,KS,←h3]at hl;obtain⟨b,g1,g2,g3,g4⟩:=QG ls _ d1 out om h;refine⟨s0::b,by rw[g1,Af];rfl,fun t ht=>?_,by rw[AA,←h3,←g3],by rw[Au,←g4,←h4]⟩;rcases dV.1 ht with q|q
   ·rw[q];exact h2
   ·exact g2 t q
  ·rw[Ps0 he]at h;simp only[az]at h;exact absurd h.2 he
end Cs
namespace Bk
open Cs (gD)
theorem gd {X:Type} [Inhabited X] {l:List X} {j} (h:j<l.length):l.getD j default=l[j]:=by simp[List.getD,h]
abbrev KT:=List aO×gD
abbrev jb:=List KT
instance:Inhabited KT:=⟨([],[])⟩
def dH {X:Type} [Inhabited X] (f:X→X→Int) (q:Int) (l:List X) (j:Nat):Int:=
 if j=0 then 0 else if f (l.getD (j-1) default) (l.getD j default)=0 then q else if 0<f (l.getD (j-1) default) (l.getD j default)then 16 else 0
def yC {X:Type} [Inhabited X] (f:X→X→Int) (q:Int) (l:List X):Int:=Lb.gL (dH f q l) l.length
def iN (a b:Int×Nat):Int:=if a.1<b.1 then-1 else if b.1<a.1 then 1 else 0
def jc (a b:KT):Int:=Lb.cmpL a.1 b.1
def one (s:KT):Int:=if Lb.df s.1≠0 then Lb.df s.1 else if s.2=[]then 21 else yC iN 20 s.2
def dI (b:jb):Nat:=(b.map fun s=>s.2.length).sum
def Ie (b:jb) (j:Nat):Int:=if one (b.getD j default)≠0 then one (b.getD j default)else dH jc 19 b j
def df (b:jb):Int:=if 1048576<b.length∨16777216<dI b then 7 else Lb.gL (Ie b) b.length
theorem I5 (a b):(iN a b= -1∧a.1<b.1)∨(iN a b=1∧b.1<a.1)∨(iN a b=0∧a.1=b.1):=by
 unfold iN;split
 ·exact .inl ⟨rfl,by assumption⟩
 ·split
  ·exact .inr (.inl ⟨rfl,by assumption⟩)
  ·exact .inr (.inr ⟨rfl,om⟩)
theorem tu (a b):dI (a++b)=dI a+dI b:=by simp[dI]
theorem tC (b:jb) (k) (h:k<b.length):dI (b.take (k+1))=dI (b.take k)+b[k].2.length:=by
 rw[Ts h,tu];simp[dI]
theorem qE (b k):dI (b.take k)≤dI b:=by
 have:=tu (b.take k) (b.drop k);rw[jH]at this;omega
theorem iB {b:jb} (h:df b=0):b.length≤1048576∧dI b≤16777216∧(∀s∈b,one s=0)∧∀j (hj:j+1<b.length),Lb.cmpL b[j].1 b[j+1].1<0:=by
 unfold df at h;by_cases h1:1048576<b.length∨16777216<dI b
 ·rw[Ps0 h1]at h;cases h
 ·rw[Ng h1]at h;have hz:∀j,j<b.length→Ie b j=0:=by
   rcases Lb.sN (Ie b) b.length with⟨_,hz⟩|⟨k,hk,hk0,he,_⟩
   ·exact hz
   ·rw[he]at h;exact absurd h hk0
  have hone:∀j (hj:j<b.length),one b[j]=0∧dH jc 19 b j=0:=by
   intro j hj;have:=hz j hj;unfold Ie at this;rw[gd hj]at this;by_cases q:one b[j]=0
   ·rw[Ng (by simpa using q)]at this;exact⟨q,this⟩
   ·rw[Ps0 q]at this;exact absurd this q
  refine⟨om,om,fun s hs=>?_,fun j hj=>?_⟩
  ·obtain⟨j,hj,rfl⟩:=jK.1 hs;exact(hone j hj).1
  ·have:=(hone (j+1) hj).2;unfold dH at this;rw[Ng om,Bz,gd om,gd hj]at this;unfold jc at this;by_cases q:Lb.cmpL b[j].1 b[j+1].1=0
   ·rw[Ps0 q]at this;cases this
   ·rw[Ng q]at this;by_cases q2:0<Lb.cmpL b[j].1 b[j+1].1
    ·rw[Ps0 q2]at this;cases this
    ·omega
end Bk
section
open Go.RowKit Go.Shelf
def QH (w:World) (base:Nat) (A:Option Addr) (n c:Nat) (rs:Bk.jb):Prop:=
 ∃hs:List (Value×Value),w.ownsRow base 57 2 (.slice A n c) n (bP hs)∧hs.length=rs.length∧
  ∀(i:Nat) (h:i<hs.length) (h':i<rs.length),∃A1 n1 c1 A2 n2 c2,hs[i]=(.slice A1 n1 c1,.slice A2 n2 c2)∧bT w base A1 n1 c1 rs[i].1∧bz w base A2 n2 c2 rs[i].2
def iC (w:World) (B:Nat) (A:Option Addr) (n c:Nat) (rs:Bk.jb):Prop:=
 ∃hs:List (Value×Value),Rd w B 2 A n c (bP hs)∧hs.length=rs.length∧
  ∀(i:Nat) (h:i<hs.length) (h':i<rs.length),∃A1 n1 c1 A2 n2 c2,hs[i]=(.slice A1 n1 c1,.slice A2 n2 c2)∧fG w B A1 n1 c1 rs[i].1∧gT w B A2 n2 c2 rs[i].2
theorem QH.nil (w base):QH w base none 0 0 []:=⟨[],⟨rfl,.inl ⟨rfl,rfl⟩⟩,rfl,fun i h=>by simp at h⟩
theorem QH.rd {w base n c A rs} (h:QH w base A n c rs):iC w w.heap.size A n c rs:=by
 obtain⟨hs,h1,h2,h3⟩:=h;exact⟨hs,Rd.bC h1,h2,fun i a b=>by obtain⟨A1,n1,c1,A2,n2,c2,e,p,q⟩:=h3 i a b;exact⟨A1,n1,c1,A2,n2,c2,e,p.rd,q.rd⟩⟩
theorem iC.len {w B n c A rs} (h:iC w B A n c rs):n=rs.length:=by
 obtain⟨hs,h1,h2,-⟩:=h;have:=h1.2.2.1;rw[gY]at this;omega
theorem iC.below {w w' B n c A rs} (h:iC w B A n c rs) (hb:Below B w w'):iC w' B A n c rs:=by
 obtain⟨hs,h1,h2,h3⟩:=h;exact⟨hs,Rd.below h1 hb,h2,fun i a b=>by obtain⟨A1,n1,c1,A2,n2,c2,e,p,q⟩:=h3 i a b;exact⟨A1,n1,c1,A2,n2,c2,e,p.below hb,q.below hb⟩⟩
theorem iC.more {w B B' n c A rs} (h:iC w B A n c rs) (hB:B≤B'):iC w B' A n c rs:=by
 obtain⟨hs,h1,h2,h3⟩:=h;exact⟨hs,Rd.more h1 hB,h2,fun i a b=>by obtain⟨A1,n1,c1,A2,n2,c2,e,p,q⟩:=h3 i a b;exact⟨A1,n1,c1,A2,n2,c2,e,p.more hB,q.more hB⟩⟩
theorem abR:(prog.info? 57).map (fun i=>(i.zero,i.size,i.bytes))=some (some (.agg #[.slice none 0 0,.slice none 0 0]),2,48):=kr
theorem iC.cells {w B n c k A rs} (h:iC w B A n c rs) (hB:B≤w.heap.size) (hk:k<rs.length):
  ∃b off A1 n1 c1 A2 n2 c2,A=some ⟨b,off,none⟩∧fG w B A1 n1 c1 rs[k].1∧gT w B A2 n2 c2 rs[k].2∧∀W,Below w.heap.size w W→W.cell? ⟨b,off+k*2,none⟩=some (.slice A1 n1 c1)∧W.cell? ⟨b,off+k*2+1,none⟩=some (.slice A2 n2 c2):=by
 have hn:=h.len;obtain⟨hs,h1,h2,h3⟩:=h;obtain⟨A1,n1,c1,A2,n2,c2,e,p,q⟩:=h3 k om hk;obtain⟨b,off,rfl,hb,hc⟩:=h1.2.2.2 om;obtain⟨g1,g2⟩:=fM hs k om;rw[e]at g1 g2;refine⟨b,off,A1,n1,c1,A2,n2,c2,rfl,p,q,fun W hW=>⟨(hW.cell (p:=⟨b,_,none⟩) (by show b<_;omega)).trans (hc _ _ g1),(hW.cell (p:=⟨b,_,none⟩) (by show b<_;omega)).trans ?_⟩⟩;rw[fE];exact hc _ _ g2
theorem iC.cap {w B n c A rs} (h:iC w B A n c rs):n≤c∧c≤maxLen:=by
 obtain⟨hs,h1,_⟩:=h;exact⟨h1.1,h1.2.1⟩
end
section
open Go.RowKit Go.Shelf
theorem mP (x w):Calls prog 205 #[.int .i64 x] w fun e w'=>e= .returned (.bool false)∧w=w':=by
 have hx:(x !=x)=false:=sm;go_enter func205,ntmps205;go_wp2;go_ret;exact⟨sm,rfl⟩
theorem I6 (x y w):Calls prog 152 #[.int .i64 x,.int .i64 y] w fun e w'=>e= .returned (.int .i64 (if x<y then-1 else if y<x then 1 else 0))∧w=w':=by
 by_cases h1:x<y
 ·rw[Ps0 h1];go_enter func152,ntmps152;go_wp2_with (first|(go_at_call 205;refine(mP _ _).mono ?_;rintro e w1 ⟨rfl,rfl⟩));go_ret;exact⟨rfl,rfl⟩
 ·rw[Ng h1];by_cases h2:y<x
  ·rw[Ps0 h2];go_enter func152,ntmps152;go_wp2_with (first|(go_at_call 205;refine(mP _ _).mono ?_;rintro e w1 ⟨rfl,rfl⟩));go_ret;exact⟨rfl,rfl⟩
  ·rw[Ng h2];go_enter func152,ntmps152;go_wp2_with (first|(go_at_call 205;refine(mP _ _).mono ?_;rintro e w1 ⟨rfl,rfl⟩));go_ret;exact⟨rfl,rfl⟩
theorem I7 (x y:Qb) (w):Calls prog 94 #[.agg #[.int .i64 x.1,.int .u64 (x.2:Int)],.agg #[.int .i64 y.1,.int .u64 (y.2:Int)]] w fun e w'=>e= .returned (.int .i64 (Bk.iN x y))∧Gr w w':=by
 have CT:=Aj (fun W=>I6 x.1 y.1 W);have hc:Kept (Bk.iN x y=if x.1<y.1 then-1 else if y.1<x.1 then 1 else 0):=⟨rfl⟩
 rw[hc.1];generalize (if x.1<y.1 then(-1:Int)else if y.1<x.1 then 1 else 0)=r at*;go_enter func94,ntmps94;go_wp2_with (go_at_call 152;refine(CT.1 _).mono ?_;rintro e w1 ⟨rfl,rfl⟩);go_ret;exact⟨rfl,((Gr.refl w).alloc _).alloc _⟩
theorem Nb (A A2 Am Am2 n c n2 c2 nm cm nm2 cm2 l l2 w) (hv:fG w w.heap.size A n c l) (hv2:fG w w.heap.size A2 n2 c2 l2):
  Calls prog 46 #[.agg #[.slice A n c,.slice Am nm cm],.agg #[.slice A2 n2 c2,.slice Am2 nm2 cm2]] w fun e w'=>e= .returned (.int .i64 (Lb.cmpL l l2))∧Gr w w':=by
 have V:=Aj hv;have V2:=Aj hv2;clear hv hv2;go_enter func46,ntmps46;have hg:=((Gr.refl w).alloc (.cells #[.slice A n c,.slice Am nm cm] 57)).alloc (.cells #[.slice A2 n2 c2,.slice Am2 nm2 cm2] 57);have LC:=Aj (yl A A2 n c n2 c2 l l2 _ ((V.1.below hg.below).more hg.size) ((V2.1.below hg.below).more hg.size));have G:=Aj hg;clear hg;go_wp2_with (go_at_call 95;refine LC.1.mono ?_;rintro e w1 ⟨rfl,g1⟩;have G1:=Aj (G.1.trans g1);clear g1);go_ret;exact⟨rfl,G1.1⟩
theorem E9 (A n c B b w) (hv:iC w B A n c b) (hB:B≤w.heap.size) (hs:Bk.dI b≤1000000000000):
  Calls prog 31 #[.slice A n c] w fun e w'=>e= .returned (.int .i64 (Bk.dI b:Int))∧Gr w w':=by
 obtain⟨hlc,hcm⟩:=hv.cap;unfold maxLen at hcm;have hn:=Aj hv.len;have V:=Aj hv;clear hv;go_enter func31,ntmps31;go_wp2;go_loopw [3,8] (fun s i wr=>∃k m:Nat,k≤n∧i= .int .i64 k∧s= .int .i64 m∧Kept (m=Bk.dI (b.take k))∧Gr w wr) (fun _ i _=>n-(intOf i).toNat)
 case atStart=>exact⟨0,0,om,rfl,rfl,⟨rfl⟩,Gr.refl w⟩
 case round=>
  obtain⟨k,m,hk,rfl,rfl,hm,gr⟩:=hrel;have G:=Aj gr;by_cases hlt:k<n
  ·have hkl:k<b.length:=by rw[←hn.1];exact hlt
   obtain⟨b0,off,A1,n1,c1,A2,n2,c2,rfl,h1,h2,hc⟩:=V.1.cells hB hkl;obtain⟨r0,r1⟩:=hc wr gr.below;have h3:=Bk.tC b k hkl;have h4:=Bk.qE b (k+1);have h5:=h2.len;have hmn:m+n2≤1000000000000:=by have:=hm.1;omega
   have hm2:Kept (m+n2=Bk.dI (b.take (k+1))):=⟨by have:=hm.1;omega⟩
   clear h1 h2 hc gr h3 h4 h5;go_wp2;go_roundw
   case rel=>exact⟨k+1,m+n2,om,by go_num,by go_num,hm2,G.1.alloc _⟩
   case measure=>simp[intOf];omega
  ·have he:Kept (m=Bk.dI b):=⟨by have:=hm.1;rw[iL (by have:=hn.1;omega)]at this;exact this⟩
   clear gr;go_wp2;go_ret;exact⟨fZ (by rw[he.1]),G.1⟩
theorem I8 (A n c B b w) (hv:iC w B A n c b) (hB:B≤w.heap.size) (hs:Bk.dI b≤1000000000000):
  Calls prog 43 #[.slice A n c] w fun e w'=>e= .returned (.int .i64 (if 1048576<b.length∨16777216<Bk.dI b then 7 else 0))∧Gr w w':=by
 have SM:=Aj (E9 A n c B b w hv hB hs);have hn:=hv.len;obtain⟨hlc,hcm⟩:=hv.cap;unfold maxLen at hcm;rw[←hn];generalize Bk.dI b=m at*;clear hv hn;by_cases h1:1048576<n
 ·have h1':(1048576:Int)< (n:Int):=by omega
  rw[Ps0 (.inl h1)];go_enter func43,ntmps43;go_wp2;go_ret;exact⟨rfl,Gr.refl w⟩
 ·have h1':¬(1048576:Int)< (n:Int):=by omega
  by_cases h2:16777216<m
  ·have h2':(16777216:Int)< (m:Int):=by omega
   rw[Ps0 (.inr h2)];go_enter func43,ntmps43;go_wp2_with (go_at_call 31;refine SM.1.mono ?_;rintro e w1 ⟨rfl,g1⟩;have G1:=Aj g1;clear g1);go_ret;exact⟨rfl,G1.1⟩
  ·have h2':¬(16777216:Int)< (m:Int):=by omega
   rw[Ng om];go_enter func43,ntmps43;go_wp2_with (go_at_call 31;refine SM.1.mono ?_;rintro e w1 ⟨rfl,g1⟩;have G1:=Aj g1;clear g1);go_ret;exact⟨rfl,G1.1⟩
end
section
open Go.RowKit Go.Shelf
namespace Bk
theorem iT {X} [Inhabited X] (f:X→X→Int) (q l):dH f q l 0=0:=rfl
theorem yD {X:Type} [Inhabited X] (f:X→X→Int) (q:Int) {l:List X} {k:Nat} (hk:k<l.length) (h0:k≠0):
  dH f q l k=if f (l[k-1]'om) l[k]=0 then q else if 0<f (l[k-1]'om) l[k]then 16 else 0:=by
 unfold dH;rw[Ng h0,gd hk,gd (show k-1<l.length from om)]
theorem I9 {X} [Inhabited X] {f:X→X→Int} {q l k} (h:∀j,j<k→dH f q l j=0) (hk:dH f q l k=0):∀j,j<k+1→dH f q l j=0:=fun j hj=>by
 by_cases e:j=k
 ·subst e;exact hk
 ·exact h j om
theorem yE {X:Type} [Inhabited X] {f:X→X→Int} {q:Int} {l:List X} {k:Nat} (hk:k<l.length) (h0:k≠0) (hq:q≠0) (h:∀j,j<k→dH f q l j=0):
  (f (l[k-1]'om) l[k]=0∧yC f q l=q)∨(0<f (l[k-1]'om) l[k]∧yC f q l=16)∨(f (l[k-1]'om) l[k]<0∧∀j,j<k+1→dH f q l j=0):=by
 have e:=yD f q hk h0;by_cases h1:f (l[k-1]'om) l[k]=0
 ·rw[Ps0 h1]at e;exact .inl ⟨h1,(Lb.bg _ _ k hk h (by rw[e];exact hq)).trans e⟩
 ·rw[Ng h1]at e;by_cases h2:0<f (l[k-1]'om) l[k]
  ·rw[Ps0 h2]at e;exact .inr (.inl ⟨h2,(Lb.bg _ _ k hk h (by rw[e];decide)).trans e⟩)
  ·rw[Ng h2]at e;exact .inr (.inr ⟨om,I9 h e⟩)
theorem tF {X} [Inhabited X] {f:X→X→Int} {q l} (h:∀j,j<l.length→dH f q l j=0):yC f q l=0:=Lb.dA _ _ h
end Bk
theorem gT.cells {w B n c k A l} (h:gT w B A n c l) (hB:B≤w.heap.size) (hk:k<l.length):
  ∃b off,A=some ⟨b,off,none⟩∧∀W,Below w.heap.size w W→W.cell? ⟨b,off+k*2,none⟩=some (.int .i64 l[k].1)∧W.cell? ⟨b,off+k*2+1,none⟩=some (.int .u64 (l[k].2:Int)):=by
 obtain⟨b,off,e,hb,h1,h2⟩:=h.at_ hk;exact⟨b,off,e,fun W hW=>⟨(hW.cell (p:=⟨b,_,none⟩) (by show b<_;omega)).trans h1,(hW.cell (p:=⟨b,_,none⟩) (by show b<_;omega)).trans (by rw[fE];exact h2)⟩⟩
theorem QI (A n c B) (l:Cs.gD) (q w) (hv:gT w B A n c l) (hB:B≤w.heap.size) (hq:q≠0):
  Calls prog 93 #[.slice A n c,.func (.func 94) #[] #[],.int .i64 q] w fun e w'=>e= .returned (.int .i64 (Bk.yC Bk.iN q l))∧Gr w w':=by
 have mixed:prog.follows .mixedOrders=true:=kr;have hlc:=hv.1;have hcm:=hv.2.1;unfold maxLen at hcm;have hn:=Aj hv.len;have V:=Aj hv;have HQ:=Aj hq;obtain⟨r,hr⟩:∃r,r=Bk.yC Bk.iN q l:=⟨_,rfl⟩
 rw[←hr];have HR:=Aj hr;clear hv hq hr;go_enter func93,ntmps93;go_wp2;go_step3;go_wp2;go_step3;go_wp2;go_loopw [7,8] (fun e i wr=>∃k:Nat,1≤k∧(k≤n∨k=1)∧e= .int .i64 0∧i= .int .i64 k∧Kept (∀j,j<k→Bk.dH Bk.iN q l j=0)∧Gr w wr) (fun _ i _=>n-(intOf i).toNat)
 case atStart=>exact⟨1,om,.inr rfl,rfl,rfl,⟨fun j hj=>by rw[show j=0 from om];exact Bk.iT _ _ _⟩,Gr.refl w⟩
 case round=>
  obtain⟨k,hk1,hkn,rfl,rfl,hd,gr⟩:=hrel;have G:=Aj gr;by_cases hlt:k<n
  ·have hkl:k<l.length:=by rw[←hn.1];exact hlt
   have nN:k-1<l.length:=om;obtain⟨b,off,rfl,hc⟩:=V.1.cells hB hkl;obtain⟨b',off',e',hp⟩:=V.1.cells hB nN;simp only[gK,Ce,BI]at e';obtain⟨rfl,rfl⟩:=e';have hcase:=Aj (Bk.yE (f:=Bk.iN) (q:=q) hkl om HQ.1 hd.1);rw[←HR.1]at hcase;have BT:=Aj (fun W=>I7 l[k-1] l[k] W);have ek:(k:Int)-1=((k-1:Nat):Int):=om;have YS:((k-1:Nat):Int)< (n:Int):=om;have ew:IntKind.i64.wrap ((k-1:Nat):Int)=((k-1:Nat):Int):=by rw[Bo];omega
   have f0:=fun n os=>(hc (Sort.grow (wr.drewN n) os) (gr.trans ⟨n,os,rfl⟩).below).1
   have f1:=fun n os=>(hc (Sort.grow (wr.drewN n) os) (gr.trans ⟨n,os,rfl⟩).below).2
   have p0:=fun n os=>(hp (Sort.grow (wr.drewN n) os) (gr.trans ⟨n,os,rfl⟩).below).1
   have p1:=fun n os=>(hp (Sort.grow (wr.drewN n) os) (gr.trans ⟨n,os,rfl⟩).below).2
   clear hc hp gr;generalize Bk.iN l[k-1] l[k]=s at*;generalize l[k]=x at*;generalize l[k-1]=y at*;go_wp2_with fail;go_quiet_grown (first|(go_at_call 94;refine Dk (BT.1 _)));clear f0 f1 p0 p1 BT;rcases hcase.1 with⟨rfl,hres⟩|⟨hs,hres⟩|⟨hs,hd2⟩
   ·have hres:=Aj hres;go_wp2
    (try rw[Exit.noGoto_ret]);go_ret
    exact⟨by first|rfl|(rw[hres.1];rfl),G.1.trans ⟨_,_,rfl⟩⟩
   ·have hres:=Aj hres;have hs0:(s==0)=false:=by simp;omega
    go_wp2
    (try rw[Exit.noGoto_ret]);go_ret
    exact⟨by first|rfl|(rw[hres.1];rfl),G.1.trans ⟨_,_,rfl⟩⟩
   ·have hd2:=Aj hd2;have hs0:(s==0)=false:=by simp;omega
    have hs1:¬0<s:=om;go_wp2;go_roundw
    case rel=>exact⟨k+1,om,.inl om,rfl,by go_num,hd2,G.1.trans ⟨_,_,rfl⟩⟩
    case measure=>simp[intOf];omega
  ·have hd2:Kept (r=0):=⟨HR.1.trans (Bk.tF fun j hj=>hd.1 j (by have:=hn.1;omega))⟩
   clear gr;go_wp2
   (try rw[Exit.noGoto_ret]);go_ret
   exact⟨by first|(rw[hd2.1];rfl)|exact fZ hd2.1.symm,G.1⟩
end
section
open Go.RowKit Go.Shelf
theorem Ja (hs k):(bP hs).drop (k*2)=bP (hs.drop k):=by
 unfold bP
 induction k generalizing hs with
 |zero=>simp
 |succ k ih=>
  cases hs with
  |nil=>simp
  |cons x hs=>
   rw[Au,AY,←ih hs,Nat.succ_mul]
   rfl
theorem Jb (hs k):(bP hs).take (k*2)=bP (hs.take k):=by
 unfold bP
 induction k generalizing hs with
 |zero=>simp
 |succ k ih=>
  cases hs with
  |nil=>simp
  |cons x hs=>
   rw[Au,Cb,Au,←ih hs,Nat.succ_mul]
   rfl
theorem iC.sub {w B n c lo hi A b} (h:iC w B A n c b) (h1:lo≤hi) (h2:hi≤n):
  iC w B (if c=lo then A else A.map (·.add (lo*2))) (hi-lo) (c-lo) ((b.take hi).drop lo):=by
 have hn:=h.len;obtain⟨hs,g1,g2,g3⟩:=h;have e1:=(g1.take h2).drop h1;rw[Jb,Ja]at e1;refine⟨_,e1,by simp[g2],fun i a a'=>?_⟩;have ha:lo+i<hs.length:=by simp at a;omega
 obtain⟨A1,n1,c1,A2,n2,c2,q1,q2,q3⟩:=g3 (lo+i) ha om;refine⟨A1,n1,c1,A2,n2,c2,by simpa using q1,by simpa using q2,by simpa using q3⟩
theorem QJ (A n c B l q w) (hv:iC w B A n c l) (hB:B≤w.heap.size) (hq:q≠0):
  Calls prog 45 #[.slice A n c,.func (.func 46) #[] #[],.int .i64 q] w fun e w'=>e= .returned (.int .i64 (Bk.yC Bk.jc q l))∧Gr w w':=by
 have mixed:prog.follows .mixedOrders=true:=kr;obtain⟨hlc,hcm⟩:=hv.cap;unfold maxLen at hcm;have hn:=Aj hv.len;have V:=Aj hv;have HQ:=Aj hq;obtain⟨r,hr⟩:∃r,r=Bk.yC Bk.jc q l:=⟨_,rfl⟩
 rw[←hr];have HR:=Aj hr;clear hv hq hr;go_enter func45,ntmps45;go_wp2;go_step3;go_wp2;go_step3;go_wp2;go_loopw [7,8] (fun e i wr=>∃k:Nat,1≤k∧(k≤n∨k=1)∧e= .int .i64 0∧i= .int .i64 k∧Kept (∀j,j<k→Bk.dH Bk.jc q l j=0)∧Gr w wr) (fun _ i _=>n-(intOf i).toNat)
 case atStart=>exact⟨1,om,.inr rfl,rfl,rfl,⟨fun j hj=>by rw[show j=0 from om];exact Bk.iT _ _ _⟩,Gr.refl w⟩
 case round=>
  obtain⟨k,hk1,hkn,rfl,rfl,hd,gr⟩:=hrel;have G:=Aj gr;by_cases hlt:k<n
  ·have hkl:k<l.length:=by rw[←hn.1];exact hlt
   have nN:k-1<l.length:=om;obtain⟨b,off,A1,n1,c1,A2,n2,c2,rfl,hL,-,hc⟩:=V.1.cells hB hkl;obtain⟨b',off',A3,n3,c3,A4,n4,c4,e',hL',-,hp⟩:=V.1.cells hB nN;simp only[gK,Ce,BI]at e';obtain⟨rfl,rfl⟩:=e';have hcase:=Aj (Bk.yE (f:=Bk.jc) (q:=q) hkl om HQ.1 hd.1);rw[←HR.1]at hcase;have BT:=Aj (fun W (g:Gr w W)=>Nb A3 A1 A4 A2 n3 c3 n1 c1 n4 c4 n2 c2 l[k-1].1 l[k].1 W ((hL'.below (g.below.mono hB)).more (Lt hB g.size)) ((hL.below (g.below.mono hB)).more (Lt hB g.size)));have hcs:Bk.jc l[k-1] l[k]=Lb.cmpL l[k-1].1 l[k].1:=rfl;rw[hcs]at hcase;have ek:(k:Int)-1=((k-1:Nat):Int):=om;have YS:((k-1:Nat):Int)< (n:Int):=om;have ew:IntKind.i64.wrap ((k-1:Nat):Int)=((k-1:Nat):Int):=by rw[Bo];omega
   have f0:=fun n os=>(hc (Sort.grow (wr.drewN n) os) (gr.trans ⟨n,os,rfl⟩).below).1
   have f1:=fun n os=>(hc (Sort.grow (wr.drewN n) os) (gr.trans ⟨n,os,rfl⟩).below).2
   have p0:=fun n os=>(hp (Sort.grow (wr.drewN n) os) (gr.trans ⟨n,os,rfl⟩).below).1
   have p1:=fun n os=>(hp (Sort.grow (wr.drewN n) os) (gr.trans ⟨n,os,rfl⟩).below).2
   have BG:=Aj (fun n os=>BT.1 (Sort.grow (wr.drewN n) os) (gr.trans ⟨n,os,rfl⟩));clear hc hp gr BT hL hL' hcs;generalize Lb.cmpL l[k-1].1 l[k].1=s at*;go_wp2_with fail;go_quiet_grown (first|(go_at_call 46;refine Dk (BG.1 _ _)));clear f0 f1 p0 p1 BG;rcases hcase.1 with⟨rfl,hres⟩|⟨hs,hres⟩|⟨hs,hd2⟩
   ·have hres:=Aj hres;go_wp2
    (try rw[Exit.noGoto_ret]);go_ret
    exact⟨by first|rfl|(rw[hres.1];rfl),G.1.trans ⟨_,_,rfl⟩⟩
   ·have hres:=Aj hres;have hs0:(s==0)=false:=by simp;omega
    go_wp2
    (try rw[Exit.noGoto_ret]);go_ret
    exact⟨by first|rfl|(rw[hres.1];rfl),G.1.trans ⟨_,_,rfl⟩⟩
   ·have hd2:=Aj hd2;have hs0:(s==0)=false:=by simp;omega
    have hs1:¬0<s:=om;go_wp2;go_roundw
    case rel=>exact⟨k+1,om,.inl om,rfl,by go_num,hd2,G.1.trans ⟨_,_,rfl⟩⟩
    case measure=>simp[intOf];omega
  ·have hd2:Kept (r=0):=⟨HR.1.trans (Bk.tF fun j hj=>hd.1 j (by have:=hn.1;omega))⟩
   clear gr;go_wp2
   (try rw[Exit.noGoto_ret]);go_ret
   exact⟨by first|(rw[hd2.1];rfl)|exact fZ hd2.1.symm,G.1⟩
theorem yF (A A2 n c n2 c2 B L) (S:Cs.gD) (w) (hv:fG w B A n c L) (hm:gT w B A2 n2 c2 S) (hB:B≤w.heap.size) (hf:Lb.Fit L):
  Calls prog 44 #[.agg #[.slice A n c,.slice A2 n2 c2]] w fun e w'=>e= .returned (.int .i64 (Bk.one (L,S)))∧Gr w w':=by
 have hlc:=hm.1;have hcm:=hm.2.1;unfold maxLen at hcm;have hn:=hm.len;obtain⟨W,hW⟩:∃W,W=w.alloc (.cells #[.slice A n c,.slice A2 n2 c2] 57):=⟨_,rfl⟩
 have hg:Gr w W:=by rw[hW];exact(Gr.refl w).alloc _
 have hr:W.heap[w.heap.size]? =some (.cells #[.slice A n c,.slice A2 n2 c2] 57 (0,0)):=by rw[hW];exact Av w _
 have hsz:w.heap.size<W.heap.size:=by rw[hW];simp
 have LC:=Aj (IV A n c B L W (hv.below (hg.below.mono hB)) (Lt hB hg.size) hf);have AS:=Aj (fun W' (g:Gr w W')=>QI A2 n2 c2 B S 20 W' (hm.below (g.below.mono hB)) (Lt hB g.size) Ah);have k0:=Co _ _ 0 _ _ _ hr;have k1:=Co _ _ 1 _ _ _ hr;have K1:=Aj (show∀W',Gr W W'→W'.cell? ⟨w.heap.size,1,none⟩=some (.slice A2 n2 c2)from fun W' g=>(g.cell _ 1 hsz).trans k1);have HW:=Aj hW.symm;have G:=Aj hg;clear hv hm hf hr hW;have hone:Bk.one (L,S)=if Lb.df L≠0 then Lb.df L else if S=[]then 21 else Bk.yC Bk.iN 20 S:=rfl;have hS:S=[]↔n2=0:=by rw[hn];exact⟨fun h=>by rw[h];rfl,oG⟩
 rw[hone];generalize Lb.df L=e at*;generalize Bk.yC Bk.iN 20 S=f at*;by_cases he:e=0
 ·subst he;rw[Ng sm];by_cases h0:n2=0
  ·rw[Ps0 (hS.2 h0)];subst h0;clear hS hone hn;go_enter func44,ntmps44;go_wp2_with (go_at_call 92;rw[HW.1];refine LC.1.mono ?_;rintro e w1 ⟨rfl,g1⟩;have G1:=Aj (G.1.trans g1);have k2:=K1.1 _ g1;clear g1);go_ret;exact⟨rfl,G1.1⟩
  ·rw[Ng (fun h=>h0 (hS.1 h))];have h0':((n2:Int)==0)=false:=by simp;omega
   clear hS hone hn;go_enter func44,ntmps44;go_wp2_with (first
    |(go_at_call 93;refine(AS.1 w1 G1.1).mono ?_;rintro e w2 ⟨rfl,g2⟩;have G2:=Aj (G1.1.trans g2);clear g2)
    |(go_at_call 92;rw[HW.1];refine LC.1.mono ?_;rintro e w1 ⟨rfl,g1⟩;have G1:=Aj (G.1.trans g1);have k2:=K1.1 _ g1;clear g1))
   go_ret;exact⟨rfl,G2.1⟩
 ·rw[Ps0 he];have he':(e !=0)=true:=by simpa using he
  clear hS hone hn he;go_enter func44,ntmps44;go_wp2_with (go_at_call 92;rw[HW.1];refine LC.1.mono ?_;rintro e w1 ⟨rfl,g1⟩;have G1:=Aj (G.1.trans g1);have k2:=K1.1 _ g1;clear g1);go_ret;exact⟨rfl,G1.1⟩
end
section
open Go.RowKit Go.Shelf
namespace Bk
theorem sub_zero {b:jb} (h:0<b.length):yC jc 19 ((b.take 1).drop 0)=dH jc 19 b 0:=by
 obtain⟨x,l,rfl⟩:∃x l,b=x::l:=by
  cases b with
  |nil=>simp at h
  |cons x l=>exact⟨x,l,rfl⟩
 rfl
theorem Jc (f) (h:f 0=0):Lb.gL f 2=f 1:=by
 by_cases h1:f 1=0
 ·rw[Lb.dA f 2 fun j hj=>by
   have:j=0∨j=1:=om;rcases this with rfl|rfl
   ·exact h
   ·exact h1,h1]
 ·exact Lb.bg f 2 1 om (fun j hj=>by rw[show j=0 from om];exact h) h1
theorem sub_pos {b:jb} {k} (hk:k<b.length) (h0:k≠0):yC jc 19 ((b.take (k+1)).drop (k-1))=dH jc 19 b k:=by
 have hl:((b.take (k+1)).drop (k-1)).length=2:=by simp;omega
 unfold yC;rw[hl,Jc (dH jc 19 ((b.take (k+1)).drop (k-1))) (iT _ _ _),yD jc 19 (show 1< ((b.take (k+1)).drop (k-1)).length from om) om,yD jc 19 hk h0];have e0:((b.take (k+1)).drop (k-1))[1-1]'om=b[k-1]:=sm;have e1:((b.take (k+1)).drop (k-1))[1]'om=b[k]:=by
  rw[DZ,List.getElem_take]
  congr 1
  omega
 rw[e0,e1]
theorem KU {b k} (hk:k<b.length) (h:one b[k]≠0):Ie b k=one b[k]:=by
 unfold Ie;rw[gd hk,Ps0 h]
theorem KV {b k} (hk:k<b.length) (h:one b[k]=0):Ie b k=dH jc 19 b k:=by
 unfold Ie;rw[gd hk,Ng (by simpa using h)]
theorem yG {b k} (h:∀j,j<k→Ie b j=0) (hk:Ie b k=0):∀j,j<k+1→Ie b j=0:=fun j hj=>by
 by_cases e:j=k
 ·subst e;exact hk
 ·exact h j om
end Bk
theorem tH (A n c B b w) (hv:iC w B A n c b) (hB:B≤w.heap.size) (hs:Bk.dI b≤1000000000000) (hf:∀s∈b,Lb.Fit s.1):
  Calls prog 17 #[.slice A n c] w fun e w'=>e= .returned (.int .i64 (Bk.df b))∧Gr w w':=by
 have CK:=Aj (I8 A n c B b w hv hB hs);obtain⟨hlc,hcm⟩:=hv.cap;unfold maxLen at hcm;have hn:=Aj hv.len;have V:=Aj hv;have F:=Aj hf;obtain⟨r,hr⟩:∃r,r=Bk.df b:=⟨_,rfl⟩
 rw[←hr];by_cases hlim:1048576<b.length∨16777216<Bk.dI b
 ·have hr7:r=7:=by rw[hr];unfold Bk.df;rw[Ps0 hlim]
  rw[Ps0 hlim]at CK;subst hr7;clear hv hf hs hr hlim;go_enter func17,ntmps17;go_wp2_with (go_at_call 43;refine CK.1.mono ?_;rintro e w1 ⟨rfl,g1⟩;have G1:=Aj g1;clear g1);go_ret;exact⟨rfl,G1.1⟩
 ·have HR:Kept (r=Lb.gL (Bk.Ie b) b.length):=⟨by rw[hr];unfold Bk.df;rw[Ng hlim]⟩
  rw[Ng hlim]at CK;clear hv hf hs hr hlim;go_enter func17,ntmps17;go_wp2_with (go_at_call 43;refine CK.1.mono ?_;rintro e w1 ⟨rfl,g1⟩;have G1:=Aj g1;clear g1);go_loopw [15] (fun i wr=>∃k:Nat,k≤n∧i= .int .i64 k∧Kept (∀j,j<k→Bk.Ie b j=0)∧Gr w wr) (fun i _=>n-(intOf i).toNat)
  case atStart=>exact⟨0,om,rfl,⟨fun j hj=>om⟩,G1.1⟩
  case round=>
   clear G1;obtain⟨k,hk,rfl,hd,gr⟩:=hrel;have G:=Aj gr;by_cases hlt:k<n
   ·have hkl:k<b.length:=by rw[←hn.1];exact hlt
    obtain⟨b0,off,A1,n1,c1,A2,n2,c2,rfl,hL,hS,hc⟩:=V.1.cells hB hkl;obtain⟨r0,r1⟩:=hc wr gr.below;have SG:=Aj (fun W (g:Gr w W)=>yF A1 A2 n1 c1 n2 c2 B b[k].1 b[k].2 W (hL.below (g.below.mono hB)) (hS.below (g.below.mono hB)) (Lt hB g.size) (F.1 _ (gP hkl)));have hone:Bk.one (b[k].1,b[k].2)=Bk.one b[k]:=rfl;rw[hone]at SG;have ALN:Gr w (wr.alloc (.cells #[.slice A1 n1 c1,.slice A2 n2 c2] 57)):=gr.alloc _;have SG2:=Aj (SG.1 _ ALN);have GAL:=Aj ALN;clear hL hS hc gr hone ALN;by_cases h1:Bk.one b[k]=0
    ·have hst:=Bk.KV hkl h1;rw[h1]at SG2;obtain⟨f,hfx⟩:∃f,f=Bk.dH Bk.jc 19 b k:=⟨_,rfl⟩
     rw[←hfx]at hst;have hst:=Aj hst;have AK:Kept (∀W,Gr w W→Calls prog 45 #[.slice (some ⟨b0,off+(k-1)*2,none⟩) (k+1-(k-1)) (c-(k-1)),.func (.func 46) #[] #[],.int .i64 19] W fun e w'=>e= .returned (.int .i64 f)∧Gr W w'):=⟨fun W g=>by
      have h2:=V.1.sub (lo:=k-1) (hi:=k+1) om om;rw[Ng om]at h2;have h3:=QJ _ _ _ B _ 19 W (h2.below (g.below.mono hB)) (Lt hB g.size) Ah;have e:Bk.yC Bk.jc 19 ((b.take (k+1)).drop (k-1))=f:=by
       by_cases h0:k=0
       ·subst h0;rw[hfx];exact Bk.sub_zero hkl
       ·rw[hfx];exact Bk.sub_pos hkl h0
      rw[e,BZ,add_plain]at h3;exact h3⟩
     clear hfx;by_cases h0:k=0
     ·subst h0;simp only[Nat.zero_mul,Cr]at r0 r1;have AK0:Kept (∀W,Gr w W→Calls prog 45 #[.slice (some ⟨b0,off,none⟩) 1 c,.func (.func 46) #[] #[],.int .i64 19] W fun e w'=>e= .returned (.int .i64 f)∧Gr W w'):=AK;have hc1:¬c=0:=om;clear AK h1;by_cases hf0:f=0
      ·subst hf0;have hd2:=Aj (Bk.yG hd.1 hst.1);clear hst;go_wp2_with (first
        |(go_at_call 45;refine(AK0.1 w2 G2.1).mono ?_;rintro e w3 ⟨rfl,g3⟩;have G3:=Aj (G2.1.trans g3);clear g3)
        |(go_at_call 44;refine SG2.1.mono ?_;rintro e w2 ⟨rfl,g2⟩;have G2:=Aj (GAL.1.trans g2);clear g2))
       go_roundw
       case rel=>exact⟨1,om,by go_num,hd2,G3.1⟩
       case measure=>simp[intOf];omega
      ·have hd2:Kept (r=f):=⟨HR.1.trans ((Lb.bg _ _ 0 hkl hd.1 (by rw[hst.1];exact hf0)).trans hst.1)⟩
       have hf1:(f !=0)=true:=by simpa using hf0
       clear hst hf0;go_wp2_with (first
        |(go_at_call 45;refine(AK0.1 w2 G2.1).mono ?_;rintro e w3 ⟨rfl,g3⟩;have G3:=Aj (G2.1.trans g3);clear g3)
        |(go_at_call 44;refine SG2.1.mono ?_;rintro e w2 ⟨rfl,g2⟩;have G2:=Aj (GAL.1.trans g2);clear g2))
       go_ret;exact⟨fZ hd2.1.symm,G3.1⟩
     ·have AK0:=Aj AK.1;have hc1:¬c=k-1:=om;have ek:(k:Int)-1=((k-1:Nat):Int):=om;have ek4:¬(((k-1:Nat):Int)<0):=om;have ek5:((k-1:Nat):Int).toNat=k-1:=om;clear AK h1;by_cases hf0:f=0
      ·subst hf0;have hd2:=Aj (Bk.yG hd.1 hst.1);clear hst;go_wp2_with (first
        |(go_at_call 45;refine(AK0.1 w2 G2.1).mono ?_;rintro e w3 ⟨rfl,g3⟩;have G3:=Aj (G2.1.trans g3);clear g3)
        |(go_at_call 44;refine SG2.1.mono ?_;rintro e w2 ⟨rfl,g2⟩;have G2:=Aj (GAL.1.trans g2);clear g2))
       go_roundw
       case rel=>exact⟨k+1,om,by go_num,hd2,G3.1⟩
       case measure=>simp[intOf];omega
      ·have hd2:Kept (r=f):=⟨HR.1.trans ((Lb.bg _ _ k hkl hd.1 (by rw[hst.1];exact hf0)).trans hst.1)⟩
       have hf1:(f !=0)=true:=by simpa using hf0
       clear hst hf0;go_wp2_with (first
        |(go_at_call 45;refine(AK0.1 w2 G2.1).mono ?_;rintro e w3 ⟨rfl,g3⟩;have G3:=Aj (G2.1.trans g3);clear g3)
        |(go_at_call 44;refine SG2.1.mono ?_;rintro e w2 ⟨rfl,g2⟩;have G2:=Aj (GAL.1.trans g2);clear g2))
       go_ret;exact⟨fZ hd2.1.symm,G3.1⟩
    ·have hd2:Kept (r=Bk.one b[k]):=⟨HR.1.trans ((Lb.bg _ _ k hkl hd.1 (by rw[Bk.KU hkl h1];exact h1)).trans (Bk.KU hkl h1))⟩
     have h1':(Bk.one b[k] !=0)=true:=by simpa using h1
     clear h1;generalize Bk.one b[k]=s at*;go_wp2_with (go_at_call 44;refine SG2.1.mono ?_;rintro e w2 ⟨rfl,g2⟩;have G2:=Aj (GAL.1.trans g2);clear g2);go_ret;exact⟨fZ hd2.1.symm,G2.1⟩
   ·have hd2:Kept (r=0):=⟨HR.1.trans (Lb.dA _ _ fun j hj=>hd.1 j (by have:=hn.1;omega))⟩
    clear gr;go_wp2;go_ret;exact⟨fZ hd2.1.symm,G.1⟩
end
end Go.Proofs.YtjcpmfphnodaaaaGreatDoor
