/- Part 6. -/
import Derived.Test.YtongopommlghgaaGreatDoorZVAE
namespace Go.Proofs.YtongopommlghgaaGreatDoor
set_option maxRecDepth 100000
set_option maxHeartbeats 0
open _root_.Go.Proofs.Tryz
namespace Xo
open Bt Tm
def lz (x:Nat):Nat:=64-Di.bl x
def tz:Nat→Nat→Nat
 |0,_=>0
 |f+1,x=>if x%2=1 then 0 else 1+tz f (x/2)
theorem Rf : ∀ (f x), tz f x ≤ f
  | 0, _ => Nr _
  | f + 1, x => by rw [tz]; split; · omega
                   · have := Rf f (x / 2); omega
theorem yS:∀(f x),2^tz f x∣x
 |0,x=>by simp[tz]
 |f+1,x=>by
  rw[tz];split
  ·simp
  ·rename_i h
   rw[Nat.add_comm,Dc];obtain⟨k,hk⟩:=yS f (x/2);have h2:x=x/2*2:=om;have h3:=congrArg (·*2) hk;exact⟨k,h2.trans (h3.trans (Nat.mul_right_comm _ _ _))⟩
def win (x:Nat):Nat×Nat:=(lz x,64-lz x-tz 64 x)
def trail (w:Nat×Nat):Nat:=64-w.1-w.2
def fits (c:Nat×Nat) (x:Nat):Bool:=c !=(0,0)&& (decide (c.1≤(win x).1)&&decide (trail c≤trail (win x)))
def put (last:Nat) (c:Nat×Nat) (v:Nat):List Bool×(Nat×Nat):=
 if v^^^last=0 then(bw 1 0,c)
 else if fits c (v^^^last)=true then(bw 2 2++bw c.2 ((v^^^last)>>>trail c),c)
 else(bw 2 3++(bw 6 (win (v^^^last)).1++(bw 6 ((win (v^^^last)).2-1)++bw (win (v^^^last)).2 ((v^^^last)>>>trail (win (v^^^last))))),win (v^^^last))
def puts:Nat→Nat×Nat→List Nat→List Bool
 |_,_,[]=>[]
 |last,c,v::l=>(put last c v).1++puts v (put last c v).2 l
def enc:List Nat→List Bool
 |[]=>[]
 |v::l=>bw 64 v++puts v (0,0) l
def fresh (r:List Bool):(Nat×Nat)×List Bool×Int:=
 if(rd 6 r).2.2≠0 then((0,1),(rd 6 r).2)
 else if(rd 6 (rd 6 r).2.1).2.2≠0 then(((rd 6 r).1,1),(rd 6 (rd 6 r).2.1).2)
 else(((rd 6 r).1,(rd 6 (rd 6 r).2.1).1+1),(rd 6 (rd 6 r).2.1).2.1,if(rd 6 r).1+((rd 6 (rd 6 r).2.1).1+1)≤64 then 0 else 8)
def gQ (w:Nat×Nat) (r:List Bool):Nat×List Bool×Int:=
 if(rd w.2 r).2.2≠0 then(0,(rd w.2 r).2)else((rd w.2 r).1<<<trail w,(rd w.2 r).2.1,if(rd w.2 r).1<<<trail w=0 then 8 else 0)
def get (last:Nat) (c:Nat×Nat) (r:List Bool):(Nat×(Nat×Nat))×List Bool×Int:=
 if(rd 1 r).2.2≠0 then((0,c),(rd 1 r).2)
 else if(rd 1 r).1=0 then((last,c),(rd 1 r).2.1,0)
 else if(rd 1 (rd 1 r).2.1).2.2≠0 then((0,c),(rd 1 (rd 1 r).2.1).2)
 else if(rd 1 (rd 1 r).2.1).1=0 then
  if c=(0,0)then((0,c),(rd 1 (rd 1 r).2.1).2.1,8)
  else if(gQ c (rd 1 (rd 1 r).2.1).2.1).2.2≠0 then((0,c),(gQ c (rd 1 (rd 1 r).2.1).2.1).2)
  else((last^^^ (gQ c (rd 1 (rd 1 r).2.1).2.1).1,c),(gQ c (rd 1 (rd 1 r).2.1).2.1).2)
 else if(fresh (rd 1 (rd 1 r).2.1).2.1).2.2≠0 then((0,c),(fresh (rd 1 (rd 1 r).2.1).2.1).2)
 else if(gQ (fresh (rd 1 (rd 1 r).2.1).2.1).1 (fresh (rd 1 (rd 1 r).2.1).2.1).2.1).2.2≠0 then((0,c),(gQ (fresh (rd 1 (rd 1 r).2.1).2.1).1 (fresh (rd 1 (rd 1 r).2.1).2.1).2.1).2)
 else if((fresh (rd 1 (rd 1 r).2.1).2.1).1=win (gQ (fresh (rd 1 (rd 1 r).2.1).2.1).1 (fresh (rd 1 (rd 1 r).2.1).2.1).2.1).1∧fits c (gQ (fresh (rd 1 (rd 1 r).2.1).2.1).1 (fresh (rd 1 (rd 1 r).2.1).2.1).2.1).1=false)then
  ((last^^^ (gQ (fresh (rd 1 (rd 1 r).2.1).2.1).1 (fresh (rd 1 (rd 1 r).2.1).2.1).2.1).1,(fresh (rd 1 (rd 1 r).2.1).2.1).1),(gQ (fresh (rd 1 (rd 1 r).2.1).2.1).1 (fresh (rd 1 (rd 1 r).2.1).2.1).2.1).2)
 else((0,c),(gQ (fresh (rd 1 (rd 1 r).2.1).2.1).1 (fresh (rd 1 (rd 1 r).2.1).2.1).2.1).2.1,8)
def gets:Nat→Nat→Nat×Nat→List Nat→List Bool→List Nat×List Bool×Int
 |0,_,_,acc,r=>(acc,r,0)
 |n+1,last,c,acc,r=>if(get last c r).2.2≠0 then([],(get last c r).2)else gets n (get last c r).1.1 (get last c r).1.2 (acc++[(get last c r).1.1]) (get last c r).2.1
def dec (n:Nat) (r:List Bool):List Nat×List Bool×Int:=
 if n=0 then([],r,0)else if(rd 64 r).2.2≠0 then([],(rd 64 r).2)else gets (n-1) (rd 64 r).1 (0,0) [(rd 64 r).1] (rd 64 r).2.1
theorem Rh {x n} (h:x<2^n):Di.bl x≤n:=by
 unfold Di.bl;split
 ·omega
 ·rename_i h0
  have:=(Nat.log2_lt h0).2 h;omega
theorem kX {x} (hx:x<2^64) (h0:x≠0):1≤(win x).2∧(win x).1+(win x).2≤64∧(win x).1<64∧trail (win x)=tz 64 x∧x<2^ (64-(win x).1):=by
 have h1:=Rh hx;have h2:x<2^Di.bl x:=Di.YE x;have h3:2^tz 64 x≤x:=Nat.le_of_dvd om (yS 64 x);have h4:tz 64 x<Di.bl x:=by
  rcases Eo (tz 64 x) (Di.bl x)with q|q
  ·exact q
  ·have:2^Di.bl x≤2^tz 64 x:=kR Ah q;omega
 have h5:=Rf 64 x;unfold trail win lz;simp only[];refine⟨om,om,om,om,?_⟩;rw[show 64-(64-Di.bl x)=Di.bl x from om];exact h2
theorem ZR {x w} (hw:w.1+w.2≤64) (h1:x<2^ (64-w.1)) (h2:2^trail w∣x):(x>>>trail w)%2^w.2=x>>>trail w∧(x>>>trail w)<<<trail w=x:=by
 have hs:64-w.1=w.2+trail w:=by unfold trail;omega
 rw[hs,Nat.pow_add]at h1;refine⟨?_,?_⟩
 ·apply kS;rw[Cq];exact(Nat.div_lt_iff_lt_mul (Nat.pow_pos Ah)).2 h1
 ·rw[Cq,Ce,Nat.div_mul_cancel h2]
theorem VQ {c x} (hx:x<2^64) (h0:x≠0) (h:fits c x=true):c≠(0,0)∧x<2^ (64-c.1)∧2^trail c∣x:=by
 obtain⟨-,-,-,h4,h5⟩:=kX hx h0;unfold fits at h;simp only[CW,bne_iff_ne,Ch]at h;obtain⟨a,b,d⟩:=h;refine⟨a,j6 h5 (kR Ah om),?_⟩;rw[h4]at d;exact Nat.dvd_trans (Nat.pow_dvd_pow 2 d) (yS 64 x)
theorem YG:∀(f x t),x≠0→2^t∣x→t≤f→t≤tz f x
 |0,_,t,_,_,h=>by rw[tz];exact h
 |f+1,x,0,_,_,_=>bH _
 |f+1,x,t+1,h0,h,hf=>by
  obtain⟨k,hk⟩:=h;rw[Dc,Nat.mul_right_comm]at hk;rw[tz,Ng om];have:t≤tz f (x/2):=YG f (x/2) t om ⟨k,om⟩ om;omega
theorem VR {c x} (hc:c≠(0,0)) (h0:x≠0) (h1:x<2^ (64-c.1)) (h2:2^trail c∣x) (hc1:c.1≤64):fits c x=true:=by
 have hx:x<2^64:=j6 h1 (kR Ah om);obtain⟨-,-,-,h4,-⟩:=kX hx h0;have h5:=Rh h1;have h6:=YG 64 x (trail c) h0 h2 (by unfold trail;omega);unfold fits;rw[h4];simp only[CW,bne_iff_ne,Ch];refine⟨hc,?_,h6⟩;show c.1≤lz x;unfold lz;omega
def Cw (c:Nat×Nat):Prop:=c=(0,0)∨(1≤c.2∧c.1+c.2≤64)
theorem Ri (v last:Nat):last^^^ (v^^^last)=v:=by rw[Nat.xor_comm v last,←Dr,Ew,Nat.zero_xor]
theorem Rj {w x} (hw:w.1+w.2≤64) (h0:x≠0) (h1:x<2^ (64-w.1)) (h2:2^trail w∣x) (r):gQ w (bw w.2 (x>>>trail w)++r)=(x,r,0):=by
 obtain⟨a,b⟩:=ZR hw h1 h2;unfold gQ;rw[iC,a];simp only[];rw[Ng sm,b,Ng h0]
theorem Rk {w} (h1:1≤w.2) (h2:w.1+w.2≤64) (r):fresh (bw 6 w.1++(bw 6 (w.2-1)++r))=(w,r,0):=by
 unfold fresh;have e1:w.1%2^6=w.1:=kS om;have e2:(w.2-1)%2^6=w.2-1:=kS om;rw[iC,e1];simp only[];rw[iC,e2];simp only[];rw[show w.2-1+1=w.2 from om,Ng sm,Ng sm,Ps0 h2]
theorem get_put {last v c} (hl:last<2^64) (hv:v<2^64) (hc:Cw c) (r):get last c ((put last c v).1++r)=((v,(put last c v).2),r,0):=by
 have hx:v^^^last<2^64:=BM hv hl;have hb:=Ri v last;unfold put;generalize v^^^last=x at*;by_cases h0:x=0
 ·subst h0;rw[Ps0 rfl];rw[Nat.xor_zero]at hb;subst hb;rw[show bw 1 0++r=false::r from rfl];simp[get,EP]
 ·rw[Ng h0];by_cases hf:fits c x=true
  ·rw[Ps0 hf];obtain⟨a1,a2,a3⟩:=VQ hx h0 hf;obtain⟨b1,b2⟩:=hc.resolve_left a1;rw[Af,show∀q,bw 2 2++q=true::false::q from fun _=>rfl];unfold get;rw[EP];simp only[];rw[EP];simp only[];rw[Rj b2 h0 a2 a3 r];simp[a1,hb]
  ·rw[Ng hf];obtain⟨b1,b2,b3,b4,b5⟩:=kX hx h0;have hd:2^trail (win x)∣x:=by rw[b4];exact yS 64 x
   simp only[Af];rw[show∀q,bw 2 3++q=true::true::q from fun _=>rfl];unfold get;rw[EP];simp only[];rw[EP];simp only[];rw[Rk b1 b2];simp only[];rw[Rj b2 h0 b5 hd r];simp[hb,hf]
theorem Jy {last v c} (hl:last<2^64) (hv:v<2^64) (hc:Cw c):Cw (put last c v).2:=by
 have hx:v^^^last<2^64:=BM hv hl;unfold put;split
 ·exact hc
 ·rename_i h0
  split
  ·exact hc
  ·obtain⟨b1,b2,b3,b4,b5⟩:=kX hx h0;exact .inr ⟨b1,b2⟩
theorem xH:∀(l) (last) (c) (acc) (r),last<2^64→Cw c→(∀x∈l,x<2^64)→gets l.length last c acc (puts last c l++r)=(acc++l,r,0)
 |[],last,c,acc,r,_,_,_=>by simp[gets,puts]
 |v::l,last,c,acc,r,hl,hc,hx=>by
  have hv:=hx v jQ;rw[Lc,gets,puts,Af,get_put hl hv hc];simp only[];rw[Ng sm,xH l v _ _ r hv (Jy hl hv hc) (fun y hy=>hx y (kH _ hy))];simp
theorem bU {l} (hx:∀x∈l,x<2^64) (r):dec l.length (enc l++r)=(l,r,0):=by
 cases l with
 |nil=>simp[dec,enc]
 |cons v l=>
  have hv:=hx v jQ;have e1:v%2^64=v:=kS hv;unfold dec enc;rw[Ng sm,Af,iC,e1];simp only[Lc,Bz];rw[Ng sm,xH l v (0,0) [v] r hv (.inl rfl) (fun y hy=>hx y (kH _ hy))]
  rfl
theorem Rl {w x r r'} (hw:w.1+w.2≤64) (h:gQ w r=(x,r',0)):x≠0∧x<2^ (64-w.1)∧2^trail w∣x∧r=bw w.2 (x>>>trail w)++r':=by
 unfold gQ at h;obtain⟨y,r1,e1,hg⟩:∃y r1 e1,rd w.2 r=(y,r1,e1):=⟨_,_,_,rfl⟩
 rw[hg]at h;simp only[]at h;by_cases he:e1=0
 ·subst he;rw[Ng sm]at h;simp only[az]at h;obtain⟨h1,rfl,h3⟩:=h;rw[h1]at h3;have h0:x≠0:=fun e=>by rw[Ps0 e]at h3;simp at h3
  obtain⟨d1,d2⟩:=jB hg;have hs:64-w.1=w.2+trail w:=by unfold trail;omega
  have hp:0<2^trail w:=Nat.pow_pos Ah;have hy:x>>>trail w=y:=by rw[←h1,Ce,Cq,Nat.mul_div_cancel _ hp]
  refine⟨h0,?_,?_,by rw[hy];exact d1⟩
  ·rw[hs,Nat.pow_add,←h1,Ce];exact Nat.mul_lt_mul_of_pos_right d2 hp
  ·rw[←h1,Ce];exact Nat.dvd_mul_left _ _
 ·rw[Ps0 he]at h;simp only[az]at h;exact absurd h.2.2 he
theorem FI {w r r'} (h:fresh r=(w,r',0)):1≤w.2∧w.1+w.2≤64∧r=bw 6 w.1++(bw 6 (w.2-1)++r'):=by
 unfold fresh at h;obtain⟨a,r1,e1,hg⟩:∃a r1 e1,rd 6 r=(a,r1,e1):=⟨_,_,_,rfl⟩
 rw[hg]at h;simp only[]at h;by_cases he:e1=0
 ·subst he;rw[Ng sm]at h;obtain⟨b,r2,e2,hg2⟩:∃b r2 e2,rd 6 r1=(b,r2,e2):=⟨_,_,_,rfl⟩
  rw[hg2]at h;simp only[]at h;by_cases he2:e2=0
  ·subst he2;rw[Ng sm]at h;simp only[az]at h;obtain⟨rfl,rfl,h3⟩:=h;obtain⟨d1,-⟩:=jB hg;obtain⟨d2,-⟩:=jB hg2;have:a+(b+1)≤64:=by
    by_cases q:a+(b+1)≤64
    ·exact q
    ·rw[Ng q]at h3;simp at h3
   exact⟨sm,this,by simp only[Bz];rw[←d2,←d1]⟩
  ·rw[Ps0 he2]at h;simp only[az]at h;exact absurd h.2.2 he2
 ·rw[Ps0 he]at h;simp only[az]at h;exact absurd h.2.2 he
theorem Rm {last v c c' r r'} (hl:last<2^64) (hc:Cw c) (h:get last c r=((v,c'),r',0)):v<2^64∧put last c v=((put last c v).1,c')∧r=(put last c v).1++r':=by
 unfold get at h;obtain⟨a,r1,e1,hg⟩:∃a r1 e1,rd 1 r=(a,r1,e1):=⟨_,_,_,rfl⟩
 rw[hg]at h;simp only[]at h;by_cases he:e1=0
 ·subst he;rw[Ng sm]at h;obtain⟨d1,d2⟩:=jB hg;by_cases ha:a=0
  ·subst ha;rw[Ps0 rfl]at h;simp only[az]at h;obtain⟨⟨rfl,rfl⟩,rfl,-⟩:=h;have:put last c last=(bw 1 0,c):=by unfold put;rw[Ew,Ps0 rfl]
   rw[this];exact⟨hl,rfl,d1⟩
  ·rw[Ng ha]at h;have ha1:a=1:=om;subst ha1;obtain⟨b,r2,e2,hg2⟩:∃b r2 e2,rd 1 r1=(b,r2,e2):=⟨_,_,_,rfl⟩
   rw[hg2]at h;simp only[]at h;by_cases he2:e2=0
   ·subst he2;rw[Ng sm]at h;obtain⟨d3,d4⟩:=jB hg2;by_cases hb:b=0
    ·subst hb;rw[Ps0 rfl]at h;by_cases hcz:c=(0,0)
     ·rw[Ps0 hcz]at h;simp at h
     ·rw[Ng hcz]at h;obtain⟨x,r3,e3,hg3⟩:∃x r3 e3,gQ c r2=(x,r3,e3):=⟨_,_,_,rfl⟩
      rw[hg3]at h;simp only[]at h;by_cases kJ:e3=0
      ·subst kJ;rw[Ng sm]at h;simp only[az]at h;obtain⟨⟨rfl,rfl⟩,rfl,-⟩:=h;obtain⟨b1,b2⟩:=hc.resolve_left hcz;obtain⟨g1,g2,g3,g4⟩:=Rl b2 hg3;have hx:x<2^64:=j6 g2 (kR Ah om);have e5:last^^^x^^^last=x:=by rw[Nat.xor_comm last x,Dr,Ew,Nat.xor_zero]
       have hp:put last c (last^^^x)=(bw 2 2++bw c.2 (x>>>trail c),c):=by
        unfold put;rw[e5,Ng g1,Ps0 (VR hcz g1 g2 g3 om)]
       rw[hp];refine⟨BM hl hx,rfl,?_⟩;rw[d1,d3,g4]
       rfl
      ·rw[Ps0 kJ]at h;simp only[az]at h;exact absurd h.2.2 kJ
    ·rw[Ng hb]at h;have hb1:b=1:=om;subst hb1;obtain⟨w,r3,e3,hg3⟩:∃w r3 e3,fresh r2=(w,r3,e3):=⟨_,_,_,rfl⟩
     rw[hg3]at h;simp only[]at h;by_cases kJ:e3=0
     ·subst kJ;rw[Ng sm]at h;obtain⟨x,r4,e4,hg4⟩:∃x r4 e4,gQ w r3=(x,r4,e4):=⟨_,_,_,rfl⟩
      rw[hg4]at h;simp only[]at h;by_cases ER:e4=0
      ·subst ER;rw[Ng sm]at h;by_cases hq:w=win x∧fits c x=false
       ·rw[Ps0 hq]at h;simp only[az]at h;obtain⟨⟨rfl,rfl⟩,rfl,-⟩:=h;obtain⟨f1,f2,f3⟩:=FI hg3;obtain⟨g1,g2,g3,g4⟩:=Rl f2 hg4;have hx:x<2^64:=j6 g2 (kR Ah om);have e5:last^^^x^^^last=x:=by rw[Nat.xor_comm last x,Dr,Ew,Nat.xor_zero]
        have hp:put last c (last^^^x)=(bw 2 3++(bw 6 (win x).1++(bw 6 ((win x).2-1)++bw (win x).2 (x>>>trail (win x)))),win x):=by
         unfold put;rw[e5,Ng g1,Ng (by rw[hq.2];simp)]
        rw[hp];refine⟨BM hl hx,by rw[hq.1],?_⟩;rw[d1,d3,f3,g4,←hq.1];simp only[Af]
        rfl
       ·rw[Ng hq]at h;simp at h
      ·rw[Ps0 ER]at h;simp only[az]at h;exact absurd h.2.2 ER
     ·rw[Ps0 kJ]at h;simp only[az]at h;exact absurd h.2.2 kJ
   ·rw[Ps0 he2]at h;simp only[az]at h;exact absurd h.2.2 he2
 ·rw[Ps0 he]at h;simp only[az]at h;exact absurd h.2.2 he
theorem LM:∀(n last) (c) (acc) (r) (l) (r'),last<2^64→Cw c→gets n last c acc r=(l,r',0)→
  ∃m,l=acc++m∧m.length=n∧(∀x∈m,x<2^64)∧r=puts last c m++r'
 |0,last,c,acc,r,l,r',_,_,h=>by
  simp only[gets,az]at h;obtain⟨rfl,rfl,-⟩:=h;exact⟨[],sm,rfl,sm,by simp[puts]⟩
 |n+1,last,c,acc,r,l,r',hl,hc,h=>by
  rw[gets]at h;obtain⟨⟨v,c2⟩,r1,e1,hg⟩:∃q r1 e1,get last c r=(q,r1,e1):=⟨_,_,_,rfl⟩
  rw[hg]at h;simp only[]at h;by_cases he:e1=0
  ·subst he;rw[Ng sm]at h;obtain⟨a1,a2,a3⟩:=Rm hl hc hg;have hc2:=Jy hl a1 hc;have a4:(put last c v).2=c2:=by rw[a2]
   rw[a4]at hc2;obtain⟨m,h1,h2,h3,h4⟩:=LM n v c2 _ _ _ _ a1 hc2 h;refine⟨v::m,by simp[h1],by simp[h2],?_,?_⟩
   ·intro y hy;rcases eH.1 hy with q|q
    ·rw[q];exact a1
    ·exact h3 y q
   ·rw[puts,a4,Af,←h4,←a3]
  ·rw[Ps0 he]at h;simp only[az]at h;exact absurd h.2.2 he
theorem iD {n r r' l} (h:dec n r=(l,r',0)):l.length=n∧(∀x∈l,x<2^64)∧r=enc l++r':=by
 unfold dec at h;by_cases hn:n=0
 ·subst hn;rw[Ps0 rfl]at h;simp only[az]at h;obtain⟨rfl,rfl,-⟩:=h;exact⟨rfl,sm,rfl⟩
 ·rw[Ng hn]at h;obtain⟨v,r1,e1,hg⟩:∃v r1 e1,rd 64 r=(v,r1,e1):=⟨_,_,_,rfl⟩
  rw[hg]at h;simp only[]at h;by_cases he:e1=0
  ·subst he;rw[Ng sm]at h;obtain⟨d1,d2⟩:=jB hg;obtain⟨m,h1,h2,h3,h4⟩:=LM _ _ _ _ _ _ _ d2 (.inl rfl) h;have h5:l=v::m:=h1;subst h5;refine⟨by simp[h2];omega,?_,?_⟩
   ·intro y hy;rcases eH.1 hy with q|q
    ·rw[q];exact d2
    ·exact h3 y q
   ·rw[enc,Af,←h4,←d1]
  ·rw[Ps0 he]at h;simp only[az]at h;exact absurd h.2.2 he
end Xo
namespace Ru
open Bt Tm
def runs:List Nat→List (Nat×Nat)
 |[]=>[]
 |x::l=>match runs l with
  |[]=>[(x,1)]
  |(y,c)::rs=>if x=y then(y,c+1)::rs else(x,1)::(y,c)::rs
def join (rs:List (Nat×Nat)):List Nat:=rs.flatMap fun p=>List.replicate p.2 p.1
def tot (rs:List (Nat×Nat)):Nat:=(rs.map (·.2)).sum
def one (p:Nat×Nat):List Bool:=bw 64 p.1++bw 7 (p.2-1)
def enc (l:List Nat):List Bool:=(runs l).flatMap one
def Good:Option Nat→List (Nat×Nat)→Prop
 |_,[]=>True
 |last,p::rs=>last≠some p.1∧1≤p.2∧p.2≤128∧p.1<2^64∧Good (some p.1) rs
theorem nZ (rs):(join rs).length=tot rs:=by
 induction rs with
 |nil=>rfl
 |cons p rs ih=>
  have h:join (p::rs)=List.replicate p.2 p.1++join rs:=rfl;have h2:tot (p::rs)=p.2+tot rs:=by simp[tot]
  rw[h,h2,La,Eu,ih]
theorem lX:∀(l),join (runs l)=l
 |[]=>rfl
 |x::l=>by
  have ih:=lX l;rw[runs];cases hr:runs l with
  |nil=>rw[hr]at ih;simp only[join,Dp]at ih;simp[join,←ih]
  |cons p rs=>
   obtain⟨y,c⟩:=p;rw[hr]at ih;simp only[];by_cases hx:x=y
   ·subst hx;rw[Ps0 rfl];simp only[join,Au]at ih⊢;rw[List.replicate_succ,Bb,ih]
   ·rw[Ng hx];simp only[join,Au]at ih⊢;rw[ih];rfl
theorem pQ:∀(l),l.length≤128→(∀x∈l,x<2^64)→Good none (runs l)
 |[],_,_=>trivial
 |x::l,hl,hx=>by
  simp only[Lc]at hl;have ih:=pQ l om (fun y hy=>hx y (kH _ hy));have hj:=congrArg List.length (lX l);rw[nZ]at hj;have hx0:=hx x jQ;rw[runs];cases hr:runs l with
  |nil=>exact⟨sm,sm,sm,hx0,trivial⟩
  |cons p rs=>
   obtain⟨y,c⟩:=p;rw[hr]at ih hj;simp only[];have hc:c≤l.length:=by
    have:tot ((y,c)::rs)=c+tot rs:=by simp[tot]
    omega
   obtain⟨-,h2,h3,h4,h5⟩:=ih;by_cases hxy:x=y
   ·subst hxy;rw[Ps0 rfl];exact⟨sm,sm,by simp only[];omega,h4,h5⟩
   ·rw[Ng hxy];exact⟨sm,sm,sm,hx0,by simpa using hxy,h2,h3,h4,h5⟩
theorem pR {x l} (rs) (hr:runs l=rs) (h:∀p∈rs.head?,p.1≠x):∀(c),runs (List.replicate (c+1) x++l)=(x,c+1)::rs
 |0=>by
  rw[show List.replicate (0+1) x++l=x::l from rfl,runs,hr];cases rs with
  |nil=>rfl
  |cons p rs=>
   obtain⟨y,c⟩:=p;simp only[];rw[Ng (fun e=>h (y,c) rfl e.symm)]
 |c+1=>by
  rw[List.replicate_succ,Bb,runs,pR rs hr h c];simp
theorem og:∀{rs} {last},Good last rs→runs (join rs)=rs
 |[],_,_=>rfl
 |(x,c)::rs,last,h=>by
  obtain⟨-,h2,h3,h4,h5⟩:=h;have ih:=og h5;obtain⟨k,rfl⟩:∃k,c=k+1:=⟨c-1,by simp only[]at h2;omega⟩
  rw[show join ((x,k+1)::rs)=List.replicate (k+1) x++join rs from rfl];refine pR rs ih (fun p hp=>?_) k;cases rs with
  |nil=>simp at hp
  |cons q rs=>
   simp only[List.head?_cons,Option.mem_def,gT]at hp;subst hp;exact fun e=>h5.1 (by rw[e])
def gr:Nat→Nat→Option Nat→List (Nat×Nat)→List Bool→List (Nat×Nat)×List Bool×Int
 |0,_,_,acc,r=>(acc,r,0)
 |f+1,n,last,acc,r=>if n=0 then(acc,r,0)
  else if(rd 64 r).2.2≠0 then([],(rd 64 r).2)
  else if(rd 7 (rd 64 r).2.1).2.2≠0 then([],(rd 7 (rd 64 r).2.1).2)
  else if n< (rd 7 (rd 64 r).2.1).1+1∨last=some (rd 64 r).1 then([],(rd 7 (rd 64 r).2.1).2.1,8)
  else gr f (n-((rd 7 (rd 64 r).2.1).1+1)) (some (rd 64 r).1) (acc++[((rd 64 r).1,(rd 7 (rd 64 r).2.1).1+1)]) (rd 7 (rd 64 r).2.1).2.1
def dec (n:Nat) (r:List Bool):List Nat×List Bool×Int:=(join (gr n n none [] r).1,(gr n n none [] r).2)
theorem ZT {f n last acc x c} (r) (hx:x<2^64) (h1:1≤c) (h2:c≤128) (hc:c≤n) (hl:last≠some x):
  gr (f+1) n last acc (one (x,c)++r)=gr f (n-c) (some x) (acc++[(x,c)]) r:=by
 have e1:x%2^64=x:=kS hx;have e2:(c-1)%2^7=c-1:=kS om;have e3:c-1+1=c:=om;rw[gr,Ng om];unfold one;rw[Af,iC,e1];simp only[];rw[iC,e2];simp only[];rw[Ng sm,Ng sm,e3,Ng (fun h=>h.elim (fun h=>om) hl)]
theorem Rn:∀(rs) (f n) (last) (acc) (r),Good last rs→tot rs=n→n≤f→gr f n last acc (rs.flatMap one++r)=(acc++rs,r,0)
 |[],f,n,last,acc,r,_,ht,hf=>by
  have:n=0:=by rw[←ht];rfl
  subst this;cases f<;>simp[gr]
 |(x,c)::rs,f,n,last,acc,r,hg,ht,hf=>by
  obtain⟨h1,h2,h3,h4,h5⟩:=hg;simp only[]at h1 h2 h3 h4;have ht2:c+tot rs=n:=by rw[←ht];simp[tot]
  obtain⟨f,rfl⟩:∃k,f=k+1:=⟨f-1,om⟩
  rw[Au,Af,ZT _ h4 h2 h3 om h1,Rn rs f (n-c) (some x) _ r h5 om om];simp
theorem bU {l} (hl:l.length≤128) (hx:∀x∈l,x<2^64) (r):dec l.length (enc l++r)=(l,r,0):=by
 unfold dec enc;have hj:=congrArg List.length (lX l);rw[nZ]at hj;rw[Rn (runs l) l.length l.length none [] r (pQ l hl hx) hj Ai,AA,lX]
theorem YH:∀(f n) (last) (acc) (r) (out) (r'),n≤f→gr f n last acc r=(out,r',0)→
  ∃rs,out=acc++rs∧Good last rs∧tot rs=n∧r=rs.flatMap one++r'
 |0,n,last,acc,r,out,r',hf,h=>by
  simp only[gr,az]at h;exact⟨[],by simp[h.1],trivial,by simp[tot];omega,by simp[h.2.1]⟩
 |f+1,n,last,acc,r,out,r',hf,h=>by
  rw[gr]at h;by_cases hn:n=0
  ·subst hn;rw[Ps0 rfl]at h;simp only[az]at h;exact⟨[],by simp[h.1],trivial,by simp[tot],by simp[h.2.1]⟩
  ·rw[Ng hn]at h;obtain⟨x,r1,e1,hg⟩:∃x r1 e1,rd 64 r=(x,r1,e1):=⟨_,_,_,rfl⟩
   rw[hg]at h;simp only[]at h;by_cases he:e1=0
   ·subst he;rw[Ng sm]at h;obtain⟨c,r2,e2,hg2⟩:∃c r2 e2,rd 7 r1=(c,r2,e2):=⟨_,_,_,rfl⟩
    rw[hg2]at h;simp only[]at h;by_cases he2:e2=0
    ·subst he2;rw[Ng sm]at h;by_cases hq:n<c+1∨last=some x
     ·rw[Ps0 hq]at h;simp at h
     ·rw[Ng hq]at h;obtain⟨d1,d2⟩:=jB hg;obtain⟨d3,d4⟩:=jB hg2;obtain⟨rs,h1,h2,h3,h4⟩:=YH f (n-(c+1)) _ _ _ _ _ om h;refine⟨(x,c+1)::rs,by simp[h1],⟨fun e=>hq (.inr e),sm,by simp only[];omega,d2,h2⟩,?_,?_⟩
      ·have:tot ((x,c+1)::rs)=c+1+tot rs:=by simp[tot]
       omega
      ·rw[Au,one,d1,d3,h4];simp
    ·rw[Ps0 he2]at h;simp only[az]at h;exact absurd h.2.2 he2
   ·rw[Ps0 he]at h;simp only[az]at h;exact absurd h.2.2 he
theorem LQ:∀{rs} {last},Good last rs→∀x∈join rs,x<2^64
 |[],_,_,x,hx=>by simp[join]at hx
 |p::rs,_,h,x,hx=>by
  have e:join (p::rs)=List.replicate p.2 p.1++join rs:=rfl;rw[e]at hx;rcases je.1 hx with hx|hx
  ·rw[(List.mem_replicate.1 hx).2];exact h.2.2.2.1
  ·exact LQ h.2.2.2.2 x hx
theorem iD {n r r' l} (h:dec n r=(l,r',0)):l.length=n∧(∀x∈l,x<2^64)∧r=enc l++r':=by
 unfold dec at h;obtain⟨out,r2,e,hg⟩:∃out r2 e,gr n n none [] r=(out,r2,e):=⟨_,_,_,rfl⟩
 rw[hg]at h;simp only[az]at h;obtain⟨rfl,rfl,rfl⟩:=h;obtain⟨rs,h1,h2,h3,h4⟩:=YH n n none [] r out r2 Ai hg;rw[AA]at h1;subst h1;refine⟨by rw[nZ,h3],LQ h2,?_⟩;unfold enc;rw[og h2];exact h4
end Ru
namespace Ck
open Bt Tm
theorem lY (b:UInt8) (L:List UInt8):Bt.bits (b::L)=bw 8 b.toNat++Bt.bits L:=by
 apply DD
 ·rw[La,iB,iB,aj,Lc];omega
 ·intro i h1 h2;rw[jA];by_cases hi:i<8
  ·rw[tK (by rw[aj];exact hi),Jw];unfold bit;rw[show i/8=0 from om,show 7-i%8=8-1-i from om]
   rfl
  ·rw[List.getElem_append_right (by rw[aj];omega),jA];unfold bit;rw[aj,show i/8=(i-8)/8+1 from om,show i%8=(i-8)%8 from om,fZ,List.getElem?_cons_succ,←fZ]
theorem VS {L:List UInt8} {bs:List Bool} (h:Wr L bs):∃p,p<8∧Bt.bits L=bs++List.replicate p false:=by
 have hl:=h.len;refine⟨8*L.length-bs.length,om,?_⟩;apply DD
 ·rw[iB,La,Eu];omega
 ·intro i h1 h2;rw[jA];by_cases hi:i<bs.length
  ·rw[tK hi,h.get i hi]
  ·rw[List.getElem_append_right om,List.getElem_replicate,h.pad i om]
theorem acK {L:List UInt8} {bs:List Bool} {p:Nat} (hp:p<8) (h:Bt.bits L=bs++List.replicate p false):Wr L bs:=by
 have hl:=congrArg List.length h;rw[iB,La,Eu]at hl;refine⟨om,fun k hk=>?_,fun k hk=>?_⟩
 ·have h1:k< (Bt.bits L).length:=by rw[iB];omega
  rw[←jA L k h1,List.getElem_of_eq h h1,tK hk]
 ·by_cases h1:k< (Bt.bits L).length
  ·rw[←jA L k h1,List.getElem_of_eq h h1,List.getElem_append_right hk,List.getElem_replicate]
  ·rw[iB]at h1;unfold bit;rw[fZ,BN om];simp
def vals (tag:Nat) (l:List Nat):List Bool:=if tag=1 then Xo.enc l else if tag=2 then Ru.enc l else Di.enc l
def gK (tag n:Nat) (r:List Bool):List Nat×List Bool×Int:=if tag=1 then Xo.dec n r else if tag=2 then Ru.dec n r else Di.dec n r
def choose (l:List Nat):Nat:=
 if(Di.enc l).length<min (Xo.enc l).length (Ru.enc l).length then 3 else if(Ru.enc l).length< (Xo.enc l).length then 2 else 1
theorem tO (l):1≤choose l∧choose l≤3:=by unfold choose;split<;>(try split)<;>omega
def cb (l:List (Int×Nat)):List Bool:=bw 8 (choose (l.map (·.2)))++(bw 8 (l.length-1)++(Tm.enc (l.map (·.1))++vals (choose (l.map (·.2))) (l.map (·.2))))
def fin (r:List Bool):Int:=if 8≤r.length∨true∈r then 4 else 0
def VU (tag n:Nat) (r:List Bool):List (Int×Nat)×Int:=
 if(Tm.dec n r).2.2≠0 then([],(Tm.dec n r).2.2)
 else if(gK tag n (Tm.dec n r).2.1).2.2≠0 then([],(gK tag n (Tm.dec n r).2.1).2.2)
 else if fin (gK tag n (Tm.dec n r).2.1).2.1≠0 then([],4)
 else if choose (gK tag n (Tm.dec n r).2.1).1≠tag then([],8)
 else((Tm.dec n r).1.zip (gK tag n (Tm.dec n r).2.1).1,0)
def dec:List UInt8→List (Int×Nat)×Int
 |[]=>([],3)
 |[t]=>if t.toNat<1∨3<t.toNat then([],9)else([],3)
 |t::m::b=>if t.toNat<1∨3<t.toNat then([],9)else if 120≤m.toNat then([],7)else VU t.toNat (m.toNat+1) (Bt.bits b)
def Ok (l:List (Int×Nat)):Prop:=l≠[]∧l.length≤120∧∀p∈l,Tm.In p.1∧p.2<2^64
theorem Jz (l):(Di.fe l).length≤l.length:=by
 induction l with
 |nil=>simp[Di.fe]
 |cons x l ih=>
  have h:∀(m:List Nat),(Di.ins x m).length≤m.length+1:=by
   intro m
   induction m with
   |nil=>simp[Di.ins]
   |cons y m ih=>rw[Di.ins];split<;>(try split)<;>simp<;>omega
  have e:Di.fe (x::l)=Di.ins x (Di.fe l):=rfl;have:=h (Di.fe l);rw[e,Lc];omega
theorem JA {tag l} (h1:l.length≤120) (hx:∀x∈l,x<2^64) (r):gK tag l.length (vals tag l++r)=(l,r,0):=by
 unfold gK vals;split
 ·exact Xo.bU hx r
 ·split
  ·exact Ru.bU om hx r
  ·exact Di.bU hx (by have:=Jz l;omega) r
theorem FJ {tag n r r' l} (h:gK tag n r=(l,r',0)):l.length=n∧(∀x∈l,x<2^64)∧r=vals tag l++r':=by
 unfold gK at h;unfold vals;split at h
 ·rename_i q;rw[Ps0 q];exact Xo.iD h
 ·rename_i q
  rw[Ng q];split at h
  ·rename_i q2;rw[Ps0 q2];exact Ru.iD h
  ·rename_i q2
   rw[Ng q2];obtain⟨a,b,-,d⟩:=Di.iD h;exact⟨a,b,d⟩
theorem VV {p} (hp:p<8):fin (List.replicate p false)=0:=by unfold fin;rw[Ng (by simp;omega)]
theorem ZU {r} (h:fin r=0):∃p,p<8∧r=List.replicate p false:=by
 unfold fin at h;split at h
 ·simp at h
 ·rename_i q
  refine⟨r.length,om,?_⟩;apply List.eq_replicate_iff.2 ⟨rfl,fun b hb=>?_⟩;cases b with
  |false=>rfl
  |true=>exact absurd (.inr hb) q
theorem Ro (l:List (Int×Nat)):(l.map (·.1)).zip (l.map (·.2))=l:=by
 induction l with
 |nil=>rfl
 |cons p l ih=>simp[ih]
theorem bw8 {b:UInt8} {n} (h:bw 8 b.toNat=bw 8 n) (hn:n<256):b.toNat=n:=by
 have h2:=congrArg oP h;rw[tN,tN]at h2;have:=b.toNat_lt;omega
theorem ZV {L l} (hl:Ok l) (h:Wr L (cb l)):dec L=(l,0):=by
 obtain⟨h0,h1,h2⟩:=hl;have hpos:=oW.2 h0;obtain⟨p,hp,hb⟩:=VS h;obtain⟨c1,c2⟩:=tO (l.map (·.2));have hlen:=h.len;have hcl:16≤(cb l).length:=by
  unfold cb;rw[La,La,aj,aj];omega
 match L,hb,hlen with
 |[],_,q=>simp only[Ba]at q;omega
 |[t],_,q=>simp only[DJ]at q;omega
 |t::m::b,hb,_=>
  rw[lY,lY]at hb;unfold cb at hb;simp only[Af]at hb;obtain⟨e1,hb⟩:=List.append_inj hb (by rw[aj,aj]);obtain⟨e2,hb⟩:=List.append_inj hb (by rw[aj,aj]);have et:=bw8 e1 om;have em:=bw8 e2 om;rw[dec,Ng om,Ng om,et,em,show l.length-1+1=l.length from om];unfold VU;have a1:=Tm.bU (l:=l.map (·.1)) (fun u hu=>by
   obtain⟨q,hq,rfl⟩:=bY.1 hu;exact(h2 q hq).1) (vals (choose (l.map (·.2))) (l.map (·.2))++List.replicate p false)
  have a2:=JA (tag:=choose (l.map (·.2))) (l:=l.map (·.2)) (by simpa using h1) (fun u hu=>by
   obtain⟨q,hq,rfl⟩:=bY.1 hu;exact(h2 q hq).2) (List.replicate p false)
  rw[fM]at a1 a2;rw[hb,a1];simp only[];rw[a2];simp only[];rw[Ng sm,Ng sm,Ng (by rw[VV hp];simp),Ng sm,Ro]
theorem iD {L l} (h:dec L=(l,0)):Ok l∧Wr L (cb l):=by
 match L,h with
 |[],h=>simp[dec]at h
 |[t],h=>rw[dec]at h;split at h<;>simp at h
 |t::m::b,h=>
  rw[dec]at h;by_cases q1:t.toNat<1∨3<t.toNat
  ·rw[Ps0 q1]at h;simp at h
  ·rw[Ng q1]at h;by_cases q2:120≤m.toNat
   ·rw[Ps0 q2]at h;simp at h
   ·rw[Ng q2]at h;unfold VU at h;obtain⟨ts,r1,e1,hg⟩:∃ts r1 e1,Tm.dec (m.toNat+1) (Bt.bits b)=(ts,r1,e1):=⟨_,_,_,rfl⟩
    rw[hg]at h;simp only[]at h;by_cases he:e1=0
    ·subst he;rw[Ng sm]at h;obtain⟨vs,r2,e2,hg2⟩:∃vs r2 e2,gK t.toNat (m.toNat+1) r1=(vs,r2,e2):=⟨_,_,_,rfl⟩
     rw[hg2]at h;simp only[]at h;by_cases he2:e2=0
     ·subst he2;rw[Ng sm]at h;by_cases hf:fin r2=0
      ·rw[Ng (by rw[hf];simp)]at h;by_cases hc:choose vs=t.toNat
       ·rw[Ng (by simp[hc])]at h;simp only[az,BJ]at h;obtain⟨a1,a2,a3⟩:=Tm.iD hg;obtain⟨b1,b2,b3⟩:=FJ hg2;obtain⟨p,hp,hr⟩:=ZU hf;have hlen:ts.length=vs.length:=om;have m1:l.map (·.1)=ts:=by rw[←h];exact List.map_fst_zip om
        have m2:l.map (·.2)=vs:=by rw[←h];exact List.map_snd_zip om
        have ll:l.length=m.toNat+1:=by rw[←a1,←m1,fM]
        refine⟨⟨fun e=>by rw[e]at ll;simp at ll,om,fun q hq=>⟨a2 _ (by rw[←m1];exact List.mem_map_of_mem hq),b2 _ (by rw[←m2];exact List.mem_map_of_mem hq)⟩⟩,?_⟩;refine acK hp ?_;unfold cb;rw[m1,m2,hc,ll,Bz,lY,lY,a3,b3,hr];simp only[Af]
       ·rw[Ps0 hc]at h;simp at h
      ·rw[Ps0 hf]at h;simp at h
     ·rw[Ps0 he2]at h;simp only[az]at h;exact absurd h.2 he2
    ·rw[Ps0 he]at h;simp only[az]at h;exact absurd h.2 he
def psh (L:List UInt8) (n:Nat) (b:Bool):List UInt8:=
 let L2:=if n%8=0 then L++[0]else L
 L2.set (n/8) (UInt8.ofNat ((L2.getD (n/8) 0).toNat|||(b.toNat<<< (7-n%8))))
def pkF:List UInt8→Nat→List Bool→List UInt8
 |L,_,[]=>L
 |L,n,b::bs=>pkF (psh L n b) (n+1) bs
def pk (bs:List Bool):List UInt8:=pkF [] 0 bs
theorem ZW {L bs} (h:Wr L bs) (b):Wr (psh L bs.length b) (bs++[b]):=by
 refine(h.push b (L2:=if bs.length%8=0 then L++[0]else L) rfl ?_).2;rw[DI];apply kS;apply Nat.or_lt_two_pow (n:=8)
 ·exact UInt8.toNat_lt _
 ·have h1:b.toNat≤1:=by cases b<;>simp
  have h2:2^ (7-bs.length%8)≤2^7:=kR Ah om;rw[Ce];have h3:=Nat.mul_le_mul h1 h2;omega
theorem Rp:∀(bs:List Bool) {L:List UInt8} {aS:List Bool},Wr L aS→Wr (pkF L aS.length bs) (aS++bs)
 |[],L,aS,h=>by simpa[pkF]using h
 |b::bs,L,aS,h=>by
  have:=Rp bs (ZW h b);rw[La,DJ,Af]at this;exact this
theorem LU (bs):Wr (pk bs) bs:=by
 have:=Rp bs Wr.nil;rw[AA]at this;exact this
def enc (l:List (Int×Nat)):List UInt8:=pk (cb l)
theorem bD (l):(enc l).length=((cb l).length+7)/8:=(LU (cb l)).len
theorem bU {l} (hl:Ok l):dec (enc l)=(l,0):=ZV hl (LU (cb l))
theorem VW {L l} (h:dec L=(l,0)):Ok l∧L=enc l:=by
 obtain⟨h1,h2⟩:=iD h;exact⟨h1,h2.inj (LU (cb l))⟩
def jC (l:List (Int×Nat)):List (List (Int×Nat)):=if l=[]then[]else l.take 120::jC (l.drop 120)
termination_by l.length
decreasing_by
 rename_i h
 have:=oW.2 h;rw[mg];omega
theorem dX:jC []=[]:=by rw[jC,Ps0 rfl]
theorem jR {l} (h:l≠[]):jC l=l.take 120::jC (l.drop 120):=by rw[jC,Ng h]
theorem oh {X:Type} {f:X→List Bool} {B} (h:∀x,(f x).length≤B) (l:List X):(l.flatMap f).length≤B*l.length:=by
 induction l with
 |nil=>simp
 |cons x l ih=>
  have:=h x;rw[Au,La,Lc,Nat.mul_add,C8];omega
theorem YI {i} (h:i≤4):fl i+fw i≤68:=by
 rcases(by omega:i=0∨i=1∨i=2∨i=3∨i=4)with rfl|rfl|rfl|rfl|rfl<;>simp[fl,fw]
theorem yT:∀(l) (t d),(Tm.yQ t d l).length=l.length
 |[],_,_=>rfl
 |u::l,t,d=>by rw[Tm.yQ,Lc,yT l,Lc]
theorem YJ (l):(Tm.enc l).length≤68*l.length:=by
 cases l with
 |nil=>simp[Tm.enc]
 |cons t l=>
  have h:=oh (f:=Tm.ch) (B:=68) (fun x=>by
   unfold Tm.ch;rw[La,aj,aj];exact YI (FH x)) (Tm.yQ t 0 l)
  rw[yT]at h;rw[Tm.enc,La,aj,Lc];omega
theorem ZX (last v c) (hc:c.2≤64):(Xo.put last c v).1.length≤78∧(Xo.put last c v).2.2≤64:=by
 unfold Xo.put;split
 ·exact⟨by simp only[aj];omega,hc⟩
 ·split
  ·exact⟨by simp only[La,aj];omega,hc⟩
  ·have:(Xo.win (v^^^last)).2≤64:=by unfold Xo.win;simp only[];omega
   exact⟨by simp only[La,aj];omega,this⟩
theorem LV:∀(l) (last) (c),c.2≤64→(Xo.puts last c l).length≤78*l.length
 |[],_,_,_=>by simp[Xo.puts]
 |v::l,last,c,hc=>by
  obtain⟨h1,h2⟩:=ZX last v c hc;have:=LV l v (Xo.put last c v).2 h2;rw[Xo.puts,La,Lc];omega
theorem YK (l):(Xo.enc l).length≤78*l.length:=by
 cases l with
 |nil=>simp[Xo.enc]
 |cons v l=>
  have:=LV l v (0,0) sm;rw[Xo.enc,La,aj,Lc];omega
theorem LW (l):(vals (choose l) l).length≤(Xo.enc l).length:=by
 unfold choose;split
 ·rw[show vals 3 l=Di.enc l from rfl];omega
 ·split
  ·rw[show vals 2 l=Ru.enc l from rfl];omega
  ·exact Nr _
theorem VX {l} (h:l.length≤120):2≤(enc l).length∧(enc l).length≤2200:=by
 have h1:=YJ (l.map (·.1));have h2:=LW (l.map (·.2));have h3:=YK (l.map (·.2));rw[fM]at h1 h3;rw[bD];unfold cb;simp only[La,aj];omega
end Ck
namespace Cs
open Ck
abbrev gH:=List (Int×Nat)
def In (s:gH):Prop:=∀p∈s,Tm.In p.1∧p.2<2^64
def FK:List Nat→gH→List UInt8→gH×List UInt8×Int
 |[],acc,d=>(acc,d,0)
 |n::ls,acc,d=>if(Ck.dec (d.take n)).2≠0 then([],d,(Ck.dec (d.take n)).2)else if ls≠[]∧(Ck.dec (d.take n)).1.length≠120 then([],d,23)else FK ls (acc++(Ck.dec (d.take n)).1) (d.drop n)
def IW:List (List Nat)→List gH→List UInt8→List gH×Int
 |[],acc,_=>(acc,0)
 |l::ls,acc,d=>if(FK l [] d).2.2≠0 then([],(FK l [] d).2.2)else IW ls (acc++[(FK l [] d).1]) (FK l [] d).2.1
def lens (s:gH):List Nat:=(jC s).map fun c=>(Ck.enc c).length
def tQ (s:gH):List UInt8:=(jC s).flatMap Ck.enc
theorem JB (s:gH):jC s=[]↔s=[]:=by
 constructor
 ·intro h;by_cases q:s=[]
  ·exact q
  ·rw[jR q]at h;simp at h
 ·intro h;rw[h,dX]
theorem VY {s:gH} (h0:s≠[]) (h:In s):Ck.Ok (s.take 120):=
 ⟨fun e=>by
  have:=congrArg List.length e;have h1:=oW.2 h0;rw[oV,Ba]at this;omega,by rw[oV];omega,fun p hp=>h p (List.mem_of_mem_take hp)⟩
theorem LX (s acc r) (h:In s):FK (lens s) acc (tQ s++r)=(acc++s,r,0):=by
 by_cases h0:s=[]
 ·subst h0;simp[lens,tQ,dX,FK]
 ·have hk:=bU (VY h0 h);have e1:lens s=(Ck.enc (s.take 120)).length::lens (s.drop 120):=by unfold lens;rw[jR h0];rfl
  have e2:tQ s++r=Ck.enc (s.take 120)++(tQ (s.drop 120)++r):=by unfold tQ;rw[jR h0,Au,Af]
  rw[e1,e2,FK,List.take_left' rfl,List.drop_left' rfl,hk];simp only[];have hq:¬(lens (s.drop 120)≠[]∧(s.take 120).length≠120):=by
   rintro⟨a,b⟩;apply a;have:s.drop 120=[]:=by
    apply nL;rw[oV]at b;rw[mg];omega
   unfold lens;rw[this,dX];rfl
  rw[Ng sm,Ng hq,LX (s.drop 120) (acc++s.take 120) r (fun p hp=>h p (List.mem_of_mem_drop hp)),Af,jJ]
termination_by s.length
decreasing_by
 have:=oW.2 h0;rw[mg];omega
theorem LY:∀(b acc) (r),(∀s∈b,In s)→IW (b.map lens) acc (b.flatMap tQ++r)=(acc++b,0)
 |[],acc,r,_=>by simp[IW]
 |s::b,acc,r,h=>by
  rw[Az,IW,Au,Af,LX s [] _ (h s jQ)];simp only[AA];rw[Ng sm,LY b (acc++[s]) r (fun t ht=>h t (kH _ ht)),Af]
  rfl
theorem qK {s} (h:lens s=[]):s=[]:=by
 unfold lens at h;rw[List.map_eq_nil_iff]at h;exact(JB s).1 h
theorem VZ {c s:gH} (h0:c≠[]) (h1:c.length≤120) (h:s≠[]→c.length=120):jC (c++s)=c::jC s:=by
 have hne:c++s≠[]:=fun e=>h0 (List.append_eq_nil_iff.1 e).1
 rw[jR hne];by_cases q:s=[]
 ·subst q;rw[Bh,iM h1,List.drop_of_length_le h1]
 ·have:=h q;rw[List.take_left' this,List.drop_left' this]
theorem Rq:∀(ls) (acc) (d) (out) (d'),ls.sum≤d.length→FK ls acc d=(out,d',0)→∃s,out=acc++s∧In s∧ls=lens s∧d=tQ s++d'
 |[],acc,d,out,d',_,h=>by
  simp only[FK,az]at h;obtain⟨rfl,rfl,-⟩:=h;exact⟨[],sm,fun p hp=>by simp at hp,by simp[lens,dX],by simp[tQ,dX]⟩
 |n::ls,acc,d,out,d',hs,h=>by
  rw[AZ]at hs;rw[FK]at h;obtain⟨c,e,hg⟩:∃c e,Ck.dec (d.take n)=(c,e):=⟨_,_,rfl⟩
  rw[hg]at h;simp only[]at h;by_cases he:e=0
  ·subst he;rw[Ng sm]at h;by_cases hq:ls≠[]∧c.length≠120
   ·rw[Ps0 hq]at h;simp at h
   ·rw[Ng hq]at h;obtain⟨⟨o1,o2,o3⟩,hb⟩:=Ck.VW hg;obtain⟨s,h1,h2,h3,h4⟩:=Rq ls _ _ _ _ (by rw[mg];omega) h;have hsp:jC (c++s)=c::jC s:=VZ o1 o2 (fun hne=>by
     by_cases q:c.length=120
     ·exact q
     ·refine absurd ⟨fun e=>hne (qK (by rw[←h3,e])),q⟩ hq)
    have hn:n=(Ck.enc c).length:=by rw[←hb,oV];omega
    refine⟨c++s,by rw[h1,Af],fun p hp=>?_,?_,?_⟩
    ·rcases je.1 hp with q|q
     ·exact o3 p q
     ·exact h2 p q
    ·unfold lens;rw[hsp,Az,←hn,h3]
     rfl
    ·unfold tQ;rw[hsp,Au,Af,←hb];have h5:(jC s).flatMap Ck.enc++d'=d.drop n:=h4.symm;rw[h5,jJ]
  ·rw[Ps0 he]at h;simp only[az]at h;exact absurd h.2.2 he
theorem LZ (s):(tQ s).length=(lens s).sum:=by
 unfold tQ lens;rw[List.length_flatMap]
theorem Rs:∀(ls) (acc) (d) (out),ls.flatten.sum=d.length→IW ls acc d=(out,0)→∃b,out=acc++b∧(∀s∈b,In s)∧ls=b.map lens∧d=b.flatMap tQ
 |[],acc,d,out,hs,h=>by
  simp only[IW,az,BJ]at h;exact⟨[],by simp[h],sm,rfl,nL (by rw[←hs];simp)⟩
 |l::ls,acc,d,out,hs,h=>by
  rw[Ci,Dv]at hs;rw[IW]at h;obtain⟨s0,d1,e,hg⟩:∃s0 d1 e,FK l [] d=(s0,d1,e):=⟨_,_,_,rfl⟩
  rw[hg]at h;simp only[]at h;by_cases he:e=0
  ·subst he;rw[Ng sm]at h;obtain⟨s,h1,h2,h3,h4⟩:=Rq l [] d s0 d1 om hg;rw[AA]at h1;subst h1;have hl:=congrArg List.length h4;rw[La,LZ,←h3]at hl;obtain⟨b,g1,g2,g3,g4⟩:=Rs ls _ d1 out om h;refine⟨s0::b,by rw[g1,Af];rfl,fun t ht=>?_,by rw[Az,←h3,←g3],by rw[Au,←g4,←h4]⟩;rcases eH.1 ht with q|q
   ·rw[q];exact h2
   ·exact g2 t q
  ·rw[Ps0 he]at h;simp only[az]at h;exact absurd h.2 he
end Cs
namespace Bk
open Cs (gH)
theorem gd {X:Type} [Inhabited X] {l:List X} {j} (h:j<l.length):l.getD j default=l[j]:=by simp[List.getD,h]
abbrev L6:=List aQ×gH
abbrev ic:=List L6
instance:Inhabited L6:=⟨([],[])⟩
def dF {X:Type} [Inhabited X] (f:X→X→Int) (q:Int) (l:List X) (j:Nat):Int:=
 if j=0 then 0 else if f (l.getD (j-1) default) (l.getD j default)=0 then q else if 0<f (l.getD (j-1) default) (l.getD j default)then 16 else 0
def yU {X:Type} [Inhabited X] (f:X→X→Int) (q:Int) (l:List X):Int:=Lb.gU (dF f q l) l.length
def iP (a b:Int×Nat):Int:=if a.1<b.1 then-1 else if b.1<a.1 then 1 else 0
def iQ (a b:L6):Int:=Lb.cmpL a.1 b.1
def one (s:L6):Int:=if Lb.bR s.1≠0 then Lb.bR s.1 else if s.2=[]then 21 else yU iP 20 s.2
def dm (b:ic):Nat:=(b.map fun s=>s.2.length).sum
def ES (b:ic) (j:Nat):Int:=if one (b.getD j default)≠0 then one (b.getD j default)else dF iQ 19 b j
def bR (b:ic):Int:=if 1048576<b.length∨16777216<dm b then 7 else Lb.gU (ES b) b.length
theorem JC (a b):(iP a b= -1∧a.1<b.1)∨(iP a b=1∧b.1<a.1)∨(iP a b=0∧a.1=b.1):=by
 unfold iP;split
 ·exact .inl ⟨rfl,by assumption⟩
 ·split
  ·exact .inr (.inl ⟨rfl,by assumption⟩)
  ·exact .inr (.inr ⟨rfl,om⟩)
theorem tT (a b):dm (a++b)=dm a+dm b:=by simp[dm]
theorem tV (b:ic) (k) (h:k<b.length):dm (b.take (k+1))=dm (b.take k)+b[k].2.length:=by
 rw[Ts h,tT];simp[dm]
theorem qL (b k):dm (b.take k)≤dm b:=by
 have:=tT (b.take k) (b.drop k);rw[jJ]at this;omega
theorem fF {b:ic} (h:bR b=0):b.length≤1048576∧dm b≤16777216∧(∀s∈b,one s=0)∧∀j (hj:j+1<b.length),Lb.cmpL b[j].1 b[j+1].1<0:=by
 unfold bR at h;by_cases h1:1048576<b.length∨16777216<dm b
 ·rw[Ps0 h1]at h;cases h
 ·rw[Ng h1]at h;have hz:∀j,j<b.length→ES b j=0:=by
   rcases Lb.mZ (ES b) b.length with⟨_,hz⟩|⟨k,hk,hk0,he,_⟩
   ·exact hz
   ·rw[he]at h;exact absurd h hk0
  have hone:∀j (hj:j<b.length),one b[j]=0∧dF iQ 19 b j=0:=by
   intro j hj;have:=hz j hj;unfold ES at this;rw[gd hj]at this;by_cases q:one b[j]=0
   ·rw[Ng (by simpa using q)]at this;exact⟨q,this⟩
   ·rw[Ps0 q]at this;exact absurd this q
  refine⟨om,om,fun s hs=>?_,fun j hj=>?_⟩
  ·obtain⟨j,hj,rfl⟩:=jw.1 hs;exact(hone j hj).1
  ·have:=(hone (j+1) hj).2;unfold dF at this;rw[Ng om,Bz,gd om,gd hj]at this;unfold iQ at this;by_cases q:Lb.cmpL b[j].1 b[j+1].1=0
   ·rw[Ps0 q]at this;cases this
   ·rw[Ng q]at this;by_cases q2:0<Lb.cmpL b[j].1 b[j+1].1
    ·rw[Ps0 q2]at this;cases this
    ·omega
end Bk
section
open Go.RowKit Go.Shelf
def Rt (w:World) (base:Nat) (A:Option Addr) (n c:Nat) (rs:Bk.ic):Prop:=
 ∃hs:List (Value×Value),w.ownsRow base 57 2 (.slice A n c) n (aG hs)∧hs.length=rs.length∧
  ∀(i:Nat) (h:i<hs.length) (h':i<rs.length),∃A1 n1 c1 A2 n2 c2,hs[i]=(.slice A1 n1 c1,.slice A2 n2 c2)∧bP w base A1 n1 c1 rs[i].1∧bq w base A2 n2 c2 rs[i].2
def dY (w:World) (B:Nat) (A:Option Addr) (n c:Nat) (rs:Bk.ic):Prop:=
 ∃hs:List (Value×Value),Rd w B 2 A n c (aG hs)∧hs.length=rs.length∧
  ∀(i:Nat) (h:i<hs.length) (h':i<rs.length),∃A1 n1 c1 A2 n2 c2,hs[i]=(.slice A1 n1 c1,.slice A2 n2 c2)∧fO w B A1 n1 c1 rs[i].1∧gV w B A2 n2 c2 rs[i].2
theorem Rt.nil (w base):Rt w base none 0 0 []:=⟨[],⟨rfl,.inl ⟨rfl,rfl⟩⟩,rfl,fun i h=>by simp at h⟩
theorem Rt.rd {w base n c A rs} (h:Rt w base A n c rs):dY w w.heap.size A n c rs:=by
 obtain⟨hs,h1,h2,h3⟩:=h;exact⟨hs,Rd.bC h1,h2,fun i a b=>by obtain⟨A1,n1,c1,A2,n2,c2,e,p,q⟩:=h3 i a b;exact⟨A1,n1,c1,A2,n2,c2,e,p.rd,q.rd⟩⟩
theorem dY.len {w B n c A rs} (h:dY w B A n c rs):n=rs.length:=by
 obtain⟨hs,h1,h2,-⟩:=h;have:=h1.2.2.1;rw[bz]at this;omega
theorem dY.below {w w' B n c A rs} (h:dY w B A n c rs) (hb:Below B w w'):dY w' B A n c rs:=by
 obtain⟨hs,h1,h2,h3⟩:=h;exact⟨hs,Rd.below h1 hb,h2,fun i a b=>by obtain⟨A1,n1,c1,A2,n2,c2,e,p,q⟩:=h3 i a b;exact⟨A1,n1,c1,A2,n2,c2,e,p.below hb,q.below hb⟩⟩
theorem dY.more {w B B' n c A rs} (h:dY w B A n c rs) (hB:B≤B'):dY w B' A n c rs:=by
 obtain⟨hs,h1,h2,h3⟩:=h;exact⟨hs,Rd.more h1 hB,h2,fun i a b=>by obtain⟨A1,n1,c1,A2,n2,c2,e,p,q⟩:=h3 i a b;exact⟨A1,n1,c1,A2,n2,c2,e,p.more hB,q.more hB⟩⟩
theorem L8:(prog.info? 57).map (fun i=>(i.zero,i.size,i.bytes))=some (some (.agg #[.slice none 0 0,.slice none 0 0]),2,48):=kr
theorem dY.cells {w B n c k A rs} (h:dY w B A n c rs) (hB:B≤w.heap.size) (hk:k<rs.length):
  ∃b off A1 n1 c1 A2 n2 c2,A=some ⟨b,off,none⟩∧fO w B A1 n1 c1 rs[k].1∧gV w B A2 n2 c2 rs[k].2∧∀W,Below w.heap.size w W→W.cell? ⟨b,off+k*2,none⟩=some (.slice A1 n1 c1)∧W.cell? ⟨b,off+k*2+1,none⟩=some (.slice A2 n2 c2):=by
 have hn:=h.len;obtain⟨hs,h1,h2,h3⟩:=h;obtain⟨A1,n1,c1,A2,n2,c2,e,p,q⟩:=h3 k om hk;obtain⟨b,off,rfl,hb,hc⟩:=h1.2.2.2 om;obtain⟨g1,g2⟩:=dK hs k om;rw[e]at g1 g2;refine⟨b,off,A1,n1,c1,A2,n2,c2,rfl,p,q,fun W hW=>⟨(hW.cell (p:=⟨b,_,none⟩) (by show b<_;omega)).trans (hc _ _ g1),(hW.cell (p:=⟨b,_,none⟩) (by show b<_;omega)).trans ?_⟩⟩;rw[fA];exact hc _ _ g2
theorem dY.cap {w B n c A rs} (h:dY w B A n c rs):n≤c∧c≤maxLen:=by
 obtain⟨hs,h1,_⟩:=h;exact⟨h1.1,h1.2.1⟩
end
section
open Go.RowKit Go.Shelf
theorem ni (x w):Calls prog 205 #[.int .i64 x] w fun e w'=>e= .returned (.bool false)∧w=w':=by
 have hx:(x !=x)=false:=sm;go_enter func205,ntmps205;go_wp2;go_ret;exact⟨sm,rfl⟩
theorem JD (x y w):Calls prog 152 #[.int .i64 x,.int .i64 y] w fun e w'=>e= .returned (.int .i64 (if x<y then-1 else if y<x then 1 else 0))∧w=w':=by
 by_cases h1:x<y
 ·rw[Ps0 h1];go_enter func152,ntmps152;go_wp2_with (first|(go_at_call 205;refine(ni _ _).mono ?_;rintro e w1 ⟨rfl,rfl⟩));go_ret;exact⟨rfl,rfl⟩
 ·rw[Ng h1];by_cases h2:y<x
  ·rw[Ps0 h2];go_enter func152,ntmps152;go_wp2_with (first|(go_at_call 205;refine(ni _ _).mono ?_;rintro e w1 ⟨rfl,rfl⟩));go_ret;exact⟨rfl,rfl⟩
  ·rw[Ng h2];go_enter func152,ntmps152;go_wp2_with (first|(go_at_call 205;refine(ni _ _).mono ?_;rintro e w1 ⟨rfl,rfl⟩));go_ret;exact⟨rfl,rfl⟩
theorem JE (x y:QS) (w):Calls prog 94 #[.agg #[.int .i64 x.1,.int .u64 (x.2:Int)],.agg #[.int .i64 y.1,.int .u64 (y.2:Int)]] w fun e w'=>e= .returned (.int .i64 (Bk.iP x y))∧Gr w w':=by
 have CT:=Aj (fun W=>JD x.1 y.1 W);have hc:Kept (Bk.iP x y=if x.1<y.1 then-1 else if y.1<x.1 then 1 else 0):=⟨rfl⟩
 rw[hc.1];generalize (if x.1<y.1 then(-1:Int)else if y.1<x.1 then 1 else 0)=r at*;go_enter func94,ntmps94;go_wp2_with (go_at_call 152;refine(CT.1 _).mono ?_;rintro e w1 ⟨rfl,rfl⟩);go_ret;exact⟨rfl,((Gr.refl w).alloc _).alloc _⟩
theorem N8 (A A2 Am Am2 n c n2 c2 nm cm nm2 cm2 l l2 w) (hv:fO w w.heap.size A n c l) (hv2:fO w w.heap.size A2 n2 c2 l2):
  Calls prog 46 #[.agg #[.slice A n c,.slice Am nm cm],.agg #[.slice A2 n2 c2,.slice Am2 nm2 cm2]] w fun e w'=>e= .returned (.int .i64 (Lb.cmpL l l2))∧Gr w w':=by
 have V:=Aj hv;have V2:=Aj hv2;clear hv hv2;go_enter func46,ntmps46;have hg:=((Gr.refl w).alloc (.cells #[.slice A n c,.slice Am nm cm] 57)).alloc (.cells #[.slice A2 n2 c2,.slice Am2 nm2 cm2] 57);have LC:=Aj (yK A A2 n c n2 c2 l l2 _ ((V.1.below hg.below).more hg.size) ((V2.1.below hg.below).more hg.size));have G:=Aj hg;clear hg;go_wp2_with (go_at_call 95;refine LC.1.mono ?_;rintro e w1 ⟨rfl,g1⟩;have G1:=Aj (G.1.trans g1);clear g1);go_ret;exact⟨rfl,G1.1⟩
theorem FM (A n c B b w) (hv:dY w B A n c b) (hB:B≤w.heap.size) (hs:Bk.dm b≤1000000000000):
  Calls prog 31 #[.slice A n c] w fun e w'=>e= .returned (.int .i64 (Bk.dm b:Int))∧Gr w w':=by
 obtain⟨hlc,hcm⟩:=hv.cap;unfold maxLen at hcm;have hn:=Aj hv.len;have V:=Aj hv;clear hv;go_enter func31,ntmps31;go_wp2;go_loopw [3,8] (fun s i wr=>∃k m:Nat,k≤n∧i= .int .i64 k∧s= .int .i64 m∧Kept (m=Bk.dm (b.take k))∧Gr w wr) (fun _ i _=>n-(intOf i).toNat)
 case atStart=>exact⟨0,0,om,rfl,rfl,⟨rfl⟩,Gr.refl w⟩
 case round=>
  obtain⟨k,m,hk,rfl,rfl,hm,gr⟩:=hrel;have G:=Aj gr;by_cases hlt:k<n
  ·have hkl:k<b.length:=by rw[←hn.1];exact hlt
   obtain⟨b0,off,A1,n1,c1,A2,n2,c2,rfl,h1,h2,hc⟩:=V.1.cells hB hkl;obtain⟨r0,r1⟩:=hc wr gr.below;have h3:=Bk.tV b k hkl;have h4:=Bk.qL b (k+1);have h5:=h2.len;have hmn:m+n2≤1000000000000:=by have:=hm.1;omega
   have hm2:Kept (m+n2=Bk.dm (b.take (k+1))):=⟨by have:=hm.1;omega⟩
   clear h1 h2 hc gr h3 h4 h5;go_wp2;go_roundw
   case rel=>exact⟨k+1,m+n2,om,by go_num,by go_num,hm2,G.1.alloc _⟩
   case measure=>simp[intOf];omega
  ·have he:Kept (m=Bk.dm b):=⟨by have:=hm.1;rw[iM (by have:=hn.1;omega)]at this;exact this⟩
   clear gr;go_wp2;go_ret;exact⟨gB (by rw[he.1]),G.1⟩
theorem JF (A n c B b w) (hv:dY w B A n c b) (hB:B≤w.heap.size) (hs:Bk.dm b≤1000000000000):
  Calls prog 43 #[.slice A n c] w fun e w'=>e= .returned (.int .i64 (if 1048576<b.length∨16777216<Bk.dm b then 7 else 0))∧Gr w w':=by
 have SM:=Aj (FM A n c B b w hv hB hs);have hn:=hv.len;obtain⟨hlc,hcm⟩:=hv.cap;unfold maxLen at hcm;rw[←hn];generalize Bk.dm b=m at*;clear hv hn;by_cases h1:1048576<n
 ·have h1':(1048576:Int)< (n:Int):=by omega
  rw[Ps0 (.inl h1)];go_enter func43,ntmps43;go_wp2;go_ret;exact⟨rfl,Gr.refl w⟩
 ·have h1':¬(1048576:Int)< (n:Int):=by omega
  by_cases h2:16777216<m
  ·have h2':(16777216:Int)< (m:Int):=by omega
   rw[Ps0 (.inr h2)];go_enter func43,ntmps43;go_wp2_with (go_at_call 31;refine SM.1.mono ?_;rintro e w1 ⟨rfl,g1⟩;have G1:=Aj g1;clear g1);go_ret;exact⟨rfl,G1.1⟩
  ·have h2':¬(16777216:Int)< (m:Int):=by omega
   rw[Ng om];go_enter func43,ntmps43;go_wp2_with (go_at_call 31;refine SM.1.mono ?_;rintro e w1 ⟨rfl,g1⟩;have G1:=Aj g1;clear g1);go_ret;exact⟨rfl,G1.1⟩
end
section
open Go.RowKit Go.Shelf
namespace Bk
theorem iW {X} [Inhabited X] (f:X→X→Int) (q l):dF f q l 0=0:=rfl
theorem yV {X:Type} [Inhabited X] (f:X→X→Int) (q:Int) {l:List X} {k:Nat} (hk:k<l.length) (h0:k≠0):
  dF f q l k=if f (l[k-1]'om) l[k]=0 then q else if 0<f (l[k-1]'om) l[k]then 16 else 0:=by
 unfold dF;rw[Ng h0,gd hk,gd (show k-1<l.length from om)]
theorem JG {X} [Inhabited X] {f:X→X→Int} {q l k} (h:∀j,j<k→dF f q l j=0) (hk:dF f q l k=0):∀j,j<k+1→dF f q l j=0:=fun j hj=>by
 by_cases e:j=k
 ·subst e;exact hk
 ·exact h j om
theorem yX {X:Type} [Inhabited X] {f:X→X→Int} {q:Int} {l:List X} {k:Nat} (hk:k<l.length) (h0:k≠0) (hq:q≠0) (h:∀j,j<k→dF f q l j=0):
  (f (l[k-1]'om) l[k]=0∧yU f q l=q)∨(0<f (l[k-1]'om) l[k]∧yU f q l=16)∨(f (l[k-1]'om) l[k]<0∧∀j,j<k+1→dF f q l j=0):=by
 have e:=yV f q hk h0;by_cases h1:f (l[k-1]'om) l[k]=0
 ·rw[Ps0 h1]at e;exact .inl ⟨h1,(Lb.bu _ _ k hk h (by rw[e];exact hq)).trans e⟩
 ·rw[Ng h1]at e;by_cases h2:0<f (l[k-1]'om) l[k]
  ·rw[Ps0 h2]at e;exact .inr (.inl ⟨h2,(Lb.bu _ _ k hk h (by rw[e];decide)).trans e⟩)
  ·rw[Ng h2]at e;exact .inr (.inr ⟨om,JG h e⟩)
theorem tX {X} [Inhabited X] {f:X→X→Int} {q l} (h:∀j,j<l.length→dF f q l j=0):yU f q l=0:=Lb.dD _ _ h
end Bk
theorem gV.cells {w B n c k A l} (h:gV w B A n c l) (hB:B≤w.heap.size) (hk:k<l.length):
  ∃b off,A=some ⟨b,off,none⟩∧∀W,Below w.heap.size w W→W.cell? ⟨b,off+k*2,none⟩=some (.int .i64 l[k].1)∧W.cell? ⟨b,off+k*2+1,none⟩=some (.int .u64 (l[k].2:Int)):=by
 obtain⟨b,off,e,hb,h1,h2⟩:=h.at_ hk;exact⟨b,off,e,fun W hW=>⟨(hW.cell (p:=⟨b,_,none⟩) (by show b<_;omega)).trans h1,(hW.cell (p:=⟨b,_,none⟩) (by show b<_;omega)).trans (by rw[fA];exact h2)⟩⟩
theorem Rv (A n c B) (l:Cs.gH) (q w) (hv:gV w B A n c l) (hB:B≤w.heap.size) (hq:q≠0):
  Calls prog 93 #[.slice A n c,.func (.func 94) #[] #[],.int .i64 q] w fun e w'=>e= .returned (.int .i64 (Bk.yU Bk.iP q l))∧Gr w w':=by
 have mixed:prog.follows .mixedOrders=true:=kr;have hlc:=hv.1;have hcm:=hv.2.1;unfold maxLen at hcm;have hn:=Aj hv.len;have V:=Aj hv;have HQ:=Aj hq;obtain⟨r,hr⟩:∃r,r=Bk.yU Bk.iP q l:=⟨_,rfl⟩
 rw[←hr];have HR:=Aj hr;clear hv hq hr;go_enter func93,ntmps93;go_wp2;go_step3;go_wp2;go_step3;go_wp2;go_loopw [7,8] (fun e i wr=>∃k:Nat,1≤k∧(k≤n∨k=1)∧e= .int .i64 0∧i= .int .i64 k∧Kept (∀j,j<k→Bk.dF Bk.iP q l j=0)∧Gr w wr) (fun _ i _=>n-(intOf i).toNat)
 case atStart=>exact⟨1,om,.inr rfl,rfl,rfl,⟨fun j hj=>by rw[show j=0 from om];exact Bk.iW _ _ _⟩,Gr.refl w⟩
 case round=>
  obtain⟨k,hk1,hkn,rfl,rfl,hd,gr⟩:=hrel;have G:=Aj gr;by_cases hlt:k<n
  ·have hkl:k<l.length:=by rw[←hn.1];exact hlt
   have nY:k-1<l.length:=om;obtain⟨b,off,rfl,hc⟩:=V.1.cells hB hkl;obtain⟨b',off',e',hp⟩:=V.1.cells hB nY;simp only[gT,Cf,BJ]at e';obtain⟨rfl,rfl⟩:=e';have hcase:=Aj (Bk.yX (f:=Bk.iP) (q:=q) hkl om HQ.1 hd.1);rw[←HR.1]at hcase;have BT:=Aj (fun W=>JE l[k-1] l[k] W);have ek:(k:Int)-1=((k-1:Nat):Int):=om;have ZO:((k-1:Nat):Int)< (n:Int):=om;have ew:IntKind.i64.wrap ((k-1:Nat):Int)=((k-1:Nat):Int):=by rw[Bq];omega
   have f0:=fun n os=>(hc (Sort.grow (wr.drewN n) os) (gr.trans ⟨n,os,rfl⟩).below).1
   have f1:=fun n os=>(hc (Sort.grow (wr.drewN n) os) (gr.trans ⟨n,os,rfl⟩).below).2
   have p0:=fun n os=>(hp (Sort.grow (wr.drewN n) os) (gr.trans ⟨n,os,rfl⟩).below).1
   have p1:=fun n os=>(hp (Sort.grow (wr.drewN n) os) (gr.trans ⟨n,os,rfl⟩).below).2
   clear hc hp gr;generalize Bk.iP l[k-1] l[k]=s at*;generalize l[k]=x at*;generalize l[k-1]=y at*;go_wp2_with fail;go_quiet_grown (first|(go_at_call 94;refine Dj (BT.1 _)));clear f0 f1 p0 p1 BT;rcases hcase.1 with⟨rfl,hres⟩|⟨hs,hres⟩|⟨hs,hd2⟩
   ·have hres:=Aj hres;go_wp2
    (try rw[Exit.noGoto_ret]);go_ret
    exact⟨by first|rfl|(rw[hres.1];rfl),G.1.trans ⟨_,_,rfl⟩⟩
   ·have hres:=Aj hres;have hs0:(s==0)=false:=by simp;omega
    go_wp2
    (try rw[Exit.noGoto_ret]);go_ret
    exact⟨by first|rfl|(rw[hres.1];rfl),G.1.trans ⟨_,_,rfl⟩⟩
   ·have hd2:=Aj hd2;have hs0:(s==0)=false:=by simp;omega
    have hs1:¬0<s:=om;go_wp2;go_roundw
    case rel=>exact⟨k+1,om,.inl om,rfl,by go_num,hd2,G.1.trans ⟨_,_,rfl⟩⟩
    case measure=>simp[intOf];omega
  ·have hd2:Kept (r=0):=⟨HR.1.trans (Bk.tX fun j hj=>hd.1 j (by have:=hn.1;omega))⟩
   clear gr;go_wp2
   (try rw[Exit.noGoto_ret]);go_ret
   exact⟨by first|(rw[hd2.1];rfl)|exact gB hd2.1.symm,G.1⟩
end
section
open Go.RowKit Go.Shelf
theorem JH (hs k):(aG hs).drop (k*2)=aG (hs.drop k):=by
 unfold aG
 induction k generalizing hs with
 |zero=>simp
 |succ k ih=>
  cases hs with
  |nil=>simp
  |cons x hs=>
   rw[Au,AY,←ih hs,Nat.succ_mul]
   rfl
theorem JI (hs k):(aG hs).take (k*2)=aG (hs.take k):=by
 unfold aG
 induction k generalizing hs with
 |zero=>simp
 |succ k ih=>
  cases hs with
  |nil=>simp
  |cons x hs=>
   rw[Au,Cc,Au,←ih hs,Nat.succ_mul]
   rfl
theorem dY.sub {w B n c lo hi A b} (h:dY w B A n c b) (h1:lo≤hi) (h2:hi≤n):
  dY w B (if c=lo then A else A.map (·.add (lo*2))) (hi-lo) (c-lo) ((b.take hi).drop lo):=by
 have hn:=h.len;obtain⟨hs,g1,g2,g3⟩:=h;have e1:=(g1.take h2).drop h1;rw[JI,JH]at e1;refine⟨_,e1,by simp[g2],fun i a a'=>?_⟩;have ha:lo+i<hs.length:=by simp at a;omega
 obtain⟨A1,n1,c1,A2,n2,c2,q1,q2,q3⟩:=g3 (lo+i) ha om;refine⟨A1,n1,c1,A2,n2,c2,by simpa using q1,by simpa using q2,by simpa using q3⟩
theorem Rw (A n c B l q w) (hv:dY w B A n c l) (hB:B≤w.heap.size) (hq:q≠0):
  Calls prog 45 #[.slice A n c,.func (.func 46) #[] #[],.int .i64 q] w fun e w'=>e= .returned (.int .i64 (Bk.yU Bk.iQ q l))∧Gr w w':=by
 have mixed:prog.follows .mixedOrders=true:=kr;obtain⟨hlc,hcm⟩:=hv.cap;unfold maxLen at hcm;have hn:=Aj hv.len;have V:=Aj hv;have HQ:=Aj hq;obtain⟨r,hr⟩:∃r,r=Bk.yU Bk.iQ q l:=⟨_,rfl⟩
 rw[←hr];have HR:=Aj hr;clear hv hq hr;go_enter func45,ntmps45;go_wp2;go_step3;go_wp2;go_step3;go_wp2;go_loopw [7,8] (fun e i wr=>∃k:Nat,1≤k∧(k≤n∨k=1)∧e= .int .i64 0∧i= .int .i64 k∧Kept (∀j,j<k→Bk.dF Bk.iQ q l j=0)∧Gr w wr) (fun _ i _=>n-(intOf i).toNat)
 case atStart=>exact⟨1,om,.inr rfl,rfl,rfl,⟨fun j hj=>by rw[show j=0 from om];exact Bk.iW _ _ _⟩,Gr.refl w⟩
 case round=>
  obtain⟨k,hk1,hkn,rfl,rfl,hd,gr⟩:=hrel;have G:=Aj gr;by_cases hlt:k<n
  ·have hkl:k<l.length:=by rw[←hn.1];exact hlt
   have nY:k-1<l.length:=om;obtain⟨b,off,A1,n1,c1,A2,n2,c2,rfl,hL,-,hc⟩:=V.1.cells hB hkl;obtain⟨b',off',A3,n3,c3,A4,n4,c4,e',hL',-,hp⟩:=V.1.cells hB nY;simp only[gT,Cf,BJ]at e';obtain⟨rfl,rfl⟩:=e';have hcase:=Aj (Bk.yX (f:=Bk.iQ) (q:=q) hkl om HQ.1 hd.1);rw[←HR.1]at hcase;have BT:=Aj (fun W (g:Gr w W)=>N8 A3 A1 A4 A2 n3 c3 n1 c1 n4 c4 n2 c2 l[k-1].1 l[k].1 W ((hL'.below (g.below.mono hB)).more (Lt hB g.size)) ((hL.below (g.below.mono hB)).more (Lt hB g.size)));have hcs:Bk.iQ l[k-1] l[k]=Lb.cmpL l[k-1].1 l[k].1:=rfl;rw[hcs]at hcase;have ek:(k:Int)-1=((k-1:Nat):Int):=om;have ZO:((k-1:Nat):Int)< (n:Int):=om;have ew:IntKind.i64.wrap ((k-1:Nat):Int)=((k-1:Nat):Int):=by rw[Bq];omega
   have f0:=fun n os=>(hc (Sort.grow (wr.drewN n) os) (gr.trans ⟨n,os,rfl⟩).below).1
   have f1:=fun n os=>(hc (Sort.grow (wr.drewN n) os) (gr.trans ⟨n,os,rfl⟩).below).2
   have p0:=fun n os=>(hp (Sort.grow (wr.drewN n) os) (gr.trans ⟨n,os,rfl⟩).below).1
   have p1:=fun n os=>(hp (Sort.grow (wr.drewN n) os) (gr.trans ⟨n,os,rfl⟩).below).2
   have BG:=Aj (fun n os=>BT.1 (Sort.grow (wr.drewN n) os) (gr.trans ⟨n,os,rfl⟩));clear hc hp gr BT hL hL' hcs;generalize Lb.cmpL l[k-1].1 l[k].1=s at*;go_wp2_with fail;go_quiet_grown (first|(go_at_call 46;refine Dj (BG.1 _ _)));clear f0 f1 p0 p1 BG;rcases hcase.1 with⟨rfl,hres⟩|⟨hs,hres⟩|⟨hs,hd2⟩
   ·have hres:=Aj hres;go_wp2
    (try rw[Exit.noGoto_ret]);go_ret
    exact⟨by first|rfl|(rw[hres.1];rfl),G.1.trans ⟨_,_,rfl⟩⟩
   ·have hres:=Aj hres;have hs0:(s==0)=false:=by simp;omega
    go_wp2
    (try rw[Exit.noGoto_ret]);go_ret
    exact⟨by first|rfl|(rw[hres.1];rfl),G.1.trans ⟨_,_,rfl⟩⟩
   ·have hd2:=Aj hd2;have hs0:(s==0)=false:=by simp;omega
    have hs1:¬0<s:=om;go_wp2;go_roundw
    case rel=>exact⟨k+1,om,.inl om,rfl,by go_num,hd2,G.1.trans ⟨_,_,rfl⟩⟩
    case measure=>simp[intOf];omega
  ·have hd2:Kept (r=0):=⟨HR.1.trans (Bk.tX fun j hj=>hd.1 j (by have:=hn.1;omega))⟩
   clear gr;go_wp2
   (try rw[Exit.noGoto_ret]);go_ret
   exact⟨by first|(rw[hd2.1];rfl)|exact gB hd2.1.symm,G.1⟩
theorem yY (A A2 n c n2 c2 B L) (S:Cs.gH) (w) (hv:fO w B A n c L) (hm:gV w B A2 n2 c2 S) (hB:B≤w.heap.size) (hf:Lb.Fit L):
  Calls prog 44 #[.agg #[.slice A n c,.slice A2 n2 c2]] w fun e w'=>e= .returned (.int .i64 (Bk.one (L,S)))∧Gr w w':=by
 have hlc:=hm.1;have hcm:=hm.2.1;unfold maxLen at hcm;have hn:=hm.len;obtain⟨W,hW⟩:∃W,W=w.alloc (.cells #[.slice A n c,.slice A2 n2 c2] 57):=⟨_,rfl⟩
 have hg:Gr w W:=by rw[hW];exact(Gr.refl w).alloc _
 have hr:W.heap[w.heap.size]? =some (.cells #[.slice A n c,.slice A2 n2 c2] 57 (0,0)):=by rw[hW];exact Av w _
 have hsz:w.heap.size<W.heap.size:=by rw[hW];simp
 have LC:=Aj (Jv A n c B L W (hv.below (hg.below.mono hB)) (Lt hB hg.size) hf);have AS:=Aj (fun W' (g:Gr w W')=>Rv A2 n2 c2 B S 20 W' (hm.below (g.below.mono hB)) (Lt hB g.size) Ah);have k0:=Co _ _ 0 _ _ _ hr;have k1:=Co _ _ 1 _ _ _ hr;have K1:=Aj (show∀W',Gr W W'→W'.cell? ⟨w.heap.size,1,none⟩=some (.slice A2 n2 c2)from fun W' g=>(g.cell _ 1 hsz).trans k1);have HW:=Aj hW.symm;have G:=Aj hg;clear hv hm hf hr hW;have hone:Bk.one (L,S)=if Lb.bR L≠0 then Lb.bR L else if S=[]then 21 else Bk.yU Bk.iP 20 S:=rfl;have hS:S=[]↔n2=0:=by rw[hn];exact⟨fun h=>by rw[h];rfl,nL⟩
 rw[hone];generalize Lb.bR L=e at*;generalize Bk.yU Bk.iP 20 S=f at*;by_cases he:e=0
 ·subst he;rw[Ng sm];by_cases h0:n2=0
  ·rw[Ps0 (hS.2 h0)];subst h0;clear hS hone hn;go_enter func44,ntmps44;go_wp2_with (go_at_call 92;rw[HW.1];refine LC.1.mono ?_;rintro e w1 ⟨rfl,g1⟩;have G1:=Aj (G.1.trans g1);have k2:=K1.1 _ g1;clear g1);go_ret;exact⟨rfl,G1.1⟩
  ·rw[Ng (fun h=>h0 (hS.1 h))];have h0':((n2:Int)==0)=false:=by simp;omega
   clear hS hone hn;go_enter func44,ntmps44;go_wp2_with (first
    |(go_at_call 93;refine(AS.1 w1 G1.1).mono ?_;rintro e w2 ⟨rfl,g2⟩;have G2:=Aj (G1.1.trans g2);clear g2)
    |(go_at_call 92;rw[HW.1];refine LC.1.mono ?_;rintro e w1 ⟨rfl,g1⟩;have G1:=Aj (G.1.trans g1);have k2:=K1.1 _ g1;clear g1))
   go_ret;exact⟨rfl,G2.1⟩
 ·rw[Ps0 he];have he':(e !=0)=true:=by simpa using he
  clear hS hone hn he;go_enter func44,ntmps44;go_wp2_with (go_at_call 92;rw[HW.1];refine LC.1.mono ?_;rintro e w1 ⟨rfl,g1⟩;have G1:=Aj (G.1.trans g1);have k2:=K1.1 _ g1;clear g1);go_ret;exact⟨rfl,G1.1⟩
end
section
open Go.RowKit Go.Shelf
namespace Bk
theorem sub_zero {b:ic} (h:0<b.length):yU iQ 19 ((b.take 1).drop 0)=dF iQ 19 b 0:=by
 obtain⟨x,l,rfl⟩:∃x l,b=x::l:=by
  cases b with
  |nil=>simp at h
  |cons x l=>exact⟨x,l,rfl⟩
 rfl
theorem JJ (f) (h:f 0=0):Lb.gU f 2=f 1:=by
 by_cases h1:f 1=0
 ·rw[Lb.dD f 2 fun j hj=>by
   have:j=0∨j=1:=om;rcases this with rfl|rfl
   ·exact h
   ·exact h1,h1]
 ·exact Lb.bu f 2 1 om (fun j hj=>by rw[show j=0 from om];exact h) h1
theorem sub_pos {b:ic} {k} (hk:k<b.length) (h0:k≠0):yU iQ 19 ((b.take (k+1)).drop (k-1))=dF iQ 19 b k:=by
 have hl:((b.take (k+1)).drop (k-1)).length=2:=by simp;omega
 unfold yU;rw[hl,JJ (dF iQ 19 ((b.take (k+1)).drop (k-1))) (iW _ _ _),yV iQ 19 (show 1< ((b.take (k+1)).drop (k-1)).length from om) om,yV iQ 19 hk h0];have e0:((b.take (k+1)).drop (k-1))[1-1]'om=b[k-1]:=sm;have e1:((b.take (k+1)).drop (k-1))[1]'om=b[k]:=by
  rw[DZ,List.getElem_take]
  congr 1
  omega
 rw[e0,e1]
theorem L9 {b k} (hk:k<b.length) (h:one b[k]≠0):ES b k=one b[k]:=by
 unfold ES;rw[gd hk,Ps0 h]
theorem Ma {b k} (hk:k<b.length) (h:one b[k]=0):ES b k=dF iQ 19 b k:=by
 unfold ES;rw[gd hk,Ng (by simpa using h)]
theorem yZ {b k} (h:∀j,j<k→ES b j=0) (hk:ES b k=0):∀j,j<k+1→ES b j=0:=fun j hj=>by
 by_cases e:j=k
 ·subst e;exact hk
 ·exact h j om
end Bk
theorem tY (A n c B b w) (hv:dY w B A n c b) (hB:B≤w.heap.size) (hs:Bk.dm b≤1000000000000) (hf:∀s∈b,Lb.Fit s.1):
  Calls prog 17 #[.slice A n c] w fun e w'=>e= .returned (.int .i64 (Bk.bR b))∧Gr w w':=by
 have CK:=Aj (JF A n c B b w hv hB hs);obtain⟨hlc,hcm⟩:=hv.cap;unfold maxLen at hcm;have hn:=Aj hv.len;have V:=Aj hv;have F:=Aj hf;obtain⟨r,hr⟩:∃r,r=Bk.bR b:=⟨_,rfl⟩
 rw[←hr];by_cases hlim:1048576<b.length∨16777216<Bk.dm b
 ·have hr7:r=7:=by rw[hr];unfold Bk.bR;rw[Ps0 hlim]
  rw[Ps0 hlim]at CK;subst hr7;clear hv hf hs hr hlim;go_enter func17,ntmps17;go_wp2_with (go_at_call 43;refine CK.1.mono ?_;rintro e w1 ⟨rfl,g1⟩;have G1:=Aj g1;clear g1);go_ret;exact⟨rfl,G1.1⟩
 ·have HR:Kept (r=Lb.gU (Bk.ES b) b.length):=⟨by rw[hr];unfold Bk.bR;rw[Ng hlim]⟩
  rw[Ng hlim]at CK;clear hv hf hs hr hlim;go_enter func17,ntmps17;go_wp2_with (go_at_call 43;refine CK.1.mono ?_;rintro e w1 ⟨rfl,g1⟩;have G1:=Aj g1;clear g1);go_loopw [15] (fun i wr=>∃k:Nat,k≤n∧i= .int .i64 k∧Kept (∀j,j<k→Bk.ES b j=0)∧Gr w wr) (fun i _=>n-(intOf i).toNat)
  case atStart=>exact⟨0,om,rfl,⟨fun j hj=>om⟩,G1.1⟩
  case round=>
   clear G1;obtain⟨k,hk,rfl,hd,gr⟩:=hrel;have G:=Aj gr;by_cases hlt:k<n
   ·have hkl:k<b.length:=by rw[←hn.1];exact hlt
    obtain⟨b0,off,A1,n1,c1,A2,n2,c2,rfl,hL,hS,hc⟩:=V.1.cells hB hkl;obtain⟨r0,r1⟩:=hc wr gr.below;have SG:=Aj (fun W (g:Gr w W)=>yY A1 A2 n1 c1 n2 c2 B b[k].1 b[k].2 W (hL.below (g.below.mono hB)) (hS.below (g.below.mono hB)) (Lt hB g.size) (F.1 _ (gG hkl)));have hone:Bk.one (b[k].1,b[k].2)=Bk.one b[k]:=rfl;rw[hone]at SG;have ALN:Gr w (wr.alloc (.cells #[.slice A1 n1 c1,.slice A2 n2 c2] 57)):=gr.alloc _;have SG2:=Aj (SG.1 _ ALN);have GAL:=Aj ALN;clear hL hS hc gr hone ALN;by_cases h1:Bk.one b[k]=0
    ·have hst:=Bk.Ma hkl h1;rw[h1]at SG2;obtain⟨f,hfx⟩:∃f,f=Bk.dF Bk.iQ 19 b k:=⟨_,rfl⟩
     rw[←hfx]at hst;have hst:=Aj hst;have AK:Kept (∀W,Gr w W→Calls prog 45 #[.slice (some ⟨b0,off+(k-1)*2,none⟩) (k+1-(k-1)) (c-(k-1)),.func (.func 46) #[] #[],.int .i64 19] W fun e w'=>e= .returned (.int .i64 f)∧Gr W w'):=⟨fun W g=>by
      have h2:=V.1.sub (lo:=k-1) (hi:=k+1) om om;rw[Ng om]at h2;have h3:=Rw _ _ _ B _ 19 W (h2.below (g.below.mono hB)) (Lt hB g.size) Ah;have e:Bk.yU Bk.iQ 19 ((b.take (k+1)).drop (k-1))=f:=by
       by_cases h0:k=0
       ·subst h0;rw[hfx];exact Bk.sub_zero hkl
       ·rw[hfx];exact Bk.sub_pos hkl h0
      rw[e,Cb,add_plain]at h3;exact h3⟩
     clear hfx;by_cases h0:k=0
     ·subst h0;simp only[Nat.zero_mul,Ct]at r0 r1;have AK0:Kept (∀W,Gr w W→Calls prog 45 #[.slice (some ⟨b0,off,none⟩) 1 c,.func (.func 46) #[] #[],.int .i64 19] W fun e w'=>e= .returned (.int .i64 f)∧Gr W w'):=AK;have hc1:¬c=0:=om;clear AK h1;by_cases hf0:f=0
      ·subst hf0;have hd2:=Aj (Bk.yZ hd.1 hst.1);clear hst;go_wp2_with (first
        |(go_at_call 45;refine(AK0.1 w2 G2.1).mono ?_;rintro e w3 ⟨rfl,g3⟩;have G3:=Aj (G2.1.trans g3);clear g3)
        |(go_at_call 44;refine SG2.1.mono ?_;rintro e w2 ⟨rfl,g2⟩;have G2:=Aj (GAL.1.trans g2);clear g2))
       go_roundw
       case rel=>exact⟨1,om,by go_num,hd2,G3.1⟩
       case measure=>simp[intOf];omega
      ·have hd2:Kept (r=f):=⟨HR.1.trans ((Lb.bu _ _ 0 hkl hd.1 (by rw[hst.1];exact hf0)).trans hst.1)⟩
       have hf1:(f !=0)=true:=by simpa using hf0
       clear hst hf0;go_wp2_with (first
        |(go_at_call 45;refine(AK0.1 w2 G2.1).mono ?_;rintro e w3 ⟨rfl,g3⟩;have G3:=Aj (G2.1.trans g3);clear g3)
        |(go_at_call 44;refine SG2.1.mono ?_;rintro e w2 ⟨rfl,g2⟩;have G2:=Aj (GAL.1.trans g2);clear g2))
       go_ret;exact⟨gB hd2.1.symm,G3.1⟩
     ·have AK0:=Aj AK.1;have hc1:¬c=k-1:=om;have ek:(k:Int)-1=((k-1:Nat):Int):=om;have ek4:¬(((k-1:Nat):Int)<0):=om;have ek5:((k-1:Nat):Int).toNat=k-1:=om;clear AK h1;by_cases hf0:f=0
      ·subst hf0;have hd2:=Aj (Bk.yZ hd.1 hst.1);clear hst;go_wp2_with (first
        |(go_at_call 45;refine(AK0.1 w2 G2.1).mono ?_;rintro e w3 ⟨rfl,g3⟩;have G3:=Aj (G2.1.trans g3);clear g3)
        |(go_at_call 44;refine SG2.1.mono ?_;rintro e w2 ⟨rfl,g2⟩;have G2:=Aj (GAL.1.trans g2);clear g2))
       go_roundw
       case rel=>exact⟨k+1,om,by go_num,hd2,G3.1⟩
       case measure=>simp[intOf];omega
      ·have hd2:Kept (r=f):=⟨HR.1.trans ((Lb.bu _ _ k hkl hd.1 (by rw[hst.1];exact hf0)).trans hst.1)⟩
       have hf1:(f !=0)=true:=by simpa using hf0
       clear hst hf0;go_wp2_with (first
        |(go_at_call 45;refine(AK0.1 w2 G2.1).mono ?_;rintro e w3 ⟨rfl,g3⟩;have G3:=Aj (G2.1.trans g3);clear g3)
        |(go_at_call 44;refine SG2.1.mono ?_;rintro e w2 ⟨rfl,g2⟩;have G2:=Aj (GAL.1.trans g2);clear g2))
       go_ret;exact⟨gB hd2.1.symm,G3.1⟩
    ·have hd2:Kept (r=Bk.one b[k]):=⟨HR.1.trans ((Lb.bu _ _ k hkl hd.1 (by rw[Bk.L9 hkl h1];exact h1)).trans (Bk.L9 hkl h1))⟩
     have h1':(Bk.one b[k] !=0)=true:=by simpa using h1
     clear h1;generalize Bk.one b[k]=s at*;go_wp2_with (go_at_call 44;refine SG2.1.mono ?_;rintro e w2 ⟨rfl,g2⟩;have G2:=Aj (GAL.1.trans g2);clear g2);go_ret;exact⟨gB hd2.1.symm,G2.1⟩
   ·have hd2:Kept (r=0):=⟨HR.1.trans (Lb.dD _ _ fun j hj=>hd.1 j (by have:=hn.1;omega))⟩
    clear gr;go_wp2;go_ret;exact⟨gB hd2.1.symm,G.1⟩
end
section
open Go.RowKit Go.Shelf
theorem afX (t) (v:Nat) (w):Sem.run prog (binOp .neq 127 (.agg #[.int .i64 t,.int .u64 (v:Int)]) (.agg #[.int .i64 t,.int .u64 (v:Int)])) w= .ok (.bool false) w:=by
 have u3:=underlying2;have a3:=Tryz.isAgg2;have z3:=Tryz.sizeOf2;have u4:=underlying125;have a4:=Tryz.isAgg125;have z4:=Tryz.sizeOf125;have hS:prog.underlying 127=some (.struct (prog.fieldsOf 127)):=kr;have hp:prog.stoodInHeld 127=false:=kr;rw[run_neq_struct,show(10000:Nat)=9999+1 from rfl,run_equalIn_agg w 9999 127 _ _ hS hp];simp only[Program.fieldsOf,underlying127];go_simp
theorem ZY (op a b) (x y:QS) (w):Sem.run prog (eqGuard op 127 a b (.agg #[.int .i64 x.1,.int .u64 (x.2:Int)]) (.agg #[.int .i64 y.1,.int .u64 (y.2:Int)])) w= .ok () w:=by
 exact GuardAt.agg (α:=QS) (fun x:QS=> #[.int .i64 x.1,.int .u64 (x.2:Int)]) kr op a b x y w
theorem N9 (A A2 n c n2 c2 B B2) (l:Cs.gH) (w) (hv:gV w B A n c l) (hv2:gV w B2 A2 n2 c2 l) (hB:B≤w.heap.size) (hB2:B2≤w.heap.size):
  Calls prog 40 #[.slice A n c,.slice A2 n2 c2] w fun e w'=>e= .returned (.bool true)∧Gr w w':=by
 have mixed:prog.follows .mixedOrders=true:=kr;obtain rfl:n2=n:=by rw[hv.len,hv2.len]
 have hlc:=hv.1;have hcm:=hv.2.1;have NV:=hv2.1;have hcm2:=hv2.2.1;unfold maxLen at hcm hcm2;have hn:=Aj hv.len;have V:=Aj hv;have V2:=Aj hv2;clear hv hv2;go_enter func40,ntmps40;go_wp2;go_loopw [5] (fun i wr=>∃k:Nat,k≤n2∧i= .int .i64 k∧Gr w wr) (fun i _=>n2-(intOf i).toNat)
 case atStart=>exact⟨0,om,rfl,Gr.refl w⟩
 case round=>
  obtain⟨k,hk,rfl,gr⟩:=hrel;have G:=Aj gr;by_cases hlt:k<n2
  ·have hkl:k<l.length:=by rw[←hn.1];exact hlt
   obtain⟨b,off,rfl,hc⟩:=V.1.cells hB hkl;obtain⟨b2,sS,rfl,hp⟩:=V2.1.cells hB2 hkl;have f0:=fun n os=>(hc (Sort.grow (wr.drewN n) os) (gr.trans ⟨n,os,rfl⟩).below).1
   have f1:=fun n os=>(hc (Sort.grow (wr.drewN n) os) (gr.trans ⟨n,os,rfl⟩).below).2
   have p0:=fun n os=>(hp (Sort.grow (wr.drewN n) os) (gr.trans ⟨n,os,rfl⟩).below).1
   have p1:=fun n os=>(hp (Sort.grow (wr.drewN n) os) (gr.trans ⟨n,os,rfl⟩).below).2
   clear hc hp gr;generalize l[k]=x at*;obtain⟨t,v⟩:=x;simp only[]at f0 f1 p0 p1;have NE:=afX t v;have GD:=ZY;go_wp2_with fail;go_quiet_grown (fail);clear f0 f1 p0 p1;go_wp2;go_roundw
   case rel=>exact⟨k+1,om,by go_num,G.1.trans ⟨_,_,rfl⟩⟩
   case measure=>simp[intOf];omega
  ·clear gr;go_wp2;go_ret;exact⟨rfl,G.1⟩
theorem nu (A A2 n c n2 c2 B B2 l w) (hv:dY w B A n c l) (hv2:dY w B2 A2 n2 c2 l) (hB:B≤w.heap.size) (hB2:B2≤w.heap.size):
  Calls prog 15 #[.slice A n c,.slice A2 n2 c2] w fun e w'=>e= .returned (.bool true)∧Gr w w':=by
 have mixed:prog.follows .mixedOrders=true:=kr;obtain rfl:n2=n:=by rw[hv.len,hv2.len]
 obtain⟨hlc,hcm⟩:=hv.cap;obtain⟨NV,hcm2⟩:=hv2.cap;unfold maxLen at hcm hcm2;have hn:=Aj hv.len;have V:=Aj hv;have V2:=Aj hv2;clear hv hv2;go_enter func15,ntmps15;go_wp2;go_loopw [5] (fun i wr=>∃k:Nat,k≤n2∧i= .int .i64 k∧Gr w wr) (fun i _=>n2-(intOf i).toNat)
 case atStart=>exact⟨0,om,rfl,Gr.refl w⟩
 case round=>
  obtain⟨k,hk,rfl,gr⟩:=hrel;have G:=Aj gr;by_cases hlt:k<n2
  ·have hkl:k<l.length:=by rw[←hn.1];exact hlt
   obtain⟨b,off,A1,n1,c1,A3,n3,c3,rfl,hL,hM,hc⟩:=V.1.cells hB hkl;obtain⟨b2,sS,A4,n4,c4,A5,n5,c5,rfl,hL2,hM2,hp⟩:=V2.1.cells hB2 hkl;have f0:=fun n os=>(hc (Sort.grow (wr.drewN n) os) (gr.trans ⟨n,os,rfl⟩).below).1
   have f1:=fun n os=>(hc (Sort.grow (wr.drewN n) os) (gr.trans ⟨n,os,rfl⟩).below).2
   have p0:=fun n os=>(hp (Sort.grow (wr.drewN n) os) (gr.trans ⟨n,os,rfl⟩).below).1
   have p1:=fun n os=>(hp (Sort.grow (wr.drewN n) os) (gr.trans ⟨n,os,rfl⟩).below).2
   have hself:Lb.cmpL l[k].1 l[k].1=0:=Lb.NT.2 rfl;have CC:=Aj (fun n os=>by
    have g:=gr.trans (show Gr wr (Sort.grow (wr.drewN n) os)from⟨n,os,rfl⟩);have:=kW A1 A4 n1 c1 n4 c4 l[k].1 l[k].1 _ ((hL.below (g.below.mono hB)).more (Lt hB g.size)) ((hL2.below (g.below.mono hB2)).more (Lt hB2 g.size));rw[hself]at this;exact this)
   have CS:=Aj (fun n os=>by
    have g:=gr.trans (show Gr wr (Sort.grow (wr.drewN n) os)from⟨n,os,rfl⟩);exact N9 A3 A5 n3 c3 n5 c5 B B2 l[k].2 _ (hM.below (g.below.mono hB)) (hM2.below (g.below.mono hB2)) (Lt hB g.size) (Lt hB2 g.size))
   clear hc hp gr hL hM hL2 hM2 hself;go_wp2_with fail;go_quiet_grown (first
    |(go_at_call 39;refine Dj (CC.1 _ _))
    |(go_at_call 40;refine Dj (CS.1 _ _)))
   clear f0 f1 p0 p1 CC CS;go_wp2;go_roundw
   case rel=>exact⟨k+1,om,by go_num,G.1.trans ⟨_,_,rfl⟩⟩
   case measure=>simp[intOf];omega
  ·clear gr;go_wp2;go_ret;exact⟨rfl,G.1⟩
theorem wy (A n c B b w) (hv:dY w B A n c b) (hB:B≤w.heap.size) (hs:Bk.dm b≤1000000000000):
  Calls prog 32 #[.slice A n c] w fun e w'=>e= .returned (.int .i64 (Bk.dm b:Int))∧Gr w w':=by
 obtain⟨hlc,hcm⟩:=hv.cap;unfold maxLen at hcm;have hn:=Aj hv.len;have V:=Aj hv;clear hv;go_enter func32,ntmps32;go_wp2;go_loopw [3,4] (fun s i wr=>∃k m:Nat,k≤n∧i= .int .i64 k∧s= .int .i64 m∧Kept (m=Bk.dm (b.take k))∧Gr w wr) (fun _ i _=>n-(intOf i).toNat)
 case atStart=>exact⟨0,0,om,rfl,rfl,⟨rfl⟩,Gr.refl w⟩
 case round=>
  obtain⟨k,m,hk,rfl,rfl,hm,gr⟩:=hrel;have G:=Aj gr;by_cases hlt:k<n
  ·have hkl:k<b.length:=by rw[←hn.1];exact hlt
   obtain⟨b0,off,A1,n1,c1,A2,n2,c2,rfl,h1,h2,hc⟩:=V.1.cells hB hkl;obtain⟨r0,r1⟩:=hc wr gr.below;have h3:=Bk.tV b k hkl;have h4:=Bk.qL b (k+1);have h5:=h2.len;have hmn:m+n2≤1000000000000:=by have:=hm.1;omega
   have hm2:Kept (m+n2=Bk.dm (b.take (k+1))):=⟨by have:=hm.1;omega⟩
   clear h1 h2 hc gr h3 h4 h5;go_wp2;go_roundw
   case rel=>exact⟨k+1,m+n2,om,by go_num,by go_num,hm2,G.1⟩
   case measure=>simp[intOf];omega
  ·have he:Kept (m=Bk.dm b):=⟨by have:=hm.1;rw[iM (by have:=hn.1;omega)]at this;exact this⟩
   clear gr;go_wp2;go_ret;exact⟨gB (by rw[he.1]),G.1⟩
theorem y8 (A n c B b w) (hv:dY w B A n c b) (hB:B≤w.heap.size) (hs:Bk.dm b≤1000000000000):
  Calls prog 60 #[.slice A n c] w fun e w'=>e= .returned (.bool (decide (1048576<b.length∨16777216<Bk.dm b)))∧Gr w w':=by
 have SM:=Aj (wy A n c B b w hv hB hs);have hn:=hv.len;obtain⟨hlc,hcm⟩:=hv.cap;unfold maxLen at hcm;rw[←hn];generalize Bk.dm b=m at*;clear hv hn;by_cases h1:1048576<n
 ·have h1':(1048576:Int)< (n:Int):=by omega
  rw[Bj (.inl h1)];go_enter func60,ntmps60;go_wp2;go_ret;exact⟨rfl,Gr.refl w⟩
 ·have h1':¬(1048576:Int)< (n:Int):=by omega
  by_cases h2:16777216<m
  ·have h2':(16777216:Int)< (m:Int):=by omega
   rw[Bj (.inr h2)];go_enter func60,ntmps60;go_wp2_with (go_at_call 32;refine SM.1.mono ?_;rintro e w1 ⟨rfl,g1⟩;have G1:=Aj g1;clear g1);go_ret;exact⟨rfl,G1.1⟩
  ·have h2':¬(16777216:Int)< (m:Int):=by omega
   rw[AF om];go_enter func60,ntmps60;go_wp2_with (go_at_call 32;refine SM.1.mono ?_;rintro e w1 ⟨rfl,g1⟩;have G1:=Aj g1;clear g1);go_ret;exact⟨by first|rfl|(simp;omega),G1.1⟩
end
section
open Go.RowKit Go.Shelf
theorem FN (A n c B) (l:Cs.gH) (w) (hv:gV w B A n c l) (hB:B≤w.heap.size):
  Calls prog 63 #[.slice A n c] w fun e w'=>e= .returned (.int .i64 (Bk.yU Bk.iP 20 l))∧Gr w w':=by
 have hlc:=hv.1;have hcm:=hv.2.1;unfold maxLen at hcm;have hn:=Aj hv.len;have V:=Aj hv;obtain⟨r,hr⟩:∃r,r=Bk.yU Bk.iP 20 l:=⟨_,rfl⟩
 rw[←hr];have HR:=Aj hr;clear hv hr;go_enter func63,ntmps63;go_wp2;go_loopw [3] (fun i wr=>∃k:Nat,1≤k∧(k≤n∨k=1)∧i= .int .i64 k∧Kept (∀j,j<k→Bk.dF Bk.iP 20 l j=0)∧Gr w wr) (fun i _=>n-(intOf i).toNat)
 case atStart=>exact⟨1,om,.inr rfl,rfl,⟨fun j hj=>by rw[show j=0 from om];exact Bk.iW _ _ _⟩,Gr.refl w⟩
 case round=>
  obtain⟨k,hk1,hkn,rfl,hd,gr⟩:=hrel;have G:=Aj gr;by_cases hlt:k<n
  ·have hkl:k<l.length:=by rw[←hn.1];exact hlt
   have nY:k-1<l.length:=om;obtain⟨b,off,rfl,hc⟩:=V.1.cells hB hkl;obtain⟨b',off',e',hp⟩:=V.1.cells hB nY;simp only[gT,Cf,BJ]at e';obtain⟨rfl,rfl⟩:=e';have hcase:=Aj (Bk.yX (f:=Bk.iP) (q:=20) hkl om Ah hd.1);rw[←HR.1]at hcase;have hcs:=Aj (Bk.JC l[k-1] l[k]);have ek:(k:Int)-1=((k-1:Nat):Int):=om;have ZO:((k-1:Nat):Int)< (n:Int):=om;have ew:IntKind.i64.wrap ((k-1:Nat):Int)=((k-1:Nat):Int):=by rw[Bq];omega
   have CC:=Aj (fun W (g:Gr w W)=>hc W g.below);have CP:=Aj (fun W (g:Gr w W)=>hp W g.below);have f0:=(CC.1 wr gr).1;have p0:=(CP.1 wr gr).1;clear hc hp gr;generalize Bk.iP l[k-1] l[k]=s at*;generalize l[k]=x at*;generalize l[k-1]=y at*;obtain⟨x,xv⟩:=x;obtain⟨y,yv⟩:=y;simp only[]at CC CP hcs f0 p0;rcases hcase.1 with⟨hs,hres⟩|⟨hs,hres⟩|⟨hs,hd2⟩
   ·have hres:=Aj hres;have he:(x==y)=true:=by
     have:=hcs.1;simp;omega
    clear hs;go_wp2_with fail;go_quiet (fail);go_wp2;go_ret;exact⟨by first|rfl|(rw[hres.1];rfl),G.1.drewN _⟩
   ·have hres:=Aj hres;have hxy:x<y:=by
     have:=hcs.1;omega
    have he:(x==y)=false:=by simp;omega
    clear hs;go_wp2_with fail;go_quiet (fail);have f1:=(CC.1 _ (G.1.drewN nq)).1;have p1:=(CP.1 _ (G.1.drewN nq)).1;go_wp2;go_quiet (fail);go_wp2;go_ret;exact⟨by first|rfl|(rw[hres.1];rfl),(by first|exact G.1.drewN _|exact(G.1.drewN _).drewN _)⟩
   ·have hd2:=Aj hd2;have hxy:y<x:=by
     have:=hcs.1;omega
    have he:(x==y)=false:=by simp;omega
    have hxy':¬x<y:=om;clear hs;go_wp2_with fail;go_quiet (fail);have f1:=(CC.1 _ (G.1.drewN nq)).1;have p1:=(CP.1 _ (G.1.drewN nq)).1;go_wp2;go_quiet (fail);go_wp2;go_roundw
    case rel=>exact⟨k+1,om,.inl om,by go_num,hd2,(by first|exact G.1.drewN _|exact(G.1.drewN _).drewN _)⟩
    case measure=>simp[intOf];omega
  ·have hd2:Kept (r=0):=⟨HR.1.trans (Bk.tX fun j hj=>hd.1 j (by have:=hn.1;omega))⟩
   clear gr;go_wp2;go_ret;exact⟨by first|(rw[hd2.1];rfl)|exact gB hd2.1.symm,G.1⟩
theorem pU {b v w w'} (hv:v≠0) (hg:Gr w w'):∃u:Int,Ending.returned (.int .i64 v)= .returned (.int .i64 u)∧(u=0→Bk.bR b=0)∧Gr w w':=⟨v,rfl,fun h=>absurd h hv,hg⟩
theorem FP (A n c B b w) (hv:dY w B A n c b) (hB:B≤w.heap.size) (hs:Bk.dm b≤1000000000000) (hf:∀s∈b,Lb.Fit s.1):
  Calls prog 47 #[.slice A n c] w fun e w'=>∃v:Int,e= .returned (.int .i64 v)∧(v=0→Bk.bR b=0)∧Gr w w':=by
 have mixed:prog.follows .mixedOrders=true:=kr;have CK:=Aj (y8 A n c B b w hv hB hs);obtain⟨hlc,hcm⟩:=hv.cap;unfold maxLen at hcm;have hn:=Aj hv.len;have V:=Aj hv;have F:=Aj hf;by_cases hlim:1048576<b.length∨16777216<Bk.dm b
 ·rw[Bj hlim]at CK;clear hv hf hs hlim;go_enter func47,ntmps47;go_wp2_with (go_at_call 60;refine CK.1.mono ?_;rintro e w1 ⟨rfl,g1⟩;have G1:=Aj g1;clear g1);go_ret;exact pU Ah G1.1
 ·have HR:Kept (Bk.bR b=Lb.gU (Bk.ES b) b.length):=⟨by unfold Bk.bR;rw[Ng hlim]⟩
  rw[AF hlim]at CK;clear hv hf hs hlim;go_enter func47,ntmps47;go_wp2_with (go_at_call 60;refine CK.1.mono ?_;rintro e w1 ⟨rfl,g1⟩;have G1:=Aj g1;clear g1);go_loopw [3] (fun i wr=>∃k:Nat,k≤n∧i= .int .i64 k∧Kept (∀j,j<k→Bk.ES b j=0)∧Gr w wr) (fun i _=>n-(intOf i).toNat)
  case atStart=>exact⟨0,om,rfl,⟨fun j hj=>om⟩,G1.1⟩
  case round=>
   clear G1;obtain⟨k,hk,rfl,hd,gr⟩:=hrel;have G:=Aj gr;by_cases hlt:k<n
   ·have hkl:k<b.length:=by rw[←hn.1];exact hlt
    obtain⟨b0,off,A1,n1,c1,A2,n2,c2,rfl,hL,hS,hc⟩:=V.1.cells hB hkl;have CC:=Aj (fun W (g:Gr w W)=>hc W g.below);obtain⟨r0,r1⟩:=CC.1 wr gr;have LC:=Aj (fun W (g:Gr w W)=>yN A1 n1 c1 W.heap.size b[k].1 W ((hL.below (g.below.mono hB)).more (Lt hB g.size)) Ai (F.1 _ (gG hkl)));have TM:=Aj (fun W (g:Gr w W)=>FN A2 n2 c2 B b[k].2 W (hS.below (g.below.mono hB)) (Lt hB g.size));have hone:Kept (Lb.bR b[k].1=0→b[k].2≠[]→Bk.yU Bk.iP 20 b[k].2=0→Bk.one b[k]=0):=⟨fun a e d=>by unfold Bk.one;rw[Ng (by simpa using a),Ng e,d]⟩
    have hemp:Kept (b[k].2≠[]↔n2≠0):=⟨by have:=hS.len;cases h:b[k].2 with|nil=>rw[h]at this;simp at this;simp[this]|cons x l=>rw[h]at this;simp at this;simp;omega⟩
    have hn2:(n2:Int)≤9223372036854775807:=by have h1:=hS.len;have h3:=hS.1;have h2:=hS.2.1;unfold maxLen at h2;omega
    have hstp:Kept (Bk.one b[k]=0→Bk.dF Bk.iQ 19 b k=0→∀j,j<k+1→Bk.ES b j=0):=⟨fun a e=>Bk.yZ hd.1 (by rw[Bk.Ma hkl a];exact e)⟩
    have hL:=Aj hL;clear hS hc gr;obtain⟨v,hv⟩:∃v,v=Lb.bR b[k].1:=⟨_,rfl⟩
    rw[←hv]at LC hone;clear hv;by_cases h1:v=0
    ·subst h1;by_cases h2:n2=0
     ·subst h2;go_wp2_with (go_at_call 96;refine(LC.1 wr G.1).mono ?_;rintro e w2 ⟨rfl,g2⟩;have G2:=Aj (G.1.trans g2);obtain⟨r20,r21⟩:=CC.1 w2 G2.1;clear g2);go_ret;exact pU Ah G2.1
     ·have h2':((n2:Int)==0)=false:=by simp;omega
      obtain⟨t,ht⟩:∃t,t=Bk.yU Bk.iP 20 b[k].2:=⟨_,rfl⟩
      rw[←ht]at TM hone;clear ht;by_cases h3:t=0
      ·subst h3;have ho:=Aj (hone.1 rfl (hemp.1.2 h2) rfl);clear h2;by_cases h0:k=0
       ·subst h0;have hd2:=Aj (hstp.1 ho.1 (Bk.iW _ _ _));simp only[Nat.zero_mul,Ct]at CC r0 r1;go_wp2_with (first
         |(go_at_call 63;refine(TM.1 w2 G2.1).mono ?_;rintro e w3 ⟨rfl,g3⟩;have G3:=Aj (G2.1.trans g3);clear g3)
         |(go_at_call 96;refine(LC.1 wr G.1).mono ?_;rintro e w2 ⟨rfl,g2⟩;have G2:=Aj (G.1.trans g2);obtain⟨r20,r21⟩:=CC.1 w2 G2.1;clear g2))
        go_roundw
        case rel=>exact⟨1,om,by go_num,hd2,G3.1⟩
        case measure=>simp[intOf];omega
       ·have nY:k-1<b.length:=by omega
        obtain⟨b',off',A3,n3,c3,A4,n4,c4,e',hL',-,hp⟩:=V.1.cells hB nY;simp only[gT,Cf,BJ]at e';obtain⟨rfl,rfl⟩:=e';have CP:=Aj (fun W (g:Gr w W)=>hp W g.below);have CM:=Aj (fun W (g:Gr w W)=>kW A3 A1 n3 c3 n1 c1 b[k-1].1 b[k].1 W ((hL'.below (g.below.mono hB)).more (Lt hB g.size)) ((hL.1.below (g.below.mono hB)).more (Lt hB g.size)));have hat:=Bk.yV Bk.iQ 19 hkl h0;have hcs:Bk.iQ b[k-1] b[k]=Lb.cmpL b[k-1].1 b[k].1:=rfl;rw[hcs]at hat;have HAT:=Aj hat;have ek:(k:Int)-1=((k-1:Nat):Int):=om;have ZO:((k-1:Nat):Int)< (n:Int):=om;have ek3:0< (k:Int):=om;have ew:IntKind.i64.wrap ((k-1:Nat):Int)=((k-1:Nat):Int):=by rw[Bq];omega
        clear hp hat hcs hL';generalize Lb.cmpL b[k-1].1 b[k].1=s at*;go_wp2_with (first
         |(go_at_call 63;refine(TM.1 w2 G2.1).mono ?_;rintro e w3 ⟨rfl,g3⟩;have G3:=Aj (G2.1.trans g3);clear g3)
         |(go_at_call 96;refine(LC.1 wr G.1).mono ?_;rintro e w2 ⟨rfl,g2⟩;have G2:=Aj (G.1.trans g2);obtain⟨r20,r21⟩:=CC.1 w2 G2.1;clear g2))
        have f0:=fun n os=>(CC.1 (Sort.grow (w3.drewN n) os) (G3.1.trans ⟨n,os,rfl⟩)).1
        have p0:=fun n os=>(CP.1 (Sort.grow (w3.drewN n) os) (G3.1.trans ⟨n,os,rfl⟩)).1
        have CX:=Aj (fun n os=>CM.1 (Sort.grow (w3.drewN n) os) (G3.1.trans ⟨n,os,rfl⟩));clear r0 r1 r20 r21;go_quiet_grown (first|(go_at_call 39;refine Dj (CX.1 _ _)));clear f0 p0 CX CC CP;by_cases hs0:s=0
        ·subst hs0;go_wp2;go_ret;exact pU Ah (G3.1.trans ⟨_,_,rfl⟩)
        ·have ald:(s==0)=false:=by simpa using hs0
         by_cases hs1:0<s
         ·go_wp2;go_ret;exact pU Ah (G3.1.trans ⟨_,_,rfl⟩)
         ·have hd2:=Aj (hstp.1 ho.1 (by rw[HAT.1,Ng hs0,Ng hs1]));go_wp2;go_roundw
          case rel=>exact⟨k+1,om,by go_num,hd2,G3.1.trans ⟨_,_,rfl⟩⟩
          case measure=>simp[intOf];omega
      ·have h3':(t !=0)=true:=by simpa using h3
       have h3k:=Aj h3;clear h3;go_wp2_with (first
        |(go_at_call 63;refine(TM.1 w2 G2.1).mono ?_;rintro e w3 ⟨rfl,g3⟩;have G3:=Aj (G2.1.trans g3);clear g3)
        |(go_at_call 96;refine(LC.1 wr G.1).mono ?_;rintro e w2 ⟨rfl,g2⟩;have G2:=Aj (G.1.trans g2);obtain⟨r20,r21⟩:=CC.1 w2 G2.1;clear g2))
       go_ret;exact pU h3k.1 G3.1
    ·have h1':(v==0)=false:=by simpa using h1
     have alf:(v !=0)=true:=by simpa using h1
     have h1k:=Aj h1;clear h1;go_wp2_with (go_at_call 96;refine(LC.1 wr G.1).mono ?_;rintro e w2 ⟨rfl,g2⟩;have G2:=Aj (G.1.trans g2);clear g2);go_ret;exact pU h1k.1 G2.1
   ·have hd2:Kept (Bk.bR b=0):=⟨HR.1.trans (Lb.dD _ _ fun j hj=>hd.1 j (by have:=hn.1;omega))⟩
    clear gr;go_wp2;go_ret;exact⟨0,rfl,fun _=>hd2.1,G.1⟩
end
end Go.Proofs.YtongopommlghgaaGreatDoor
