/- Part 6. -/
import Derived.Test.YtongopommlghgaaGreatDoorZJAE
namespace Go.Proofs.YtongopommlghgaaGreatDoor
set_option maxRecDepth 100000
set_option maxHeartbeats 0
open _root_.Go.Proofs.Tryz
namespace Xo
open Bt Tm
def lz (x:Nat):Nat:=64-Di.bl x
def tz:Nat→Nat→Nat
 |0,_=>0
 |f+1,x=>if x%2=1 then 0 else 1+tz f (x/2)
theorem QM : ∀ (f x), tz f x ≤ f
  | 0, _ => Nr _
  | f + 1, x => by rw [tz]; split; · omega
                   · have := QM f (x / 2); omega
theorem yO:∀(f x),2^tz f x∣x
 |0,x=>by simp[tz]
 |f+1,x=>by
  rw[tz];split
  ·simp
  ·rename_i h
   rw[Nat.add_comm,CY];obtain⟨k,hk⟩:=yO f (x/2);have h2:x=x/2*2:=om;have h3:=congrArg (·*2) hk;exact⟨k,h2.trans (h3.trans (Nat.mul_right_comm _ _ _))⟩
def win (x:Nat):Nat×Nat:=(lz x,64-lz x-tz 64 x)
def trail (w:Nat×Nat):Nat:=64-w.1-w.2
def fits (c:Nat×Nat) (x:Nat):Bool:=c !=(0,0)&& (decide (c.1≤(win x).1)&&decide (trail c≤trail (win x)))
def put (last:Nat) (c:Nat×Nat) (v:Nat):List Bool×(Nat×Nat):=
 if v^^^last=0 then(bw 1 0,c)
 else if fits c (v^^^last)=true then(bw 2 2++bw c.2 ((v^^^last)>>>trail c),c)
 else(bw 2 3++(bw 6 (win (v^^^last)).1++(bw 6 ((win (v^^^last)).2-1)++bw (win (v^^^last)).2 ((v^^^last)>>>trail (win (v^^^last))))),win (v^^^last))
def puts:Nat→Nat×Nat→List Nat→List Bool
 |_,_,[]=>[]
 |last,c,v::l=>(put last c v).1++puts v (put last c v).2 l
def enc:List Nat→List Bool
 |[]=>[]
 |v::l=>bw 64 v++puts v (0,0) l
def fresh (r:List Bool):(Nat×Nat)×List Bool×Int:=
 if(rd 6 r).2.2≠0 then((0,1),(rd 6 r).2)
 else if(rd 6 (rd 6 r).2.1).2.2≠0 then(((rd 6 r).1,1),(rd 6 (rd 6 r).2.1).2)
 else(((rd 6 r).1,(rd 6 (rd 6 r).2.1).1+1),(rd 6 (rd 6 r).2.1).2.1,if(rd 6 r).1+((rd 6 (rd 6 r).2.1).1+1)≤64 then 0 else 8)
def gM (w:Nat×Nat) (r:List Bool):Nat×List Bool×Int:=
 if(rd w.2 r).2.2≠0 then(0,(rd w.2 r).2)else((rd w.2 r).1<<<trail w,(rd w.2 r).2.1,if(rd w.2 r).1<<<trail w=0 then 8 else 0)
def get (last:Nat) (c:Nat×Nat) (r:List Bool):(Nat×(Nat×Nat))×List Bool×Int:=
 if(rd 1 r).2.2≠0 then((0,c),(rd 1 r).2)
 else if(rd 1 r).1=0 then((last,c),(rd 1 r).2.1,0)
 else if(rd 1 (rd 1 r).2.1).2.2≠0 then((0,c),(rd 1 (rd 1 r).2.1).2)
 else if(rd 1 (rd 1 r).2.1).1=0 then
  if c=(0,0)then((0,c),(rd 1 (rd 1 r).2.1).2.1,8)
  else if(gM c (rd 1 (rd 1 r).2.1).2.1).2.2≠0 then((0,c),(gM c (rd 1 (rd 1 r).2.1).2.1).2)
  else((last^^^ (gM c (rd 1 (rd 1 r).2.1).2.1).1,c),(gM c (rd 1 (rd 1 r).2.1).2.1).2)
 else if(fresh (rd 1 (rd 1 r).2.1).2.1).2.2≠0 then((0,c),(fresh (rd 1 (rd 1 r).2.1).2.1).2)
 else if(gM (fresh (rd 1 (rd 1 r).2.1).2.1).1 (fresh (rd 1 (rd 1 r).2.1).2.1).2.1).2.2≠0 then((0,c),(gM (fresh (rd 1 (rd 1 r).2.1).2.1).1 (fresh (rd 1 (rd 1 r).2.1).2.1).2.1).2)
 else if((fresh (rd 1 (rd 1 r).2.1).2.1).1=win (gM (fresh (rd 1 (rd 1 r).2.1).2.1).1 (fresh (rd 1 (rd 1 r).2.1).2.1).2.1).1∧fits c (gM (fresh (rd 1 (rd 1 r).2.1).2.1).1 (fresh (rd 1 (rd 1 r).2.1).2.1).2.1).1=false)then
  ((last^^^ (gM (fresh (rd 1 (rd 1 r).2.1).2.1).1 (fresh (rd 1 (rd 1 r).2.1).2.1).2.1).1,(fresh (rd 1 (rd 1 r).2.1).2.1).1),(gM (fresh (rd 1 (rd 1 r).2.1).2.1).1 (fresh (rd 1 (rd 1 r).2.1).2.1).2.1).2)
 else((0,c),(gM (fresh (rd 1 (rd 1 r).2.1).2.1).1 (fresh (rd 1 (rd 1 r).2.1).2.1).2.1).2.1,8)
def gets:Nat→Nat→Nat×Nat→List Nat→List Bool→List Nat×List Bool×Int
 |0,_,_,acc,r=>(acc,r,0)
 |n+1,last,c,acc,r=>if(get last c r).2.2≠0 then([],(get last c r).2)else gets n (get last c r).1.1 (get last c r).1.2 (acc++[(get last c r).1.1]) (get last c r).2.1
def dec (n:Nat) (r:List Bool):List Nat×List Bool×Int:=
 if n=0 then([],r,0)else if(rd 64 r).2.2≠0 then([],(rd 64 r).2)else gets (n-1) (rd 64 r).1 (0,0) [(rd 64 r).1] (rd 64 r).2.1
theorem QN {x n} (h:x<2^n):Di.bl x≤n:=by
 unfold Di.bl;split
 ·omega
 ·rename_i h0
  have:=(Nat.log2_lt h0).2 h;omega
theorem kN {x} (hx:x<2^64) (h0:x≠0):1≤(win x).2∧(win x).1+(win x).2≤64∧(win x).1<64∧trail (win x)=tz 64 x∧x<2^ (64-(win x).1):=by
 have h1:=QN hx;have h2:x<2^Di.bl x:=Di.Yh x;have h3:2^tz 64 x≤x:=Nat.le_of_dvd om (yO 64 x);have h4:tz 64 x<Di.bl x:=by
  rcases Cy (tz 64 x) (Di.bl x)with q|q
  ·exact q
  ·have:2^Di.bl x≤2^tz 64 x:=kF Ai q;omega
 have h5:=QM 64 x;unfold trail win lz;simp only[];refine⟨om,om,om,om,?_⟩;rw[show 64-(64-Di.bl x)=Di.bl x from om];exact h2
theorem Zv {x w} (hw:w.1+w.2≤64) (h1:x<2^ (64-w.1)) (h2:2^trail w∣x):(x>>>trail w)%2^w.2=x>>>trail w∧(x>>>trail w)<<<trail w=x:=by
 have hs:64-w.1=w.2+trail w:=by unfold trail;omega
 rw[hs,Nat.pow_add]at h1;refine⟨?_,?_⟩
 ·apply kG;rw[Ch];exact(Nat.div_lt_iff_lt_mul (Nat.pow_pos Ai)).2 h1
 ·rw[Ch,Cc,Nat.div_mul_cancel h2]
theorem Vs {c x} (hx:x<2^64) (h0:x≠0) (h:fits c x=true):c≠(0,0)∧x<2^ (64-c.1)∧2^trail c∣x:=by
 obtain⟨-,-,-,h4,h5⟩:=kN hx h0;unfold fits at h;simp only[DK,bne_iff_ne,decide_eq_true_eq]at h;obtain⟨a,b,d⟩:=h;refine⟨a,jE h5 (kF Ai om),?_⟩;rw[h4]at d;exact Nat.dvd_trans (Nat.pow_dvd_pow 2 d) (yO 64 x)
theorem Yj:∀(f x t),x≠0→2^t∣x→t≤f→t≤tz f x
 |0,_,t,_,_,h=>by rw[tz];exact h
 |f+1,x,0,_,_,_=>bf _
 |f+1,x,t+1,h0,h,hf=>by
  obtain⟨k,hk⟩:=h;rw[CY,Nat.mul_right_comm]at hk;rw[tz,Ng om];have:t≤tz f (x/2):=Yj f (x/2) t om ⟨k,om⟩ om;omega
theorem Vu {c x} (hc:c≠(0,0)) (h0:x≠0) (h1:x<2^ (64-c.1)) (h2:2^trail c∣x) (hc1:c.1≤64):fits c x=true:=by
 have hx:x<2^64:=jE h1 (kF Ai om);obtain⟨-,-,-,h4,-⟩:=kN hx h0;have h5:=QN h1;have h6:=Yj 64 x (trail c) h0 h2 (by unfold trail;omega);unfold fits;rw[h4];simp only[DK,bne_iff_ne,decide_eq_true_eq];refine⟨hc,?_,h6⟩;show c.1≤lz x;unfold lz;omega
def Cw (c:Nat×Nat):Prop:=c=(0,0)∨(1≤c.2∧c.1+c.2≤64)
theorem QO (v last:Nat):last^^^ (v^^^last)=v:=by rw[Nat.xor_comm v last,←Dq,Ey,Nat.zero_xor]
theorem QP {w x} (hw:w.1+w.2≤64) (h0:x≠0) (h1:x<2^ (64-w.1)) (h2:2^trail w∣x) (r):gM w (bw w.2 (x>>>trail w)++r)=(x,r,0):=by
 obtain⟨a,b⟩:=Zv hw h1 h2;unfold gM;rw[iF,a];simp only[];rw[Ng Ah,b,Ng h0]
theorem QQ {w} (h1:1≤w.2) (h2:w.1+w.2≤64) (r):fresh (bw 6 w.1++(bw 6 (w.2-1)++r))=(w,r,0):=by
 unfold fresh;have e1:w.1%2^6=w.1:=kG om;have e2:(w.2-1)%2^6=w.2-1:=kG om;rw[iF,e1];simp only[];rw[iF,e2];simp only[];rw[show w.2-1+1=w.2 from om,Ng Ah,Ng Ah,Ps0 h2]
theorem get_put {last v c} (hl:last<2^64) (hv:v<2^64) (hc:Cw c) (r):get last c ((put last c v).1++r)=((v,(put last c v).2),r,0):=by
 have hx:v^^^last<2^64:=BN hv hl;have hb:=QO v last;unfold put;generalize v^^^last=x at*;by_cases h0:x=0
 ·subst h0;rw[Ps0 rfl];rw[Nat.xor_zero]at hb;subst hb;rw[show bw 1 0++r=false::r from rfl];simp[get,xq]
 ·rw[Ng h0];by_cases hf:fits c x=true
  ·rw[Ps0 hf];obtain⟨a1,a2,a3⟩:=Vs hx h0 hf;obtain⟨b1,b2⟩:=hc.resolve_left a1;rw[Af,show∀q,bw 2 2++q=true::false::q from fun _=>rfl];unfold get;rw[xq];simp only[];rw[xq];simp only[];rw[QP b2 h0 a2 a3 r];simp[a1,hb]
  ·rw[Ng hf];obtain⟨b1,b2,b3,b4,b5⟩:=kN hx h0;have hd:2^trail (win x)∣x:=by rw[b4];exact yO 64 x
   simp only[Af];rw[show∀q,bw 2 3++q=true::true::q from fun _=>rfl];unfold get;rw[xq];simp only[];rw[xq];simp only[];rw[QQ b1 b2];simp only[];rw[QP b2 h0 b5 hd r];simp[hb,hf]
theorem Jl {last v c} (hl:last<2^64) (hv:v<2^64) (hc:Cw c):Cw (put last c v).2:=by
 have hx:v^^^last<2^64:=BN hv hl;unfold put;split
 ·exact hc
 ·rename_i h0
  split
  ·exact hc
  ·obtain⟨b1,b2,b3,b4,b5⟩:=kN hx h0;exact .inr ⟨b1,b2⟩
theorem xu:∀(l) (last) (c) (acc) (r),last<2^64→Cw c→(∀x∈l,x<2^64)→gets l.length last c acc (puts last c l++r)=(acc++l,r,0)
 |[],last,c,acc,r,_,_,_=>by simp[gets,puts]
 |v::l,last,c,acc,r,hl,hc,hx=>by
  have hv:=hx v jO;rw[Lc,gets,puts,Af,get_put hl hv hc];simp only[];rw[Ng Ah,xu l v _ _ r hv (Jl hl hv hc) (fun y hy=>hx y (nU _ hy))];simp
theorem bV {l} (hx:∀x∈l,x<2^64) (r):dec l.length (enc l++r)=(l,r,0):=by
 cases l with
 |nil=>simp[dec,enc]
 |cons v l=>
  have hv:=hx v jO;have e1:v%2^64=v:=kG hv;unfold dec enc;rw[Ng Ah,Af,iF,e1];simp only[Lc,Bj];rw[Ng Ah,xu l v (0,0) [v] r hv (.inl rfl) (fun y hy=>hx y (nU _ hy))]
  rfl
theorem QR {w x r r'} (hw:w.1+w.2≤64) (h:gM w r=(x,r',0)):x≠0∧x<2^ (64-w.1)∧2^trail w∣x∧r=bw w.2 (x>>>trail w)++r':=by
 unfold gM at h;obtain⟨y,r1,e1,hg⟩:∃y r1 e1,rd w.2 r=(y,r1,e1):=⟨_,_,_,rfl⟩
 rw[hg]at h;simp only[]at h;by_cases he:e1=0
 ·subst he;rw[Ng Ah]at h;simp only[aA]at h;obtain⟨h1,rfl,h3⟩:=h;rw[h1]at h3;have h0:x≠0:=fun e=>by rw[Ps0 e]at h3;simp at h3
  obtain⟨d1,d2⟩:=jv hg;have hs:64-w.1=w.2+trail w:=by unfold trail;omega
  have hp:0<2^trail w:=Nat.pow_pos Ai;have hy:x>>>trail w=y:=by rw[←h1,Cc,Ch,Nat.mul_div_cancel _ hp]
  refine⟨h0,?_,?_,by rw[hy];exact d1⟩
  ·rw[hs,Nat.pow_add,←h1,Cc];exact Nat.mul_lt_mul_of_pos_right d2 hp
  ·rw[←h1,Cc];exact Nat.dvd_mul_left _ _
 ·rw[Ps0 he]at h;simp only[aA]at h;exact absurd h.2.2 he
theorem FB {w r r'} (h:fresh r=(w,r',0)):1≤w.2∧w.1+w.2≤64∧r=bw 6 w.1++(bw 6 (w.2-1)++r'):=by
 unfold fresh at h;obtain⟨a,r1,e1,hg⟩:∃a r1 e1,rd 6 r=(a,r1,e1):=⟨_,_,_,rfl⟩
 rw[hg]at h;simp only[]at h;by_cases he:e1=0
 ·subst he;rw[Ng Ah]at h;obtain⟨b,r2,e2,hg2⟩:∃b r2 e2,rd 6 r1=(b,r2,e2):=⟨_,_,_,rfl⟩
  rw[hg2]at h;simp only[]at h;by_cases he2:e2=0
  ·subst he2;rw[Ng Ah]at h;simp only[aA]at h;obtain⟨rfl,rfl,h3⟩:=h;obtain⟨d1,-⟩:=jv hg;obtain⟨d2,-⟩:=jv hg2;have:a+(b+1)≤64:=by
    by_cases q:a+(b+1)≤64
    ·exact q
    ·rw[Ng q]at h3;simp at h3
   exact⟨Ah,this,by simp only[Bj];rw[←d2,←d1]⟩
  ·rw[Ps0 he2]at h;simp only[aA]at h;exact absurd h.2.2 he2
 ·rw[Ps0 he]at h;simp only[aA]at h;exact absurd h.2.2 he
theorem QS {last v c c' r r'} (hl:last<2^64) (hc:Cw c) (h:get last c r=((v,c'),r',0)):v<2^64∧put last c v=((put last c v).1,c')∧r=(put last c v).1++r':=by
 unfold get at h;obtain⟨a,r1,e1,hg⟩:∃a r1 e1,rd 1 r=(a,r1,e1):=⟨_,_,_,rfl⟩
 rw[hg]at h;simp only[]at h;by_cases he:e1=0
 ·subst he;rw[Ng Ah]at h;obtain⟨d1,d2⟩:=jv hg;by_cases ha:a=0
  ·subst ha;rw[Ps0 rfl]at h;simp only[aA]at h;obtain⟨⟨rfl,rfl⟩,rfl,-⟩:=h;have:put last c last=(bw 1 0,c):=by unfold put;rw[Ey,Ps0 rfl]
   rw[this];exact⟨hl,rfl,d1⟩
  ·rw[Ng ha]at h;have ha1:a=1:=om;subst ha1;obtain⟨b,r2,e2,hg2⟩:∃b r2 e2,rd 1 r1=(b,r2,e2):=⟨_,_,_,rfl⟩
   rw[hg2]at h;simp only[]at h;by_cases he2:e2=0
   ·subst he2;rw[Ng Ah]at h;obtain⟨d3,d4⟩:=jv hg2;by_cases hb:b=0
    ·subst hb;rw[Ps0 rfl]at h;by_cases hcz:c=(0,0)
     ·rw[Ps0 hcz]at h;simp at h
     ·rw[Ng hcz]at h;obtain⟨x,r3,e3,hg3⟩:∃x r3 e3,gM c r2=(x,r3,e3):=⟨_,_,_,rfl⟩
      rw[hg3]at h;simp only[]at h;by_cases kg:e3=0
      ·subst kg;rw[Ng Ah]at h;simp only[aA]at h;obtain⟨⟨rfl,rfl⟩,rfl,-⟩:=h;obtain⟨b1,b2⟩:=hc.resolve_left hcz;obtain⟨g1,g2,g3,g4⟩:=QR b2 hg3;have hx:x<2^64:=jE g2 (kF Ai om);have e5:last^^^x^^^last=x:=by rw[Nat.xor_comm last x,Dq,Ey,Nat.xor_zero]
       have hp:put last c (last^^^x)=(bw 2 2++bw c.2 (x>>>trail c),c):=by
        unfold put;rw[e5,Ng g1,Ps0 (Vu hcz g1 g2 g3 om)]
       rw[hp];refine⟨BN hl hx,rfl,?_⟩;rw[d1,d3,g4]
       rfl
      ·rw[Ps0 kg]at h;simp only[aA]at h;exact absurd h.2.2 kg
    ·rw[Ng hb]at h;have hb1:b=1:=om;subst hb1;obtain⟨w,r3,e3,hg3⟩:∃w r3 e3,fresh r2=(w,r3,e3):=⟨_,_,_,rfl⟩
     rw[hg3]at h;simp only[]at h;by_cases kg:e3=0
     ·subst kg;rw[Ng Ah]at h;obtain⟨x,r4,e4,hg4⟩:∃x r4 e4,gM w r3=(x,r4,e4):=⟨_,_,_,rfl⟩
      rw[hg4]at h;simp only[]at h;by_cases zX:e4=0
      ·subst zX;rw[Ng Ah]at h;by_cases hq:w=win x∧fits c x=false
       ·rw[Ps0 hq]at h;simp only[aA]at h;obtain⟨⟨rfl,rfl⟩,rfl,-⟩:=h;obtain⟨f1,f2,f3⟩:=FB hg3;obtain⟨g1,g2,g3,g4⟩:=QR f2 hg4;have hx:x<2^64:=jE g2 (kF Ai om);have e5:last^^^x^^^last=x:=by rw[Nat.xor_comm last x,Dq,Ey,Nat.xor_zero]
        have hp:put last c (last^^^x)=(bw 2 3++(bw 6 (win x).1++(bw 6 ((win x).2-1)++bw (win x).2 (x>>>trail (win x)))),win x):=by
         unfold put;rw[e5,Ng g1,Ng (by rw[hq.2];simp)]
        rw[hp];refine⟨BN hl hx,by rw[hq.1],?_⟩;rw[d1,d3,f3,g4,←hq.1];simp only[Af]
        rfl
       ·rw[Ng hq]at h;simp at h
      ·rw[Ps0 zX]at h;simp only[aA]at h;exact absurd h.2.2 zX
     ·rw[Ps0 kg]at h;simp only[aA]at h;exact absurd h.2.2 kg
   ·rw[Ps0 he2]at h;simp only[aA]at h;exact absurd h.2.2 he2
 ·rw[Ps0 he]at h;simp only[aA]at h;exact absurd h.2.2 he
theorem K8:∀(n last) (c) (acc) (r) (l) (r'),last<2^64→Cw c→gets n last c acc r=(l,r',0)→
  ∃m,l=acc++m∧m.length=n∧(∀x∈m,x<2^64)∧r=puts last c m++r'
 |0,last,c,acc,r,l,r',_,_,h=>by
  simp only[gets,aA]at h;obtain⟨rfl,rfl,-⟩:=h;exact⟨[],Ah,rfl,Ah,by simp[puts]⟩
 |n+1,last,c,acc,r,l,r',hl,hc,h=>by
  rw[gets]at h;obtain⟨⟨v,c2⟩,r1,e1,hg⟩:∃q r1 e1,get last c r=(q,r1,e1):=⟨_,_,_,rfl⟩
  rw[hg]at h;simp only[]at h;by_cases he:e1=0
  ·subst he;rw[Ng Ah]at h;obtain⟨a1,a2,a3⟩:=QS hl hc hg;have hc2:=Jl hl a1 hc;have a4:(put last c v).2=c2:=by rw[a2]
   rw[a4]at hc2;obtain⟨m,h1,h2,h3,h4⟩:=K8 n v c2 _ _ _ _ a1 hc2 h;refine⟨v::m,by simp[h1],by simp[h2],?_,?_⟩
   ·intro y hy;rcases iW.1 hy with q|q
    ·rw[q];exact a1
    ·exact h3 y q
   ·rw[puts,a4,Af,←h4,←a3]
  ·rw[Ps0 he]at h;simp only[aA]at h;exact absurd h.2.2 he
theorem iG {n r r' l} (h:dec n r=(l,r',0)):l.length=n∧(∀x∈l,x<2^64)∧r=enc l++r':=by
 unfold dec at h;by_cases hn:n=0
 ·subst hn;rw[Ps0 rfl]at h;simp only[aA]at h;obtain⟨rfl,rfl,-⟩:=h;exact⟨rfl,Ah,rfl⟩
 ·rw[Ng hn]at h;obtain⟨v,r1,e1,hg⟩:∃v r1 e1,rd 64 r=(v,r1,e1):=⟨_,_,_,rfl⟩
  rw[hg]at h;simp only[]at h;by_cases he:e1=0
  ·subst he;rw[Ng Ah]at h;obtain⟨d1,d2⟩:=jv hg;obtain⟨m,h1,h2,h3,h4⟩:=K8 _ _ _ _ _ _ _ d2 (.inl rfl) h;have h5:l=v::m:=h1;subst h5;refine⟨by simp[h2];omega,?_,?_⟩
   ·intro y hy;rcases iW.1 hy with q|q
    ·rw[q];exact d2
    ·exact h3 y q
   ·rw[enc,Af,←h4,←d1]
  ·rw[Ps0 he]at h;simp only[aA]at h;exact absurd h.2.2 he
end Xo
namespace Ru
open Bt Tm
def runs:List Nat→List (Nat×Nat)
 |[]=>[]
 |x::l=>match runs l with
  |[]=>[(x,1)]
  |(y,c)::rs=>if x=y then(y,c+1)::rs else(x,1)::(y,c)::rs
def join (rs:List (Nat×Nat)):List Nat:=rs.flatMap fun p=>List.replicate p.2 p.1
def tot (rs:List (Nat×Nat)):Nat:=(rs.map (·.2)).sum
def one (p:Nat×Nat):List Bool:=bw 64 p.1++bw 7 (p.2-1)
def enc (l:List Nat):List Bool:=(runs l).flatMap one
def Good:Option Nat→List (Nat×Nat)→Prop
 |_,[]=>True
 |last,p::rs=>last≠some p.1∧1≤p.2∧p.2≤128∧p.1<2^64∧Good (some p.1) rs
theorem nV (rs):(join rs).length=tot rs:=by
 induction rs with
 |nil=>rfl
 |cons p rs ih=>
  have h:join (p::rs)=List.replicate p.2 p.1++join rs:=rfl;have h2:tot (p::rs)=p.2+tot rs:=by simp[tot]
  rw[h,h2,La,Ep,ih]
theorem lK:∀(l),join (runs l)=l
 |[]=>rfl
 |x::l=>by
  have ih:=lK l;rw[runs];cases hr:runs l with
  |nil=>rw[hr]at ih;simp only[join,Dm]at ih;simp[join,←ih]
  |cons p rs=>
   obtain⟨y,c⟩:=p;rw[hr]at ih;simp only[];by_cases hx:x=y
   ·subst hx;rw[Ps0 rfl];simp only[join,Av]at ih⊢;rw[List.replicate_succ,Bc,ih]
   ·rw[Ng hx];simp only[join,Av]at ih⊢;rw[ih];rfl
theorem pI:∀(l),l.length≤128→(∀x∈l,x<2^64)→Good none (runs l)
 |[],_,_=>trivial
 |x::l,hl,hx=>by
  simp only[Lc]at hl;have ih:=pI l om (fun y hy=>hx y (nU _ hy));have hj:=congrArg List.length (lK l);rw[nV]at hj;have hx0:=hx x jO;rw[runs];cases hr:runs l with
  |nil=>exact⟨Ah,Ah,Ah,hx0,trivial⟩
  |cons p rs=>
   obtain⟨y,c⟩:=p;rw[hr]at ih hj;simp only[];have hc:c≤l.length:=by
    have:tot ((y,c)::rs)=c+tot rs:=by simp[tot]
    omega
   obtain⟨-,h2,h3,h4,h5⟩:=ih;by_cases hxy:x=y
   ·subst hxy;rw[Ps0 rfl];exact⟨Ah,Ah,by simp only[];omega,h4,h5⟩
   ·rw[Ng hxy];exact⟨Ah,Ah,Ah,hx0,by simpa using hxy,h2,h3,h4,h5⟩
theorem pJ {x l} (rs) (hr:runs l=rs) (h:∀p∈rs.head?,p.1≠x):∀(c),runs (List.replicate (c+1) x++l)=(x,c+1)::rs
 |0=>by
  rw[show List.replicate (0+1) x++l=x::l from rfl,runs,hr];cases rs with
  |nil=>rfl
  |cons p rs=>
   obtain⟨y,c⟩:=p;simp only[];rw[Ng (fun e=>h (y,c) rfl e.symm)]
 |c+1=>by
  rw[List.replicate_succ,Bc,runs,pJ rs hr h c];simp
theorem nW:∀{rs} {last},Good last rs→runs (join rs)=rs
 |[],_,_=>rfl
 |(x,c)::rs,last,h=>by
  obtain⟨-,h2,h3,h4,h5⟩:=h;have ih:=nW h5;obtain⟨k,rfl⟩:∃k,c=k+1:=⟨c-1,by simp only[]at h2;omega⟩
  rw[show join ((x,k+1)::rs)=List.replicate (k+1) x++join rs from rfl];refine pJ rs ih (fun p hp=>?_) k;cases rs with
  |nil=>simp at hp
  |cons q rs=>
   simp only[List.head?_cons,Option.mem_def,gU]at hp;subst hp;exact fun e=>h5.1 (by rw[e])
def gr:Nat→Nat→Option Nat→List (Nat×Nat)→List Bool→List (Nat×Nat)×List Bool×Int
 |0,_,_,acc,r=>(acc,r,0)
 |f+1,n,last,acc,r=>if n=0 then(acc,r,0)
  else if(rd 64 r).2.2≠0 then([],(rd 64 r).2)
  else if(rd 7 (rd 64 r).2.1).2.2≠0 then([],(rd 7 (rd 64 r).2.1).2)
  else if n< (rd 7 (rd 64 r).2.1).1+1∨last=some (rd 64 r).1 then([],(rd 7 (rd 64 r).2.1).2.1,8)
  else gr f (n-((rd 7 (rd 64 r).2.1).1+1)) (some (rd 64 r).1) (acc++[((rd 64 r).1,(rd 7 (rd 64 r).2.1).1+1)]) (rd 7 (rd 64 r).2.1).2.1
def dec (n:Nat) (r:List Bool):List Nat×List Bool×Int:=(join (gr n n none [] r).1,(gr n n none [] r).2)
theorem Zw {f n last acc x c} (r) (hx:x<2^64) (h1:1≤c) (h2:c≤128) (hc:c≤n) (hl:last≠some x):
  gr (f+1) n last acc (one (x,c)++r)=gr f (n-c) (some x) (acc++[(x,c)]) r:=by
 have e1:x%2^64=x:=kG hx;have e2:(c-1)%2^7=c-1:=kG om;have e3:c-1+1=c:=om;rw[gr,Ng om];unfold one;rw[Af,iF,e1];simp only[];rw[iF,e2];simp only[];rw[Ng Ah,Ng Ah,e3,Ng (fun h=>h.elim (fun h=>om) hl)]
theorem QT:∀(rs) (f n) (last) (acc) (r),Good last rs→tot rs=n→n≤f→gr f n last acc (rs.flatMap one++r)=(acc++rs,r,0)
 |[],f,n,last,acc,r,_,ht,hf=>by
  have:n=0:=by rw[←ht];rfl
  subst this;cases f<;>simp[gr]
 |(x,c)::rs,f,n,last,acc,r,hg,ht,hf=>by
  obtain⟨h1,h2,h3,h4,h5⟩:=hg;simp only[]at h1 h2 h3 h4;have ht2:c+tot rs=n:=by rw[←ht];simp[tot]
  obtain⟨f,rfl⟩:∃k,f=k+1:=⟨f-1,om⟩
  rw[Av,Af,Zw _ h4 h2 h3 om h1,QT rs f (n-c) (some x) _ r h5 om om];simp
theorem bV {l} (hl:l.length≤128) (hx:∀x∈l,x<2^64) (r):dec l.length (enc l++r)=(l,r,0):=by
 unfold dec enc;have hj:=congrArg List.length (lK l);rw[nV]at hj;rw[QT (runs l) l.length l.length none [] r (pI l hl hx) hj Aj,AB,lK]
theorem Yk:∀(f n) (last) (acc) (r) (out) (r'),n≤f→gr f n last acc r=(out,r',0)→
  ∃rs,out=acc++rs∧Good last rs∧tot rs=n∧r=rs.flatMap one++r'
 |0,n,last,acc,r,out,r',hf,h=>by
  simp only[gr,aA]at h;exact⟨[],by simp[h.1],trivial,by simp[tot];omega,by simp[h.2.1]⟩
 |f+1,n,last,acc,r,out,r',hf,h=>by
  rw[gr]at h;by_cases hn:n=0
  ·subst hn;rw[Ps0 rfl]at h;simp only[aA]at h;exact⟨[],by simp[h.1],trivial,by simp[tot],by simp[h.2.1]⟩
  ·rw[Ng hn]at h;obtain⟨x,r1,e1,hg⟩:∃x r1 e1,rd 64 r=(x,r1,e1):=⟨_,_,_,rfl⟩
   rw[hg]at h;simp only[]at h;by_cases he:e1=0
   ·subst he;rw[Ng Ah]at h;obtain⟨c,r2,e2,hg2⟩:∃c r2 e2,rd 7 r1=(c,r2,e2):=⟨_,_,_,rfl⟩
    rw[hg2]at h;simp only[]at h;by_cases he2:e2=0
    ·subst he2;rw[Ng Ah]at h;by_cases hq:n<c+1∨last=some x
     ·rw[Ps0 hq]at h;simp at h
     ·rw[Ng hq]at h;obtain⟨d1,d2⟩:=jv hg;obtain⟨d3,d4⟩:=jv hg2;obtain⟨rs,h1,h2,h3,h4⟩:=Yk f (n-(c+1)) _ _ _ _ _ om h;refine⟨(x,c+1)::rs,by simp[h1],⟨fun e=>hq (.inr e),Ah,by simp only[];omega,d2,h2⟩,?_,?_⟩
      ·have:tot ((x,c+1)::rs)=c+1+tot rs:=by simp[tot]
       omega
      ·rw[Av,one,d1,d3,h4];simp
    ·rw[Ps0 he2]at h;simp only[aA]at h;exact absurd h.2.2 he2
   ·rw[Ps0 he]at h;simp only[aA]at h;exact absurd h.2.2 he
theorem K9:∀{rs} {last},Good last rs→∀x∈join rs,x<2^64
 |[],_,_,x,hx=>by simp[join]at hx
 |p::rs,_,h,x,hx=>by
  have e:join (p::rs)=List.replicate p.2 p.1++join rs:=rfl;rw[e]at hx;rcases gY.1 hx with hx|hx
  ·rw[(List.mem_replicate.1 hx).2];exact h.2.2.2.1
  ·exact K9 h.2.2.2.2 x hx
theorem iG {n r r' l} (h:dec n r=(l,r',0)):l.length=n∧(∀x∈l,x<2^64)∧r=enc l++r':=by
 unfold dec at h;obtain⟨out,r2,e,hg⟩:∃out r2 e,gr n n none [] r=(out,r2,e):=⟨_,_,_,rfl⟩
 rw[hg]at h;simp only[aA]at h;obtain⟨rfl,rfl,rfl⟩:=h;obtain⟨rs,h1,h2,h3,h4⟩:=Yk n n none [] r out r2 Aj hg;rw[AB]at h1;subst h1;refine⟨by rw[nV,h3],K9 h2,?_⟩;unfold enc;rw[nW h2];exact h4
end Ru
namespace Ck
open Bt Tm
theorem lL (b:UInt8) (L:List UInt8):Bt.bits (b::L)=bw 8 b.toNat++Bt.bits L:=by
 apply CW
 ·rw[La,iE,iE,aj,Lc];omega
 ·intro i h1 h2;rw[jr];by_cases hi:i<8
  ·rw[pF (by rw[aj];exact hi),Jk];unfold bit;rw[show i/8=0 from om,show 7-i%8=8-1-i from om]
   rfl
  ·rw[Dk (by rw[aj];omega),jr];unfold bit;rw[aj,show i/8=(i-8)/8+1 from om,show i%8=(i-8)%8 from om,jN,List.getElem?_cons_succ,←jN]
theorem Vv {L:List UInt8} {bs:List Bool} (h:Wr L bs):∃p,p<8∧Bt.bits L=bs++List.replicate p false:=by
 have hl:=h.len;refine⟨8*L.length-bs.length,om,?_⟩;apply CW
 ·rw[iE,La,Ep];omega
 ·intro i h1 h2;rw[jr];by_cases hi:i<bs.length
  ·rw[pF hi,h.get i hi]
  ·rw[Dk om,List.getElem_replicate,h.pad i om]
theorem acr {L:List UInt8} {bs:List Bool} {p:Nat} (hp:p<8) (h:Bt.bits L=bs++List.replicate p false):Wr L bs:=by
 have hl:=congrArg List.length h;rw[iE,La,Ep]at hl;refine⟨om,fun k hk=>?_,fun k hk=>?_⟩
 ·have h1:k< (Bt.bits L).length:=by rw[iE];omega
  rw[←jr L k h1,List.getElem_of_eq h h1,pF hk]
 ·by_cases h1:k< (Bt.bits L).length
  ·rw[←jr L k h1,List.getElem_of_eq h h1,Dk hk,List.getElem_replicate]
  ·rw[iE]at h1;unfold bit;rw[jN,Ca om];simp
def vals (tag:Nat) (l:List Nat):List Bool:=if tag=1 then Xo.enc l else if tag=2 then Ru.enc l else Di.enc l
def gK (tag n:Nat) (r:List Bool):List Nat×List Bool×Int:=if tag=1 then Xo.dec n r else if tag=2 then Ru.dec n r else Di.dec n r
def choose (l:List Nat):Nat:=
 if(Di.enc l).length<min (Xo.enc l).length (Ru.enc l).length then 3 else if(Ru.enc l).length< (Xo.enc l).length then 2 else 1
theorem tJ (l):1≤choose l∧choose l≤3:=by unfold choose;split<;>(try split)<;>omega
def cb (l:List (Int×Nat)):List Bool:=bw 8 (choose (l.map (·.2)))++(bw 8 (l.length-1)++(Tm.enc (l.map (·.1))++vals (choose (l.map (·.2))) (l.map (·.2))))
def fin (r:List Bool):Int:=if 8≤r.length∨true∈r then 4 else 0
def Vw (tag n:Nat) (r:List Bool):List (Int×Nat)×Int:=
 if(Tm.dec n r).2.2≠0 then([],(Tm.dec n r).2.2)
 else if(gK tag n (Tm.dec n r).2.1).2.2≠0 then([],(gK tag n (Tm.dec n r).2.1).2.2)
 else if fin (gK tag n (Tm.dec n r).2.1).2.1≠0 then([],4)
 else if choose (gK tag n (Tm.dec n r).2.1).1≠tag then([],8)
 else((Tm.dec n r).1.zip (gK tag n (Tm.dec n r).2.1).1,0)
def dec:List UInt8→List (Int×Nat)×Int
 |[]=>([],3)
 |[t]=>if t.toNat<1∨3<t.toNat then([],9)else([],3)
 |t::m::b=>if t.toNat<1∨3<t.toNat then([],9)else if 120≤m.toNat then([],7)else Vw t.toNat (m.toNat+1) (Bt.bits b)
def Ok (l:List (Int×Nat)):Prop:=l≠[]∧l.length≤120∧∀p∈l,Tm.In p.1∧p.2<2^64
theorem Jm (l):(Di.eQ l).length≤l.length:=by
 induction l with
 |nil=>simp[Di.eQ]
 |cons x l ih=>
  have h:∀(m:List Nat),(Di.ins x m).length≤m.length+1:=by
   intro m
   induction m with
   |nil=>simp[Di.ins]
   |cons y m ih=>rw[Di.ins];split<;>(try split)<;>simp<;>omega
  have e:Di.eQ (x::l)=Di.ins x (Di.eQ l):=rfl;have:=h (Di.eQ l);rw[e,Lc];omega
theorem Jn {tag l} (h1:l.length≤120) (hx:∀x∈l,x<2^64) (r):gK tag l.length (vals tag l++r)=(l,r,0):=by
 unfold gK vals;split
 ·exact Xo.bV hx r
 ·split
  ·exact Ru.bV om hx r
  ·exact Di.bV hx (by have:=Jm l;omega) r
theorem FC {tag n r r' l} (h:gK tag n r=(l,r',0)):l.length=n∧(∀x∈l,x<2^64)∧r=vals tag l++r':=by
 unfold gK at h;unfold vals;split at h
 ·rename_i q;rw[Ps0 q];exact Xo.iG h
 ·rename_i q
  rw[Ng q];split at h
  ·rename_i q2;rw[Ps0 q2];exact Ru.iG h
  ·rename_i q2
   rw[Ng q2];obtain⟨a,b,-,d⟩:=Di.iG h;exact⟨a,b,d⟩
theorem Vx {p} (hp:p<8):fin (List.replicate p false)=0:=by unfold fin;rw[Ng (by simp;omega)]
theorem Zx {r} (h:fin r=0):∃p,p<8∧r=List.replicate p false:=by
 unfold fin at h;split at h
 ·simp at h
 ·rename_i q
  refine⟨r.length,om,?_⟩;apply List.eq_replicate_iff.2 ⟨rfl,fun b hb=>?_⟩;cases b with
  |false=>rfl
  |true=>exact absurd (.inr hb) q
theorem QU (l:List (Int×Nat)):(l.map (·.1)).zip (l.map (·.2))=l:=by
 induction l with
 |nil=>rfl
 |cons p l ih=>simp[ih]
theorem bw8 {b:UInt8} {n} (h:bw 8 b.toNat=bw 8 n) (hn:n<256):b.toNat=n:=by
 have h2:=congrArg oN h;rw[tH,tH]at h2;have:=b.toNat_lt;omega
theorem Zy {L l} (hl:Ok l) (h:Wr L (cb l)):dec L=(l,0):=by
 obtain⟨h0,h1,h2⟩:=hl;have hpos:=mH.2 h0;obtain⟨p,hp,hb⟩:=Vv h;obtain⟨c1,c2⟩:=tJ (l.map (·.2));have hlen:=h.len;have hcl:16≤(cb l).length:=by
  unfold cb;rw[La,La,aj,aj];omega
 match L,hb,hlen with
 |[],_,q=>simp only[Ba]at q;omega
 |[t],_,q=>simp only[DT]at q;omega
 |t::m::b,hb,_=>
  rw[lL,lL]at hb;unfold cb at hb;simp only[Af]at hb;obtain⟨e1,hb⟩:=List.append_inj hb (by rw[aj,aj]);obtain⟨e2,hb⟩:=List.append_inj hb (by rw[aj,aj]);have et:=bw8 e1 om;have em:=bw8 e2 om;rw[dec,Ng om,Ng om,et,em,show l.length-1+1=l.length from om];unfold Vw;have a1:=Tm.bV (l:=l.map (·.1)) (fun u hu=>by
   obtain⟨q,hq,rfl⟩:=dV.1 hu;exact(h2 q hq).1) (vals (choose (l.map (·.2))) (l.map (·.2))++List.replicate p false)
  have a2:=Jn (tag:=choose (l.map (·.2))) (l:=l.map (·.2)) (by simpa using h1) (fun u hu=>by
   obtain⟨q,hq,rfl⟩:=dV.1 hu;exact(h2 q hq).2) (List.replicate p false)
  rw[fM]at a1 a2;rw[hb,a1];simp only[];rw[a2];simp only[];rw[Ng Ah,Ng Ah,Ng (by rw[Vx hp];simp),Ng Ah,QU]
theorem iG {L l} (h:dec L=(l,0)):Ok l∧Wr L (cb l):=by
 match L,h with
 |[],h=>simp[dec]at h
 |[t],h=>rw[dec]at h;split at h<;>simp at h
 |t::m::b,h=>
  rw[dec]at h;by_cases q1:t.toNat<1∨3<t.toNat
  ·rw[Ps0 q1]at h;simp at h
  ·rw[Ng q1]at h;by_cases q2:120≤m.toNat
   ·rw[Ps0 q2]at h;simp at h
   ·rw[Ng q2]at h;unfold Vw at h;obtain⟨ts,r1,e1,hg⟩:∃ts r1 e1,Tm.dec (m.toNat+1) (Bt.bits b)=(ts,r1,e1):=⟨_,_,_,rfl⟩
    rw[hg]at h;simp only[]at h;by_cases he:e1=0
    ·subst he;rw[Ng Ah]at h;obtain⟨vs,r2,e2,hg2⟩:∃vs r2 e2,gK t.toNat (m.toNat+1) r1=(vs,r2,e2):=⟨_,_,_,rfl⟩
     rw[hg2]at h;simp only[]at h;by_cases he2:e2=0
     ·subst he2;rw[Ng Ah]at h;by_cases hf:fin r2=0
      ·rw[Ng (by rw[hf];simp)]at h;by_cases hc:choose vs=t.toNat
       ·rw[Ng (by simp[hc])]at h;simp only[aA,BO]at h;obtain⟨a1,a2,a3⟩:=Tm.iG hg;obtain⟨b1,b2,b3⟩:=FC hg2;obtain⟨p,hp,hr⟩:=Zx hf;have hlen:ts.length=vs.length:=om;have m1:l.map (·.1)=ts:=by rw[←h];exact List.map_fst_zip om
        have m2:l.map (·.2)=vs:=by rw[←h];exact List.map_snd_zip om
        have ll:l.length=m.toNat+1:=by rw[←a1,←m1,fM]
        refine⟨⟨fun e=>by rw[e]at ll;simp at ll,om,fun q hq=>⟨a2 _ (by rw[←m1];exact List.mem_map_of_mem hq),b2 _ (by rw[←m2];exact List.mem_map_of_mem hq)⟩⟩,?_⟩;refine acr hp ?_;unfold cb;rw[m1,m2,hc,ll,Bj,lL,lL,a3,b3,hr];simp only[Af]
       ·rw[Ps0 hc]at h;simp at h
      ·rw[Ps0 hf]at h;simp at h
     ·rw[Ps0 he2]at h;simp only[aA]at h;exact absurd h.2 he2
    ·rw[Ps0 he]at h;simp only[aA]at h;exact absurd h.2 he
def psh (L:List UInt8) (n:Nat) (b:Bool):List UInt8:=
 let L2:=if n%8=0 then L++[0]else L
 L2.set (n/8) (UInt8.ofNat ((L2.getD (n/8) 0).toNat|||(b.toNat<<< (7-n%8))))
def pkF:List UInt8→Nat→List Bool→List UInt8
 |L,_,[]=>L
 |L,n,b::bs=>pkF (psh L n b) (n+1) bs
def pk (bs:List Bool):List UInt8:=pkF [] 0 bs
theorem Zz {L bs} (h:Wr L bs) (b):Wr (psh L bs.length b) (bs++[b]):=by
 refine(h.push b (L2:=if bs.length%8=0 then L++[0]else L) rfl ?_).2;rw[DR];apply kG;apply Nat.or_lt_two_pow (n:=8)
 ·exact UInt8.toNat_lt _
 ·have h1:b.toNat≤1:=by cases b<;>simp
  have h2:2^ (7-bs.length%8)≤2^7:=kF Ai om;rw[Cc];have h3:=Nat.mul_le_mul h1 h2;omega
theorem QV:∀(bs:List Bool) {L:List UInt8} {aS:List Bool},Wr L aS→Wr (pkF L aS.length bs) (aS++bs)
 |[],L,aS,h=>by simpa[pkF]using h
 |b::bs,L,aS,h=>by
  have:=QV bs (Zz h b);rw[La,DT,Af]at this;exact this
theorem Ld (bs):Wr (pk bs) bs:=by
 have:=QV bs Wr.nil;rw[AB]at this;exact this
def enc (l:List (Int×Nat)):List UInt8:=pk (cb l)
theorem bF (l):(enc l).length=((cb l).length+7)/8:=(Ld (cb l)).len
theorem bV {l} (hl:Ok l):dec (enc l)=(l,0):=Zy hl (Ld (cb l))
theorem Vy {L l} (h:dec L=(l,0)):Ok l∧L=enc l:=by
 obtain⟨h1,h2⟩:=iG h;exact⟨h1,h2.inj (Ld (cb l))⟩
def jw (l:List (Int×Nat)):List (List (Int×Nat)):=if l=[]then[]else l.take 120::jw (l.drop 120)
termination_by l.length
decreasing_by
 rename_i h
 have:=mH.2 h;rw[kz];omega
theorem dS:jw []=[]:=by rw[jw,Ps0 rfl]
theorem jP {l} (h:l≠[]):jw l=l.take 120::jw (l.drop 120):=by rw[jw,Ng h]
theorem nX {X:Type} {f:X→List Bool} {B} (h:∀x,(f x).length≤B) (l:List X):(l.flatMap f).length≤B*l.length:=by
 induction l with
 |nil=>simp
 |cons x l ih=>
  have:=h x;rw[Av,La,Lc,Nat.mul_add,Dp];omega
theorem Yl {i} (h:i≤4):fl i+fw i≤68:=by
 rcases(by omega:i=0∨i=1∨i=2∨i=3∨i=4)with rfl|rfl|rfl|rfl|rfl<;>simp[fl,fw]
theorem yP:∀(l) (t d),(Tm.yM t d l).length=l.length
 |[],_,_=>rfl
 |u::l,t,d=>by rw[Tm.yM,Lc,yP l,Lc]
theorem Ym (l):(Tm.enc l).length≤68*l.length:=by
 cases l with
 |nil=>simp[Tm.enc]
 |cons t l=>
  have h:=nX (f:=Tm.ch) (B:=68) (fun x=>by
   unfold Tm.ch;rw[La,aj,aj];exact Yl (Fz x)) (Tm.yM t 0 l)
  rw[yP]at h;rw[Tm.enc,La,aj,Lc];omega
theorem ZA (last v c) (hc:c.2≤64):(Xo.put last c v).1.length≤78∧(Xo.put last c v).2.2≤64:=by
 unfold Xo.put;split
 ·exact⟨by simp only[aj];omega,hc⟩
 ·split
  ·exact⟨by simp only[La,aj];omega,hc⟩
  ·have:(Xo.win (v^^^last)).2≤64:=by unfold Xo.win;simp only[];omega
   exact⟨by simp only[La,aj];omega,this⟩
theorem Le:∀(l) (last) (c),c.2≤64→(Xo.puts last c l).length≤78*l.length
 |[],_,_,_=>by simp[Xo.puts]
 |v::l,last,c,hc=>by
  obtain⟨h1,h2⟩:=ZA last v c hc;have:=Le l v (Xo.put last c v).2 h2;rw[Xo.puts,La,Lc];omega
theorem Yn (l):(Xo.enc l).length≤78*l.length:=by
 cases l with
 |nil=>simp[Xo.enc]
 |cons v l=>
  have:=Le l v (0,0) Ah;rw[Xo.enc,La,aj,Lc];omega
theorem Lf (l):(vals (choose l) l).length≤(Xo.enc l).length:=by
 unfold choose;split
 ·rw[show vals 3 l=Di.enc l from rfl];omega
 ·split
  ·rw[show vals 2 l=Ru.enc l from rfl];omega
  ·exact Nr _
theorem Vz {l} (h:l.length≤120):2≤(enc l).length∧(enc l).length≤2200:=by
 have h1:=Ym (l.map (·.1));have h2:=Lf (l.map (·.2));have h3:=Yn (l.map (·.2));rw[fM]at h1 h3;rw[bF];unfold cb;simp only[La,aj];omega
end Ck
namespace Cs
open Ck
abbrev fI:=List (Int×Nat)
def In (s:fI):Prop:=∀p∈s,Tm.In p.1∧p.2<2^64
def FD:List Nat→fI→List UInt8→fI×List UInt8×Int
 |[],acc,d=>(acc,d,0)
 |n::ls,acc,d=>if(Ck.dec (d.take n)).2≠0 then([],d,(Ck.dec (d.take n)).2)else if ls≠[]∧(Ck.dec (d.take n)).1.length≠120 then([],d,23)else FD ls (acc++(Ck.dec (d.take n)).1) (d.drop n)
def IK:List (List Nat)→List fI→List UInt8→List fI×Int
 |[],acc,_=>(acc,0)
 |l::ls,acc,d=>if(FD l [] d).2.2≠0 then([],(FD l [] d).2.2)else IK ls (acc++[(FD l [] d).1]) (FD l [] d).2.1
def lens (s:fI):List Nat:=(jw s).map fun c=>(Ck.enc c).length
def tK (s:fI):List UInt8:=(jw s).flatMap Ck.enc
theorem Jo (s:fI):jw s=[]↔s=[]:=by
 constructor
 ·intro h;by_cases q:s=[]
  ·exact q
  ·rw[jP q]at h;simp at h
 ·intro h;rw[h,dS]
theorem VA {s:fI} (h0:s≠[]) (h:In s):Ck.Ok (s.take 120):=
 ⟨fun e=>by
  have:=congrArg List.length e;have h1:=mH.2 h0;rw[jD,Ba]at this;omega,by rw[jD];omega,fun p hp=>h p (List.mem_of_mem_take hp)⟩
theorem Lg (s acc r) (h:In s):FD (lens s) acc (tK s++r)=(acc++s,r,0):=by
 by_cases h0:s=[]
 ·subst h0;simp[lens,tK,dS,FD]
 ·have hk:=bV (VA h0 h);have e1:lens s=(Ck.enc (s.take 120)).length::lens (s.drop 120):=by unfold lens;rw[jP h0];rfl
  have e2:tK s++r=Ck.enc (s.take 120)++(tK (s.drop 120)++r):=by unfold tK;rw[jP h0,Av,Af]
  rw[e1,e2,FD,List.take_left' rfl,List.drop_left' rfl,hk];simp only[];have hq:¬(lens (s.drop 120)≠[]∧(s.take 120).length≠120):=by
   rintro⟨a,b⟩;apply a;have:s.drop 120=[]:=by
    apply qU;rw[jD]at b;rw[kz];omega
   unfold lens;rw[this,dS];rfl
  rw[Ng Ah,Ng hq,Lg (s.drop 120) (acc++s.take 120) r (fun p hp=>h p (List.mem_of_mem_drop hp)),Af,je]
termination_by s.length
decreasing_by
 have:=mH.2 h0;rw[kz];omega
theorem Lh:∀(b acc) (r),(∀s∈b,In s)→IK (b.map lens) acc (b.flatMap tK++r)=(acc++b,0)
 |[],acc,r,_=>by simp[IK]
 |s::b,acc,r,h=>by
  rw[AJ,IK,Av,Af,Lg s [] _ (h s jO)];simp only[AB];rw[Ng Ah,Lh b (acc++[s]) r (fun t ht=>h t (nU _ ht)),Af]
  rfl
theorem qD {s} (h:lens s=[]):s=[]:=by
 unfold lens at h;rw[List.map_eq_nil_iff]at h;exact(Jo s).1 h
theorem VB {c s:fI} (h0:c≠[]) (h1:c.length≤120) (h:s≠[]→c.length=120):jw (c++s)=c::jw s:=by
 have hne:c++s≠[]:=fun e=>h0 (List.append_eq_nil_iff.1 e).1
 rw[jP hne];by_cases q:s=[]
 ·subst q;rw[Bh,jc h1,Ei h1]
 ·have:=h q;rw[List.take_left' this,List.drop_left' this]
theorem QW:∀(ls) (acc) (d) (out) (d'),ls.sum≤d.length→FD ls acc d=(out,d',0)→∃s,out=acc++s∧In s∧ls=lens s∧d=tK s++d'
 |[],acc,d,out,d',_,h=>by
  simp only[FD,aA]at h;obtain⟨rfl,rfl,-⟩:=h;exact⟨[],Ah,fun p hp=>by simp at hp,by simp[lens,dS],by simp[tK,dS]⟩
 |n::ls,acc,d,out,d',hs,h=>by
  rw[Bv]at hs;rw[FD]at h;obtain⟨c,e,hg⟩:∃c e,Ck.dec (d.take n)=(c,e):=⟨_,_,rfl⟩
  rw[hg]at h;simp only[]at h;by_cases he:e=0
  ·subst he;rw[Ng Ah]at h;by_cases hq:ls≠[]∧c.length≠120
   ·rw[Ps0 hq]at h;simp at h
   ·rw[Ng hq]at h;obtain⟨⟨o1,o2,o3⟩,hb⟩:=Ck.Vy hg;obtain⟨s,h1,h2,h3,h4⟩:=QW ls _ _ _ _ (by rw[kz];omega) h;have hsp:jw (c++s)=c::jw s:=VB o1 o2 (fun hne=>by
     by_cases q:c.length=120
     ·exact q
     ·refine absurd ⟨fun e=>hne (qD (by rw[←h3,e])),q⟩ hq)
    have hn:n=(Ck.enc c).length:=by rw[←hb,jD];omega
    refine⟨c++s,by rw[h1,Af],fun p hp=>?_,?_,?_⟩
    ·rcases gY.1 hp with q|q
     ·exact o3 p q
     ·exact h2 p q
    ·unfold lens;rw[hsp,AJ,←hn,h3]
     rfl
    ·unfold tK;rw[hsp,Av,Af,←hb];have h5:(jw s).flatMap Ck.enc++d'=d.drop n:=h4.symm;rw[h5,je]
  ·rw[Ps0 he]at h;simp only[aA]at h;exact absurd h.2.2 he
theorem Li (s):(tK s).length=(lens s).sum:=by
 unfold tK lens;rw[List.length_flatMap]
theorem QX:∀(ls) (acc) (d) (out),ls.flatten.sum=d.length→IK ls acc d=(out,0)→∃b,out=acc++b∧(∀s∈b,In s)∧ls=b.map lens∧d=b.flatMap tK
 |[],acc,d,out,hs,h=>by
  simp only[IK,aA,BO]at h;exact⟨[],by simp[h],Ah,rfl,qU (by rw[←hs];simp)⟩
 |l::ls,acc,d,out,hs,h=>by
  rw[Cg,Dx]at hs;rw[IK]at h;obtain⟨s0,d1,e,hg⟩:∃s0 d1 e,FD l [] d=(s0,d1,e):=⟨_,_,_,rfl⟩
  rw[hg]at h;simp only[]at h;by_cases he:e=0
  ·subst he;rw[Ng Ah]at h;obtain⟨s,h1,h2,h3,h4⟩:=QW l [] d s0 d1 om hg;rw[AB]at h1;subst h1;have hl:=congrArg List.length h4;rw[La,Li,←h3]at hl;obtain⟨b,g1,g2,g3,g4⟩:=QX ls _ d1 out om h;refine⟨s0::b,by rw[g1,Af];rfl,fun t ht=>?_,by rw[AJ,←h3,←g3],by rw[Av,←g4,←h4]⟩;rcases iW.1 ht with q|q
   ·rw[q];exact h2
   ·exact g2 t q
  ·rw[Ps0 he]at h;simp only[aA]at h;exact absurd h.2 he
end Cs
namespace Bk
open Cs (fI)
theorem gd {X:Type} [Inhabited X] {l:List X} {j} (h:j<l.length):l.getD j default=l[j]:=by simp[List.getD,h]
abbrev yQ:=List aU×fI
abbrev gN:=List yQ
instance:Inhabited yQ:=⟨([],[])⟩
def bH {X:Type} [Inhabited X] (f:X→X→Int) (q:Int) (l:List X) (j:Nat):Int:=
 if j=0 then 0 else if f (l.getD (j-1) default) (l.getD j default)=0 then q else if 0<f (l.getD (j-1) default) (l.getD j default)then 16 else 0
def qY {X:Type} [Inhabited X] (f:X→X→Int) (q:Int) (l:List X):Int:=Lb.fV (bH f q l) l.length
def fJ (a b:Int×Nat):Int:=if a.1<b.1 then-1 else if b.1<a.1 then 1 else 0
def bE (a b:yQ):Int:=Lb.cmpL a.1 b.1
def one (s:yQ):Int:=if Lb.bN s.1≠0 then Lb.bN s.1 else if s.2=[]then 21 else qY fJ 20 s.2
def bu (b:gN):Nat:=(b.map fun s=>s.2.length).sum
def zY (b:gN) (j:Nat):Int:=if one (b.getD j default)≠0 then one (b.getD j default)else bH bE 19 b j
def bN (b:gN):Int:=if 1048576<b.length∨16777216<bu b then 7 else Lb.fV (zY b) b.length
theorem dA (a b):(fJ a b= -1∧a.1<b.1)∨(fJ a b=1∧b.1<a.1)∨(fJ a b=0∧a.1=b.1):=by
 unfold fJ;split
 ·exact .inl ⟨rfl,by assumption⟩
 ·split
  ·exact .inr (.inl ⟨rfl,by assumption⟩)
  ·exact .inr (.inr ⟨rfl,om⟩)
theorem mV (a b):bu (a++b)=bu a+bu b:=by simp[bu]
theorem tL (b:gN) (k) (h:k<b.length):bu (b.take (k+1))=bu (b.take k)+b[k].2.length:=by
 rw[Ts h,mV];simp[bu]
theorem qE (b k):bu (b.take k)≤bu b:=by
 have:=mV (b.take k) (b.drop k);rw[je]at this;omega
theorem dB {b:gN} (h:bN b=0):b.length≤1048576∧bu b≤16777216∧(∀s∈b,one s=0)∧∀j (hj:j+1<b.length),Lb.cmpL b[j].1 b[j+1].1<0:=by
 unfold bN at h;by_cases h1:1048576<b.length∨16777216<bu b
 ·rw[Ps0 h1]at h;cases h
 ·rw[Ng h1]at h;have hz:∀j,j<b.length→zY b j=0:=by
   rcases Lb.dX (zY b) b.length with⟨_,hz⟩|⟨k,hk,hk0,he,_⟩
   ·exact hz
   ·rw[he]at h;exact absurd h hk0
  have hone:∀j (hj:j<b.length),one b[j]=0∧bH bE 19 b j=0:=by
   intro j hj;have:=hz j hj;unfold zY at this;rw[gd hj]at this;by_cases q:one b[j]=0
   ·rw[Ng (by simpa using q)]at this;exact⟨q,this⟩
   ·rw[Ps0 q]at this;exact absurd this q
  refine⟨om,om,fun s hs=>?_,fun j hj=>?_⟩
  ·obtain⟨j,hj,rfl⟩:=iC.1 hs;exact(hone j hj).1
  ·have:=(hone (j+1) hj).2;unfold bH at this;rw[Ng om,Bj,gd om,gd hj]at this;unfold bE at this;by_cases q:Lb.cmpL b[j].1 b[j+1].1=0
   ·rw[Ps0 q]at this;cases this
   ·rw[Ng q]at this;by_cases q2:0<Lb.cmpL b[j].1 b[j+1].1
    ·rw[Ps0 q2]at this;cases this
    ·omega
end Bk
section
open Go.RowKit Go.Shelf
def QY (w:World) (base:Nat) (A:Option Addr) (n c:Nat) (rs:Bk.gN):Prop:=
 ∃hs:List (Value×Value),w.ownsRow base 57 2 (.slice A n c) n (ax hs)∧hs.length=rs.length∧
  ∀(i:Nat) (h:i<hs.length) (h':i<rs.length),∃A1 n1 c1 A2 n2 c2,hs[i]=(.slice A1 n1 c1,.slice A2 n2 c2)∧aJ w base A1 n1 c1 rs[i].1∧aH w base A2 n2 c2 rs[i].2
def fK (w:World) (B:Nat) (A:Option Addr) (n c:Nat) (rs:Bk.gN):Prop:=
 ∃hs:List (Value×Value),Rd w B 2 A n c (ax hs)∧hs.length=rs.length∧
  ∀(i:Nat) (h:i<hs.length) (h':i<rs.length),∃A1 n1 c1 A2 n2 c2,hs[i]=(.slice A1 n1 c1,.slice A2 n2 c2)∧dH w B A1 n1 c1 rs[i].1∧fO w B A2 n2 c2 rs[i].2
theorem QY.nil (w base):QY w base none 0 0 []:=⟨[],⟨rfl,.inl ⟨rfl,rfl⟩⟩,rfl,fun i h=>by simp at h⟩
theorem QY.rd {w base n c A rs} (h:QY w base A n c rs):fK w w.heap.size A n c rs:=by
 obtain⟨hs,h1,h2,h3⟩:=h;exact⟨hs,Rd.bz h1,h2,fun i a b=>by obtain⟨A1,n1,c1,A2,n2,c2,e,p,q⟩:=h3 i a b;exact⟨A1,n1,c1,A2,n2,c2,e,p.rd,q.rd⟩⟩
theorem fK.len {w B n c A rs} (h:fK w B A n c rs):n=rs.length:=by
 obtain⟨hs,h1,h2,-⟩:=h;have:=h1.2.2.1;rw[aP]at this;omega
theorem fK.below {w w' B n c A rs} (h:fK w B A n c rs) (hb:Below B w w'):fK w' B A n c rs:=by
 obtain⟨hs,h1,h2,h3⟩:=h;exact⟨hs,Rd.below h1 hb,h2,fun i a b=>by obtain⟨A1,n1,c1,A2,n2,c2,e,p,q⟩:=h3 i a b;exact⟨A1,n1,c1,A2,n2,c2,e,p.below hb,q.below hb⟩⟩
theorem fK.more {w B B' n c A rs} (h:fK w B A n c rs) (hB:B≤B'):fK w B' A n c rs:=by
 obtain⟨hs,h1,h2,h3⟩:=h;exact⟨hs,Rd.more h1 hB,h2,fun i a b=>by obtain⟨A1,n1,c1,A2,n2,c2,e,p,q⟩:=h3 i a b;exact⟨A1,n1,c1,A2,n2,c2,e,p.more hB,q.more hB⟩⟩
theorem FF:(prog.info? 57).map (fun i=>(i.zero,i.size,i.bytes))=some (some (.agg #[.slice none 0 0,.slice none 0 0]),2,48):=kr
theorem fK.cells {w B n c k A rs} (h:fK w B A n c rs) (hB:B≤w.heap.size) (hk:k<rs.length):
  ∃b off A1 n1 c1 A2 n2 c2,A=some ⟨b,off,none⟩∧dH w B A1 n1 c1 rs[k].1∧fO w B A2 n2 c2 rs[k].2∧∀W,Below w.heap.size w W→W.cell? ⟨b,off+k*2,none⟩=some (.slice A1 n1 c1)∧W.cell? ⟨b,off+k*2+1,none⟩=some (.slice A2 n2 c2):=by
 have hn:=h.len;obtain⟨hs,h1,h2,h3⟩:=h;obtain⟨A1,n1,c1,A2,n2,c2,e,p,q⟩:=h3 k om hk;obtain⟨b,off,rfl,hb,hc⟩:=h1.2.2.2 om;obtain⟨g1,g2⟩:=bR hs k om;rw[e]at g1 g2;refine⟨b,off,A1,n1,c1,A2,n2,c2,rfl,p,q,fun W hW=>⟨(hW.cell (p:=⟨b,_,none⟩) (by show b<_;omega)).trans (hc _ _ g1),(hW.cell (p:=⟨b,_,none⟩) (by show b<_;omega)).trans ?_⟩⟩;rw[iw];exact hc _ _ g2
theorem fK.cap {w B n c A rs} (h:fK w B A n c rs):n≤c∧c≤maxLen:=by
 obtain⟨hs,h1,_⟩:=h;exact⟨h1.1,h1.2.1⟩
end
section
open Go.RowKit Go.Shelf
theorem mW (x w):Calls prog 205 #[.int .i64 x] w fun e w'=>e= .returned (.bool false)∧w=w':=by
 have hx:(x !=x)=false:=Ah;go_enter func205,ntmps205;go_wp2;go_ret;exact⟨Ah,rfl⟩
theorem Jp (x y w):Calls prog 152 #[.int .i64 x,.int .i64 y] w fun e w'=>e= .returned (.int .i64 (if x<y then-1 else if y<x then 1 else 0))∧w=w':=by
 by_cases h1:x<y
 ·rw[Ps0 h1];go_enter func152,ntmps152;go_wp2_with (first|(go_at_call 205;refine(mW _ _).mono ?_;rintro e w1 ⟨rfl,rfl⟩));go_ret;exact⟨rfl,rfl⟩
 ·rw[Ng h1];by_cases h2:y<x
  ·rw[Ps0 h2];go_enter func152,ntmps152;go_wp2_with (first|(go_at_call 205;refine(mW _ _).mono ?_;rintro e w1 ⟨rfl,rfl⟩));go_ret;exact⟨rfl,rfl⟩
  ·rw[Ng h2];go_enter func152,ntmps152;go_wp2_with (first|(go_at_call 205;refine(mW _ _).mono ?_;rintro e w1 ⟨rfl,rfl⟩));go_ret;exact⟨rfl,rfl⟩
theorem tN (x y:II) (w):Calls prog 94 #[.agg #[.int .i64 x.1,.int .u64 (x.2:Int)],.agg #[.int .i64 y.1,.int .u64 (y.2:Int)]] w fun e w'=>e= .returned (.int .i64 (Bk.fJ x y))∧Gr w w':=by
 have CT:=Al (fun W=>Jp x.1 y.1 W);have hc:Kept (Bk.fJ x y=if x.1<y.1 then-1 else if y.1<x.1 then 1 else 0):=⟨rfl⟩
 rw[hc.1];generalize (if x.1<y.1 then(-1:Int)else if y.1<x.1 then 1 else 0)=r at*;go_enter func94,ntmps94;go_wp2_with (go_at_call 152;refine(CT.1 _).mono ?_;rintro e w1 ⟨rfl,rfl⟩);go_ret;exact⟨rfl,((Gr.refl w).alloc _).alloc _⟩
theorem xw (A A2 Am Am2 n c n2 c2 nm cm nm2 cm2 l l2 w) (hv:dH w w.heap.size A n c l) (hv2:dH w w.heap.size A2 n2 c2 l2):
  Calls prog 46 #[.agg #[.slice A n c,.slice Am nm cm],.agg #[.slice A2 n2 c2,.slice Am2 nm2 cm2]] w fun e w'=>e= .returned (.int .i64 (Lb.cmpL l l2))∧Gr w w':=by
 have V:=Al hv;have V2:=Al hv2;clear hv hv2;go_enter func46,ntmps46;have hg:=((Gr.refl w).alloc (.cells #[.slice A n c,.slice Am nm cm] 57)).alloc (.cells #[.slice A2 n2 c2,.slice Am2 nm2 cm2] 57);have LC:=Al (yF A A2 n c n2 c2 l l2 _ ((V.1.below hg.below).more hg.size) ((V2.1.below hg.below).more hg.size));have G:=Al hg;clear hg;go_wp2_with (go_at_call 95;refine LC.1.mono ?_;rintro e w1 ⟨rfl,g1⟩;have G1:=Al (G.1.trans g1);clear g1);go_ret;exact⟨rfl,G1.1⟩
theorem qF (A n c B b w) (hv:fK w B A n c b) (hB:B≤w.heap.size) (hs:Bk.bu b≤1000000000000):
  Calls prog 31 #[.slice A n c] w fun e w'=>e= .returned (.int .i64 (Bk.bu b:Int))∧Gr w w':=by
 obtain⟨hlc,hcm⟩:=hv.cap;unfold maxLen at hcm;have hn:=Al hv.len;have V:=Al hv;clear hv;go_enter func31,ntmps31;go_wp2;go_loopw [3,8] (fun s i wr=>∃k m:Nat,k≤n∧i= .int .i64 k∧s= .int .i64 m∧Kept (m=Bk.bu (b.take k))∧Gr w wr) (fun _ i _=>n-(intOf i).toNat)
 case atStart=>exact⟨0,0,om,rfl,rfl,⟨rfl⟩,Gr.refl w⟩
 case round=>
  obtain⟨k,m,hk,rfl,rfl,hm,gr⟩:=hrel;have G:=Al gr;by_cases hlt:k<n
  ·have hkl:k<b.length:=by rw[←hn.1];exact hlt
   obtain⟨b0,off,A1,n1,c1,A2,n2,c2,rfl,h1,h2,hc⟩:=V.1.cells hB hkl;obtain⟨r0,r1⟩:=hc wr gr.below;have h3:=Bk.tL b k hkl;have h4:=Bk.qE b (k+1);have h5:=h2.len;have hmn:m+n2≤1000000000000:=by have:=hm.1;omega
   have hm2:Kept (m+n2=Bk.bu (b.take (k+1))):=⟨by have:=hm.1;omega⟩
   clear h1 h2 hc gr h3 h4 h5;go_wp2;go_roundw
   case rel=>exact⟨k+1,m+n2,om,by go_num,by go_num,hm2,G.1.alloc _⟩
   case measure=>simp[intOf];omega
  ·have he:Kept (m=Bk.bu b):=⟨by have:=hm.1;rw[jc (by have:=hn.1;omega)]at this;exact this⟩
   clear gr;go_wp2;go_ret;exact⟨gF (by rw[he.1]),G.1⟩
theorem tO (A n c B b w) (hv:fK w B A n c b) (hB:B≤w.heap.size) (hs:Bk.bu b≤1000000000000):
  Calls prog 43 #[.slice A n c] w fun e w'=>e= .returned (.int .i64 (if 1048576<b.length∨16777216<Bk.bu b then 7 else 0))∧Gr w w':=by
 have SM:=Al (qF A n c B b w hv hB hs);have hn:=hv.len;obtain⟨hlc,hcm⟩:=hv.cap;unfold maxLen at hcm;rw[←hn];generalize Bk.bu b=m at*;clear hv hn;by_cases h1:1048576<n
 ·have h1':(1048576:Int)< (n:Int):=by omega
  rw[Ps0 (.inl h1)];go_enter func43,ntmps43;go_wp2;go_ret;exact⟨rfl,Gr.refl w⟩
 ·have h1':¬(1048576:Int)< (n:Int):=by omega
  by_cases h2:16777216<m
  ·have h2':(16777216:Int)< (m:Int):=by omega
   rw[Ps0 (.inr h2)];go_enter func43,ntmps43;go_wp2_with (go_at_call 31;refine SM.1.mono ?_;rintro e w1 ⟨rfl,g1⟩;have G1:=Al g1;clear g1);go_ret;exact⟨rfl,G1.1⟩
  ·have h2':¬(16777216:Int)< (m:Int):=by omega
   rw[Ng om];go_enter func43,ntmps43;go_wp2_with (go_at_call 31;refine SM.1.mono ?_;rintro e w1 ⟨rfl,g1⟩;have G1:=Al g1;clear g1);go_ret;exact⟨rfl,G1.1⟩
end
section
open Go.RowKit Go.Shelf
namespace Bk
theorem gZ {X} [Inhabited X] (f:X→X→Int) (q l):bH f q l 0=0:=rfl
theorem tQ {X:Type} [Inhabited X] (f:X→X→Int) (q:Int) {l:List X} {k:Nat} (hk:k<l.length) (h0:k≠0):
  bH f q l k=if f (l[k-1]'om) l[k]=0 then q else if 0<f (l[k-1]'om) l[k]then 16 else 0:=by
 unfold bH;rw[Ng h0,gd hk,gd (show k-1<l.length from om)]
theorem Jq {X} [Inhabited X] {f:X→X→Int} {q l k} (h:∀j,j<k→bH f q l j=0) (hk:bH f q l k=0):∀j,j<k+1→bH f q l j=0:=fun j hj=>by
 by_cases e:j=k
 ·subst e;exact hk
 ·exact h j om
theorem rO {X:Type} [Inhabited X] {f:X→X→Int} {q:Int} {l:List X} {k:Nat} (hk:k<l.length) (h0:k≠0) (hq:q≠0) (h:∀j,j<k→bH f q l j=0):
  (f (l[k-1]'om) l[k]=0∧qY f q l=q)∨(0<f (l[k-1]'om) l[k]∧qY f q l=16)∨(f (l[k-1]'om) l[k]<0∧∀j,j<k+1→bH f q l j=0):=by
 have e:=tQ f q hk h0;by_cases h1:f (l[k-1]'om) l[k]=0
 ·rw[Ps0 h1]at e;exact .inl ⟨h1,(Lb.bq _ _ k hk h (by rw[e];exact hq)).trans e⟩
 ·rw[Ng h1]at e;by_cases h2:0<f (l[k-1]'om) l[k]
  ·rw[Ps0 h2]at e;exact .inr (.inl ⟨h2,(Lb.bq _ _ k hk h (by rw[e];decide)).trans e⟩)
  ·rw[Ng h2]at e;exact .inr (.inr ⟨om,Jq h e⟩)
theorem nY {X} [Inhabited X] {f:X→X→Int} {q l} (h:∀j,j<l.length→bH f q l j=0):qY f q l=0:=Lb.bU _ _ h
end Bk
theorem fO.cells {w B n c k A l} (h:fO w B A n c l) (hB:B≤w.heap.size) (hk:k<l.length):
  ∃b off,A=some ⟨b,off,none⟩∧∀W,Below w.heap.size w W→W.cell? ⟨b,off+k*2,none⟩=some (.int .i64 l[k].1)∧W.cell? ⟨b,off+k*2+1,none⟩=some (.int .u64 (l[k].2:Int)):=by
 obtain⟨b,off,e,hb,h1,h2⟩:=h.at_ hk;exact⟨b,off,e,fun W hW=>⟨(hW.cell (p:=⟨b,_,none⟩) (by show b<_;omega)).trans h1,(hW.cell (p:=⟨b,_,none⟩) (by show b<_;omega)).trans (by rw[iw];exact h2)⟩⟩
theorem QZ (A n c B) (l:Cs.fI) (q w) (hv:fO w B A n c l) (hB:B≤w.heap.size) (hq:q≠0):
  Calls prog 93 #[.slice A n c,.func (.func 94) #[] #[],.int .i64 q] w fun e w'=>e= .returned (.int .i64 (Bk.qY Bk.fJ q l))∧Gr w w':=by
 have mixed:prog.follows .mixedOrders=true:=kr;have hlc:=hv.1;have hcm:=hv.2.1;unfold maxLen at hcm;have hn:=Al hv.len;have V:=Al hv;have HQ:=Al hq;obtain⟨r,hr⟩:∃r,r=Bk.qY Bk.fJ q l:=⟨_,rfl⟩
 rw[←hr];have HR:=Al hr;clear hv hq hr;go_enter func93,ntmps93;go_wp2;go_step3;go_wp2;go_step3;go_wp2;go_loopw [7,8] (fun e i wr=>∃k:Nat,1≤k∧(k≤n∨k=1)∧e= .int .i64 0∧i= .int .i64 k∧Kept (∀j,j<k→Bk.bH Bk.fJ q l j=0)∧Gr w wr) (fun _ i _=>n-(intOf i).toNat)
 case atStart=>exact⟨1,om,.inr rfl,rfl,rfl,⟨fun j hj=>by rw[show j=0 from om];exact Bk.gZ _ _ _⟩,Gr.refl w⟩
 case round=>
  obtain⟨k,hk1,hkn,rfl,rfl,hd,gr⟩:=hrel;have G:=Al gr;by_cases hlt:k<n
  ·have hkl:k<l.length:=by rw[←hn.1];exact hlt
   have nT:k-1<l.length:=om;obtain⟨b,off,rfl,hc⟩:=V.1.cells hB hkl;obtain⟨b',off',e',hp⟩:=V.1.cells hB nT;simp only[gU,Ce,BO]at e';obtain⟨rfl,rfl⟩:=e';have hcase:=Al (Bk.rO (f:=Bk.fJ) (q:=q) hkl om HQ.1 hd.1);rw[←HR.1]at hcase;have BT:=Al (fun W=>tN l[k-1] l[k] W);have ek:(k:Int)-1=((k-1:Nat):Int):=om;have Nz:((k-1:Nat):Int)< (n:Int):=om;have ew:IntKind.i64.wrap ((k-1:Nat):Int)=((k-1:Nat):Int):=by rw[AZ];omega
   have f0:=fun n os=>(hc (Sort.grow (wr.drewN n) os) (gr.trans ⟨n,os,rfl⟩).below).1
   have f1:=fun n os=>(hc (Sort.grow (wr.drewN n) os) (gr.trans ⟨n,os,rfl⟩).below).2
   have p0:=fun n os=>(hp (Sort.grow (wr.drewN n) os) (gr.trans ⟨n,os,rfl⟩).below).1
   have p1:=fun n os=>(hp (Sort.grow (wr.drewN n) os) (gr.trans ⟨n,os,rfl⟩).below).2
   clear hc hp gr;generalize Bk.fJ l[k-1] l[k]=s at*;generalize l[k]=x at*;generalize l[k-1]=y at*;go_wp2_with fail;go_quiet_grown (first|(go_at_call 94;refine BU (BT.1 _)));clear f0 f1 p0 p1 BT;rcases hcase.1 with⟨rfl,hres⟩|⟨hs,hres⟩|⟨hs,hd2⟩
   ·have hres:=Al hres;go_wp2
    (try rw[Exit.noGoto_ret]);go_ret
    exact⟨by first|rfl|(rw[hres.1];rfl),G.1.trans ⟨_,_,rfl⟩⟩
   ·have hres:=Al hres;have hs0:(s==0)=false:=by simp;omega
    go_wp2
    (try rw[Exit.noGoto_ret]);go_ret
    exact⟨by first|rfl|(rw[hres.1];rfl),G.1.trans ⟨_,_,rfl⟩⟩
   ·have hd2:=Al hd2;have hs0:(s==0)=false:=by simp;omega
    have hs1:¬0<s:=om;go_wp2;go_roundw
    case rel=>exact⟨k+1,om,.inl om,rfl,by go_num,hd2,G.1.trans ⟨_,_,rfl⟩⟩
    case measure=>simp[intOf];omega
  ·have hd2:Kept (r=0):=⟨HR.1.trans (Bk.nY fun j hj=>hd.1 j (by have:=hn.1;omega))⟩
   clear gr;go_wp2
   (try rw[Exit.noGoto_ret]);go_ret
   exact⟨by first|(rw[hd2.1];rfl)|exact gF hd2.1.symm,G.1⟩
end
section
open Go.RowKit Go.Shelf
theorem Jr (hs k):(ax hs).drop (k*2)=ax (hs.drop k):=by
 unfold ax
 induction k generalizing hs with
 |zero=>simp
 |succ k ih=>
  cases hs with
  |nil=>simp
  |cons x hs=>
   rw[Av,BP,←ih hs,Nat.succ_mul]
   rfl
theorem Js (hs k):(ax hs).take (k*2)=ax (hs.take k):=by
 unfold ax
 induction k generalizing hs with
 |zero=>simp
 |succ k ih=>
  cases hs with
  |nil=>simp
  |cons x hs=>
   rw[Av,Cb,Av,←ih hs,Nat.succ_mul]
   rfl
theorem fK.sub {w B n c lo hi A b} (h:fK w B A n c b) (h1:lo≤hi) (h2:hi≤n):
  fK w B (if c=lo then A else A.map (·.add (lo*2))) (hi-lo) (c-lo) ((b.take hi).drop lo):=by
 have hn:=h.len;obtain⟨hs,g1,g2,g3⟩:=h;have e1:=(g1.take h2).drop h1;rw[Js,Jr]at e1;refine⟨_,e1,by simp[g2],fun i a a'=>?_⟩;have ha:lo+i<hs.length:=by simp at a;omega
 obtain⟨A1,n1,c1,A2,n2,c2,q1,q2,q3⟩:=g3 (lo+i) ha om;refine⟨A1,n1,c1,A2,n2,c2,by simpa using q1,by simpa using q2,by simpa using q3⟩
theorem FH (A n c B l q w) (hv:fK w B A n c l) (hB:B≤w.heap.size) (hq:q≠0):
  Calls prog 45 #[.slice A n c,.func (.func 46) #[] #[],.int .i64 q] w fun e w'=>e= .returned (.int .i64 (Bk.qY Bk.bE q l))∧Gr w w':=by
 have mixed:prog.follows .mixedOrders=true:=kr;obtain⟨hlc,hcm⟩:=hv.cap;unfold maxLen at hcm;have hn:=Al hv.len;have V:=Al hv;have HQ:=Al hq;obtain⟨r,hr⟩:∃r,r=Bk.qY Bk.bE q l:=⟨_,rfl⟩
 rw[←hr];have HR:=Al hr;clear hv hq hr;go_enter func45,ntmps45;go_wp2;go_step3;go_wp2;go_step3;go_wp2;go_loopw [7,8] (fun e i wr=>∃k:Nat,1≤k∧(k≤n∨k=1)∧e= .int .i64 0∧i= .int .i64 k∧Kept (∀j,j<k→Bk.bH Bk.bE q l j=0)∧Gr w wr) (fun _ i _=>n-(intOf i).toNat)
 case atStart=>exact⟨1,om,.inr rfl,rfl,rfl,⟨fun j hj=>by rw[show j=0 from om];exact Bk.gZ _ _ _⟩,Gr.refl w⟩
 case round=>
  obtain⟨k,hk1,hkn,rfl,rfl,hd,gr⟩:=hrel;have G:=Al gr;by_cases hlt:k<n
  ·have hkl:k<l.length:=by rw[←hn.1];exact hlt
   have nT:k-1<l.length:=om;obtain⟨b,off,A1,n1,c1,A2,n2,c2,rfl,hL,-,hc⟩:=V.1.cells hB hkl;obtain⟨b',off',A3,n3,c3,A4,n4,c4,e',hL',-,hp⟩:=V.1.cells hB nT;simp only[gU,Ce,BO]at e';obtain⟨rfl,rfl⟩:=e';have hcase:=Al (Bk.rO (f:=Bk.bE) (q:=q) hkl om HQ.1 hd.1);rw[←HR.1]at hcase;have BT:=Al (fun W (g:Gr w W)=>xw A3 A1 A4 A2 n3 c3 n1 c1 n4 c4 n2 c2 l[k-1].1 l[k].1 W ((hL'.below (g.below.mono hB)).more (Lt hB g.size)) ((hL.below (g.below.mono hB)).more (Lt hB g.size)));have hcs:Bk.bE l[k-1] l[k]=Lb.cmpL l[k-1].1 l[k].1:=rfl;rw[hcs]at hcase;have ek:(k:Int)-1=((k-1:Nat):Int):=om;have Nz:((k-1:Nat):Int)< (n:Int):=om;have ew:IntKind.i64.wrap ((k-1:Nat):Int)=((k-1:Nat):Int):=by rw[AZ];omega
   have f0:=fun n os=>(hc (Sort.grow (wr.drewN n) os) (gr.trans ⟨n,os,rfl⟩).below).1
   have f1:=fun n os=>(hc (Sort.grow (wr.drewN n) os) (gr.trans ⟨n,os,rfl⟩).below).2
   have p0:=fun n os=>(hp (Sort.grow (wr.drewN n) os) (gr.trans ⟨n,os,rfl⟩).below).1
   have p1:=fun n os=>(hp (Sort.grow (wr.drewN n) os) (gr.trans ⟨n,os,rfl⟩).below).2
   have BG:=Al (fun n os=>BT.1 (Sort.grow (wr.drewN n) os) (gr.trans ⟨n,os,rfl⟩));clear hc hp gr BT hL hL' hcs;generalize Lb.cmpL l[k-1].1 l[k].1=s at*;go_wp2_with fail;go_quiet_grown (first|(go_at_call 46;refine BU (BG.1 _ _)));clear f0 f1 p0 p1 BG;rcases hcase.1 with⟨rfl,hres⟩|⟨hs,hres⟩|⟨hs,hd2⟩
   ·have hres:=Al hres;go_wp2
    (try rw[Exit.noGoto_ret]);go_ret
    exact⟨by first|rfl|(rw[hres.1];rfl),G.1.trans ⟨_,_,rfl⟩⟩
   ·have hres:=Al hres;have hs0:(s==0)=false:=by simp;omega
    go_wp2
    (try rw[Exit.noGoto_ret]);go_ret
    exact⟨by first|rfl|(rw[hres.1];rfl),G.1.trans ⟨_,_,rfl⟩⟩
   ·have hd2:=Al hd2;have hs0:(s==0)=false:=by simp;omega
    have hs1:¬0<s:=om;go_wp2;go_roundw
    case rel=>exact⟨k+1,om,.inl om,rfl,by go_num,hd2,G.1.trans ⟨_,_,rfl⟩⟩
    case measure=>simp[intOf];omega
  ·have hd2:Kept (r=0):=⟨HR.1.trans (Bk.nY fun j hj=>hd.1 j (by have:=hn.1;omega))⟩
   clear gr;go_wp2
   (try rw[Exit.noGoto_ret]);go_ret
   exact⟨by first|(rw[hd2.1];rfl)|exact gF hd2.1.symm,G.1⟩
theorem nZ (A A2 n c n2 c2 B L) (S:Cs.fI) (w) (hv:dH w B A n c L) (hm:fO w B A2 n2 c2 S) (hB:B≤w.heap.size) (hf:Lb.Fit L):
  Calls prog 44 #[.agg #[.slice A n c,.slice A2 n2 c2]] w fun e w'=>e= .returned (.int .i64 (Bk.one (L,S)))∧Gr w w':=by
 have hlc:=hm.1;have hcm:=hm.2.1;unfold maxLen at hcm;have hn:=hm.len;obtain⟨W,hW⟩:∃W,W=w.alloc (.cells #[.slice A n c,.slice A2 n2 c2] 57):=⟨_,rfl⟩
 have hg:Gr w W:=by rw[hW];exact(Gr.refl w).alloc _
 have hr:W.heap[w.heap.size]? =some (.cells #[.slice A n c,.slice A2 n2 c2] 57 (0,0)):=by rw[hW];exact Aw w _
 have hsz:w.heap.size<W.heap.size:=by rw[hW];simp
 have LC:=Al (tC A n c B L W (hv.below (hg.below.mono hB)) (Lt hB hg.size) hf);have AS:=Al (fun W' (g:Gr w W')=>QZ A2 n2 c2 B S 20 W' (hm.below (g.below.mono hB)) (Lt hB g.size) Ai);have k0:=Co _ _ 0 _ _ _ hr;have k1:=Co _ _ 1 _ _ _ hr;have K1:=Al (show∀W',Gr W W'→W'.cell? ⟨w.heap.size,1,none⟩=some (.slice A2 n2 c2)from fun W' g=>(g.cell _ 1 hsz).trans k1);have HW:=Al hW.symm;have G:=Al hg;clear hv hm hf hr hW;have hone:Bk.one (L,S)=if Lb.bN L≠0 then Lb.bN L else if S=[]then 21 else Bk.qY Bk.fJ 20 S:=rfl;have hS:S=[]↔n2=0:=by rw[hn];exact⟨fun h=>by rw[h];rfl,qU⟩
 rw[hone];generalize Lb.bN L=e at*;generalize Bk.qY Bk.fJ 20 S=f at*;by_cases he:e=0
 ·subst he;rw[Ng Ah];by_cases h0:n2=0
  ·rw[Ps0 (hS.2 h0)];subst h0;clear hS hone hn;go_enter func44,ntmps44;go_wp2_with (go_at_call 92;rw[HW.1];refine LC.1.mono ?_;rintro e w1 ⟨rfl,g1⟩;have G1:=Al (G.1.trans g1);have k2:=K1.1 _ g1;clear g1);go_ret;exact⟨rfl,G1.1⟩
  ·rw[Ng (fun h=>h0 (hS.1 h))];have h0':((n2:Int)==0)=false:=by simp;omega
   clear hS hone hn;go_enter func44,ntmps44;go_wp2_with (first
    |(go_at_call 93;refine(AS.1 w1 G1.1).mono ?_;rintro e w2 ⟨rfl,g2⟩;have G2:=Al (G1.1.trans g2);clear g2)
    |(go_at_call 92;rw[HW.1];refine LC.1.mono ?_;rintro e w1 ⟨rfl,g1⟩;have G1:=Al (G.1.trans g1);have k2:=K1.1 _ g1;clear g1))
   go_ret;exact⟨rfl,G2.1⟩
 ·rw[Ps0 he];have he':(e !=0)=true:=by simpa using he
  clear hS hone hn he;go_enter func44,ntmps44;go_wp2_with (go_at_call 92;rw[HW.1];refine LC.1.mono ?_;rintro e w1 ⟨rfl,g1⟩;have G1:=Al (G.1.trans g1);have k2:=K1.1 _ g1;clear g1);go_ret;exact⟨rfl,G1.1⟩
end
section
open Go.RowKit Go.Shelf
namespace Bk
theorem sub_zero {b:gN} (h:0<b.length):qY bE 19 ((b.take 1).drop 0)=bH bE 19 b 0:=by
 obtain⟨x,l,rfl⟩:∃x l,b=x::l:=by
  cases b with
  |nil=>simp at h
  |cons x l=>exact⟨x,l,rfl⟩
 rfl
theorem Jt (f) (h:f 0=0):Lb.fV f 2=f 1:=by
 by_cases h1:f 1=0
 ·rw[Lb.bU f 2 fun j hj=>by
   have:j=0∨j=1:=om;rcases this with rfl|rfl
   ·exact h
   ·exact h1,h1]
 ·exact Lb.bq f 2 1 om (fun j hj=>by rw[show j=0 from om];exact h) h1
theorem sub_pos {b:gN} {k} (hk:k<b.length) (h0:k≠0):qY bE 19 ((b.take (k+1)).drop (k-1))=bH bE 19 b k:=by
 have hl:((b.take (k+1)).drop (k-1)).length=2:=by simp;omega
 unfold qY;rw[hl,Jt (bH bE 19 ((b.take (k+1)).drop (k-1))) (gZ _ _ _),tQ bE 19 (show 1< ((b.take (k+1)).drop (k-1)).length from om) om,tQ bE 19 hk h0];have e0:((b.take (k+1)).drop (k-1))[1-1]'om=b[k-1]:=Ah;have e1:((b.take (k+1)).drop (k-1))[1]'om=b[k]:=by
  rw[Dc,List.getElem_take]
  congr 1
  omega
 rw[e0,e1]
theorem Lj {b k} (hk:k<b.length) (h:one b[k]≠0):zY b k=one b[k]:=by
 unfold zY;rw[gd hk,Ps0 h]
theorem Ll {b k} (hk:k<b.length) (h:one b[k]=0):zY b k=bH bE 19 b k:=by
 unfold zY;rw[gd hk,Ng (by simpa using h)]
theorem yR {b k} (h:∀j,j<k→zY b j=0) (hk:zY b k=0):∀j,j<k+1→zY b j=0:=fun j hj=>by
 by_cases e:j=k
 ·subst e;exact hk
 ·exact h j om
end Bk
theorem tV (A n c B b w) (hv:fK w B A n c b) (hB:B≤w.heap.size) (hs:Bk.bu b≤1000000000000) (hf:∀s∈b,Lb.Fit s.1):
  Calls prog 17 #[.slice A n c] w fun e w'=>e= .returned (.int .i64 (Bk.bN b))∧Gr w w':=by
 have CK:=Al (tO A n c B b w hv hB hs);obtain⟨hlc,hcm⟩:=hv.cap;unfold maxLen at hcm;have hn:=Al hv.len;have V:=Al hv;have F:=Al hf;obtain⟨r,hr⟩:∃r,r=Bk.bN b:=⟨_,rfl⟩
 rw[←hr];by_cases hlim:1048576<b.length∨16777216<Bk.bu b
 ·have hr7:r=7:=by rw[hr];unfold Bk.bN;rw[Ps0 hlim]
  rw[Ps0 hlim]at CK;subst hr7;clear hv hf hs hr hlim;go_enter func17,ntmps17;go_wp2_with (go_at_call 43;refine CK.1.mono ?_;rintro e w1 ⟨rfl,g1⟩;have G1:=Al g1;clear g1);go_ret;exact⟨rfl,G1.1⟩
 ·have HR:Kept (r=Lb.fV (Bk.zY b) b.length):=⟨by rw[hr];unfold Bk.bN;rw[Ng hlim]⟩
  rw[Ng hlim]at CK;clear hv hf hs hr hlim;go_enter func17,ntmps17;go_wp2_with (go_at_call 43;refine CK.1.mono ?_;rintro e w1 ⟨rfl,g1⟩;have G1:=Al g1;clear g1);go_loopw [15] (fun i wr=>∃k:Nat,k≤n∧i= .int .i64 k∧Kept (∀j,j<k→Bk.zY b j=0)∧Gr w wr) (fun i _=>n-(intOf i).toNat)
  case atStart=>exact⟨0,om,rfl,⟨fun j hj=>om⟩,G1.1⟩
  case round=>
   clear G1;obtain⟨k,hk,rfl,hd,gr⟩:=hrel;have G:=Al gr;by_cases hlt:k<n
   ·have hkl:k<b.length:=by rw[←hn.1];exact hlt
    obtain⟨b0,off,A1,n1,c1,A2,n2,c2,rfl,hL,hS,hc⟩:=V.1.cells hB hkl;obtain⟨r0,r1⟩:=hc wr gr.below;have SG:=Al (fun W (g:Gr w W)=>nZ A1 A2 n1 c1 n2 c2 B b[k].1 b[k].2 W (hL.below (g.below.mono hB)) (hS.below (g.below.mono hB)) (Lt hB g.size) (F.1 _ (dR hkl)));have hone:Bk.one (b[k].1,b[k].2)=Bk.one b[k]:=rfl;rw[hone]at SG;have ALN:Gr w (wr.alloc (.cells #[.slice A1 n1 c1,.slice A2 n2 c2] 57)):=gr.alloc _;have SG2:=Al (SG.1 _ ALN);have GAL:=Al ALN;clear hL hS hc gr hone ALN;by_cases h1:Bk.one b[k]=0
    ·have hst:=Bk.Ll hkl h1;rw[h1]at SG2;obtain⟨f,hfx⟩:∃f,f=Bk.bH Bk.bE 19 b k:=⟨_,rfl⟩
     rw[←hfx]at hst;have hst:=Al hst;have AK:Kept (∀W,Gr w W→Calls prog 45 #[.slice (some ⟨b0,off+(k-1)*2,none⟩) (k+1-(k-1)) (c-(k-1)),.func (.func 46) #[] #[],.int .i64 19] W fun e w'=>e= .returned (.int .i64 f)∧Gr W w'):=⟨fun W g=>by
      have h2:=V.1.sub (lo:=k-1) (hi:=k+1) om om;rw[Ng om]at h2;have h3:=FH _ _ _ B _ 19 W (h2.below (g.below.mono hB)) (Lt hB g.size) Ai;have e:Bk.qY Bk.bE 19 ((b.take (k+1)).drop (k-1))=f:=by
       by_cases h0:k=0
       ·subst h0;rw[hfx];exact Bk.sub_zero hkl
       ·rw[hfx];exact Bk.sub_pos hkl h0
      rw[e,EF,add_plain]at h3;exact h3⟩
     clear hfx;by_cases h0:k=0
     ·subst h0;simp only[Nat.zero_mul,DD]at r0 r1;have AK0:Kept (∀W,Gr w W→Calls prog 45 #[.slice (some ⟨b0,off,none⟩) 1 c,.func (.func 46) #[] #[],.int .i64 19] W fun e w'=>e= .returned (.int .i64 f)∧Gr W w'):=AK;have hc1:¬c=0:=om;clear AK h1;by_cases hf0:f=0
      ·subst hf0;have hd2:=Al (Bk.yR hd.1 hst.1);clear hst;go_wp2_with (first
        |(go_at_call 45;refine(AK0.1 w2 G2.1).mono ?_;rintro e w3 ⟨rfl,g3⟩;have G3:=Al (G2.1.trans g3);clear g3)
        |(go_at_call 44;refine SG2.1.mono ?_;rintro e w2 ⟨rfl,g2⟩;have G2:=Al (GAL.1.trans g2);clear g2))
       go_roundw
       case rel=>exact⟨1,om,by go_num,hd2,G3.1⟩
       case measure=>simp[intOf];omega
      ·have hd2:Kept (r=f):=⟨HR.1.trans ((Lb.bq _ _ 0 hkl hd.1 (by rw[hst.1];exact hf0)).trans hst.1)⟩
       have hf1:(f !=0)=true:=by simpa using hf0
       clear hst hf0;go_wp2_with (first
        |(go_at_call 45;refine(AK0.1 w2 G2.1).mono ?_;rintro e w3 ⟨rfl,g3⟩;have G3:=Al (G2.1.trans g3);clear g3)
        |(go_at_call 44;refine SG2.1.mono ?_;rintro e w2 ⟨rfl,g2⟩;have G2:=Al (GAL.1.trans g2);clear g2))
       go_ret;exact⟨gF hd2.1.symm,G3.1⟩
     ·have AK0:=Al AK.1;have hc1:¬c=k-1:=om;have ek:(k:Int)-1=((k-1:Nat):Int):=om;have ek4:¬(((k-1:Nat):Int)<0):=om;have ek5:((k-1:Nat):Int).toNat=k-1:=om;clear AK h1;by_cases hf0:f=0
      ·subst hf0;have hd2:=Al (Bk.yR hd.1 hst.1);clear hst;go_wp2_with (first
        |(go_at_call 45;refine(AK0.1 w2 G2.1).mono ?_;rintro e w3 ⟨rfl,g3⟩;have G3:=Al (G2.1.trans g3);clear g3)
        |(go_at_call 44;refine SG2.1.mono ?_;rintro e w2 ⟨rfl,g2⟩;have G2:=Al (GAL.1.trans g2);clear g2))
       go_roundw
       case rel=>exact⟨k+1,om,by go_num,hd2,G3.1⟩
       case measure=>simp[intOf];omega
      ·have hd2:Kept (r=f):=⟨HR.1.trans ((Lb.bq _ _ k hkl hd.1 (by rw[hst.1];exact hf0)).trans hst.1)⟩
       have hf1:(f !=0)=true:=by simpa using hf0
       clear hst hf0;go_wp2_with (first
        |(go_at_call 45;refine(AK0.1 w2 G2.1).mono ?_;rintro e w3 ⟨rfl,g3⟩;have G3:=Al (G2.1.trans g3);clear g3)
        |(go_at_call 44;refine SG2.1.mono ?_;rintro e w2 ⟨rfl,g2⟩;have G2:=Al (GAL.1.trans g2);clear g2))
       go_ret;exact⟨gF hd2.1.symm,G3.1⟩
    ·have hd2:Kept (r=Bk.one b[k]):=⟨HR.1.trans ((Lb.bq _ _ k hkl hd.1 (by rw[Bk.Lj hkl h1];exact h1)).trans (Bk.Lj hkl h1))⟩
     have h1':(Bk.one b[k] !=0)=true:=by simpa using h1
     clear h1;generalize Bk.one b[k]=s at*;go_wp2_with (go_at_call 44;refine SG2.1.mono ?_;rintro e w2 ⟨rfl,g2⟩;have G2:=Al (GAL.1.trans g2);clear g2);go_ret;exact⟨gF hd2.1.symm,G2.1⟩
   ·have hd2:Kept (r=0):=⟨HR.1.trans (Lb.bU _ _ fun j hj=>hd.1 j (by have:=hn.1;omega))⟩
    clear gr;go_wp2;go_ret;exact⟨gF hd2.1.symm,G.1⟩
end
section
open Go.RowKit Go.Shelf
theorem afI (t) (v:Nat) (w):Sem.run prog (binOp .neq 127 (.agg #[.int .i64 t,.int .u64 (v:Int)]) (.agg #[.int .i64 t,.int .u64 (v:Int)])) w= .ok (.bool false) w:=by
 have u3:=underlying2;have a3:=Tryz.isAgg2;have z3:=Tryz.sizeOf2;have u4:=underlying125;have a4:=Tryz.isAgg125;have z4:=Tryz.sizeOf125;have hS:prog.underlying 127=some (.struct (prog.fieldsOf 127)):=kr;have hp:prog.stoodInHeld 127=false:=kr;rw[run_neq_struct,show(10000:Nat)=9999+1 from rfl,run_equalIn_agg w 9999 127 _ _ hS hp];simp only[Program.fieldsOf,underlying127];go_simp
theorem ZB (op a b) (x y:II) (w):Sem.run prog (eqGuard op 127 a b (.agg #[.int .i64 x.1,.int .u64 (x.2:Int)]) (.agg #[.int .i64 y.1,.int .u64 (y.2:Int)])) w= .ok () w:=by
 exact GuardAt.agg (α:=II) (fun x:II=> #[.int .i64 x.1,.int .u64 (x.2:Int)]) kr op a b x y w
theorem NC (A A2 n c n2 c2 B B2) (l:Cs.fI) (w) (hv:fO w B A n c l) (hv2:fO w B2 A2 n2 c2 l) (hB:B≤w.heap.size) (hB2:B2≤w.heap.size):
  Calls prog 40 #[.slice A n c,.slice A2 n2 c2] w fun e w'=>e= .returned (.bool true)∧Gr w w':=by
 have mixed:prog.follows .mixedOrders=true:=kr;obtain rfl:n2=n:=by rw[hv.len,hv2.len]
 have hlc:=hv.1;have hcm:=hv.2.1;have Nv:=hv2.1;have hcm2:=hv2.2.1;unfold maxLen at hcm hcm2;have hn:=Al hv.len;have V:=Al hv;have V2:=Al hv2;clear hv hv2;go_enter func40,ntmps40;go_wp2;go_loopw [5] (fun i wr=>∃k:Nat,k≤n2∧i= .int .i64 k∧Gr w wr) (fun i _=>n2-(intOf i).toNat)
 case atStart=>exact⟨0,om,rfl,Gr.refl w⟩
 case round=>
  obtain⟨k,hk,rfl,gr⟩:=hrel;have G:=Al gr;by_cases hlt:k<n2
  ·have hkl:k<l.length:=by rw[←hn.1];exact hlt
   obtain⟨b,off,rfl,hc⟩:=V.1.cells hB hkl;obtain⟨b2,vM,rfl,hp⟩:=V2.1.cells hB2 hkl;have f0:=fun n os=>(hc (Sort.grow (wr.drewN n) os) (gr.trans ⟨n,os,rfl⟩).below).1
   have f1:=fun n os=>(hc (Sort.grow (wr.drewN n) os) (gr.trans ⟨n,os,rfl⟩).below).2
   have p0:=fun n os=>(hp (Sort.grow (wr.drewN n) os) (gr.trans ⟨n,os,rfl⟩).below).1
   have p1:=fun n os=>(hp (Sort.grow (wr.drewN n) os) (gr.trans ⟨n,os,rfl⟩).below).2
   clear hc hp gr;generalize l[k]=x at*;obtain⟨t,v⟩:=x;simp only[]at f0 f1 p0 p1;have NE:=afI t v;have GD:=ZB;go_wp2_with fail;go_quiet_grown (fail);clear f0 f1 p0 p1;go_wp2;go_roundw
   case rel=>exact⟨k+1,om,by go_num,G.1.trans ⟨_,_,rfl⟩⟩
   case measure=>simp[intOf];omega
  ·clear gr;go_wp2;go_ret;exact⟨rfl,G.1⟩
theorem Ju (A A2 n c n2 c2 B B2 l w) (hv:fK w B A n c l) (hv2:fK w B2 A2 n2 c2 l) (hB:B≤w.heap.size) (hB2:B2≤w.heap.size):
  Calls prog 15 #[.slice A n c,.slice A2 n2 c2] w fun e w'=>e= .returned (.bool true)∧Gr w w':=by
 have mixed:prog.follows .mixedOrders=true:=kr;obtain rfl:n2=n:=by rw[hv.len,hv2.len]
 obtain⟨hlc,hcm⟩:=hv.cap;obtain⟨Nv,hcm2⟩:=hv2.cap;unfold maxLen at hcm hcm2;have hn:=Al hv.len;have V:=Al hv;have V2:=Al hv2;clear hv hv2;go_enter func15,ntmps15;go_wp2;go_loopw [5] (fun i wr=>∃k:Nat,k≤n2∧i= .int .i64 k∧Gr w wr) (fun i _=>n2-(intOf i).toNat)
 case atStart=>exact⟨0,om,rfl,Gr.refl w⟩
 case round=>
  obtain⟨k,hk,rfl,gr⟩:=hrel;have G:=Al gr;by_cases hlt:k<n2
  ·have hkl:k<l.length:=by rw[←hn.1];exact hlt
   obtain⟨b,off,A1,n1,c1,A3,n3,c3,rfl,hL,hM,hc⟩:=V.1.cells hB hkl;obtain⟨b2,vM,A4,n4,c4,A5,n5,c5,rfl,hL2,hM2,hp⟩:=V2.1.cells hB2 hkl;have f0:=fun n os=>(hc (Sort.grow (wr.drewN n) os) (gr.trans ⟨n,os,rfl⟩).below).1
   have f1:=fun n os=>(hc (Sort.grow (wr.drewN n) os) (gr.trans ⟨n,os,rfl⟩).below).2
   have p0:=fun n os=>(hp (Sort.grow (wr.drewN n) os) (gr.trans ⟨n,os,rfl⟩).below).1
   have p1:=fun n os=>(hp (Sort.grow (wr.drewN n) os) (gr.trans ⟨n,os,rfl⟩).below).2
   have hself:Lb.cmpL l[k].1 l[k].1=0:=Lb.jq.2 rfl;have CC:=Al (fun n os=>by
    have g:=gr.trans (show Gr wr (Sort.grow (wr.drewN n) os)from⟨n,os,rfl⟩);have:=fe A1 A4 n1 c1 n4 c4 l[k].1 l[k].1 _ ((hL.below (g.below.mono hB)).more (Lt hB g.size)) ((hL2.below (g.below.mono hB2)).more (Lt hB2 g.size));rw[hself]at this;exact this)
   have CS:=Al (fun n os=>by
    have g:=gr.trans (show Gr wr (Sort.grow (wr.drewN n) os)from⟨n,os,rfl⟩);exact NC A3 A5 n3 c3 n5 c5 B B2 l[k].2 _ (hM.below (g.below.mono hB)) (hM2.below (g.below.mono hB2)) (Lt hB g.size) (Lt hB2 g.size))
   clear hc hp gr hL hM hL2 hM2 hself;go_wp2_with fail;go_quiet_grown (first
    |(go_at_call 39;refine BU (CC.1 _ _))
    |(go_at_call 40;refine BU (CS.1 _ _)))
   clear f0 f1 p0 p1 CC CS;go_wp2;go_roundw
   case rel=>exact⟨k+1,om,by go_num,G.1.trans ⟨_,_,rfl⟩⟩
   case measure=>simp[intOf];omega
  ·clear gr;go_wp2;go_ret;exact⟨rfl,G.1⟩
theorem ja (A n c B b w) (hv:fK w B A n c b) (hB:B≤w.heap.size) (hs:Bk.bu b≤1000000000000):
  Calls prog 32 #[.slice A n c] w fun e w'=>e= .returned (.int .i64 (Bk.bu b:Int))∧Gr w w':=by
 obtain⟨hlc,hcm⟩:=hv.cap;unfold maxLen at hcm;have hn:=Al hv.len;have V:=Al hv;clear hv;go_enter func32,ntmps32;go_wp2;go_loopw [3,4] (fun s i wr=>∃k m:Nat,k≤n∧i= .int .i64 k∧s= .int .i64 m∧Kept (m=Bk.bu (b.take k))∧Gr w wr) (fun _ i _=>n-(intOf i).toNat)
 case atStart=>exact⟨0,0,om,rfl,rfl,⟨rfl⟩,Gr.refl w⟩
 case round=>
  obtain⟨k,m,hk,rfl,rfl,hm,gr⟩:=hrel;have G:=Al gr;by_cases hlt:k<n
  ·have hkl:k<b.length:=by rw[←hn.1];exact hlt
   obtain⟨b0,off,A1,n1,c1,A2,n2,c2,rfl,h1,h2,hc⟩:=V.1.cells hB hkl;obtain⟨r0,r1⟩:=hc wr gr.below;have h3:=Bk.tL b k hkl;have h4:=Bk.qE b (k+1);have h5:=h2.len;have hmn:m+n2≤1000000000000:=by have:=hm.1;omega
   have hm2:Kept (m+n2=Bk.bu (b.take (k+1))):=⟨by have:=hm.1;omega⟩
   clear h1 h2 hc gr h3 h4 h5;go_wp2;go_roundw
   case rel=>exact⟨k+1,m+n2,om,by go_num,by go_num,hm2,G.1⟩
   case measure=>simp[intOf];omega
  ·have he:Kept (m=Bk.bu b):=⟨by have:=hm.1;rw[jc (by have:=hn.1;omega)]at this;exact this⟩
   clear gr;go_wp2;go_ret;exact⟨gF (by rw[he.1]),G.1⟩
theorem og (A n c B b w) (hv:fK w B A n c b) (hB:B≤w.heap.size) (hs:Bk.bu b≤1000000000000):
  Calls prog 60 #[.slice A n c] w fun e w'=>e= .returned (.bool (decide (1048576<b.length∨16777216<Bk.bu b)))∧Gr w w':=by
 have SM:=Al (ja A n c B b w hv hB hs);have hn:=hv.len;obtain⟨hlc,hcm⟩:=hv.cap;unfold maxLen at hcm;rw[←hn];generalize Bk.bu b=m at*;clear hv hn;by_cases h1:1048576<n
 ·have h1':(1048576:Int)< (n:Int):=by omega
  rw[BI (.inl h1)];go_enter func60,ntmps60;go_wp2;go_ret;exact⟨rfl,Gr.refl w⟩
 ·have h1':¬(1048576:Int)< (n:Int):=by omega
  by_cases h2:16777216<m
  ·have h2':(16777216:Int)< (m:Int):=by omega
   rw[BI (.inr h2)];go_enter func60,ntmps60;go_wp2_with (go_at_call 32;refine SM.1.mono ?_;rintro e w1 ⟨rfl,g1⟩;have G1:=Al g1;clear g1);go_ret;exact⟨rfl,G1.1⟩
  ·have h2':¬(16777216:Int)< (m:Int):=by omega
   rw[AA om];go_enter func60,ntmps60;go_wp2_with (go_at_call 32;refine SM.1.mono ?_;rintro e w1 ⟨rfl,g1⟩;have G1:=Al g1;clear g1);go_ret;exact⟨by first|rfl|(simp;omega),G1.1⟩
end
section
open Go.RowKit Go.Shelf
theorem qG (A n c B) (l:Cs.fI) (w) (hv:fO w B A n c l) (hB:B≤w.heap.size):
  Calls prog 63 #[.slice A n c] w fun e w'=>e= .returned (.int .i64 (Bk.qY Bk.fJ 20 l))∧Gr w w':=by
 have hlc:=hv.1;have hcm:=hv.2.1;unfold maxLen at hcm;have hn:=Al hv.len;have V:=Al hv;obtain⟨r,hr⟩:∃r,r=Bk.qY Bk.fJ 20 l:=⟨_,rfl⟩
 rw[←hr];have HR:=Al hr;clear hv hr;go_enter func63,ntmps63;go_wp2;go_loopw [3] (fun i wr=>∃k:Nat,1≤k∧(k≤n∨k=1)∧i= .int .i64 k∧Kept (∀j,j<k→Bk.bH Bk.fJ 20 l j=0)∧Gr w wr) (fun i _=>n-(intOf i).toNat)
 case atStart=>exact⟨1,om,.inr rfl,rfl,⟨fun j hj=>by rw[show j=0 from om];exact Bk.gZ _ _ _⟩,Gr.refl w⟩
 case round=>
  obtain⟨k,hk1,hkn,rfl,hd,gr⟩:=hrel;have G:=Al gr;by_cases hlt:k<n
  ·have hkl:k<l.length:=by rw[←hn.1];exact hlt
   have nT:k-1<l.length:=om;obtain⟨b,off,rfl,hc⟩:=V.1.cells hB hkl;obtain⟨b',off',e',hp⟩:=V.1.cells hB nT;simp only[gU,Ce,BO]at e';obtain⟨rfl,rfl⟩:=e';have hcase:=Al (Bk.rO (f:=Bk.fJ) (q:=20) hkl om Ai hd.1);rw[←HR.1]at hcase;have hcs:=Al (Bk.dA l[k-1] l[k]);have ek:(k:Int)-1=((k-1:Nat):Int):=om;have Nz:((k-1:Nat):Int)< (n:Int):=om;have ew:IntKind.i64.wrap ((k-1:Nat):Int)=((k-1:Nat):Int):=by rw[AZ];omega
   have CC:=Al (fun W (g:Gr w W)=>hc W g.below);have CP:=Al (fun W (g:Gr w W)=>hp W g.below);have f0:=(CC.1 wr gr).1;have p0:=(CP.1 wr gr).1;clear hc hp gr;generalize Bk.fJ l[k-1] l[k]=s at*;generalize l[k]=x at*;generalize l[k-1]=y at*;obtain⟨x,xv⟩:=x;obtain⟨y,yv⟩:=y;simp only[]at CC CP hcs f0 p0;rcases hcase.1 with⟨hs,hres⟩|⟨hs,hres⟩|⟨hs,hd2⟩
   ·have hres:=Al hres;have he:(x==y)=true:=by
     have:=hcs.1;simp;omega
    clear hs;go_wp2_with fail;go_quiet (fail);go_wp2;go_ret;exact⟨by first|rfl|(rw[hres.1];rfl),G.1.drewN _⟩
   ·have hres:=Al hres;have hxy:x<y:=by
     have:=hcs.1;omega
    have he:(x==y)=false:=by simp;omega
    clear hs;go_wp2_with fail;go_quiet (fail);have f1:=(CC.1 _ (G.1.drewN nq)).1;have p1:=(CP.1 _ (G.1.drewN nq)).1;go_wp2;go_quiet (fail);go_wp2;go_ret;exact⟨by first|rfl|(rw[hres.1];rfl),(by first|exact G.1.drewN _|exact(G.1.drewN _).drewN _)⟩
   ·have hd2:=Al hd2;have hxy:y<x:=by
     have:=hcs.1;omega
    have he:(x==y)=false:=by simp;omega
    have hxy':¬x<y:=om;clear hs;go_wp2_with fail;go_quiet (fail);have f1:=(CC.1 _ (G.1.drewN nq)).1;have p1:=(CP.1 _ (G.1.drewN nq)).1;go_wp2;go_quiet (fail);go_wp2;go_roundw
    case rel=>exact⟨k+1,om,.inl om,by go_num,hd2,(by first|exact G.1.drewN _|exact(G.1.drewN _).drewN _)⟩
    case measure=>simp[intOf];omega
  ·have hd2:Kept (r=0):=⟨HR.1.trans (Bk.nY fun j hj=>hd.1 j (by have:=hn.1;omega))⟩
   clear gr;go_wp2;go_ret;exact⟨by first|(rw[hd2.1];rfl)|exact gF hd2.1.symm,G.1⟩
theorem pK {b v w w'} (hv:v≠0) (hg:Gr w w'):∃u:Int,Ending.returned (.int .i64 v)= .returned (.int .i64 u)∧(u=0→Bk.bN b=0)∧Gr w w':=⟨v,rfl,fun h=>absurd h hv,hg⟩
theorem FI (A n c B b w) (hv:fK w B A n c b) (hB:B≤w.heap.size) (hs:Bk.bu b≤1000000000000) (hf:∀s∈b,Lb.Fit s.1):
  Calls prog 47 #[.slice A n c] w fun e w'=>∃v:Int,e= .returned (.int .i64 v)∧(v=0→Bk.bN b=0)∧Gr w w':=by
 have mixed:prog.follows .mixedOrders=true:=kr;have CK:=Al (og A n c B b w hv hB hs);obtain⟨hlc,hcm⟩:=hv.cap;unfold maxLen at hcm;have hn:=Al hv.len;have V:=Al hv;have F:=Al hf;by_cases hlim:1048576<b.length∨16777216<Bk.bu b
 ·rw[BI hlim]at CK;clear hv hf hs hlim;go_enter func47,ntmps47;go_wp2_with (go_at_call 60;refine CK.1.mono ?_;rintro e w1 ⟨rfl,g1⟩;have G1:=Al g1;clear g1);go_ret;exact pK Ai G1.1
 ·have HR:Kept (Bk.bN b=Lb.fV (Bk.zY b) b.length):=⟨by unfold Bk.bN;rw[Ng hlim]⟩
  rw[AA hlim]at CK;clear hv hf hs hlim;go_enter func47,ntmps47;go_wp2_with (go_at_call 60;refine CK.1.mono ?_;rintro e w1 ⟨rfl,g1⟩;have G1:=Al g1;clear g1);go_loopw [3] (fun i wr=>∃k:Nat,k≤n∧i= .int .i64 k∧Kept (∀j,j<k→Bk.zY b j=0)∧Gr w wr) (fun i _=>n-(intOf i).toNat)
  case atStart=>exact⟨0,om,rfl,⟨fun j hj=>om⟩,G1.1⟩
  case round=>
   clear G1;obtain⟨k,hk,rfl,hd,gr⟩:=hrel;have G:=Al gr;by_cases hlt:k<n
   ·have hkl:k<b.length:=by rw[←hn.1];exact hlt
    obtain⟨b0,off,A1,n1,c1,A2,n2,c2,rfl,hL,hS,hc⟩:=V.1.cells hB hkl;have CC:=Al (fun W (g:Gr w W)=>hc W g.below);obtain⟨r0,r1⟩:=CC.1 wr gr;have LC:=Al (fun W (g:Gr w W)=>yJ A1 n1 c1 W.heap.size b[k].1 W ((hL.below (g.below.mono hB)).more (Lt hB g.size)) Aj (F.1 _ (dR hkl)));have TM:=Al (fun W (g:Gr w W)=>qG A2 n2 c2 B b[k].2 W (hS.below (g.below.mono hB)) (Lt hB g.size));have hone:Kept (Lb.bN b[k].1=0→b[k].2≠[]→Bk.qY Bk.fJ 20 b[k].2=0→Bk.one b[k]=0):=⟨fun a e d=>by unfold Bk.one;rw[Ng (by simpa using a),Ng e,d]⟩
    have hemp:Kept (b[k].2≠[]↔n2≠0):=⟨by have:=hS.len;cases h:b[k].2 with|nil=>rw[h]at this;simp at this;simp[this]|cons x l=>rw[h]at this;simp at this;simp;omega⟩
    have hn2:(n2:Int)≤9223372036854775807:=by have h1:=hS.len;have h3:=hS.1;have h2:=hS.2.1;unfold maxLen at h2;omega
    have hstp:Kept (Bk.one b[k]=0→Bk.bH Bk.bE 19 b k=0→∀j,j<k+1→Bk.zY b j=0):=⟨fun a e=>Bk.yR hd.1 (by rw[Bk.Ll hkl a];exact e)⟩
    have hL:=Al hL;clear hS hc gr;obtain⟨v,hv⟩:∃v,v=Lb.bN b[k].1:=⟨_,rfl⟩
    rw[←hv]at LC hone;clear hv;by_cases h1:v=0
    ·subst h1;by_cases h2:n2=0
     ·subst h2;go_wp2_with (go_at_call 96;refine(LC.1 wr G.1).mono ?_;rintro e w2 ⟨rfl,g2⟩;have G2:=Al (G.1.trans g2);obtain⟨r20,r21⟩:=CC.1 w2 G2.1;clear g2);go_ret;exact pK Ai G2.1
     ·have h2':((n2:Int)==0)=false:=by simp;omega
      obtain⟨t,ht⟩:∃t,t=Bk.qY Bk.fJ 20 b[k].2:=⟨_,rfl⟩
      rw[←ht]at TM hone;clear ht;by_cases h3:t=0
      ·subst h3;have ho:=Al (hone.1 rfl (hemp.1.2 h2) rfl);clear h2;by_cases h0:k=0
       ·subst h0;have hd2:=Al (hstp.1 ho.1 (Bk.gZ _ _ _));simp only[Nat.zero_mul,DD]at CC r0 r1;go_wp2_with (first
         |(go_at_call 63;refine(TM.1 w2 G2.1).mono ?_;rintro e w3 ⟨rfl,g3⟩;have G3:=Al (G2.1.trans g3);clear g3)
         |(go_at_call 96;refine(LC.1 wr G.1).mono ?_;rintro e w2 ⟨rfl,g2⟩;have G2:=Al (G.1.trans g2);obtain⟨r20,r21⟩:=CC.1 w2 G2.1;clear g2))
        go_roundw
        case rel=>exact⟨1,om,by go_num,hd2,G3.1⟩
        case measure=>simp[intOf];omega
       ·have nT:k-1<b.length:=by omega
        obtain⟨b',off',A3,n3,c3,A4,n4,c4,e',hL',-,hp⟩:=V.1.cells hB nT;simp only[gU,Ce,BO]at e';obtain⟨rfl,rfl⟩:=e';have CP:=Al (fun W (g:Gr w W)=>hp W g.below);have CM:=Al (fun W (g:Gr w W)=>fe A3 A1 n3 c3 n1 c1 b[k-1].1 b[k].1 W ((hL'.below (g.below.mono hB)).more (Lt hB g.size)) ((hL.1.below (g.below.mono hB)).more (Lt hB g.size)));have hat:=Bk.tQ Bk.bE 19 hkl h0;have hcs:Bk.bE b[k-1] b[k]=Lb.cmpL b[k-1].1 b[k].1:=rfl;rw[hcs]at hat;have HAT:=Al hat;have ek:(k:Int)-1=((k-1:Nat):Int):=om;have Nz:((k-1:Nat):Int)< (n:Int):=om;have ek3:0< (k:Int):=om;have ew:IntKind.i64.wrap ((k-1:Nat):Int)=((k-1:Nat):Int):=by rw[AZ];omega
        clear hp hat hcs hL';generalize Lb.cmpL b[k-1].1 b[k].1=s at*;go_wp2_with (first
         |(go_at_call 63;refine(TM.1 w2 G2.1).mono ?_;rintro e w3 ⟨rfl,g3⟩;have G3:=Al (G2.1.trans g3);clear g3)
         |(go_at_call 96;refine(LC.1 wr G.1).mono ?_;rintro e w2 ⟨rfl,g2⟩;have G2:=Al (G.1.trans g2);obtain⟨r20,r21⟩:=CC.1 w2 G2.1;clear g2))
        have f0:=fun n os=>(CC.1 (Sort.grow (w3.drewN n) os) (G3.1.trans ⟨n,os,rfl⟩)).1
        have p0:=fun n os=>(CP.1 (Sort.grow (w3.drewN n) os) (G3.1.trans ⟨n,os,rfl⟩)).1
        have CX:=Al (fun n os=>CM.1 (Sort.grow (w3.drewN n) os) (G3.1.trans ⟨n,os,rfl⟩));clear r0 r1 r20 r21;go_quiet_grown (first|(go_at_call 39;refine BU (CX.1 _ _)));clear f0 p0 CX CC CP;by_cases hs0:s=0
        ·subst hs0;go_wp2;go_ret;exact pK Ai (G3.1.trans ⟨_,_,rfl⟩)
        ·have akJ:(s==0)=false:=by simpa using hs0
         by_cases hs1:0<s
         ·go_wp2;go_ret;exact pK Ai (G3.1.trans ⟨_,_,rfl⟩)
         ·have hd2:=Al (hstp.1 ho.1 (by rw[HAT.1,Ng hs0,Ng hs1]));go_wp2;go_roundw
          case rel=>exact⟨k+1,om,by go_num,hd2,G3.1.trans ⟨_,_,rfl⟩⟩
          case measure=>simp[intOf];omega
      ·have h3':(t !=0)=true:=by simpa using h3
       have h3k:=Al h3;clear h3;go_wp2_with (first
        |(go_at_call 63;refine(TM.1 w2 G2.1).mono ?_;rintro e w3 ⟨rfl,g3⟩;have G3:=Al (G2.1.trans g3);clear g3)
        |(go_at_call 96;refine(LC.1 wr G.1).mono ?_;rintro e w2 ⟨rfl,g2⟩;have G2:=Al (G.1.trans g2);obtain⟨r20,r21⟩:=CC.1 w2 G2.1;clear g2))
       go_ret;exact pK h3k.1 G3.1
    ·have h1':(v==0)=false:=by simpa using h1
     have akL:(v !=0)=true:=by simpa using h1
     have h1k:=Al h1;clear h1;go_wp2_with (go_at_call 96;refine(LC.1 wr G.1).mono ?_;rintro e w2 ⟨rfl,g2⟩;have G2:=Al (G.1.trans g2);clear g2);go_ret;exact pK h1k.1 G2.1
   ·have hd2:Kept (Bk.bN b=0):=⟨HR.1.trans (Lb.bU _ _ fun j hj=>hd.1 j (by have:=hn.1;omega))⟩
    clear gr;go_wp2;go_ret;exact⟨0,rfl,fun _=>hd2.1,G.1⟩
end
end Go.Proofs.YtongopommlghgaaGreatDoor
