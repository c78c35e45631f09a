/- Part 12. -/
import Derived.Test.YtongopommlghgaaGreatDoorZJAK
import Derived.Test.YtongopommlghgaaGreatDoorZJAF
namespace Go.Proofs.YtongopommlghgaaGreatDoor
set_option maxRecDepth 100000
set_option maxHeartbeats 0
open _root_.Go.Proofs.Tryz
namespace Pe
open Rc (Good)
def Asc (bnd:Nat):Int→Bool→List Int→Prop
 |_,_,[]=>True
 |a,f,y::r=>(if f=true then a≤y else a<y)∧y< (bnd:Int)∧Asc bnd y false r
theorem RF {bnd} (hb:bnd≤9223372036854775808):∀{s} {a} {f},Asc bnd a f s→Up a s
 |[],_,_,_=>trivial
 |y::r,a,f,h=>⟨by have:=h.1;cases f<;>simp at this<;>omega,by have:=h.2.1;omega,RF hb h.2.2⟩
theorem cK (x):0< (Vi.enc x).length:=Vi.cK x
theorem rR:∀(s) (a),s.length≤(gap a s).length
 |[],_=>by simp[gap]
 |y::r,a=>by
  have h1:=rR r y;have h2:=cK (y-a).toNat;rw[gap,La,Lc];omega
theorem RG (T e):0< (ib T e).length:=by
 have:=cK e.2.length;simp only[ib,La];omega
theorem aW (T):∀(E:List eX),E.length≤(E.flatMap (ib T)).length
 |[]=>Ah
 |e::E=>by
  have h1:=aW T E;have h2:=RG T e;rw[Av,La,Lc];omega
theorem LY {l a n a'} (h:Wr.uint l a 0 Rc.mx=(n,a',0)) (hn:n≤l.length-a'):Rc.cnt l a 0=(n,a',0):=by
 unfold Rc.cnt;rw[h];simp only[ne_eq,Bz,Dv];rw[Ng om]
theorem RH {l bnd} (hb:bnd≤9223372036854775808):∀(ys) (last:Nat) (acc) (a) (r),Asc bnd last acc.isEmpty ys→l.drop a=gap last ys++r→a≤l.length→
  sl l bnd ys.length last acc a=(acc++ys,a+(gap last ys).length,0)∧l.drop (a+(gap last ys).length)=r∧a+(gap last ys).length≤l.length
 |[],last,acc,a,r,h,hd,ha=>by
  rw[Ba,LU];simp[gap]at hd⊢;exact⟨hd,ha⟩
 |y::ys,last,acc,a,r,h,hd,ha=>by
  obtain⟨h1,h2,h3⟩:=h;rw[gap,Af]at hd;have hly:(last:Int)≤y:=by split at h1<;>omega
  obtain⟨m,rfl⟩:=Cr (show 0≤y from om);have hx:((m:Int)-(last:Int)).toNat=m-last:=om;rw[hx]at hd;obtain⟨g1,g2,g3⟩:=Rc.aT.at_ (x:=m-last) (by unfold Rc.mx;omega) hd ha;have ho:okD bnd last (m-last) acc.isEmpty=true:=by
   unfold okD;rw[DK,Em,Bool.or_eq_true,Em];refine⟨om,?_⟩;split at h1
   ·next e=>exact .inl e
   ·exact .inr om
  rw[Lc,Yz _ g1 ho,show last+(m-last)=m from om];obtain⟨i1,i2,i3⟩:=RH hb ys m (acc++[(m:Int)]) _ r (by
   have:(acc++[(m:Int)]).isEmpty=false:=by cases acc<;>rfl
   rw[this];exact h3) g2 g3
  rw[i1,gap,hx,La];rw[iw]at i2 i3;exact⟨by simp[iw],i2,i3⟩
def okS (bnd:Nat) (s:List Int):Prop:=s≠[]∧Asc bnd 0 true s
theorem Wj {l bnd a s r} (hb:bnd≤9223372036854775808) (hs:okS bnd s) (hsl:s.length≤Rc.mx) (ha:a≤l.length) (hd:l.drop a=Vi.enc s.length++gap 0 s++r):
  fE l bnd a=(s,a+(Vi.enc s.length++gap 0 s).length,0)∧l.drop (a+(Vi.enc s.length++gap 0 s).length)=r∧a+(Vi.enc s.length++gap 0 s).length≤l.length:=by
 rw[Af]at hd;obtain⟨g1,g2,g3⟩:=Rc.aT.at_ (x:=s.length) hsl hd ha;obtain⟨i1,i2,i3⟩:=RH hb s 0 [] _ r hs.2 g2 g3;have hgl:=rR s 0;have hcn:=LY g1 (by
  have:=congrArg List.length g2;rw[kz,La]at this;omega)
 have hs0:s.length≠0:=fun e=>hs.1 (qU e)
 unfold fE;rw[hcn];simp only[ne_eq,Bz,Dv,Ng hs0];rw[i1,La,←iw];exact⟨Ah,i2,i3⟩
theorem N7 {acc x a}:iL acc (x,a,0)=if Gj acc x=true then 0 else 16:=by
 unfold iL;simp
theorem N8 {acc x} {s:List Int} (h:Lb.kS (acc.map (·.1))):Gj acc x=true↔Lb.kS ((acc++[(x,s)]).map (·.1)):=by
 rw[dN];unfold Lb.kS at h⊢;rw[BZ];constructor
 ·intro ho;refine⟨h,List.pairwise_singleton _ _,fun a ha b hb=>?_⟩;have hb':b=x:=by simpa using hb
  subst hb';rcases List.eq_nil_or_concat acc with h0|⟨L,e,rfl⟩
  ·subst h0;simp at ha
  ·have hl:Lb.Gb e.1 b=true:=by
    unfold Gj at ho;rw[DV,List.getLast?_concat]at ho;exact ho
   rw[DV,dN,gY]at ha;rw[DV,dN,BZ]at h;rcases ha with ha|ha
   ·exact Lb.lQ (h.2.2 a ha e.1 Ah) hl
   ·have:a=e.1:=by simpa using ha
    rw[this];exact hl
 ·rintro⟨_,_,h3⟩;rcases List.eq_nil_or_concat acc with h0|⟨L,e,rfl⟩
  ·subst h0;rfl
  ·unfold Gj;rw[DV,List.getLast?_concat];exact h3 e.1 Ah x Ah
def acM (T:List ByteArray) (bnd:Nat) (e:eX):Prop:=Gf T e=true∧okS bnd e.2
theorem RI {T} (hS:Sy.aN T) (hT:T.length≤Rc.mx) {l bnd} (hb:bnd≤9223372036854775808):∀(ys acc) (a) (r),Lb.kS ((acc++ys).map (·.1))→(∀e∈ys,acM T bnd e∧e.2.length≤Rc.mx)→
  l.drop a=ys.flatMap (ib T)++r→a≤l.length→el T l bnd ys.length acc a=(acc++ys,a+(ys.flatMap (ib T)).length,0)∧l.drop (a+(ys.flatMap (ib T)).length)=r∧a+(ys.flatMap (ib T)).length≤l.length
 |[],acc,a,r,hp,h,hd,ha=>by
  rw[Ba,LV];simp at hd⊢;exact⟨hd,ha⟩
 |e::ys,acc,a,r,hp,h,hd,ha=>by
  obtain⟨⟨h1,h2⟩,h3⟩:=h e Ah;obtain⟨x,s⟩:=e;simp only[]at h2 h3;have hsp:acc++(x,s)::ys=(acc++[(x,s)])++ys:=Ah;rw[hsp]at hp⊢;have hpa:Lb.kS ((acc++[(x,s)]).map (·.1)):=by
   unfold Lb.kS at hp⊢;rw[dN,BZ]at hp;exact hp.1
  have hp0:Lb.kS (acc.map (·.1)):=by
   unfold Lb.kS at hpa⊢;rw[dN,BZ]at hpa;exact hpa.1
  rw[Av,Af]at hd;unfold ib at hd;simp only[]at hd;rw[Af]at hd;obtain⟨g1,g2,g3⟩:=(Rc.tY hS hT).at_ (x:=x) (by unfold Gf at h1;rw[DK]at h1;exact h1) hd ha;obtain⟨i1,i2,i3⟩:=Wj hb h2 h3 g3 g2;have ho:iL acc (x,a+(Rc.dP T x.n++Rc.dP T x.v).length,0)=0:=by rw[N7,Ps0 ((N8 hp0).2 hpa)]
  rw[Lc,YB _ g1 ho i1 rfl];obtain⟨j1,j2,j3⟩:=RI hS hT hb ys (acc++[(x,s)]) _ r hp (fun e he=>h e (by simp[he])) (by
   have hfe:(fun x:eX=>Rc.dP T x.1.n++Rc.dP T x.1.v++(Vi.enc x.2.length++gap 0 x.2))=ib T:=rfl;rw[i2,hfe]) i3
  have hlen:(List.flatMap (ib T) ((x,s)::ys)).length=(Rc.dP T x.n++Rc.dP T x.v).length+(Vi.enc s.length++gap 0 s).length+(ys.flatMap (ib T)).length:=by
   rw[Av,La];unfold ib;simp only[La]
  rw[j1,hlen];rw[←iw,←iw];exact⟨rfl,j2,j3⟩
theorem bV {T} (hS:Sy.aN T) (hT:T.length≤Rc.mx) {bnd} (hb:bnd≤9223372036854775808) {E} (hE:E.length≤Rc.mx) (hp:Lb.kS (E.map (·.1))) (h:∀e∈E,acM T bnd e∧e.2.length≤Rc.mx):dec T (bnd:Int) (aM T E)=(E,0):=by
 obtain⟨g1,g2,g3⟩:=Rc.aT.at_ (l:=aM T E) (a:=0) (x:=E.length) (r:=E.flatMap (ib T)) hE (by rw[Ct];rfl) (bf _);obtain⟨i1,i2,i3⟩:=RI hS hT hb E [] _ [] hp h (by rw[g2,Bh]) g3;have hlen:(aM T E).length=0+(Vi.enc E.length).length+(E.flatMap (ib T)).length:=by unfold aM;rw[La];omega
 have hcn:=LY g1 (by have:=aW T E;omega);have hl:dI T (aM T E) bnd=(E,0+(Vi.enc E.length).length+(E.flatMap (ib T)).length,0):=by
  unfold dI;rw[hcn];simp only[ne_eq,Bz,Dv];rw[i1];simp
 unfold dec;rw[Ng om,lZ,hl];have hf:Wr.fin (aM T E) (0+(Vi.enc E.length).length+(E.flatMap (ib T)).length) 0=0:=by
  unfold Wr.fin;rw[←hlen];simp
 simp only[hf];simp
end Pe
section
open Go.RowKit Go.Shelf
namespace Ps
theorem zo:∀(M) (k) (p),p∈gT M k→(k:Int)≤p.2∧p.2< (k:Int)+M.length
 |[],_,p,h=>by simp[gT]at h
 |m::M,k,p,h=>by
  rw[gT,gY]at h;rcases h with h|h
  ·obtain⟨x,_,rfl⟩:=dV.1 h;simp only[Lc];omega
  ·have:=zo M (k+1) p h;simp only[Lc];omega
theorem LZ {P E} (h:zl P E):E.length≤P.length∧∀e∈E,e.2.length≤P.length:=by
 refine⟨?_,fun e he=>by rw[h.fE e he];exact LQ _ _⟩;have hnd:(E.map (·.1)).Nodup:=by
  have:=h.srt;unfold Lb.kS at this;refine this.imp fun hxy e=>?_
  rw[e,Lb.iI]at hxy;cases hxy
 have:=cu _ _ hnd (fun x hx=>(h.mem x).1 hx);simpa using this
end Ps
namespace Pe
theorem YE {bnd:Nat}:∀{s} {a} {f},Ls.S s→(∀y∈s,(if f=true then a≤y else a<y)∧y< (bnd:Int))→Asc bnd a f s
 |[],_,_,_,_=>trivial
 |y::r,a,f,hs,h=>by
  obtain⟨h1,h2⟩:=BH.1 (show(y::r).Pairwise _ from hs);exact⟨(h y Ah).1,(h y Ah).2,YE h2 fun z hz=>⟨by rw[Ng Ah];exact h1 z hz,(h z (by simp[hz])).2⟩⟩
theorem RJ:∀{s} {a},Up a s→0≤a→(gap a s).length≤s.length*10
 |[],_,_,_=>by simp[gap]
 |y::r,a,h,h0=>by
  have h1:=RJ h.2.2 (show 0≤y by have:=h.1;omega);have h2:=Vi.bF (y-a).toNat (by have:=h.1;have:=h.2.1;omega);rw[gap,La,Lc,Nat.succ_mul];omega
theorem zq {T} (hT:T.length≤1000000) (s):(Rc.dP T s).length≤10:=by
 unfold Rc.dP;cases h:Sy.idx T s with
 |none=>exact Vi.bF _ Ah
 |some k=>
  obtain⟨hk,_⟩:=Sy.jo h;exact Vi.bF _ (by simp;omega)
end Pe
theorem Ps.uy {M E} (hs:Ps.Sets M) (h:Ps.zl (Ps.gT M 0) E):E.length≤1000000∧∀e∈E,e.2.length≤1000000:=by
 obtain⟨h1,h2⟩:=Ps.LZ h;have h3:=Ps.rQ M 0;have h4:=hs.2;exact⟨om,fun e he=>by have:=h2 e he;omega⟩
theorem Ps.L6:∀(M) (k),(∀m∈M,Lb.aN m)→∀x,Ls.S (Ps.fE x (Ps.gT M k))
 |[],_,_,_=>List.Pairwise.nil
 |m::M,k,h,x=>by
  rw[Ps.gT,Ps.lS];have key:∀(m:List aU),Lb.aN m→Ps.fE x (m.map fun x=>(x,(k:Int)))=[]∨Ps.fE x (m.map fun x=>(x,(k:Int)))=[(k:Int)]:=by
   intro m
   induction m with
   |nil=>intro _;exact .inl rfl
   |cons z m ih=>
    intro hs;obtain⟨q1,q2⟩:=BH.1 (show(z::m).Pairwise _ from hs);rw[AJ,show((z,(k:Int))::m.map fun x=>(x,(k:Int)))=[(z,(k:Int))]++m.map (fun x=>(x,(k:Int)))from rfl,Ps.lS];by_cases hz:z=x
    ·subst hz;rw[Ps.zk,Ps.Gd]
     ·exact .inr rfl
     ·intro hm;rw[BQ]at hm;obtain⟨y,hy,e⟩:=dV.1 hm;have e:y=z:=e;have:=q1 y hy;rw[e,St.irrefl]at this;cases this
    ·rw[Ps.um hz,AB];exact ih q2
  refine BZ.2 ⟨?_,Ps.L6 M (k+1) (fun m hm=>h m (by simp[hm])) x,fun a ha b hb=>?_⟩
  ·rcases key m (h m Ah)with h1|h1<;>rw[h1]<;>simp
  ·have hb2:(x,b)∈Ps.gT M (k+1):=by
    unfold Ps.fE at hb;obtain⟨p,hp,e⟩:=dV.1 hb;obtain⟨h3,h4⟩:=EH.1 hp;have:p=(x,b):=BC (by simpa using h4) e;rw[←this];exact h3
   have h5:=(Ps.zo M (k+1) _ hb2).1;simp only[]at h5;rcases key m (h m Ah)with h1|h1
   ·rw[h1]at ha;cases ha
   ·rw[h1,iP]at ha;omega
theorem Ps.Wl {M x y} (h:y∈Ps.fE x (Ps.gT M 0)):0≤y∧y< (M.length:Int):=by
 unfold Ps.fE at h;obtain⟨p,hp,e⟩:=dV.1 h;have:=Ps.zo M 0 p (EH.1 hp).1;rw[e]at this;omega
theorem Ps.Gn {M E} (hs:Ps.Sets M) (h:Ps.zl (Ps.gT M 0) E):∀e∈E,Pe.Asc M.length 0 true e.2:=fun e he=>by
 rw[h.fE e he];exact Pe.YE (Ps.L6 M 0 (fun m hm=>(hs.1 m hm).1) e.1) fun y hy=>by
  have:=Ps.Wl hy;rw[Ps0 rfl];omega
theorem Ps.L8 {M E} (hs:Ps.Sets M) (h:Ps.zl (Ps.gT M 0) E):∀e∈E,Pe.Up 0 e.2:=fun e he=>Pe.RF (by have:=Ps.JJ M;have:=hs.2;omega) (Ps.Gn hs h e he)
namespace Ps
def strs (M:List (List aU)):List ByteArray:=M.flatMap Lb.strs
theorem oC:∀(M),(strs M).length≤2*wt M
 |[]=>by simp[strs]
 |m::M=>by
  have h1:=oC M;have h2:=Lb.aV m;unfold strs wt at*;rw[Av,La,AJ,Bv];omega
theorem Gp {M m} (hm:m∈M) {x} (hx:x∈m):x.n∈strs M∧x.v∈strs M:=by
 unfold strs Lb.strs;exact⟨l6.2 ⟨m,hm,l6.2 ⟨x,hx,Ah⟩⟩,l6.2 ⟨m,hm,l6.2 ⟨x,hx,Ah⟩⟩⟩
theorem L9:∀(M) (k) (x),x∈(gT M k).map (·.1)→∃m∈M,x∈m
 |[],_,x,h=>by simp[gT]at h
 |m::M,k,x,h=>by
  rw[gT,dN,gY]at h;rcases h with h|h
  ·refine⟨m,Ah,?_⟩;rw[BQ]at h;obtain⟨y,hy,e⟩:=dV.1 h;have e:y=x:=e;rw[←e];exact hy
  ·obtain⟨m',hm,hx⟩:=L9 M (k+1) x h;exact⟨m',by simp[hm],hx⟩
theorem Ma {M E T} (h:zl (gT M 0) E) (ht:Sy.gH (strs M) T):∀e∈E,Pe.Gf T e=true:=fun e he=>by
 obtain⟨m,hm,hx⟩:=L9 M 0 e.1 ((h.mem e.1).1 (dV.2 ⟨e,he,rfl⟩));obtain⟨h1,h2⟩:=Gp hm hx;have key:∀s,s∈strs M→(Sy.idx T s).isSome=true:=fun s hs=>by
  obtain⟨k,hk,e⟩:=iC.1 ((ht.2 s).2 hs);rw[Sy.rH ht.1 hk e];rfl
 unfold Pe.Gf;rw[key _ h1,key _ h2];rfl
theorem ZY {x P} (h:x∈P.map (·.1)):fE x P≠[]:=fun e=>by
 obtain⟨p,hp,h1⟩:=dV.1 h;have:p.2∈fE x P:=by
  unfold fE;exact dV.2 ⟨p,EH.2 ⟨hp,by simpa using h1⟩,rfl⟩
 rw[e]at this;cases this
theorem round {M E T} (hs:Sets M) (h:zl (gT M 0) E) (ht:Sy.gH (strs M) T) (hT:T.length≤1000000):Pe.enc T E=(Pe.aM T E,0)∧Pe.dec T (M.length:Int) (Pe.aM T E)=(E,0):=by
 have hok:=Ma h ht;obtain⟨h1,h2⟩:=uy hs h;have hwl:=JJ M;have hw:=hs.2;refine⟨by rw[Pe.enc,Ps0 (Ef.2 hok)],Pe.bV ht.1 (by unfold Rc.mx;omega) om (by unfold Rc.mx;omega) h.srt fun e he=>⟨⟨hok e he,?_,Gn hs h e he⟩,by have:=h2 e he;unfold Rc.mx;omega⟩⟩;rw[h.fE e he];exact ZY ((h.mem e.1).1 (dV.2 ⟨e,he,rfl⟩))
end Ps
end
theorem Lb.dB {l} (h:Lb.bN l=0):Lb.aN l∧∀x∈l,Lb.one x=0:=by
 have hz:∀j,j<l.length→Lb.bW l j=0:=by
  rcases Lb.dX (Lb.bW l) l.length with⟨_,hz⟩|⟨k,hk,hk0,he,_⟩
  ·exact hz
  ·unfold Lb.bN at h;rw[he]at h;exact absurd h hk0
 have h1:∀j (hj:j<l.length),Lb.one l[j]=0:=fun j hj=>by
  have:=hz j hj;unfold Lb.bW at this;rw[Lb.getD_at hj]at this;simp only[]at this;by_cases q:Lb.one l[j]=0
  ·exact q
  ·rw[Ps0 q]at this;exact absurd this q
 refine⟨Lb.sU fun j hj=>?_,fun x hx=>?_⟩
 ·have:=hz (j+1) hj;unfold Lb.bW at this;rw[Lb.getD_at hj]at this;simp only[]at this;rw[Ng (by simpa using h1 (j+1) hj),Ng om,Bj,Lb.getD_at (show j<l.length from om)]at this;by_cases q:l[j].n=l[j+1].n
  ·rw[Ps0 q]at this;cases this
  ·rw[Ng q]at this;by_cases q2:St.lt l[j+1].n l[j].n=true
   ·rw[Ps0 q2]at this;cases this
   ·cases q3:St.lt l[j].n l[j+1].n with
    |true=>rfl
    |false=>exact absurd (St.total q3 (by simpa using q2)) q
 ·obtain⟨j,hj,rfl⟩:=iC.1 hx;exact h1 j hj
theorem Lb.Gq {x} (h:Lb.one x=0):x.n.size≤65535∧x.v.size≤65535:=by
 unfold Lb.one at h;split at h
 ·cases h
 ·split at h
  ·cases h
  ·omega
namespace Bk
open Cs (fI In lens tK)
def sets (b:gN):List (List aU):=b.map (·.1)
def Wm (b:gN):List (List aU×List Nat):=b.map fun s=>(s.1,lens s.2)
def mo (b:gN):List jL:=(Wm b).map Rc.bY
def dat (b:gN):List UInt8:=b.flatMap fun s=>tK s.2
def D4 (T:List ByteArray) (E:List eX) (b:gN) (i:Nat):List UInt8:=
 if i=0 then Sy.aM T else if i=1 then Rc.aM T (mo b)else if i=2 then dat b else Pe.aM T E
def Of (b:gN) (T:List ByteArray) (E:List eX):Prop:=Sy.gH (Ps.strs (sets b)) T∧Ps.zl (Ps.gT (sets b) 0) E
def ln (r:jL):List Nat:=r.2.map Int.toNat
def used (T:List ByteArray) (rs:List jL):Bool:=T.all fun s=>(rs.flatMap fun r=>Lb.strs r.1).any fun t=>decide (t=s)
open Classical in
noncomputable def Gs (b:gN) (E:List eX):Int:=if Ps.zl (Ps.gT (sets b) 0) E then 0 else 22
noncomputable def Wp (T:List ByteArray) (b:gN) (d3:List UInt8):gN×Int:=
 if bN b≠0 then([],bN b)else if(Pe.dec T (b.length:Int) d3).2≠0 then([],(Pe.dec T (b.length:Int) d3).2)
 else if Gs b (Pe.dec T (b.length:Int) d3).1≠0 then([],Gs b (Pe.dec T (b.length:Int) d3).1)else(b,0)
def oD (rs:List jL) (d2:List UInt8):List fI×Int:=if(rs.map ln).flatten.sum≠d2.length then([],23)else Cs.IK (rs.map ln) [] d2
noncomputable def vS (T:List ByteArray) (rs:List jL) (d2 d3:List UInt8):gN×Int:=
 if used T rs=false then([],15)else if(oD rs d2).2≠0 then([],(oD rs d2).2)else Wp T ((rs.map (·.1)).zip (oD rs d2).1) d3
noncomputable def Wq (T:List ByteArray) (d1 d2 d3:List UInt8):gN×Int:=
 if(Rc.dec T d1).2≠0 then([],(Rc.dec T d1).2)else vS T (Rc.dec T d1).1 d2 d3
noncomputable def oF (D:Nat→List UInt8):gN×Int:=
 if(Sy.dec (D 0)).2≠0 then([],(Sy.dec (D 0)).2)else Wq (Sy.dec (D 0)).1 (D 1) (D 2) (D 3)
noncomputable def dec (L:List UInt8):gN×Int:=if Ly.pe L≠0 then([],Ly.pe L)else oF (Ly.mK L)
theorem kT {s} (h:one s=0):Lb.bN s.1=0∧s.2≠[]∧qY fJ 20 s.2=0:=by
 unfold one at h;by_cases h1:Lb.bN s.1=0
 ·rw[Ng (by simpa using h1)]at h;by_cases h2:s.2=[]
  ·rw[Ps0 h2]at h;cases h
  ·rw[Ng h2]at h;exact⟨h1,h2,h⟩
 ·rw[Ps0 h1]at h;exact absurd h h1
theorem kU {b} (h:bN b=0) (hw:Ps.wt (sets b)≤1000000):Ps.Sets (sets b):=by
 obtain⟨-,-,h3,-⟩:=dB h;refine⟨fun m hm=>?_,hw⟩;obtain⟨s,hs,rfl⟩:=dV.1 hm;obtain⟨g1,g2⟩:=Lb.dB (kT (h3 s hs)).1;refine⟨g1,fun x hx=>?_⟩;have:=Lb.Gq (g2 x hx);unfold maxLen;omega
theorem iM {b} (h:bN b=0):∀s∈Ps.strs (sets b),s.size≤65535:=by
 obtain⟨-,-,h3,-⟩:=dB h;intro s hs;unfold Ps.strs Lb.strs at hs;obtain⟨m,hm,h1⟩:=l6.1 hs;obtain⟨x,hx,h2⟩:=l6.1 h1;obtain⟨q,hq,rfl⟩:=dV.1 hm;obtain⟨g1,g2⟩:=Lb.dB (kT (h3 q hq)).1;have:=Lb.Gq (g2 x hx);simp only[iW,List.not_mem_nil,or_false]at h2;rcases h2 with rfl|rfl
 ·exact this.1
 ·exact this.2
theorem uz {s}:∀n∈lens s,2≤n∧n≤2200:=by
 intro n hn;unfold lens at hn;obtain⟨c,hc,rfl⟩:=dV.1 hn;refine Ck.Vz ?_;have key:∀(k:Nat) (s:fI),s.length≤k→∀c∈Ck.jw s,c.length≤120:=by
  intro k
  induction k with
  |zero=>
   intro s hs c hc;rw[qU (show s.length=0 from om),Ck.dS]at hc;cases hc
  |succ k ih=>
   intro s hs c hc;by_cases h0:s=[]
   ·rw[h0,Ck.dS]at hc;cases hc
   ·rw[Ck.jP h0]at hc;rcases iW.1 hc with rfl|hc
    ·rw[jD];omega
    ·refine ih _ ?_ c hc;have:=mH.2 h0;rw[kz];omega
 exact key s.length s Aj c hc
theorem rT (s):(lens s).length≤s.length:=by
 unfold lens;rw[fM];have key:∀(k:Nat) (s:fI),s.length≤k→(Ck.jw s).length≤s.length:=by
  intro k
  induction k with
  |zero=>
   intro s hs;rw[qU (show s.length=0 from om),Ck.dS];simp
  |succ k ih=>
   intro s hs;by_cases h0:s=[]
   ·rw[h0,Ck.dS];simp
   ·rw[Ck.jP h0];have:=mH.2 h0;have:=ih (s.drop 120) (by rw[kz];omega);rw[kz]at this;rw[Lc];omega
 exact key s.length s Aj
theorem RS (q):ln (Rc.bY q)=q.2:=by
 unfold ln Rc.bY;rw[BQ]
 conv=>rhs;rw[←List.map_id q.2]
 refine Dy fun n _=>?_
 simp
theorem ZZ (b):(mo b).map ln=b.map fun s=>lens s.2:=by
 unfold mo Wm;rw[BQ,BQ];refine Dy fun s _=>?_
 exact RS _
theorem Gt (b):(mo b).map (·.1)=sets b:=by
 unfold mo Wm sets;rw[BQ,BQ]
 rfl
theorem RX (rs:List jL):(rs.flatMap fun r=>Lb.strs r.1)=Ps.strs (rs.map (·.1)):=by
 unfold Ps.strs;rw[Ez]
theorem RZ (b):(sets b).zip (b.map (·.2))=b:=by
 unfold sets
 induction b with
 |nil=>rfl
 |cons s b ih=>rw[AJ,AJ,List.zip_cons_cons,ih]
theorem R8 (T rs):used T rs=true↔∀s∈T,s∈Ps.strs (rs.map (·.1)):=by
 unfold used;rw[RX,Ef];constructor
 ·intro h s hs;have:=h s hs;rw[List.any_eq_true]at this;obtain⟨t,ht,e⟩:=this;have:t=s:=by simpa using e
  rw[←this];exact ht
 ·intro h s hs;rw[List.any_eq_true];exact⟨s,h s hs,Ah⟩
theorem YF {b T} (hc:bN b=0) (hw:Ps.wt (sets b)≤1000000) (hT:Sy.gH (Ps.strs (sets b)) T):∀r∈Wm b,Rc.okN T r:=by
 obtain⟨-,hs,h3,-⟩:=dB hc;intro r hr;obtain⟨s,hs',rfl⟩:=dV.1 hr;obtain⟨g1,g2,-⟩:=kT (h3 s hs');have hm:s.1∈sets b:=dV.2 ⟨s,hs',rfl⟩;have key:∀t,t∈Ps.strs (sets b)→(Sy.idx T t).isSome=true:=fun t ht=>by
  obtain⟨k,hk,e⟩:=iC.1 ((hT.2 t).2 ht);rw[Sy.rH hT.1 hk e];rfl
 have hl1:s.1.length≤Ps.wt (sets b):=by
  obtain⟨u,v,e⟩:=List.append_of_mem hm;rw[e];unfold Ps.wt;simp;omega
 have hl2:s.2.length≤bu b:=by
  obtain⟨u,v,e⟩:=List.append_of_mem hs';rw[e];unfold bu;simp;omega
 have hl3:=rT s.2;refine⟨⟨⟨by show s.1.length≤_;unfold Rc.mx;omega,fun x hx=>?_⟩,by show(lens s.2).length≤_;unfold Rc.mx;omega,fun n hn=>?_⟩,fun e=>?_⟩
 ·obtain⟨a1,a2⟩:=Ps.Gp hm hx;exact⟨key _ a1,key _ a2⟩
 ·have:=uz n hn;omega
 ·exact g2 (Cs.qD e)
theorem YG {b}:b.length≤Ps.wt (sets b):=by
 have:=Ps.JJ (sets b);unfold sets at this⊢;rw[fM]at this;exact this
theorem Sa:∀(ls:List (List Nat)),ls.flatten.sum=(ls.map List.sum).sum
 |[]=>rfl
 |l::ls=>by rw[Cg,Dx,AJ,Bv,Sa ls]
theorem Sb {b T E} (hc:bN b=0) (hin:∀s∈b,In s.2) (hw:Ps.wt (sets b)≤500000) (h:Of b T E):oF (D4 T E b)=(b,0):=by
 obtain⟨hT,hE⟩:=h;have hS:=kU hc om;have hTl:T.length≤1000000:=by
  have h1:=Sy.gH.len hT;have h2:=Ps.oC (sets b);omega
 have hTm:T.length≤Rc.mx:=by unfold Rc.mx;omega
 have hbl:=YG (b:=b);have e0:Sy.dec (D4 T E b 0)=(T,0):=Sy.bV hT.1 hTm (Sy.gH.size hT (iM hc));have e1:Rc.dec T (D4 T E b 1)=(mo b,0):=Rc.bV hT.1 hTm (by unfold Wm;rw[fM];unfold Rc.mx;omega) (YF hc om hT);have eu:used T (mo b)=true:=(R8 _ _).2 fun s hs=>by rw[Gt];exact(hT.2 s).1 hs
 have ec:oD (mo b) (D4 T E b 2)=(b.map (·.2),0):=by
  unfold oD;rw[ZZ,Ng]
  ·have h1:=Cs.Lh (b.map (·.2)) [] [] (fun s hs=>by obtain⟨q,hq,rfl⟩:=dV.1 hs;exact hin q hq);rw[Bh,AB,BQ,Ez]at h1;exact h1
  ·intro hne;apply hne;show _=(dat b).length;unfold dat;rw[List.length_flatMap,Sa,BQ]
   congr 1
   refine Dy fun s _=>?_
   exact(Cs.Li s.2).symm
 have hz:((mo b).map (·.1)).zip (b.map (·.2))=b:=by rw[Gt,RZ]
 obtain⟨-,er⟩:=Ps.round hS hE hT hTl;have ep:Pe.dec T (b.length:Int) (D4 T E b 3)=(E,0):=by
  have:(sets b).length=b.length:=by unfold sets;rw[fM]
  rw[this]at er;exact er
 have ei:Gs b E=0:=by unfold Gs;rw[Ps0 hE]
 unfold oF Wq vS Wp;rw[e0];simp only[ne_eq,Bz,Dv];rw[e1];simp only[Bz,Dv];rw[eu,ec];simp only[Bz,Dv,Bool.true_eq_false];rw[hz,hc,ep];simp only[Bz,Dv];rw[ei];simp
def File (b:gN) (L:List UInt8):Prop:=∃T E,Of b T E∧L=Ly.asm (D4 T E b)
theorem JP {D D'} (h:∀i,i<4→D i=D' i):oF D=oF D':=by
 unfold oF;rw[h 0 om,h 1 om,h 2 om,h 3 om]
theorem zt (D i) (hi:i<4):(D i).length≤(Ly.asm D).length:=by
 have h1:(D i).length≤(Ly.pre D 4).length:=by
  unfold Ly.pre;rw[La];have:i∈List.range 4:=List.mem_range.2 hi;obtain⟨u,v,e⟩:=List.append_of_mem this;rw[e];have:(D i).length≤(Wr.frame (UInt8.ofNat (1+i)) (D i)).length:=by
   unfold Wr.frame bP.app Wr.str;simp only[La,Lc];omega
  simp only[nH,Av,La];omega
 rw[Ly.yA];unfold Ly.body;rw[La];omega
theorem Z6 (D):Ly.tot D 4≤4*(Ly.asm D).length:=by
 have h0:=zt D 0 om;have h1:=zt D 1 om;have h2:=zt D 2 om;have h3:=zt D 3 om;show((((0+(D 0).length)+(D 1).length)+(D 2).length)+(D 3).length)≤_;omega
theorem Sc {b L} (hc:bN b=0) (hin:∀s∈b,In s.2) (hw:Ps.wt (sets b)≤500000) (hL:L.length≤100000000000) (h:File b L):dec L=(b,0):=by
 obtain⟨T,E,h1,rfl⟩:=h;have ht:Ly.tot (D4 T E b) 4≤140737488352000:=by
  have:=Z6 (D4 T E b);omega
 unfold dec;rw[Ly.Qs _ ht,Ng Ah];have:oF (Ly.mK (Ly.asm (D4 T E b)))=oF (D4 T E b):=JP fun i hi=>Ly.Fb _ ht i hi
 rw[this];exact Sb hc hin hw h1
end Bk
section
open Go.RowKit Go.Shelf
theorem xF {α:Type} [DecidableEq α] (f:α→Nat):∀(T l:List α),T.Nodup→(∀x∈T,x∈l)→(T.map f).sum≤(l.map f).sum
 |[],_,_,_=>bf _
 |x::T,l,hn,hs=>by
  obtain⟨h1,h2⟩:=List.nodup_cons.1 hn;have hp:=((List.perm_cons_erase (hs x Ah)).map f).sum_nat;have:=xF f T (l.erase x) h2 fun y hy=>(List.mem_erase_of_ne (fun e=>by subst e;exact h1 hy)).2 (hs y (by simp[hy]))
  rw[hp];simp only[AJ,Bv];omega
theorem ny {α:Type} (f g:α→Nat) (l:List α) (h:∀x∈l,f x≤g x):(l.map f).sum≤(l.map g).sum:=by
 induction l with
 |nil=>simp
 |cons x l ih=>
  have:=ih fun y hy=>h y (by simp[hy])
  have:=h x Ah;simp only[AJ,Bv];omega
theorem aW {α β:Type} (f:α→List β) (l:List α):(l.flatMap f).length=(l.map fun x=>(f x).length).sum:=by
 induction l with
 |nil=>rfl
 |cons x l ih=>rw[Av,La,ih];simp
theorem lV {α:Type} (k f) (l:List α) (h:∀x∈l,f x≤k):(l.map f).sum≤k*l.length:=by
 induction l with
 |nil=>simp
 |cons x l ih=>
  have h1:=ih fun y hy=>h y (by simp[hy])
  have h2:=h x Ah;simp only[AJ,Bv,Lc];rw[Nat.mul_succ];omega
theorem rR:∀(s) (a),Pe.Up a s→0≤a→(Pe.gap a s).length≤10*s.length:=fun s a h h0=>by have:=Pe.RJ h h0;omega
namespace Bk
open Cs (fI In lens tK)
structure wh (b:gN):Prop where
 fE:b.length≤300
 lab:(sets b).flatten.length≤200
 bu:bu b≤3000
 str:Sy.tot (Lb.strs (sets b).flatten)≤200000
theorem pQ (M):Ps.strs M=Lb.strs M.flatten:=by
 unfold Ps.strs Lb.strs
 induction M with
 |nil=>rfl
 |cons m M ih=>rw[Av,ih,Cg,nH]
theorem Ws (M):Ps.wt M=M.length+M.flatten.length:=by
 unfold Ps.wt
 induction M with
 |nil=>rfl
 |cons m M ih=>rw[AJ,Bv,ih,Lc,Cg,La];omega
theorem wh.wt {b} (h:wh b):Ps.wt (sets b)≤500:=by
 rw[Ws];have h1:=h.fE;have h2:=h.lab;have:(sets b).length=b.length:=by unfold sets;simp
 omega
theorem Gu:∀(M) (k),(Ps.gT M k).length=M.flatten.length
 |[],_=>rfl
 |m::M,k=>by rw[Ps.gT,La,Gu M (k+1),fM,Cg,La]
theorem wh.tab {b T} (h:wh b) (hc:bN b=0) (ht:Sy.gH (Ps.strs (sets b)) T):T.length≤400∧(T.map fun s=>s.size).sum≤200000:=by
 have h1:=cu T _ ht.1.nodup (fun s hs=>(ht.2 s).1 hs);have h2:=xF (fun s:ByteArray=>s.size) T _ ht.1.nodup (fun s hs=>(ht.2 s).1 hs);have h3:=iM hc;have h4:=h.str;have h5:=h.lab;rw[pQ]at h1 h2 h3;have h6:=Lb.aV (sets b).flatten;refine⟨om,Lt h2 (Lt (ny _ (fun s:ByteArray=>1+min s.size 200000) _ fun s hs=>?_) h4)⟩;have:=h3 s hs;omega
theorem Sg (s) (h:s.size≤65535):(Sy.l7 s).length≤s.size+10:=by
 unfold Sy.l7;have h2:s.data.toList.length=s.size:=Ah;have:=Wr.rE s.data.toList om;omega
theorem Si {T} (h1:T.length≤400) (h2:(T.map fun s=>s.size).sum≤200000) (h3:∀s∈T,s.size≤65535):(Sy.aM T).length≤300000:=by
 unfold Sy.aM;rw[La,aW];have a:=Vi.bF T.length om;have b:=ny (fun s=>(Sy.l7 s).length) (fun s=>s.size+10) T fun s hs=>Sg s (h3 s hs)
 have c:(T.map fun s=>s.size+10).sum=(T.map fun s=>s.size).sum+10*T.length:=by
  clear h1 h2 h3 a b
  induction T with
  |nil=>rfl
  |cons s T ih=>simp only[AJ,Bv,Lc,ih];omega
 omega
theorem Sj {T r} (hT:T.length≤1000000) (h1:r.1.length≤1000000) (h2:r.2.length≤1000000) (h3:∀n∈r.2,n≤1000000):(Rc.jy T r).length≤20+20*r.1.length+10*r.2.length:=by
 unfold Rc.jy;simp only[La,aW];have a:=Vi.bF r.1.length om;have b:=Vi.bF r.2.length om;have c:=lV 10 (fun s=>(Rc.dP T s).length) (Lb.strs r.1) fun s _=>Pe.zq hT s
 have d:=lV 10 (fun n=>(Rc.Yo n).length) r.2 fun n hn=>Vi.bF _ (by have:=h3 n hn;omega)
 have e:=Lb.aV r.1;omega
theorem Mc {T b} (hT:T.length≤1000000) (h:wh b):(Rc.aM T (mo b)).length≤100000:=by
 unfold Rc.aM;rw[La,aW];have hl:(mo b).length=b.length:=by unfold mo Wm;simp
 have a:=Vi.bF (mo b).length (by have:=h.fE;omega);have key:∀(b:gN),(sets b).flatten.length≤1000000→bu b≤1000000→((mo b).map fun x=>(Rc.jy T x).length).sum≤20*b.length+20*(sets b).flatten.length+10*bu b:=by
  intro b
  induction b with
  |nil=>intro _ _;simp[mo,Wm]
  |cons s b ih=>
   intro h1 h2;have e1:(sets (s::b)).flatten.length=s.1.length+(sets b).flatten.length:=by simp[sets]
   have e2:Bk.bu (s::b)=s.2.length+Bk.bu b:=by simp[Bk.bu]
   have e3:mo (s::b)=Rc.bY (s.1,lens s.2)::mo b:=rfl;have i1:=ih om om;have i2:(Rc.jy T (Rc.bY (s.1,lens s.2))).length≤20+20*s.1.length+10*(lens s.2).length:=by
    have:=Sj (T:=T) (r:=Rc.bY (s.1,lens s.2)) hT (by show s.1.length≤_;omega) (by
     show((lens s.2).map Int.ofNat).length≤_;rw[fM];have:=rT s.2;omega) (by
     intro n hn;obtain⟨m,hm,rfl⟩:=dV.1 (show n∈(lens s.2).map Int.ofNat from hn);have:=(uz m hm).2;show(m:Int)≤_;omega)
    have e4:(Rc.bY (s.1,lens s.2)).2.length=(lens s.2).length:=by show((lens s.2).map Int.ofNat).length=_;rw[fM]
    rw[e4]at this;exact this
   have i3:=rT s.2;rw[e1,e2,e3,AJ,Bv,Lc];omega
 have k:=key b (by have:=h.lab;omega) (by have:=h.bu;omega);have:=h.fE;have:=h.lab;have:=h.bu;omega
theorem Md {b} (h:wh b):(dat b).length≤6600000:=by
 unfold dat;rw[aW];have key:∀s:fI,(tK s).length≤2200*s.length:=fun s=>by
  unfold tK;rw[aW];have h1:((Ck.jw s).map fun c=>(Ck.enc c).length)=lens s:=rfl;rw[h1];have h2:=lV 2200 id (lens s) fun n hn=>(uz n hn).2
  rw[List.map_id]at h2;have h3:=rT s;have h4:=Nat.mul_le_mul_left 2200 h3;omega
 have h1:=ny (fun s:yQ=>(tK s.2).length) (fun s=>2200*s.2.length) b fun s _=>key s.2
 have h2:(b.map fun s=>2200*s.2.length).sum=2200*bu b:=by
  clear h h1;unfold bu
  induction b with
  |nil=>rfl
  |cons s b ih=>simp only[AJ,Bv,ih];omega
 have:=h.bu;omega
theorem Sk {T E b} (hT:T.length≤1000000) (h:wh b) (hs:Ps.Sets (sets b)) (hi:Ps.zl (Ps.gT (sets b) 0) E):(Pe.aM T E).length≤500000:=by
 obtain⟨h1,h2⟩:=Ps.LZ hi;rw[Gu]at h1 h2;have hl:=h.lab;unfold Pe.aM;rw[La,aW];have a:=Vi.bF E.length om;have hu:=Ps.L8 hs hi;have b:=lV 2030 (fun e=>(Pe.ib T e).length) E fun e he=>by
  unfold Pe.ib;simp only[La];have c1:=Pe.zq hT e.1.n;have c2:=Pe.zq hT e.1.v;have c3:=Vi.bF e.2.length (by have:=h2 e he;omega);have c4:=rR e.2 0 (hu e he) (Int.le_refl _);have:=h2 e he;omega
 omega
theorem wh.sec {b T E} (h:wh b) (hc:bN b=0) (ho:Of b T E):∀i,i<4→(D4 T E b i).length≤if i=2 then 10000000 else 1000000:=by
 obtain⟨t1,t2⟩:=h.tab hc ho.1;have hw:=h.wt;have hsm:=iM hc;intro i hi
 match i,hi with
 |0,_=>
  show(Sy.aM T).length≤1000000;have:=Si t1 t2 (fun s hs=>hsm s ((ho.1.2 s).1 hs));omega
 |1,_=>
  show(Rc.aM T (mo b)).length≤1000000;have:=Mc (T:=T) om h;omega
 |2,_=>
  show(dat b).length≤10000000;have:=Md h;omega
 |3,_=>
  show(Pe.aM T E).length≤1000000;have:=Sk (T:=T) om h (kU hc om) ho.2;omega
end Bk
end
section
open Go.RowKit Go.Shelf
theorem zu (A n c l w) (hv:dH w w.heap.size A n c l) (hf:Lb.Fit l):
  Calls prog 58 #[.slice A n c] w fun e w'=>∃v:Int,e= .returned (.int .i64 v)∧(v≤0→n≤200∧Sy.tot (Lb.strs l)≤200000)∧Below w.heap.size w w':=by
 have hlc:=hv.1;have hcm:=hv.2.1;unfold maxLen at hcm;have V:=Al hv;have F:=Al hf;clear hv hf;by_cases h:200<n
 ·have h':(200:Int)< (n:Int):=by omega
  go_enter func58,ntmps58;go_wp2;go_ret;exact⟨1,rfl,(fun h=>absurd h Ai),Ae _ _⟩
 ·have h':¬(200:Int)< (n:Int):=by omega
  go_enter func58,ntmps58;go_wp2_with (first
   |(go_at_call 105;refine(sW A n c l w V.1 om).mono ?_;rintro e w1 ⟨A1,n1,c1,rfl,ho,hb⟩;have O:=Al ho;have B1:=Al hb;clear ho hb)
   |(go_at_call 104;refine(Fp A1 n1 c1 _ _ w1 O.1.rd Aj (Lb.QB F.1)).mono ?_;rintro e w2 ⟨v,rfl,hv1,hv2,hg⟩;have G:=Al hg;have HV:=Al (fun(h:v≤0)=>hv2 om);clear hg hv1 hv2))
  go_ret;exact⟨v,rfl,fun h0=>⟨om,(HV.1 h0).2⟩,B1.1.trans (G.1.below.mono B1.1.size)⟩
namespace Bk
theorem N9 (b:gN) {k} (h:k<b.length):(sets (b.take (k+1))).flatten=(sets (b.take k)).flatten++b[k].1:=by
 unfold sets;rw[Ts h,dN,ED];simp
end Bk
theorem qP (A n c B b w) (hv:fK w B A n c b) (hB:B≤w.heap.size) (hf:∀s∈b,Lb.Fit s.1):
  Calls prog 28 #[.slice A n c] w fun e w'=>∃v:Int,e= .returned (.int .i64 v)∧(v≤0→Bk.wh b)∧Below w.heap.size w w':=by
 obtain⟨hlc,hcm⟩:=hv.cap;unfold maxLen at hcm;have hn:=Al hv.len;have V:=Al hv;have F:=Al hf;clear hv hf;go_enter func28,ntmps28;go_wp2;go_loopw [3,4,9] (fun s o i wr=>∃k m:Nat,k≤n∧i= .int .i64 k∧s= .int .i64 m∧m≤3000∧k≤3000∧Kept (m=k+Bk.bu (b.take k))∧Kept (0<k→n≤300)∧∃A2 n2 c2,o= .slice A2 n2 c2∧n2≤200*k∧Kept (aJ wr w.heap.size A2 n2 c2 (Bk.sets (b.take k)).flatten)∧Below w.heap.size w wr) (fun _ _ i _=>n-(intOf i).toNat)
 case atStart=>exact⟨0,0,om,rfl,rfl,om,om,⟨rfl⟩,⟨fun h=>absurd h om⟩,none,0,0,rfl,om,⟨aJ.nil _ _⟩,Ae _ _⟩
 case round=>
  obtain⟨k,m,hk,rfl,rfl,Jy,hk3,hm,rD,A2,n2,c2,rfl,hn2,ho,hbw⟩:=hrel;have BW:=Al hbw;have rf:=Al hbw.size;by_cases hlt:k<n
  ·have hkl:k<b.length:=by rw[←hn.1];exact hlt
   obtain⟨b0,off,A1,n1,c1,A3,n3,c3,rfl,h1,h2,hc⟩:=V.1.cells hB hkl;obtain⟨r0,r1⟩:=hc wr hbw;have aiv:(n1:Int)≤9223372036854775807:=by have a:=h1.1;have d:=h1.2.1;unfold maxLen at d;omega
   have aiw:(n3:Int)≤9223372036854775807:=by have a:=h2.1;have d:=h2.2.1;unfold maxLen at d;omega
   have h5:=Al h2.len;have H1:=Al h1;have hsm:=Al (Bk.tL b k hkl);have hft:=Al (Bk.N9 b hkl);clear hbw h1 h2 hc;by_cases hb3:3000<n3
   ·have acO:(3000:Int)< (n3:Int):=by omega
    go_wp2;go_ret;exact⟨1,rfl,(fun h=>absurd h Ai),BW.1.alloc rf.1 _⟩
   ·have acO:¬(3000:Int)< (n3:Int):=by omega
    by_cases hb4:3000<m+(1+n3)
    ·go_wp2;go_ret;exact⟨1,rfl,(fun h=>absurd h Ai),BW.1.alloc rf.1 _⟩
    ·by_cases hb5:300<n
     ·have af2:(300:Int)< (n:Int):=by omega
      go_wp2;go_ret;exact⟨1,rfl,(fun h=>absurd h Ai),BW.1.alloc rf.1 _⟩
     ·have af2:¬(300:Int)< (n:Int):=by omega
      by_cases hb6:200<n1
      ·have af3:(200:Int)< (n1:Int):=by omega
       go_wp2;go_ret;exact⟨1,rfl,(fun h=>absurd h Ai),BW.1.alloc rf.1 _⟩
      ·have af3:¬(200:Int)< (n1:Int):=by omega
       have YH:Kept (n≤300):=⟨om⟩
       have hmm:Kept (m+(1+n3)=(k+1)+Bk.bu (b.take (k+1))):=⟨by have:=hm.1;have:=hsm.1;have:=h5.1;omega⟩
       go_wp2_with (at_builtin;refine iR rfl (.tmp 33) (.tmp 35) rfl w.heap.size A2 n2 c2 _ rfl (Oa ho.1 _) B _ _ _ b[k].1 rfl (Rd.below H1.1 ((BW.1.alloc rf.1 _).mono hB)) om (by have:=rf.1;simp;omega) ?_;intro A5 c5 w5 hown hgrow hat;have O5:=Al hown;have B5:=Al ((BW.1.alloc rf.1 _).grown hgrow (by have:=rf.1;simp;omega) (fun r e=>(ae ho.1 r e).1));clear hown hgrow hat);go_roundw
       case rel=>exact⟨k+1,m+(1+n3),om,by go_num,by go_num,om,by have:=YH.1;omega,hmm,⟨fun _=>YH.1⟩,A5,n2+n1,c5,rfl,om,⟨by rw[hft.1];exact O5.1⟩,B5.1⟩
       case measure=>simp[intOf];omega
  ·obtain rfl:k=n:=by omega
   have hall:b.take k=b:=jc (by rw[←hn.1];exact Nr _);rw[hall]at ho hm;have LG:=Al (zu A2 n2 c2 _ wr ho.1.rd (fun x hx=>by
    obtain⟨m,hm1,hm2⟩:=List.mem_flatten.1 hx;unfold Bk.sets at hm1;obtain⟨s,hs,rfl⟩:=dV.1 hm1;exact F.1 s hs x hm2))
   have hl2:=Al ho.1.len;clear hbw ho hall;go_wp2_with (go_at_call 58;refine LG.1.mono ?_;rintro e w6 ⟨v,rfl,hv,hb6⟩;have HV:=Al hv;have B6:=Al hb6;clear hv hb6 LG);go_ret;refine⟨v,rfl,fun h0=>?_,BW.1.trans (B6.1.mono rf.1)⟩;obtain⟨q1,q2⟩:=HV.1 h0;refine⟨?_,by rw[←hl2.1];exact q1,by have:=hm.1;omega,q2⟩;have:=hn.1;rcases lY k with h|h
   ·omega
   ·have:=rD.1 h;omega
end
section
open Go.RowKit Go.Shelf
namespace En
open Cs (fI In lens tK)
def all:Nat→Bk.gN→List (Nat×List UInt8)
 |_,[]=>[]
 |i,s::b=>(Ck.jw s.2).map (fun c=>(i,Ck.enc c))++all (i+1) b
theorem zw:∀(a b) (i),all i (a++b)=all i a++all (i+a.length) b
 |[],b,i=>by simp[all]
 |s::a,b,i=>by
  rw[Bc,all,all,zw a b (i+1),Af,Lc,show i+1+a.length=i+(a.length+1)from om]
theorem Gv (b:Bk.gN) {k} (h:k<b.length):all 0 (b.take (k+1))=all 0 (b.take k)++(Ck.jw b[k].2).map (fun c=>(k,Ck.enc c)):=by
 rw[Ts h,zw,jD,Nat.min_eq_left (Nat.le_of_lt h),bO];simp[all]
theorem Wt (b k):all 0 (b.take k)<+:all 0 b:=by
 have:=zw (b.take k) (b.drop k) 0;rw[je]at this;exact⟨_,this.symm⟩
def dat (pre:List (Nat×List UInt8)):List UInt8:=pre.flatMap (·.2)
def cnt (pre:List (Nat×List UInt8)) (i:Nat):List Int:=(pre.filter fun x=>decide (x.1=i)).map fun x=>((x.2.length:Nat):Int)
theorem rU (a b):dat (a++b)=dat a++dat b:=by simp[dat]
theorem oG (a b i):cnt (a++b) i=cnt a i++cnt b i:=by simp[cnt]
theorem Wu (i L):dat [(i,L)]=L:=by simp[dat]
theorem Wv (i L):cnt [(i,L)] i=[((L.length:Nat):Int)]:=by simp[cnt]
theorem Sl {i j} (h:i≠j) (L):cnt [(i,L)] j=[]:=by simp[cnt,h]
theorem zx:∀(b) (i),dat (all i b)=Bk.dat b
 |[],_=>rfl
 |s::b,i=>by
  rw[all,rU,zx b (i+1)];show _=tK s.2++Bk.dat b
  congr 1
  unfold dat tK;rw[Ez]
theorem Ww (l:List fI) (f:fI→List UInt8) (i):cnt (l.map fun c=>(i,f c)) i=l.map fun c=>(((f c).length:Nat):Int):=by
 unfold cnt;rw[List.filter_eq_self.2 (fun x hx=>by obtain⟨c,_,rfl⟩:=dV.1 hx;simp),BQ]
 rfl
theorem uA (l:List fI) (f:fI→List UInt8) {i j} (h:i≠j):cnt (l.map fun c=>(i,f c)) j=[]:=by
 unfold cnt;rw[List.filter_eq_nil_iff.2 (fun x hx=>by obtain⟨c,_,rfl⟩:=dV.1 hx;simpa using h)]
 rfl
theorem Me:∀(b) (i j),j<i→cnt (all i b) j=[]
 |[],_,_,_=>rfl
 |s::b,i,j,h=>by
  rw[all,oG,uA _ _ om,Me b (i+1) j om,AB]
theorem rV:∀(b) (i j) (h:j<b.length),cnt (all i b) (i+j)=(lens b[j].2).map Int.ofNat
 |s::b,i,0,_=>by
  rw[all,oG,DD,Ww,Me b (i+1) i om,Bh];unfold lens;rw[BQ]
  rfl
 |s::b,i,j+1,h=>by
  rw[all,oG,uA _ _ om,AB,show i+(j+1)=i+1+j from om,rV b (i+1) j (by simpa using h)]
  rfl
end En
end
section
open Go.RowKit Go.Shelf
attribute [local go_sem] Oper.semAt_some
theorem rW {w w':World} {base n c sz A xs t row} (h:w.ownsRow base t sz (.slice A n c) n xs) (hg:w.grownBy w' row)
  (hr:∀r,row=some r→ab A≠some r∨∃o:Obj,w.heap[r]? =some o∧o.isCells=false):w'.ownsRow base t sz (.slice A n c) n xs:=by
 refine⟨h.1,?_⟩;rcases h.2 with hn|⟨g,cap,cur,hv,h1,h2,rest⟩
 ·exact .inl hn
 ·refine .inr ⟨g,cap,cur,hv,h1,?_,rest⟩;rw[hg.block g (Ge.1 h2).1]
  ·exact h2
  ·intro e';rcases hr g e'.symm with h3|⟨o,ho,hoc⟩
   ·injection hv with hv
    rw[hv]at h3;exact h3 rfl
   ·rw[h2]at ho;cases ho;cases hoc
theorem zy {w:World} {base n c sz A xs t} (h:w.ownsRow base t sz (.slice A n c) n xs):∀j o,ab A=some j→w.heap[j]? =some o→o.isCells=true:=by
 intro j o ej hj;rcases h.2 with⟨hv,_⟩|⟨g',cap,cur,hv,_,hgb,_⟩
 ·injection hv with hv1;rw[hv1]at ej;cases ej
 ·injection hv with hv1
  rw[hv1]at ej;obtain rfl:g'=j:=by simpa[ab]using ej
  rw[hgb]at hj;cases hj;rfl
def nz (w:World) (B:Nat) (A:Option Addr) (n c:Nat) (LL:List Cs.fI):Prop:=
 ∃vs:List Value,Rd w B 1 A n c vs∧vs.length=LL.length∧∀(i:Nat) (l:Cs.fI),LL[i]? =some l→∃A' n' c',vs[i]? =some (.slice A' n' c')∧fO w B A' n' c' l
section
variable {w w':World} {B n c:Nat} {A:Option Addr} {LL:List Cs.fI}
theorem nz.len (h:nz w B A n c LL):n=LL.length:=by
 obtain⟨vs,h1,h2,_⟩:=h;have:=h1.2.2.1;omega
theorem nz.at_ {k} (h:nz w B A n c LL) (hk:k<LL.length):
  ∃b off A' n' c',A=some ⟨b,off,none⟩∧b<B∧w.cell? ⟨b,off+k,none⟩=some (.slice A' n' c')∧fO w B A' n' c' LL[k]:=by
 have hn:=h.len;obtain⟨vs,h1,h2,h3⟩:=h;obtain⟨b,off,u,e,hb,hu,hc⟩:=h1.at_ (k:=k) om;obtain⟨A',n',c',e',hr⟩:=h3 k LL[k] (kC hk);rw[hu]at e'
 injection e' with e'
 subst e';exact⟨b,off,A',n',c',e,hb,hc,hr⟩
theorem nz.take (h:nz w B A n c LL) {k} (hk:k≤n):nz w B A k c (LL.take k):=by
 have hn:=h.len;obtain⟨vs,h1,h2,h3⟩:=h;have:=h1.take hk;rw[Dp]at this;refine⟨_,this,by simp[h2],fun i l hl=>?_⟩;rw[List.getElem?_take]at hl;split at hl
 ·next hi=>
  obtain⟨A',n',c',e',hr⟩:=h3 i l hl;exact⟨A',n',c',by rw[List.getElem?_take,Ps0 hi];exact e',hr⟩
 ·cases hl
end
theorem Sm:(prog.info? 55).map (fun i=>(i.zero,i.size,i.bytes))=some (some (.slice none 0 0),1,24):=kr
theorem Rd.hdM (w:World) (v):Rd (w.alloc (.cells #[v] 55)) (w.heap.size+1) 1 (some ⟨w.heap.size,0,none⟩) 1 1 [v]:=
 ⟨Nr _,by unfold maxLen;omega,rfl,fun _=>⟨_,0,rfl,om,fun i u hu=>by
  match i,hu with
  |0,hu=>simp at hu;subst hu;exact Aq w _ _ _ 0⟩⟩
namespace Ck
def oO (n:Nat):Nat:=(n+119)/120
def Gw (A:Option Addr) (n j:Nat):Value:= .slice (A.map (·.add (120*j*2))) (min 120 (n-120*j)) (min 120 (n-120*j))
theorem uB (l):jw l=(List.range (oO l.length)).map fun j=>(l.drop (120*j)).take 120:=by
 by_cases h:l=[]
 ·subst h;rw[dS];rfl
 ·have hp:=mH.2 h;rw[jP h,uB (l.drop 120),kz];have e:oO l.length=oO (l.length-120)+1:=by unfold oO;omega
  rw[e,List.range_succ_eq_map,AJ,BQ]
  congr 1
  refine Dy fun j _=>?_
  show((l.drop 120).drop (120*j)).take 120=(l.drop (120*(j+1))).take 120;rw[List.drop_drop]
  congr 2
  omega
termination_by l.length
decreasing_by
 have:=mH.2 h;rw[kz];omega
end Ck
def Sn (v:Value):Array Value:= #[v]
theorem zz (n bx bk B A m c) (l:Cs.fI) (w) (hw:Boxed w bx 55 (.slice A m c)) (hk:Boxed w bk 3 (.int .i64 120)) (hbx:bx<B) (hbk:bk<B) (hv:fO w B A m c l) (hm:m≤1000000000):
  Yields n prog 240 #[.pointer (some ⟨bx,0,none⟩),.pointer (some ⟨bk,0,none⟩)] Sn (fun _=>False) (fun X Y=>Below B X Y) ((List.range (Ck.oO m)).map (Ck.Gw A m)) w:=by
 intro q J Jx W hK hJ hJx bC h0;have hlc:=hv.1;have hcm:=hv.2.1;unfold maxLen at hcm;have hW:Boxed W bx 55 (.slice A m c):=(hK.block bx hbx).trans hw;have hW2:Boxed W bk 3 (.int .i64 120):=(hK.block bk hbk).trans hk;have V:=Al (hv.below hK);have dh:=Al bC;have KW:=Al (show∀W',Below B W W'→W'.cell? ⟨bx,0,none⟩=some (.slice A m c)∧W'.cell? ⟨bk,0,none⟩=some (.int .i64 120)from fun W' hb=>⟨(show Boxed W' bx 55 (.slice A m c)from(hb.block bx hbx).trans hW).cell,(show Boxed W' bk 3 (.int .i64 120)from(hb.block bk hbk).trans hW2).cell⟩);have MJ:=Al hJ;clear hw hK bC hJ hJx hv hW hW2 hk;refine Bu.2 ?_;go_enter func240,ntmps240;go_wp2;go_loopw [4] (fun i wr=>∃k:Nat,k≤Ck.oO m∧i= .int .i64 ((120*k:Nat):Int)∧Below B W wr∧Kept (J (((List.range (Ck.oO m)).map (Ck.Gw A m)).take k) wr)) (fun i _=>m+120-(intOf i).toNat)
 case atStart=>exact⟨0,om,rfl,Ae _ _,⟨h0⟩⟩
 case round=>
  clear h0;obtain⟨k,hk,rfl,hb,hj⟩:=hrel;obtain⟨k0,k1⟩:=KW.1 _ hb;by_cases hlt:120*k<m
  ·have hlt':((120*k:Nat):Int)< (m:Int):=by omega
   have hc1:¬c=120*k:=om;have hkn:k<Ck.oO m:=by unfold Ck.oO;omega
   have hkl:k< ((List.range (Ck.oO m)).map (Ck.Gw A m)).length:=by rw[fM,CR];exact hkn
   have ht:=Ts hkl;have hg:((List.range (Ck.oO m)).map (Ck.Gw A m))[k]=Ck.Gw A m k:=Ah;rw[hg]at ht;have HT:=Al ht;have BB:=Al hb;have HJ:=Al hj.1;clear ht hg hb hj;obtain⟨b,off,rfl,-,-⟩:=V.1.2.2.2 om;go_wp2;go_quiet (fail);obtain⟨e,he⟩:∃e,e=min 120 (m-120*k):=⟨_,rfl⟩
   have hmin:min (120:Int) ((m-120*k:Nat):Int)=(e:Int):=om;rw[hmin];have he1:1≤e:=om;have he2:120*k+e≤m:=om;have HE:Kept (Ck.Gw (some ⟨b,off,none⟩) m k= .slice (some ⟨b,off+120*k*2,none⟩) e e):=⟨by unfold Ck.Gw;rw[EF,add_plain,←he]⟩
   clear hmin he;have J0:=MJ.1 _ _ (wr.drewN nq) none HJ.1 ⟨rfl,rfl,rfl,Nr _,fun _ _ _=>rfl⟩ (fun r h=>by cases h);obtain⟨fn,tmps,assign,body,hy,qx⟩:=dh.1 _ (Ck.Gw (some ⟨b,off,none⟩) m k) (wr.drewN nq) J0 ⟨((List.range (Ck.oO m)).map (Ck.Gw (some ⟨b,off,none⟩) m)).drop (k+1),by rw[←HT.1,je]⟩;unfold Sn at hy;rw[HE.1]at hy;rw[←HT.1]at qx;clear J0 k0 k1;obtain⟨k0,k1⟩:=KW.1 (wr.drewN nq) (below_drewN BB.1 nq);have BB2:=Al (below_drewN BB.1 nq);have KW2:=Al KW.1;clear KW dh HJ BB HE HT;generalize wr.drewN nq=wd at*;go_upto_region 4 with fail;refine(BM (n:=n)).1 ?_
   gi_wp2
   refine⟨(fun h=>by simp[Fence.wide]at h),qx.mono ?_⟩;rintro e2 W' (⟨rfl,hj',hb'⟩|⟨rfl,qV⟩)
   ·have B2:=Al (BB2.1.trans hb');have J2:=Al hj';obtain⟨q0,q1⟩:=KW2.1 _ B2.1;clear hj' hb' k0 k1 qx
    gi_wp2
    go_wp2;go_roundw
    case rel=>exact⟨k+1,om,by go_num,B2.1,J2⟩
    case measure=>simp[intOf];omega
   ·have X2:=Al qV;clear qV k0 k1 qx
    gi_wp2
    go_wp2;exact Bg (Cm rfl _ _ _) rfl ⟨⟨_,rfl⟩,.inr ⟨_,List.take_prefix _ _,X2.1⟩⟩
  ·have J2:Kept (J ((List.range (Ck.oO m)).map (Ck.Gw A m)) wr):=⟨by have:=hj.1;rwa[jc (by rw[fM,CR];unfold Ck.oO;omega)]at this⟩
   have hlt':¬((120*k:Nat):Int)< (m:Int):=om;clear hj;go_wp2;go_end0;exact⟨⟨_,rfl⟩,.inl J2.1⟩
def zA (w:World) (pre:List Value) (W:World):Prop:=
 ∃A n c,Boxed W w.heap.size 147 (.slice A n c)∧W.ownsRow (w.heap.size+1) 55 1 (.slice A n c) n pre∧Below w.heap.size w W
theorem zA.own {w}:aI (w.heap.size+1) (fun _=>False) (zA w):=by
 rintro s W W' row ⟨A,n,c,hb,ho,hbel⟩ hg hr;have hrow:∀r,row=some r→w.heap.size<r:=fun r e=>by
  rcases hr r e with h|⟨h,_⟩
  ·exact h.elim
  ·omega
 refine⟨A,n,c,hb.kept hg (fun e=>by have:=hrow _ e.symm;omega),rW ho hg (fun r e=>?_),hbel.grown hg hbel.size (fun g e=>by have:=hrow g e;omega)⟩;rcases hr r e with h|⟨_,h⟩
 ·exact h.elim
 ·exact .inr h
theorem zA.push {w W w5 A A4 n c c4 pre x tmp} (hW:w.heap.size+1≤W.heap.size) (hb:Boxed W w.heap.size 147 (.slice A n c)) (ho:W.ownsRow (w.heap.size+1) 55 1 (.slice A n c) n pre) (hbel:Below w.heap.size w W)
  (hown:w5.ownsRow (w.heap.size+1) 55 1 (.slice A4 (n+1) c4) (n+1) (pre++[x])) (hg:(W.alloc tmp).grownBy w5 (ab A)):
  KeepsFrom (w.heap.size+1) W (w5.setCell ⟨w.heap.size,0,none⟩ (.slice A4 (n+1) c4))∧Below w.heap.size W (w5.setCell ⟨w.heap.size,0,none⟩ (.slice A4 (n+1) c4))∧zA w (pre++[x]) (w5.setCell ⟨w.heap.size,0,none⟩ (.slice A4 (n+1) c4)):=by
 have hlt:∀g,ab A=some g→w.heap.size+1≤g:=fun g e=>(ae ho g e).1
 have IQ:∀g,ab A4=some g→w.heap.size+1≤g:=fun g e=>(ae hown g e).1
 have hcl:∀j o,ab A=some j→(W.alloc tmp).heap[j]? =some o→o.isCells=true:=zy (Oa ho tmp);have gs:=grownBy_setCell' w5 w.heap.size (.slice A4 (n+1) c4);have hb1:Below w.heap.size W w5:=((Ae _ W).alloc om tmp).grown hg (by simp;omega) (fun g e=>by have:=hlt g e;omega);have hb2:Below w.heap.size W (w5.setCell ⟨w.heap.size,0,none⟩ (.slice A4 (n+1) c4)):=hb1.setCell (p:=⟨w.heap.size,0,none⟩) Aj _;refine⟨(((Eu W _).trans (C9 hg hcl)).trans (CB _ _ _)).from _,hb2,A4,n+1,c4,?_,?_,hbel.trans hb2⟩
 ·refine Boxed.set _ ((hb.alloc tmp).kept hg (fun e=>?_));have:=hlt _ e.symm;omega
 ·exact rW hown gs (fun r e=> .inl fun e2=>by cases e;have:=IQ _ e2;omega)
theorem uC (bx bk A m c) (l:Cs.fI) (w) (hw:Boxed w bx 55 (.slice A m c)) (hk:Boxed w bk 3 (.int .i64 120)) (hv:fO w w.heap.size A m c l) (hm:m≤1000000000):
  Calls prog 239 #[.slice none 0 0,.func (.func 240) #[] #[.pointer (some ⟨bx,0,none⟩),.pointer (some ⟨bk,0,none⟩)]] w fun e w'=>∃A2 n2 c2,e= .returned (.slice A2 n2 c2)∧w'.ownsRow w.heap.size 55 1 (.slice A2 n2 c2) n2 ((List.range (Ck.oO m)).map (Ck.Gw A m))∧Below w.heap.size w w':=by
 have hbx:=hw.lt;have hbk:=hk.lt;obtain⟨L,hL⟩:∃L,L=(List.range (Ck.oO m)).map (Ck.Gw A m):=⟨_,rfl⟩
 have YV:Kept (∀o,Yields 8 prog 240 #[.pointer (some ⟨bx,0,none⟩),.pointer (some ⟨bk,0,none⟩)] Sn (fun _=>False) (fun X Y=>Below w.heap.size X Y) L (w.alloc o)):=⟨fun o=>by rw[hL];exact zz 8 bx bk w.heap.size A m c l (w.alloc o) (hw.alloc o) (hk.alloc o) hbx hbk (hv.alloc Aj o) hm⟩
 have hlen:Kept (L.length≤10000000):=⟨by rw[hL,fM,CR];unfold Ck.oO;omega⟩
 have hone:Kept (∀x∈L,∃A0 n0 c0,x= .slice A0 n0 c0):=⟨fun x hx=>by rw[hL]at hx;obtain⟨j,_,rfl⟩:=dV.1 hx;exact⟨_,_,_,rfl⟩⟩
 rw[←hL];clear hw hv hk hL;refine(Bu (n:=9)).1 ?_;refine CG func239 rfl trivial ?_ rfl;simp only[ntmps239,Cq,Lc,Ba,Nat.reduceAdd,Nat.reduceSub,Cv,Cx,Da,CJ,AB,Bc];refine BM.2 ?_;go_wp2;have bB:=Bo w 147 (.slice none 0 0);have hsz:(w.alloc (.cells #[.slice none 0 0] 147)).heap.size=w.heap.size+1:=Ah;have g0:Below w.heap.size w (w.alloc (.cells #[.slice none 0 0] 147)):=(Ae _ _).alloc Aj _;have Y4:=YV.1 (.cells #[.slice none 0 0] 147);clear YV;generalize w.alloc (.cells #[.slice none 0 0] 147)=w4 at*;refine(BM (n:=9)).1 ?_;refine su Ai (gf:=240) (lb:= #[.pointer (some ⟨bx,0,none⟩),.pointer (some ⟨bk,0,none⟩)]) rfl (BR func240 kr rfl)
  (encs:=Sn) (O:=fun _=>False) (Kp:=fun X Y=>Below w.heap.size X Y) (L:=L) Y4
  (fun _ h=>h.elim) (fun h k=>h.trans k) (fun W W' row hW hg hr=>(Ae _ W).grown hg om (fun g e=>by have:=hr g e;omega)) (fun _=>rfl)
  (zA w) (fun _ _ _=>False)
  (fun pre x a₁ W=>zA w pre W∧
   a₁={tmps:= #[.slice none 0 0,.func (.func 240) #[] #[.pointer (some ⟨bx,0,none⟩),.pointer (some ⟨bk,0,none⟩)],.pointer (some ⟨w.heap.size,0,none⟩),undef,.slice none 0 0,x,.func (.func 240) #[] #[.pointer (some ⟨bx,0,none⟩),.pointer (some ⟨bk,0,none⟩)],
    x,undef,undef,undef,undef,undef],defers:=[]})
  ?hI (fun _ _ _ _ _ h _ _=>h) ?hM ?h0 ?assign ?body ?done ?stop
 case hI=>rw[hsz];exact zA.own
 case hM=>
  rw[hsz];rintro pre p a₁ u W W' row ⟨hI,ha⟩ hgr hr;exact⟨zA.own _ _ _ _ hI hgr hr,ha⟩
 case h0=>exact⟨none,0,0,bB,Bb _ _ _ _,g0⟩
 case assign=>
  rintro q pre x W hI hpre hW;unfold Sn
  gi_wp2
  exact⟨⟨Nr _,fun _ _ _ h _=>h⟩,Ae _ _,hI,trivial⟩
 case body=>
  rintro q pre x a₁ W ⟨⟨A',n',c',hb,ho,hbel⟩,rfl⟩ hpre hW;have hl1:n'≤10000000:=by
   have h1:=ho.1;have h2:=hpre.length_le;have h3:=hlen.1;simp at h2;omega
  obtain⟨A0,n0,c0,rfl⟩:=hone.1 x (hpre.subset Ah);have hcO:=hb.cell;have Hb:=Al hb;have vI:=Al ho;have HB:=Al hbel;have hlo:∀g,ab A'=some g→w.heap.size+1≤g:=fun g e=>(ae ho g e).1
  have Yr:=Al hlo;have h1c:Kept (∀u∈[Value.slice A0 n0 c0],u.oneCell'=true):=⟨by intro u hu;rw[iP.1 hu];rfl⟩
  clear hb ho hbel hlo;obtain⟨i0,hi0,hz0,hz1,hz2⟩:=AY Sm
  gi_wp2_with (gi_at_builtin;refine eY _ rfl (.tmp 8) (.tmp 10) _ rfl (w.heap.size+1) 55 i0 (.slice none 0 0) 1 24 underlying147 hi0 hz0 hz1 hz2 rfl Ai A' n' c' _ rfl (Oa vI.1 _) (W.heap.size+1) _ _ _ [.slice A0 n0 c0] rfl (Rd.hdM W (.slice A0 n0 c0)) h1c.1 (by unfold maxLen;omega) om (by simp;omega) ?_;intro A4 c4 w5 au af bT;have nD:Boxed w5 w.heap.size 147 (.slice A' n' c'):=(Hb.1.alloc _).kept af (fun e=>by have:=Yr.1 _ e.symm;omega);have UQ:=nD.cell;have UR:=nD.frozen)
  rw[hsz];exact zA.push om Hb.1 vI.1 HB.1 au af
 case done=>
  rintro D W hD ⟨A',n',c',hb,ho,hbel⟩ hK;have hc:=hb.cell;have vI:=Al ho;have HB:=Al hbel;clear ho hbel;go_wp2;refine⟨Ah,.inl ⟨_,_,rfl,CV hK,?_⟩⟩;have hgo:W.grownBy (W.putObj D (.deferred none)) (some D):=Bn W D _;have hb2:=rW vI.1 hgo (fun r e=>by cases e;exact .inr ⟨_,hK,rfl⟩);refine⟨_,results_tmp rfl _ _ _,A',n',c',rfl,?_,HB.1.grown hgo HB.1.size (fun g e=>by cases e;omega)⟩;exact⟨hb2.1,hb2.2.imp id fun⟨g,cap,cur,h1,h2,h3⟩=>⟨g,cap,cur,h1,om,h3⟩⟩
 case stop=>
  rintro D c pre W _ _ h _;exact h.elim
theorem aH.made (w:World) (base) (h:base≤w.heap.size):aH (w.alloc (.cells #[] 127)) base (some ⟨w.heap.size,0,none⟩) 0 0 []:=World.ownsRow_made w #[] 0 h Ah rfl
theorem JQ (A n c B) (l:Cs.fI) (w) (hv:fO w B A n c l) (hB:B≤w.heap.size) (hl:n≤4398046511000):
  Calls prog 189 #[.slice A n c] w fun e w'=>∃A3 c3,e= .returned (.slice A3 n c3)∧aH w' w.heap.size A3 n c3 l∧Below w.heap.size w w':=by
 have hlc:=hv.1;have hcm:=hv.2.1;unfold maxLen at hcm;have Hv:=Al hv;have hn:=Al hv.len;clear hv;have qT:∀(w:World) (a:Option Addr) (n c n' c':Nat),(binOp .eql 55 (.slice a n c) (.slice none n' c')).run prog w= .ok (.bool a.isNone) w:=fun w a n c n' c'=>Lib.run_eql_slice_nil w _ _ a n c n' c' underlying55
 cases A with
 |none=>
  have h0:n=0:=by
   rcases lY n with h|h
   ·exact h
   ·obtain⟨b,off,e,_⟩:=Hv.1.2.2.2 h;cases e
  subst h0;obtain rfl:l=[]:=qU hn.1.symm;go_enter func189,ntmps189;go_wp2;go_ret;exact⟨none,0,rfl,aH.nil _ _,Ae _ _⟩
 |some a=>
  go_enter func189,ntmps189;go_wp2_with (at_builtin;refine kK rfl (.tmp 5) (.tmp 6) rfl w.heap.size _ _ _ [] rfl (aH.made w _ Aj) B _ _ _ l rfl (Rd.alloc Hv.1 hB _) om Ah ?_;intro A2 c2 w1 hown1 hgrow1 U3;have hb1:Below w.heap.size w w1:=((Ae _ w).alloc Aj _).grown hgrow1 Ah (by simp[ab]));rw[AB,bO]at hown1;go_ret;exact⟨A2,c2,rfl,hown1,hb1⟩
theorem zC (bx bk A m c) (l:Cs.fI) (w) (hw:Boxed w bx 55 (.slice A m c)) (hk:Boxed w bk 3 (.int .i64 120)) (hv:fO w w.heap.size A m c l) (hm:m≤1000000000):
  Calls prog 187 #[.func (.func 240) #[] #[.pointer (some ⟨bx,0,none⟩),.pointer (some ⟨bk,0,none⟩)]] w fun e w'=>∃A2 n2 c2,e= .returned (.slice A2 n2 c2)∧w'.ownsRow w.heap.size 55 1 (.slice A2 n2 c2) n2 ((List.range (Ck.oO m)).map (Ck.Gw A m))∧Below w.heap.size w w':=by
 have AP:=Al (uC bx bk A m c l w hw hk hv hm);clear hw hk hv;go_enter func187,ntmps187;go_wp2_with (go_at_call 239;refine AP.1.mono ?_;rintro e w1 ⟨A2,n2,c2,rfl,ho,hb⟩;have O:=Al ho;have HB:=Al hb;clear ho hb);go_ret;exact⟨A2,n2,c2,rfl,O.1,HB.1⟩
theorem JR (A m c w):
  Calls prog 188 #[.slice A m c,.int .i64 120] w fun e w'=>e= .returned (.func (.func 240) #[] #[.pointer (some ⟨w.heap.size,0,none⟩),.pointer (some ⟨w.heap.size+1,0,none⟩)])∧w'=(w.alloc (.cells #[.slice A m c] 55)).alloc (.cells #[.int .i64 120] 3):=by
 have hmf:∀(fn:Fn) (first cap:Array Value) (w:World),(Instr.makeFunc fn first cap).run prog w= .ok (.func fn first cap) w:=fun _ _ _ _=>rfl
 go_enter func188,ntmps188;go_wp2;go_ret;exact⟨rfl,rfl⟩
theorem nz.chunks {w B m c A2n A A2 n2 c2} {l:Cs.fI} (hv:fO w B A m c l) (hB:B≤A2n) (ho:Rd w A2n 1 A2 n2 c2 ((List.range (Ck.oO m)).map (Ck.Gw A m))):nz w A2n A2 n2 c2 (Ck.jw l):=by
 have hn:=hv.len;refine⟨_,ho,?_,fun i s hs=>?_⟩
 ·rw[Ck.uB,fM,fM,hn]
 ·rw[Ck.uB]at hs;rw[Df]at hs⊢;obtain⟨j,hj,rfl⟩:=DC.1 hs;rw[←hn]at hj;rw[hj];have hij:j<Ck.oO m:=by have:=List.mem_of_getElem? hj;exact List.mem_range.1 this
  have hjm:120*j<m:=by unfold Ck.oO at hij;omega
  refine⟨_,_,_,rfl,?_⟩;have h1:=hv.drop (k:=120*j) om;have h2:=h1.take (k:=min 120 (m-120*j)) om;have hlc:=hv.1;rw[Ng om]at h2;have e:(l.drop (120*j)).take (min 120 (m-120*j))=(l.drop (120*j)).take 120:=by
   by_cases q:120≤m-120*j
   ·rw[Nat.min_eq_left q]
   ·rw[Nat.min_eq_right om,jc (by rw[kz];omega),jc (by rw[kz];omega)]
  rw[e]at h2;have h3:fO w B (A.map (·.add (120*j*2))) (min 120 (m-120*j)) (min 120 (m-120*j)) ((l.drop (120*j)).take 120):=⟨Nr _,by have:=h2.2.1;omega,h2.2.2.1,h2.2.2.2⟩
  exact h3.more hB
end
section
open Go.RowKit Go.Sort
abbrev eU:Int→Value:=fun x=>Value.int .u64 x
structure Sv (w:World) (b o:Nat) (d0 d:Array Int) (wr:World):Prop where
 h0:Holds eU w b o d0
 lt:b<w.heap.size
 sz:d.size=d0.size
 at_:At eU w b o d wr
section
variable {w wr w2:World} {b o:Nat} {d0 d d':Array Int}
theorem Sv.refl (h:Holds eU w b o d0) (hb:b<w.heap.size):Sv w b o d0 d0 w:=⟨h,hb,rfl,At.refl h⟩
theorem Sv.holds (h:Sv w b o d0 d wr):Holds eU wr b o d∧b<wr.heap.size:=h.at_.holds h.h0 h.sz h.lt
theorem Sv.cell (h:Sv w b o d0 d wr):∀t,t<d0.size→wr.cell? ⟨b,o+t,none⟩=some (.int .u64 d[t]!):=fun t ht=>(h.holds.1 t (by rw[h.sz];exact ht)).1
theorem Sv.iN (h:Sv w b o d0 d wr):∀t,t<d0.size→wr.frozen? ⟨b,o+t,none⟩=false:=fun t ht=>(h.holds.1 t (by rw[h.sz];exact ht)).2
theorem Sv.drewN (h:Sv w b o d0 d wr) (n):Sv w b o d0 d (wr.drewN n):=⟨h.h0,h.lt,h.sz,h.at_.ahead n⟩
theorem Sv.step (h:Sv w b o d0 d wr) (k:Sv wr b o d d' w2):Sv w b o d0 d' w2:=by
 obtain⟨n,os,hw⟩:=k.at_;exact⟨h.h0,h.lt,k.sz.trans h.sz,h.at_.stepG h.lt k.sz ⟨n,os,hw⟩⟩
theorem Sv.swp (h:Sv w b o d0 d wr) {i j:Nat} (hi:i<d0.size) (hj:j<d0.size):Sv w b o d0 (swp d i j) ((wr.setCell ⟨b,o+i,none⟩ (.int .u64 d[j]!)).setCell ⟨b,o+j,none⟩ (.int .u64 d[i]!)):=by
 refine h.step ⟨h.holds.1,h.holds.2,size_swp d i j,0,#[],?_⟩;rw[grow_empty,ahead_zero];have e:=putRow_self eU wr b o d h.holds.1;have e2:=putRow_swp eU wr b o d i j (by rw[h.sz];exact hi) (by rw[h.sz];exact hj);rw[e]at e2;exact e2
end
theorem Wx (x w):Calls prog 297 #[.int .u64 x] w fun e w'=>e= .returned (.bool false)∧w'=w:=by
 go_enter func297,ntmps297;go_wp2;go_ret;exact⟨Ah,rfl⟩
theorem aB (x y w):Calls prog 283 #[.int .u64 x,.int .u64 y] w fun e w'=>e= .returned (.bool (ltInt x y))∧w'=w:=by
 go_enter func283,ntmps283;go_wp2_with (go_at_call 297;refine(Wx _ _).mono ?_;rintro e w' ⟨rfl,rfl⟩);go_ret;exact⟨rfl,rfl⟩
theorem ru (b o c x y d w) (hH:Holds eU w b o d) (hw:b<w.heap.size) (hxy:x≤y) (hy:y≤d.size) (hsz:d.size<4611686018427387904):
  Calls prog 301 #[.slice (some ⟨b,o,none⟩) d.size c,.int .i64 x,.int .i64 y] w fun e w'=>e= .returned (.tuple #[])∧Sv w b o d (Sort.insertionSort ltInt d x y) w':=by
 go_enter func301,ntmps301;go_wp2;go_loopw [6] (fun vi wr=>∃(i:Nat) (dk:Array Int),vi= .int .i64 i∧x<i∧i≤y+1∧Sv w b o d dk wr∧Kept (insOuter ltInt x y i dk=insOuter ltInt x y (x+1) d)) (fun vi _=>y+1-(intOf vi).toNat)
 case atStart=>exact⟨x+1,d,by go_num,om,om,Sv.refl hH hw,⟨rfl⟩⟩
 case round=>
  obtain⟨i,dk,rfl,hi1,hi2,hs,HO⟩:=hrel;have HS:=Al hs;clear hs;by_cases hiy:i<y
  ·have Z8:(i:Int)< (y:Int):=by omega
   go_wp2;go_loopw [7] (fun vj wi=>∃(j:Nat) (dj:Array Int),vj= .int .i64 j∧x≤j∧j≤i∧Sv w b o d dj wi∧Kept (insInner ltInt x j dj=insInner ltInt x i dk)) (fun vj _=>(intOf vj).toNat)
   case atStart=>exact⟨i,dk,rfl,om,Nr _,HS.1,⟨rfl⟩⟩
   case round=>
    obtain⟨j,dj,rfl,hj1,hj2,hs,HI⟩:=hrel;have hf:=hs.iN;obtain⟨G,hG⟩:∃G:Nat→Int,∀t,G t=dj[t]!:=⟨fun t=>dj[t]!,fun _=>rfl⟩
    have hc:∀t,t<d.size→wr.cell? ⟨b,o+t,none⟩=some (.int .u64 (G t)):=fun t ht=>by rw[hG];exact hs.cell t ht
    have HG:=Al hG;have HS2:=Al hs;clear hs hG;have out:(j≤x∨ltInt dj[j]! dj[j-1]! =false)→insOuter ltInt x y (i+1) dj=insOuter ltInt x y (x+1) d:=fun h=>by rw[←HO.1,insOuter_go _ _ _ _ _ hiy,←HI.1,insInner_stop _ _ _ _ h]
    have OUT:=Al out;clear out;by_cases qV:x<j
    ·have aaa:(x:Int)< (j:Int):=by omega
     by_cases hl:ltInt (G j) (G (j-1))=true
     ·go_wp2_with fail;go_quiet (first|(go_at_call 283;refine Az (aB _ _ _)));go_wp2_with fail;go_region
      all_goals go_wp2
      go_roundw
      case rel=>
       refine⟨j-1,Sort.swp dj j (j-1),by congr 1;omega,om,om,?_,⟨?_⟩⟩
       ·rw[HG.1,HG.1];exact(HS2.1.drewN _).swp (i:=j) (j:=j-1) om om
       ·rw[←HI.1,insInner_go ltInt x j dj qV (by rw[←HG.1,←HG.1];exact hl)]
      case measure=>simp[intOf];omega
     ·have hl:ltInt (G j) (G (j-1))=false:=by simpa using hl
      go_wp2_with fail;go_quiet (first|(go_at_call 283;refine Az (aB _ _ _)));go_wp2;go_roundw
      case rel=>exact⟨i+1,dj,by go_num,om,om,HS2.1.drewN _,⟨OUT.1 (.inr (by rw[←HG.1,←HG.1];exact hl))⟩⟩
      case measure=>simp[intOf];omega
    ·have aaa:¬(x:Int)< (j:Int):=by omega
     go_wp2_with fail;go_quiet (first|(go_at_call 283;refine Az (aB _ _ _)));go_wp2;go_roundw
     case rel=>exact⟨i+1,dj,by go_num,om,om,HS2.1.drewN _,⟨OUT.1 (.inl om)⟩⟩
     case measure=>simp[intOf];omega
  ·have Z8:¬(i:Int)< (y:Int):=by omega
   go_wp2;go_end0;refine⟨rfl,?_⟩;rw[Sort.insertionSort,←HO.1,insOuter_stop _ _ _ _ _ hiy];exact HS.1
theorem uD (b o c x y d w) (hH:Holds eU w b o d) (hw:b<w.heap.size) (hxy:x≤y) (hy:y≤d.size) (hsz:d.size<4611686018427387904):
  Calls prog 305 #[.slice (some ⟨b,o,none⟩) d.size c,.int .i64 x,.int .i64 y] w fun e w'=>e= .returned (.tuple #[])∧Sv w b o d (Sort.reverseRange d x y) w':=by
 go_enter func305,ntmps305;go_wp2;go_loopw [6,7] (fun vi vj wr=>∃(i j:Nat) (z:Int) (dk:Array Int),vi= .int .i64 i∧vj= .int .i64 z∧x≤i∧i≤y∧(z=j∧j<y∨¬(i:Int)<z∧¬i<j∧-1≤z∧z≤y)∧Sv w b o d dk wr∧Kept (reverseLoop i j dk=reverseLoop x (y-1) d)) (fun vi vj _=>((intOf vj)-(intOf vi)).toNat)
 case atStart=>exact⟨x,y-1,(y:Int)-1,d,rfl,rfl,Nr _,hxy,om,Sv.refl hH hw,⟨rfl⟩⟩
 case round=>
  obtain⟨i,j,z,dk,rfl,rfl,hi1,hi2,hz,hs,HO⟩:=hrel;have HS:=Al hs;by_cases hij:(i:Int)<z
  ·obtain⟨rfl,hjy⟩:z=j∧j<y:=by omega
   have hf:=hs.iN;obtain⟨G,hG⟩:∃G:Nat→Int,∀t,G t=dk[t]!:=⟨fun t=>dk[t]!,fun _=>rfl⟩
   have hc:∀t,t<d.size→wr.cell? ⟨b,o+t,none⟩=some (.int .u64 (G t)):=fun t ht=>by rw[hG];exact hs.cell t ht
   have HG:=Al hG;clear hs hG hz;go_wp2_with fail;go_region
   all_goals go_wp2
   go_roundw
   case rel=>
    refine⟨i+1,j-1,(j:Int)-1,Sort.swp dk i j,by go_num,rfl,om,om,om,?_,⟨?_⟩⟩
    ·rw[HG.1,HG.1];exact(HS.1.drewN _).swp (i:=i) (j:=j) om om
    ·rw[←HO.1,reverseLoop.eq_def i j dk,Ps0 om]
   case measure=>simp[intOf];omega
  ·clear hs;go_wp2;go_end0;refine⟨rfl,?_⟩;rw[Sort.reverseRange,←HO.1,reverseLoop,Ng om];exact HS.1
theorem uE (b o c l h f:Nat) (d n w) (hn:d.size=n) (hH:Holds eU w b o d) (hw:b<w.heap.size) (hl:l≤h) (hh:f+h≤n) (hsz:n<4611686018427387904):
  Calls prog 310 #[.slice (some ⟨b,o,none⟩) n c,.int .i64 l,.int .i64 h,.int .i64 f] w fun e w'=>e= .returned (.tuple #[])∧Sv w b o d (Sort.siftDown ltInt h f l d) w':=by
 subst hn;go_enter func310,ntmps310;go_wp2;go_loopw [8] (fun vr wr=>∃(r:Nat) (dk:Array Int),vr= .int .i64 r∧r≤h∧Sv w b o d dk wr∧Kept (Sort.siftDown ltInt h f r dk=Sort.siftDown ltInt h f l d)) (fun vr _=>h-(intOf vr).toNat)
 case atStart=>exact⟨l,d,rfl,hl,Sv.refl hH hw,⟨rfl⟩⟩
 case round=>
  obtain⟨r,dk,rfl,hr,hs,HO⟩:=hrel;have HS:=Al hs;by_cases h0:h≤2*r+1
  ·have h0':(h:Int)≤2*(r:Int)+1:=by omega
   clear hs;go_wp2;go_end0;refine⟨rfl,?_⟩;rw[←HO.1,sd_end ltInt dk h0];exact HS.1
  ·have h0':¬(h:Int)≤2*(r:Int)+1:=by omega
   have hf:=hs.iN;obtain⟨G,hG⟩:∃G:Nat→Int,∀t,G t=dk[t]!:=⟨fun t=>dk[t]!,fun _=>rfl⟩
   have hc:∀t,t<d.size→wr.cell? ⟨b,o+t,none⟩=some (.int .u64 (G t)):=fun t ht=>by rw[hG];exact hs.cell t ht
   have HG:=Al hG;clear hs hG;have key:∃q,r<q∧q<h∧(ltInt (G (f+r)) (G (f+q))=false→Sort.siftDown ltInt h f r dk=dk)∧(ltInt (G (f+r)) (G (f+q))=true→Sort.siftDown ltInt h f r dk=Sort.siftDown ltInt h f q (Sort.swp dk (f+r) (f+q)))∧
     ((q=2*r+2∧2*r+2<h∧ltInt (G (f+2*r+1)) (G (f+2*r+2))=true)∨(q=2*r+1∧2*r+2<h∧ltInt (G (f+2*r+1)) (G (f+2*r+2))=false)∨(q=2*r+1∧¬2*r+2<h)):=by
    simp only[HG.1];by_cases h1:2*r+2<h
    ·by_cases h2:ltInt dk[f+(2*r+1)]! dk[f+(2*r+2)]! =true
     ·exact⟨2*r+2,om,h1,fun h3=>sd_right_stop ltInt dk h1 h2 h3,fun h3=>sd_right_go ltInt dk h1 h2 h3,.inl ⟨rfl,h1,h2⟩⟩
     ·have h2:ltInt dk[f+(2*r+1)]! dk[f+(2*r+2)]! =false:=by simpa using h2
      exact⟨2*r+1,om,om,fun h3=>sd_left_stop ltInt dk om (fun _=>h2) h3,fun h3=>sd_left_go ltInt dk om (fun _=>h2) h3,.inr (.inl ⟨rfl,h1,h2⟩)⟩
    ·exact⟨2*r+1,om,om,fun h3=>sd_left_stop ltInt dk om (fun h=>absurd h h1) h3,fun h3=>sd_left_go ltInt dk om (fun h=>absurd h h1) h3,.inr (.inr ⟨rfl,h1⟩)⟩
   obtain⟨q,hq1,hq2,hqs,hqg,hq⟩:=key;have HQS:=Al hqs;have HQG:=Al hqg;clear hqs hqg;have hlt:ltInt (G (f+r)) (G (f+q))=false∨ltInt (G (f+r)) (G (f+q))=true:=by cases ltInt (G (f+r)) (G (f+q))<;>simp
   rcases hq with⟨hq,h1,h2⟩|⟨hq,h1,h2⟩|⟨hq,h1⟩
   have h1':2*(r:Int)+1+1< (h:Int):=om
   rotate_left
   have h1':2*(r:Int)+1+1< (h:Int):=om
   rotate_left
   have h1':decide (2*(r:Int)+1+1< (h:Int))=false:=AA om
   rotate_left
   all_goals
    go_wp2_with fail;go_quiet (first|(go_at_call 283;refine Az (aB _ _ _)));go_wp2_with fail
    first
     |rw[show 2*(r:Int)+1+1=(q:Int)from om]
     |rw[show 2*(r:Int)+1=(q:Int)from om]
    have hc2:∀t,t<d.size→(wr.drewN nq).cell? ⟨b,o+t,none⟩=some (.int .u64 (G t)):=hc;have hf2:∀t,t<d.size→(wr.drewN nq).frozen? ⟨b,o+t,none⟩=false:=hf;have HS2:=Al (HS.1.drewN nq);clear hc hf HS hq h1;generalize wr.drewN nq=w2 at*;rcases hlt with hlt|hlt
    ·go_quiet (first|(go_at_call 283;refine Az (aB _ _ _)));go_wp2_with fail
     (try simp only[Exit.inBlock,Exit.then]);refine Bg (Cm rfl _ _ _) rfl ?_
     refine⟨rfl,?_⟩;rw[←HO.1,HQS.1 hlt];exact HS2.1.drewN _
    ·go_quiet (first|(go_at_call 283;refine Az (aB _ _ _)));go_wp2_with fail;go_region
     all_goals go_wp2
     go_roundw
     case rel=>
      refine⟨q,Sort.swp dk (f+r) (f+q),rfl,om,?_,⟨?_⟩⟩
      ·rw[HG.1,HG.1];exact(HS2.1.drewN _).swp (i:=f+r) (j:=f+q) om om
      ·rw[←HO.1,HQG.1 hlt]
     case measure=>simp[intOf];omega
end
section
open Go.RowKit Go.Sort
theorem JS (b o c x y d w) (hH:Holds eU w b o d) (hw:b<w.heap.size) (hxy:x≤y) (hy:y≤d.size) (hsz:d.size<4611686018427387904):
  Calls prog 302 #[.slice (some ⟨b,o,none⟩) d.size c,.int .i64 x,.int .i64 y] w fun e w'=>e= .returned (.tuple #[])∧Sv w b o d (Sort.heapSort ltInt d x y) w':=by
 have hst:=half_start hxy;obtain⟨L,hL⟩:∃L,y-x=L:=⟨y-x,rfl⟩
 have hLi:(y:Int)-(x:Int)=(L:Int):=om;have hxL:x+L≤d.size:=om;unfold Sort.heapSort;rw[hL]at hst⊢;rw[hLi]at hst;clear hL hxy hy;obtain⟨K,hK⟩:∃K,K=(L-1)/2+1:=⟨_,rfl⟩
 rw[←hK]at hst⊢;have hKL:K≤L+1:=om;clear hK;go_enter func302,ntmps302;go_wp2;go_loopw [9] (fun vi wr=>∃(k:Nat) (dk:Array Int),vi= .int .i64 ((k:Int)-1)∧k≤K∧Sv w b o d dk wr∧Kept (heapBuild ltInt L x k dk=heapBuild ltInt L x K d)) (fun vi _=>(intOf vi+1).toNat)
 case atStart=>exact⟨K,d,by first|rw[hst]|rfl,Nr _,Sv.refl hH hw,⟨rfl⟩⟩
 case round=>
  obtain⟨k,dk,hv,hk,hs,HO⟩:=hrel;obtain rfl|⟨m,rfl⟩:k=0∨∃m,k=m+1:=by cases k with|zero=>exact .inl rfl|succ m=>exact .inr ⟨m,rfl⟩
  ·obtain⟨z,hz,hz1⟩:∃z:Int,z<0∧((0:Nat):Int)-1=z:=⟨-1,om,rfl⟩
   rw[hz1]at hv;subst hv;clear hz1;have HB:=Al (show heapBuild ltInt L x K d=dk from HO.1.symm);have HS:=Al hs;clear hs HO hst;go_wp2;go_loopw [10] (fun vi wr=>∃(k:Nat) (dj:Array Int),vi= .int .i64 ((k:Int)-1)∧k≤L∧Sv w b o d dj wr∧Kept (heapPop ltInt x k dj=heapPop ltInt x L dk)) (fun vi _=>(intOf vi+1).toNat)
   case atStart=>exact⟨L,dk,rfl,Nr _,HS.1,⟨rfl⟩⟩
   case round=>
    obtain⟨k,dj,rfl,hk,hs,HP⟩:=hrel;have HS2:=Al hs;obtain rfl|⟨m,rfl⟩:k=0∨∃m,k=m+1:=by cases k with|zero=>exact .inl rfl|succ m=>exact .inr ⟨m,rfl⟩
    ·clear hs;go_wp2;go_end0;refine⟨rfl,?_⟩;rw[HB.1,←HP.1];exact HS2.1
    ·have hf:=hs.iN;obtain⟨G,hG⟩:∃G:Nat→Int,∀t,G t=dj[t]!:=⟨fun t=>dj[t]!,fun _=>rfl⟩
     have hc:∀t,t<d.size→wr.cell? ⟨b,o+t,none⟩=some (.int .u64 (G t)):=fun t ht=>by rw[hG];exact hs.cell t ht
     have HG:=Al hG;have hm1:((m+1:Nat):Int)-1=(m:Int):=om;clear hs hG;have SD:=Al (fun(w1:World) (h1:Sv w b o d (Sort.swp dj x (x+m)) w1)=>uE b o c 0 m x (Sort.swp dj x (x+m)) d.size w1 h1.sz h1.holds.1 h1.holds.2 (bf _) om hsz);rcases lY m with hm|hm
     ·subst hm;go_wp2_with fail;go_region;have H1:Sv w b o d (Sort.swp dj x (x+0)) (((wr.setCell ⟨b,o+x,none⟩ (.int .u64 (G (x+0)))).setCell ⟨b,o+(x+0),none⟩ (.int .u64 (G x))).drew):=by rw[HG.1,HG.1];exact(HS2.1.swp (i:=x) (j:=x+0) om om).drewN 1
      have H1:=Al H1;clear hc hf;generalize (((wr.setCell ⟨b,o+x,none⟩ (.int .u64 (G (x+0)))).setCell ⟨b,o+(x+0),none⟩ (.int .u64 (G x))).drew)=w1 at*;have hz0:x+0=x:=rfl;have SD1:=Al (SD.1 w1 H1.1);clear SD;go_wp2_with (go_at_call 310;refine SD1.1.mono ?_;rintro e w2 ⟨rfl,h2⟩;have H2:=Al (H1.1.step h2);clear h2);go_roundw
      case rel=>
       exact⟨0,_,rfl,om,H2.1,⟨by rw[←HP.1];rfl⟩⟩
      case measure=>first|(simp[intOf];done)|(simp[intOf];omega)
     ·skip;go_wp2_with fail;go_region;have H1:Sv w b o d (Sort.swp dj x (x+m)) (((wr.setCell ⟨b,o+x,none⟩ (.int .u64 (G (x+m)))).setCell ⟨b,o+(x+m),none⟩ (.int .u64 (G x))).drew):=by rw[HG.1,HG.1];exact(HS2.1.swp (i:=x) (j:=x+m) om om).drewN 1
      have H1:=Al H1;clear hc hf;generalize (((wr.setCell ⟨b,o+x,none⟩ (.int .u64 (G (x+m)))).setCell ⟨b,o+(x+m),none⟩ (.int .u64 (G x))).drew)=w1 at*;have SD1:=Al (SD.1 w1 H1.1);clear SD;go_wp2_with (go_at_call 310;refine SD1.1.mono ?_;rintro e w2 ⟨rfl,h2⟩;have H2:=Al (H1.1.step h2);clear h2);go_roundw
      case rel=>
       exact⟨m,_,rfl,om,H2.1,⟨by rw[←HP.1];rfl⟩⟩
      case measure=>first|(simp[intOf];done)|(simp[intOf];omega)
  ·subst hv;have SD:=Al (uE b o c m L x dk d.size wr hs.sz hs.holds.1 hs.holds.2 om hxL hsz);have HS:=Al hs;have hm1:((m+1:Nat):Int)-1=(m:Int):=om;clear hs;go_wp2_with (go_at_call 310;refine SD.1.mono ?_;rintro e w1 ⟨rfl,h1⟩;have H1:=Al (HS.1.step h1);clear h1);go_roundw
   case rel=>exact⟨m,_,rfl,om,H1.1,⟨by rw[←HO.1,heapBuild]⟩⟩
   case measure=>first|(simp[intOf];done)|(simp[intOf];omega)
def Cn (w:World) (g s:Nat) (wr:World):Prop:=g=w.heap.size∧∃n,wr=(w.alloc (.cells #[.int .i64 (s:Int)] 3)).drewN n
theorem Cn.start (w):Cn w w.heap.size 0 (w.alloc (.cells #[.int .i64 0] 3)):=⟨rfl,0,rfl⟩
theorem Cn.drewN {w wr g s} (h:Cn w g s wr) (k):Cn w g s (wr.drewN k):=by
 obtain⟨hg,n,rfl⟩:=h;exact⟨hg,n+k,by simp[World.drewN,iw]⟩
theorem Cn.row {w wr g s} (h:Cn w g s wr):wr.heap[g]? =some (.cells #[.int .i64 (s:Int)] 3 (0,0)):=by
 obtain⟨rfl,n,rfl⟩:=h;exact Aw w _
theorem Cn.k0 {w wr g s} (h:Cn w g s wr):wr.cell? ⟨g,0,none⟩=some (.int .i64 (s:Int)):=Co _ _ 0 _ _ _ h.row
theorem Cn.set {w wr g s} (h:Cn w g s wr) (t):Cn w g t (wr.setCell ⟨g,0,none⟩ (.int .i64 (t:Int))):=by
 obtain⟨rfl,n,rfl⟩:=h;refine⟨rfl,n,?_⟩;have e:∀v,(w.alloc (.cells #[.int .i64 (s:Int)] 3)).setCell ⟨w.heap.size,0,none⟩ v=w.alloc (.cells #[v] 3):=fun v=>by
  unfold World.setCell World.alloc
  congr 1
  apply Array.ext_getElem?;intro k;simp only[DU,Array.getElem?_push];by_cases hk:w.heap.size=k
  ·subst hk;simp
  ·simp[hk,show¬k=w.heap.size from om]
 show((w.alloc (.cells #[.int .i64 (s:Int)] 3)).setCell ⟨w.heap.size,0,none⟩ (.int .i64 (t:Int))).drewN n=_;rw[e]
theorem Cn.cell {w wr g s b o d} (h:Cn w g s wr) (hH:Holds eU w b o d) (hb:b<w.heap.size):∀t,t<d.size→wr.cell? ⟨b,o+t,none⟩=some (.int .u64 d[t]!):=fun t ht=>by
 obtain⟨rfl,n,rfl⟩:=h;exact(AR _ _ ⟨b,o+t,none⟩ hb).trans (hH t ht).1
theorem Cn.sv {w wr g s b o d} (h:Cn w g s wr) (hH:Holds eU w b o d) (hb:b<w.heap.size):Sv w b o d d wr:=by
 obtain⟨rfl,n,rfl⟩:=h;refine⟨hH,hb,rfl,(At.refl hH).same hH rfl hb ⟨n,#[.cells #[.int .i64 (s:Int)] 3],?_⟩⟩;rw[alloc_eq_grow];rfl
theorem xG {d a b s n} (ha:a<n) (hb:b<n):(Sort.order2 ltInt d a b s).1<n∧(Sort.order2 ltInt d a b s).2.1<n:=by
 unfold Sort.order2;split<;>exact⟨by assumption,by assumption⟩
theorem Gx (d a b s):(Sort.order2 ltInt d a b s).2.2≤s+1:=by unfold Sort.order2;split<;>simp
theorem uF (b o c x y g s n d w wr) (hn:d.size=n) (hH:Holds eU w b o d) (hw:b<w.heap.size) (hC:Cn w g s wr) (hx:x<n) (hy:y<n) (hsz:n<4611686018427387904) (hs:s≤1000):
  Calls prog 313 #[.slice (some ⟨b,o,none⟩) n c,.int .i64 x,.int .i64 y,.pointer (some ⟨g,0,none⟩)] wr fun e w'=>e= .returned (.tuple #[.int .i64 (Sort.order2 ltInt d x y s).1,.int .i64 (Sort.order2 ltInt d x y s).2.1])∧Cn w g (Sort.order2 ltInt d x y s).2.2 w':=by
 subst hn;obtain⟨G,hG⟩:∃G:Nat→Int,∀t,G t=d[t]!:=⟨fun t=>d[t]!,fun _=>rfl⟩
 have hc:∀t,t<d.size→wr.cell? ⟨b,o+t,none⟩=some (.int .u64 (G t)):=fun t ht=>by rw[hG];exact hC.cell hH hw t ht
 have k0:=Co _ _ 0 _ _ _ hC.row;have f0:=Fr _ _ 0 _ _ hC.row;have HC:=Al hC;have ho:Kept (Sort.order2 ltInt d x y s=if ltInt (G y) (G x)then(y,x,s+1)else(x,y,s)):=⟨by rw[hG,hG];rfl⟩
 clear hC hG hH;by_cases hl:ltInt (G y) (G x)=true
 ·go_enter func313,ntmps313;go_wp2_with fail;go_quiet (first|(go_at_call 283;refine Az (aB _ _ _)));go_wp2
  all_goals first|(exfalso;rename_i hx;rw[hl]at hx;exact Bool.noConfusion hx)|skip
  go_ret2;rw[ho.1,Ps0 hl];exact⟨rfl,(HC.1.drewN _).set (s+1)⟩
 ·have hl:ltInt (G y) (G x)=false:=by simpa using hl
  go_enter func313,ntmps313;go_wp2_with fail;go_quiet (first|(go_at_call 283;refine Az (aB _ _ _)));go_wp2
  all_goals first|(exfalso;rename_i hx;rw[hl]at hx;exact Bool.noConfusion hx)|skip
  go_ret2;rw[ho.1,Ng (by simp[hl])];exact⟨rfl,HC.1.drewN _⟩
theorem uG (b o c x y z g s n d w wr) (hn:d.size=n) (hH:Holds eU w b o d) (hw:b<w.heap.size) (hC:Cn w g s wr) (hx:x<n) (hy:y<n) (hz:z<n) (hsz:n<4611686018427387904) (hs:s≤900):
  Calls prog 312 #[.slice (some ⟨b,o,none⟩) n c,.int .i64 x,.int .i64 y,.int .i64 z,.pointer (some ⟨g,0,none⟩)] wr fun e w'=>e= .returned (.int .i64 (Sort.median ltInt d x y z s).1)∧Cn w g (Sort.median ltInt d x y z s).2 w':=by
 have h1:=uF b o c x y g s n d w wr hn hH hw hC hx hy hsz om;have⟨l1,l2⟩:=xG (d:=d) (s:=s) hx hy;have l3:=Gx d x y s;have hm:Sort.median ltInt d x y z s=(let r1:=Sort.order2 ltInt d x y s;let r2:=Sort.order2 ltInt d r1.2.1 z r1.2.2;let r3:=Sort.order2 ltInt d r1.1 r2.1 r2.2.2;(r3.2.1,r3.2.2)):=rfl;rw[hm];generalize Sort.order2 ltInt d x y s=R1 at*;obtain⟨p1,q1,s1⟩:=R1;simp only[]at h1 l1 l2 l3⊢;have h2:=fun(w1:World) (h:Cn w g s1 w1)=>uF b o c q1 z g s1 n d w w1 hn hH hw h l2 hz hsz om
 have⟨m1,m2⟩:=xG (d:=d) (s:=s1) l2 hz;have m3:=Gx d q1 z s1;generalize Sort.order2 ltInt d q1 z s1=R2 at*;obtain⟨p2,q2,s2⟩:=R2;simp only[]at h2 m1 m2 m3⊢;have h3:=fun(w1:World) (h:Cn w g s2 w1)=>uF b o c p1 p2 g s2 n d w w1 hn hH hw h l1 m1 hsz om
 generalize Sort.order2 ltInt d p1 p2 s2=R3 at*;obtain⟨p3,q3,s3⟩:=R3;simp only[]at h3⊢;have H1:=Al h1;have H2:=Al h2;have H3:=Al h3;clear h1 h2 h3 hm hC hH hn;go_enter func312,ntmps312;go_wp2_with (first
  |(go_at_call 313;refine(H3.1 w2 C2.1).mono ?_;rintro e w3 ⟨rfl,c3⟩;have C3:=Al c3;clear c3)
  |(go_at_call 313;refine(H2.1 w1 C1.1).mono ?_;rintro e w2 ⟨rfl,c2⟩;have C2:=Al c2;clear c2)
  |(go_at_call 313;refine H1.1.mono ?_;rintro e w1 ⟨rfl,c1⟩;have C1:=Al c1;clear c1))
 go_ret;exact⟨rfl,C3.1⟩
theorem kV (b o c x g s n:Nat) (d w wr) (hn:d.size=n) (hH:Holds eU w b o d) (hw:b<w.heap.size) (hC:Cn w g s wr) (h0:1≤x) (hx:x+1<n) (hsz:n<4611686018427387904) (hs:s≤900):
  Calls prog 311 #[.slice (some ⟨b,o,none⟩) n c,.int .i64 x,.pointer (some ⟨g,0,none⟩)] wr fun e w'=>e= .returned (.int .i64 (Sort.medianAdjacent ltInt d x s).1)∧Cn w g (Sort.medianAdjacent ltInt d x s).2 w':=by
 have h1:=uG b o c (x-1) x (x+1) g s n d w wr hn hH hw hC om om hx hsz hs;have e1:((x-1:Nat):Int)=(x:Int)-1:=om;have e2:((x+1:Nat):Int)=(x:Int)+1:=om;rw[e1,e2]at h1;unfold Sort.medianAdjacent;have H1:=Al h1;clear h1 hC hH hn e1 e2;go_enter func311,ntmps311;go_wp2_with (go_at_call 312;refine H1.1.mono ?_;rintro e w1 ⟨rfl,c1⟩;have C1:=Al c1;clear c1);go_ret;exact⟨rfl,C1.1⟩
theorem JU {d a b c s n} (ha:a<n) (hb:b<n) (hc:c<n):(Sort.median ltInt d a b c s).1<n:=by
 unfold Sort.median;simp only[];exact(xG (xG ha hb).1 (xG (xG ha hb).2 hc).1).2
theorem uH (d a b c s):(Sort.median ltInt d a b c s).2≤s+3:=by
 unfold Sort.median;simp only[];have h1:=Gx d a b s;have h2:=Gx d (Sort.order2 ltInt d a b s).2.1 c (Sort.order2 ltInt d a b s).2.2;have h3:=Gx d (Sort.order2 ltInt d a b s).1 (Sort.order2 ltInt d (Sort.order2 ltInt d a b s).2.1 c (Sort.order2 ltInt d a b s).2.2).1 (Sort.order2 ltInt d (Sort.order2 ltInt d a b s).2.1 c (Sort.order2 ltInt d a b s).2.2).2.2;omega
theorem wu (b o c x y n d w) (hn:d.size=n) (hH:Holds eU w b o d) (hw:b<w.heap.size) (hxy:x<y) (hy:y≤n) (hsz:n<4611686018427387904):
  Calls prog 304 #[.slice (some ⟨b,o,none⟩) n c,.int .i64 x,.int .i64 y] w fun e w'=>e= .returned (.tuple #[.int .i64 (Sort.choosePivot ltInt d x y).1,.int .i64 (hintCode (Sort.choosePivot ltInt d x y).2)])∧Sv w b o d d w':=by
 obtain⟨L,hL⟩:∃L,y-x=L:=⟨y-x,rfl⟩
 have hLi:(y:Int)-(x:Int)=(L:Int):=om;have hxL:x+L≤n:=om;have hL1:1≤L:=om;obtain⟨i,hi⟩:∃i,i=x+L/4*1:=⟨_,rfl⟩
 obtain⟨j,hj⟩:∃j,j=x+L/4*2:=⟨_,rfl⟩
 obtain⟨k,hk⟩:∃k,k=x+L/4*3:=⟨_,rfl⟩
 obtain⟨R,hR⟩:∃R:Nat×Nat,R=if L≥8 then(if L≥50 then Sort.median ltInt d (Sort.medianAdjacent ltInt d i 0).1 (Sort.medianAdjacent ltInt d j (Sort.medianAdjacent ltInt d i 0).2).1 (Sort.medianAdjacent ltInt d k (Sort.medianAdjacent ltInt d j (Sort.medianAdjacent ltInt d i 0).2).2).1 (Sort.medianAdjacent ltInt d k (Sort.medianAdjacent ltInt d j (Sort.medianAdjacent ltInt d i 0).2).2).2 else Sort.median ltInt d i j k 0)else(j,0):=⟨_,rfl⟩
 have hcp:Sort.choosePivot ltInt d x y=(R.1,if R.2=0 then .increasing else if R.2=12 then .decreasing else .unknown):=by
  rw[hR,hi,hj,hk,←hL];rfl
 rw[hcp];have hin:i<n:=om;have hjn:j<n:=om;have hkn:k<n:=om;have hC0:=Cn.start w;obtain⟨g,hg⟩:∃g,g=w.heap.size:=⟨_,rfl⟩
 have hi1:(x:Int)+(L:Int)/4=(i:Int):=om;have hj1:(x:Int)+(L:Int)/4*2=(j:Int):=om;have hk1:(x:Int)+(L:Int)/4*3=(k:Int):=om;clear hcp hL;by_cases h8:L≥8
 ·have h8':(8:Int)≤(L:Int):=by omega
  rw[Ps0 h8]at hR;by_cases h50:L≥50
  ·have aab:(50:Int)≤(L:Int):=by omega
   rw[Ps0 h50]at hR;have A1:=kV b o c i g 0 n d w _ hn hH hw (hg▸hC0) om om hsz om;have a1:(Sort.medianAdjacent ltInt d i 0).1<n:=JU om om om;have b1:(Sort.medianAdjacent ltInt d i 0).2≤0+3:=uH _ _ _ _ _;generalize Sort.medianAdjacent ltInt d i 0=R1 at*;obtain⟨i2,s1⟩:=R1;simp only[]at A1 a1 b1 hR;have A2:=fun(w1:World) (h:Cn w g s1 w1)=>kV b o c j g s1 n d w w1 hn hH hw h om om hsz om
   have a2:(Sort.medianAdjacent ltInt d j s1).1<n:=JU om om om;have b2:(Sort.medianAdjacent ltInt d j s1).2≤s1+3:=uH _ _ _ _ _;generalize Sort.medianAdjacent ltInt d j s1=R2 at*;obtain⟨j2,s2⟩:=R2;simp only[]at A2 a2 b2 hR;have A3:=fun(w1:World) (h:Cn w g s2 w1)=>kV b o c k g s2 n d w w1 hn hH hw h om om hsz om
   have a3:(Sort.medianAdjacent ltInt d k s2).1<n:=JU om om om;have b3:(Sort.medianAdjacent ltInt d k s2).2≤s2+3:=uH _ _ _ _ _;generalize Sort.medianAdjacent ltInt d k s2=R3 at*;obtain⟨k2,s3⟩:=R3;simp only[]at A3 a3 b3 hR;have A4:=fun(w1:World) (h:Cn w g s3 w1)=>uG b o c i2 j2 k2 g s3 n d w w1 hn hH hw h a1 a2 a3 hsz om
   have b4:=uH d i2 j2 k2 s3;rw[←hR]at A4 b4;obtain⟨m,s⟩:=R;simp only[]at A4 b4⊢;have FIN:=Al (fun(w1:World) (h:Cn w g s w1)=>h.sv hH hw);have H1:=Al A1;have H2:=Al A2;have H3:=Al A3;have H4:=Al A4;subst hg;clear A1 A2 A3 A4 hn hH hw hR hC0 a1 a2 a3 hin hjn hkn hi hj hk;have hss:s=0∨s=12∨(s≠0∧s≠12):=om;rcases hss with rfl|rfl|⟨hs1,hs2⟩
   all_goals
    go_enter func304,ntmps304;go_wp2_with (first
     |(go_at_call 312;refine(H4.1 w3 C3.1).mono ?_;rintro e w4 ⟨rfl,c4⟩;have C4:=Al c4;have k0:=c4.k0;clear c4)
     |(go_at_call 311;refine(H3.1 w2 C2.1).mono ?_;rintro e w3 ⟨rfl,c3⟩;have C3:=Al c3;clear c3)
     |(go_at_call 311;refine(H2.1 w1 C1.1).mono ?_;rintro e w2 ⟨rfl,c2⟩;have C2:=Al c2;clear c2)
     |(go_at_call 311;refine H1.1.mono ?_;rintro e w1 ⟨rfl,c1⟩;have C1:=Al c1;clear c1))
    all_goals (go_ret2;refine⟨?_,FIN.1 _ C4.1⟩;first|rfl|simp[hintCode,hs1,hs2])
  ·have aab:¬(50:Int)≤(L:Int):=by omega
   rw[Ng h50]at hR;have A4:=uG b o c i j k g 0 n d w _ hn hH hw (hg▸hC0) hin hjn hkn hsz om;have b4:=uH d i j k 0;rw[←hR]at A4 b4;obtain⟨m,s⟩:=R;simp only[]at A4 b4⊢;have FIN:=Al (fun(w1:World) (h:Cn w g s w1)=>h.sv hH hw);have H4:=Al A4;subst hg;clear A4 hn hH hw hR hC0 hin hjn hkn hi hj hk;have hss:s=0∨s=12∨(s≠0∧s≠12):=om;rcases hss with rfl|rfl|⟨hs1,hs2⟩
   all_goals
    go_enter func304,ntmps304;go_wp2_with (go_at_call 312;refine H4.1.mono ?_;rintro e w4 ⟨rfl,c4⟩;have C4:=Al c4;have k0:=c4.k0;clear c4)
    all_goals (go_ret2;refine⟨?_,FIN.1 _ C4.1⟩;first|rfl|simp[hintCode,hs1,hs2])
 ·have h8':¬(8:Int)≤(L:Int):=by omega
  rw[Ng h8]at hR;subst hR;have FIN:=Al (hC0.sv hH hw);clear hC0 hH hn hw hi hj hk;go_enter func304,ntmps304;go_wp2;go_ret2;exact⟨rfl,FIN.1⟩
end
section
open Go.RowKit Go.Sort
theorem zD (b o c x y n d w) (hn:d.size=n) (hH:Holds eU w b o d) (hw:b<w.heap.size) (hxy:x<y) (hy:y≤n) (hsz:n<4611686018427387904):
  Calls prog 306 #[.slice (some ⟨b,o,none⟩) n c,.int .i64 x,.int .i64 y] w fun e w'=>e= .returned (.bool (Sort.partialInsertionSort ltInt d x y).2)∧Sv w b o d (Sort.partialInsertionSort ltInt d x y).1 w':=by
 subst hn;unfold Sort.partialInsertionSort;obtain⟨P,hP⟩:∃P,partialIns ltInt x y 5 (x+1) d=P:=⟨_,rfl⟩
 rw[hP];have HP0:=Al hP;have hL:Kept ((y:Int)-(x:Int)=((y-x:Nat):Int)):=⟨om⟩
 clear hP;go_enter func306,ntmps306;go_wp2;go_loopw [7,8] (fun vi vs wr=>∃(i s:Nat) (dk:Array Int),vi= .int .i64 i∧vs= .int .i64 s∧x<i∧i≤y∧s≤5∧Sv w b o d dk wr∧Kept (partialIns ltInt x y (5-s) i dk=P)) (fun _ vs _=>5-(intOf vs).toNat)
 case atStart=>exact⟨x+1,0,d,by go_num,rfl,om,om,om,Sv.refl hH hw,HP0⟩
 case round=>
  obtain⟨i,s,dk,rfl,rfl,hi1,hi2,hs5,hs,HO⟩:=hrel;have HS:=Al hs;clear hs;by_cases h5:s<5
  ·have h5':(s:Int)<5:=by omega
   go_upto_block 2 with fail;go_cut [7]from 13 (fun v wc=>∃k:Nat,v= .int .i64 (k:Int)∧i≤k∧k≤y∧Sv w b o d dk wc∧Kept (scanSorted ltInt dk y i=k))
   case first=>
    go_wp2;go_loopw [7] (fun vi wr=>∃k:Nat,vi= .int .i64 (k:Int)∧i≤k∧k≤y∧Sv w b o d dk wr∧Kept (scanSorted ltInt dk y k=scanSorted ltInt dk y i)) (fun vi _=>y-(intOf vi).toNat)
    case atStart=>exact⟨i,rfl,Nr _,hi2,HS.1,⟨rfl⟩⟩
    case round=>
     obtain⟨k,rfl,hk1,hk2,hs,HK⟩:=hrel;have hf:=hs.iN;obtain⟨G,hG⟩:∃G:Nat→Int,∀t,G t=dk[t]!:=⟨fun t=>dk[t]!,fun _=>rfl⟩
     have hc:∀t,t<d.size→wr.cell? ⟨b,o+t,none⟩=some (.int .u64 (G t)):=fun t ht=>by rw[hG];exact hs.cell t ht
     have HG:=Al hG;have HS2:=Al hs;clear hs hG;by_cases hky:k<y
     ·have aad:(k:Int)< (y:Int):=by omega
      have hl:ltInt (G k) (G (k-1))=false∨ltInt (G k) (G (k-1))=true:=by cases ltInt (G k) (G (k-1))<;>simp
      rcases hl with hl|hl
      ·go_wp2_with fail;go_quiet (first|(go_at_call 283;refine Az (aB _ _ _)));go_wp2;go_roundw
       case rel=>exact⟨k+1,by go_num,om,om,HS2.1.drewN _,⟨by rw[←HK.1,scanSorted_go ltInt dk y k hky (by rw[←HG.1,←HG.1];exact hl)]⟩⟩
       case measure=>simp[intOf];omega
      ·go_wp2_with fail;go_quiet (first|(go_at_call 283;refine Az (aB _ _ _)));go_wp2;go_meet;exact⟨k,rfl,hk1,hk2,HS2.1.drewN _,⟨by rw[←HK.1,scanSorted_stop ltInt dk y k (.inr (by rw[←HG.1,←HG.1];exact hl))]⟩⟩
     ·have aad:decide ((k:Int)< (y:Int))=false:=AA om;go_wp2_with fail;go_quiet (first|(go_at_call 283;refine Az (aB _ _ _)));go_wp2;go_meet;exact⟨k,rfl,hk1,hk2,HS2.1.drewN _,⟨by rw[←HK.1,scanSorted_stop ltInt dk y k (.inl hky)]⟩⟩
   case rest=>
    obtain⟨k,rfl,hk1,hk2,hs,HK⟩:=hcut;clear HS;by_cases hky:k=y
    ·have hp:Kept (P=(dk,true)):=⟨by rw[←HO.1,pi_true ltInt x y s i dk h5 (by rw[HK.1,hky])]⟩
     subst hky;have HS:=Al hs;clear hs;go_wp2;go_ret;rw[hp.1];exact⟨rfl,HS.1⟩
    ·by_cases h50:y-x<50
     ·have hp:Kept (P=(dk,false)):=⟨by rw[←HO.1,pi_short ltInt x y s i dk h5 (by rw[HK.1];exact hky) h50]⟩
      have aab:(y:Int)-(x:Int)<50:=om;have aad:¬((k:Int)=(y:Int)):=om;have HS:=Al hs;clear hs;go_wp2;go_ret;rw[hp.1];exact⟨rfl,HS.1⟩
     ·have aab:¬((y:Int)-(x:Int)<50):=by omega
      have aad:¬((k:Int)=(y:Int)):=om;have HP:=Al (pi_go ltInt x y s i k dk h5 HK.1 hky h50);have HS:=Al hs;have hf:=hs.iN;obtain⟨G,hG⟩:∃G:Nat→Int,∀t,G t=dk[t]!:=⟨fun t=>dk[t]!,fun _=>rfl⟩
      have hc:∀t,t<d.size→wc.cell? ⟨b,o+t,none⟩=some (.int .u64 (G t)):=fun t ht=>by rw[hG];exact hs.cell t ht
      have HG:=Al hG;clear hs hG;go_upto_if 61 with(first|go_region|fail)
      have H1:Sv w b o d (Sort.swp dk k (k-1)) (((wc.setCell ⟨b,o+k,none⟩ (.int .u64 (G (k-1)))).setCell ⟨b,o+(k-1),none⟩ (.int .u64 (G k))).drew):=by rw[HG.1,HG.1];exact(HS.1.swp (i:=k) (j:=k-1) om om).drewN 1
      have HS:=Al H1;clear hc hf H1;generalize (((wc.setCell ⟨b,o+k,none⟩ (.int .u64 (G (k-1)))).setCell ⟨b,o+(k-1),none⟩ (.int .u64 (G k))).drew)=w1 at*;clear HG;generalize Sort.swp dk k (k-1)=d1 at*;go_cut [9]from 13 (fun _ wc=>Sv w b o d (fixDown ltInt x k d1) wc)
      case first=>
       by_cases hk:k-x≥2
       ·have hk':(2:Int)≤(k:Int)-(x:Int):=by omega
        have HFD:=Al (show fixDown ltInt x k d1=Sort.shiftDown ltInt (k-1) d1 by rw[fixDown,Ps0 hk]);go_wp2;go_loopw [9] (fun vj wr=>∃(j:Nat) (dj:Array Int),vj= .int .i64 (j:Int)∧j≤k-1∧Sv w b o d dj wr∧Kept (Sort.shiftDown ltInt j dj=Sort.shiftDown ltInt (k-1) d1)) (fun vj _=>(intOf vj).toNat)
        case atStart=>exact⟨k-1,d1,by congr 1;omega,Nr _,HS.1,⟨rfl⟩⟩
        case round=>
         obtain⟨j,dj,rfl,hj,hs,HJ⟩:=hrel;have HS2:=Al hs;by_cases hj0:j=0
         ·subst hj0;clear hs;go_wp2;go_meet
          case rel=>rw[HFD.1,←HJ.1];exact HS2.1
         ·have hj1:(1:Int)≤(j:Int):=by omega
          have hf:=hs.iN;obtain⟨G,hG⟩:∃G:Nat→Int,∀t,G t=dj[t]!:=⟨fun t=>dj[t]!,fun _=>rfl⟩
          have hc:∀t,t<d.size→wr.cell? ⟨b,o+t,none⟩=some (.int .u64 (G t)):=fun t ht=>by rw[hG];exact hs.cell t ht
          have HG:=Al hG;clear hs hG;have hl:ltInt (G j) (G (j-1))=false∨ltInt (G j) (G (j-1))=true:=by cases ltInt (G j) (G (j-1))<;>simp
          rcases hl with hl|hl
          ·go_wp2_with fail;go_quiet (first|(go_at_call 283;refine Az (aB _ _ _)));go_wp2;go_meet
           case rel=>rw[HFD.1,←HJ.1,shiftDown_stop ltInt j dj (.inr (by rw[←HG.1,←HG.1];exact hl))];exact HS2.1.drewN _
          ·go_wp2_with fail;go_quiet (first|(go_at_call 283;refine Az (aB _ _ _)));go_wp2_with fail;go_region
           all_goals go_wp2
           go_roundw
           case rel=>
            refine⟨j-1,Sort.swp dj j (j-1),by congr 1;omega,om,?_,⟨?_⟩⟩
            ·rw[HG.1,HG.1];exact(HS2.1.drewN _).swp (i:=j) (j:=j-1) om om
            ·rw[←HJ.1,shiftDown_go ltInt j dj om (by rw[←HG.1,←HG.1];exact hl)]
           case measure=>simp[intOf];omega
       ·have hk':¬(2:Int)≤(k:Int)-(x:Int):=by omega
        go_wp2;go_meet
        case rel=>rw[show fixDown ltInt x k d1=d1 by rw[fixDown,Ng hk]];exact HS.1
      case rest=>
       have HS:=Al hcut;clear hcut;generalize fixDown ltInt x k d1=d2 at*;by_cases hk:y-k≥2
       ·have hk':(2:Int)≤(y:Int)-(k:Int):=by omega
        rw[show fixUp ltInt y k d2=Sort.shiftUp ltInt y (k+1) d2 by rw[fixUp,Ps0 hk]]at HP;go_wp2;go_loopw [10] (fun vj wr=>∃(j:Nat) (dj:Array Int),vj= .int .i64 (j:Int)∧k+1≤j∧j≤y∧Sv w b o d dj wr∧Kept (Sort.shiftUp ltInt y j dj=Sort.shiftUp ltInt y (k+1) d2)) (fun vj _=>y-(intOf vj).toNat)
        case atStart=>exact⟨k+1,d2,by go_num,om,om,HS.1,⟨rfl⟩⟩
        case round=>
         obtain⟨j,dj,rfl,hj,hj2,hs,HJ⟩:=hrel;have HS2:=Al hs;by_cases hjy:j<y
         ·have hj1:(j:Int)< (y:Int):=by omega
          have hf:=hs.iN;obtain⟨G,hG⟩:∃G:Nat→Int,∀t,G t=dj[t]!:=⟨fun t=>dj[t]!,fun _=>rfl⟩
          have hc:∀t,t<d.size→wr.cell? ⟨b,o+t,none⟩=some (.int .u64 (G t)):=fun t ht=>by rw[hG];exact hs.cell t ht
          have HG:=Al hG;clear hs hG;have hl:ltInt (G j) (G (j-1))=false∨ltInt (G j) (G (j-1))=true:=by cases ltInt (G j) (G (j-1))<;>simp
          rcases hl with hl|hl
          ·go_wp2_with fail;go_quiet (first|(go_at_call 283;refine Az (aB _ _ _)));go_wp2;go_roundw
           case rel=>
            refine⟨k,s+1,dj,rfl,by go_num,om,om,om,HS2.1.drewN _,⟨?_⟩⟩;rw[←HO.1,HP.1,←HJ.1,shiftUp_stop ltInt y j dj (.inr (by rw[←HG.1,←HG.1];exact hl))]
           case measure=>simp[intOf];omega
          ·go_wp2_with fail;go_quiet (first|(go_at_call 283;refine Az (aB _ _ _)));go_wp2_with fail;go_region
           all_goals go_wp2
           go_roundw
           case rel=>
            refine⟨j+1,Sort.swp dj j (j-1),by go_num,om,om,?_,⟨?_⟩⟩
            ·rw[HG.1,HG.1];exact(HS2.1.drewN _).swp (i:=j) (j:=j-1) om om
            ·rw[←HJ.1,shiftUp_go ltInt y j dj hjy (by rw[←HG.1,←HG.1];exact hl)]
           case measure=>simp[intOf];omega
         ·have hj1:¬(j:Int)< (y:Int):=by omega
          clear hs;go_wp2;go_roundw
          case rel=>
           refine⟨k,s+1,dj,rfl,by go_num,om,om,om,HS2.1,⟨?_⟩⟩;rw[←HO.1,HP.1,←HJ.1,shiftUp_stop ltInt y j dj (.inl hjy)]
          case measure=>simp[intOf];omega
       ·have hk':¬(2:Int)≤(y:Int)-(k:Int):=by omega
        rw[show fixUp ltInt y k d2=d2 by rw[fixUp,Ng hk]]at HP;go_wp2;go_roundw
        case rel=>exact⟨k,s+1,d2,rfl,by go_num,om,om,om,HS.1,⟨by rw[←HO.1,HP.1]⟩⟩
        case measure=>simp[intOf];omega
  ·have h5':¬(s:Int)<5:=by omega
   obtain rfl:s=5:=om;have hp:Kept (P=(dk,false)):=⟨by rw[←HO.1];rfl⟩
   go_wp2;go_ret;rw[hp.1];exact⟨rfl,HS.1⟩
end
end Go.Proofs.YtongopommlghgaaGreatDoor
