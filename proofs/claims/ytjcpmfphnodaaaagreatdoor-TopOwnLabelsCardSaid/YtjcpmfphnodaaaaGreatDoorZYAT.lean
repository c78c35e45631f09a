/- Part 20. -/
import Derived.Test.YtjcpmfphnodaaaaGreatDoorZYAS
import Derived.Test.YtjcpmfphnodaaaaGreatDoorZYAL
namespace Go.Proofs.YtjcpmfphnodaaaaGreatDoor
set_option maxRecDepth 100000
set_option maxHeartbeats 0
open _root_.Go.Proofs.Tryz
namespace Pe
open Rc (Good)
def Asc (bnd:Nat):Int→Bool→List Int→Prop
 |_,_,[]=>True
 |a,f,y::r=>(if f=true then a≤y else a<y)∧y< (bnd:Int)∧Asc bnd y false r
theorem Ri {bnd} (hb:bnd≤9223372036854775808):∀{s} {a} {f},Asc bnd a f s→Up a s
 |[],_,_,_=>trivial
 |y::r,a,f,h=>⟨by have:=h.1;cases f<;>simp at this<;>omega,by have:=h.2.1;omega,Ri hb h.2.2⟩
theorem cO (x):0< (Vi.enc x).length:=Vi.cO x
theorem rP:∀(s) (a),s.length≤(gap a s).length
 |[],_=>by simp[gap]
 |y::r,a=>by
  have h1:=rP r y;have h2:=cO (y-a).toNat;rw[gap,La,Lc];omega
theorem Rj (T e):0< (gU T e).length:=by
 have:=cO e.2.length;simp only[gU,La];omega
theorem aW (T):∀(E:List dQ),E.length≤(E.flatMap (gU T)).length
 |[]=>sm
 |e::E=>by
  have h1:=aW T E;have h2:=Rj T e;rw[Au,La,Lc];omega
theorem Lv {l a n a'} (h:Wr.uint l a 0 Rc.mx=(n,a',0)) (hn:n≤l.length-a'):Rc.cnt l a 0=(n,a',0):=by
 unfold Rc.cnt;rw[h];simp only[ne_eq,BP,Ee];rw[Ng om]
theorem Rk {l bnd} (hb:bnd≤9223372036854775808):∀(ys) (last:Nat) (acc) (a) (r),Asc bnd last acc.isEmpty ys→l.drop a=gap last ys++r→a≤l.length→
  sl l bnd ys.length last acc a=(acc++ys,a+(gap last ys).length,0)∧l.drop (a+(gap last ys).length)=r∧a+(gap last ys).length≤l.length
 |[],last,acc,a,r,h,hd,ha=>by
  rw[AZ,Lm];simp[gap]at hd⊢;exact⟨hd,ha⟩
 |y::ys,last,acc,a,r,h,hd,ha=>by
  obtain⟨h1,h2,h3⟩:=h;rw[gap,Af]at hd;have hly:(last:Int)≤y:=by split at h1<;>omega
  obtain⟨m,rfl⟩:=Cz (show 0≤y from om);have hx:((m:Int)-(last:Int)).toNat=m-last:=om;rw[hx]at hd;obtain⟨g1,g2,g3⟩:=Rc.aT.at_ (x:=m-last) (by unfold Rc.mx;omega) hd ha;have ho:okD bnd last (m-last) acc.isEmpty=true:=by
   unfold okD;rw[CV,Em,Bool.or_eq_true,Em];refine⟨om,?_⟩;split at h1
   ·next e=>exact .inl e
   ·exact .inr om
  rw[Lc,Yb _ g1 ho,show last+(m-last)=m from om];obtain⟨i1,i2,i3⟩:=Rk hb ys m (acc++[(m:Int)]) _ r (by
   have:(acc++[(m:Int)]).isEmpty=false:=by cases acc<;>rfl
   rw[this];exact h3) g2 g3
  rw[i1,gap,hx,La];rw[fE]at i2 i3;exact⟨by simp[fE],i2,i3⟩
def okS (bnd:Nat) (s:List Int):Prop:=s≠[]∧Asc bnd 0 true s
theorem VK {l bnd a s r} (hb:bnd≤9223372036854775808) (hs:okS bnd s) (hsl:s.length≤Rc.mx) (ha:a≤l.length) (hd:l.drop a=Vi.enc s.length++gap 0 s++r):
  fA l bnd a=(s,a+(Vi.enc s.length++gap 0 s).length,0)∧l.drop (a+(Vi.enc s.length++gap 0 s).length)=r∧a+(Vi.enc s.length++gap 0 s).length≤l.length:=by
 rw[Af]at hd;obtain⟨g1,g2,g3⟩:=Rc.aT.at_ (x:=s.length) hsl hd ha;obtain⟨i1,i2,i3⟩:=Rk hb s 0 [] _ r hs.2 g2 g3;have hgl:=rP s 0;have hcn:=Lv g1 (by
  have:=congrArg List.length g2;rw[lZ,La]at this;omega)
 have hs0:s.length≠0:=fun e=>hs.1 (oG e)
 unfold fA;rw[hcn];simp only[ne_eq,BP,Ee,Ng hs0];rw[i1,La,←fE];exact⟨sm,i2,i3⟩
theorem Nz {acc x a}:iG acc (x,a,0)=if FP acc x=true then 0 else 16:=by
 unfold iG;simp
theorem NC {acc x} {s:List Int} (h:Lb.kY (acc.map (·.1))):FP acc x=true↔Lb.kY ((acc++[(x,s)]).map (·.1)):=by
 rw[dW];unfold Lb.kY at h⊢;rw[Cq];constructor
 ·intro ho;refine⟨h,List.pairwise_singleton _ _,fun a ha b hb=>?_⟩;have hb':b=x:=by simpa using hb
  subst hb';rcases List.eq_nil_or_concat acc with h0|⟨L,e,rfl⟩
  ·subst h0;simp at ha
  ·have hl:Lb.FH e.1 b=true:=by
    unfold FP at ho;rw[DJ,List.getLast?_concat]at ho;exact ho
   rw[DJ,dW,ja]at ha;rw[DJ,dW,Cq]at h;rcases ha with ha|ha
   ·exact Lb.lL (h.2.2 a ha e.1 sm) hl
   ·have:a=e.1:=by simpa using ha
    rw[this];exact hl
 ·rintro⟨_,_,h3⟩;rcases List.eq_nil_or_concat acc with h0|⟨L,e,rfl⟩
  ·subst h0;rfl
  ·unfold FP;rw[DJ,List.getLast?_concat];exact h3 e.1 sm x sm
def ace (T:List ByteArray) (bnd:Nat) (e:dQ):Prop:=FJ T e=true∧okS bnd e.2
theorem Rl {T} (hS:Sy.iM T) (hT:T.length≤Rc.mx) {l bnd} (hb:bnd≤9223372036854775808):∀(ys acc) (a) (r),Lb.kY ((acc++ys).map (·.1))→(∀e∈ys,ace T bnd e∧e.2.length≤Rc.mx)→
  l.drop a=ys.flatMap (gU T)++r→a≤l.length→el T l bnd ys.length acc a=(acc++ys,a+(ys.flatMap (gU T)).length,0)∧l.drop (a+(ys.flatMap (gU T)).length)=r∧a+(ys.flatMap (gU T)).length≤l.length
 |[],acc,a,r,hp,h,hd,ha=>by
  rw[AZ,Lr];simp at hd⊢;exact⟨hd,ha⟩
 |e::ys,acc,a,r,hp,h,hd,ha=>by
  obtain⟨⟨h1,h2⟩,h3⟩:=h e sm;obtain⟨x,s⟩:=e;simp only[]at h2 h3;have hsp:acc++(x,s)::ys=(acc++[(x,s)])++ys:=sm;rw[hsp]at hp⊢;have hpa:Lb.kY ((acc++[(x,s)]).map (·.1)):=by
   unfold Lb.kY at hp⊢;rw[dW,Cq]at hp;exact hp.1
  have hp0:Lb.kY (acc.map (·.1)):=by
   unfold Lb.kY at hpa⊢;rw[dW,Cq]at hpa;exact hpa.1
  rw[Au,Af]at hd;unfold gU at hd;simp only[]at hd;rw[Af]at hd;obtain⟨g1,g2,g3⟩:=(Rc.tK hS hT).at_ (x:=x) (by unfold FJ at h1;rw[CV]at h1;exact h1) hd ha;obtain⟨i1,i2,i3⟩:=VK hb h2 h3 g3 g2;have ho:iG acc (x,a+(Rc.dP T x.n++Rc.dP T x.v).length,0)=0:=by rw[Nz,Ps0 ((NC hp0).2 hpa)]
  rw[Lc,Yd _ g1 ho i1 rfl];obtain⟨j1,j2,j3⟩:=Rl hS hT hb ys (acc++[(x,s)]) _ r hp (fun e he=>h e (by simp[he])) (by
   have hfe:(fun x:dQ=>Rc.dP T x.1.n++Rc.dP T x.1.v++(Vi.enc x.2.length++gap 0 x.2))=gU T:=rfl;rw[i2,hfe]) i3
  have hlen:(List.flatMap (gU T) ((x,s)::ys)).length=(Rc.dP T x.n++Rc.dP T x.v).length+(Vi.enc s.length++gap 0 s).length+(ys.flatMap (gU T)).length:=by
   rw[Au,La];unfold gU;simp only[La]
  rw[j1,hlen];rw[←fE,←fE];exact⟨rfl,j2,j3⟩
theorem bR {T} (hS:Sy.iM T) (hT:T.length≤Rc.mx) {bnd} (hb:bnd≤9223372036854775808) {E} (hE:E.length≤Rc.mx) (hp:Lb.kY (E.map (·.1))) (h:∀e∈E,ace T bnd e∧e.2.length≤Rc.mx):dec T (bnd:Int) (aL T E)=(E,0):=by
 obtain⟨g1,g2,g3⟩:=Rc.aT.at_ (l:=aL T E) (a:=0) (x:=E.length) (r:=E.flatMap (gU T)) hE (by rw[Bq];rfl) (bE _);obtain⟨i1,i2,i3⟩:=Rl hS hT hb E [] _ [] hp h (by rw[g2,Bg]) g3;have hlen:(aL T E).length=0+(Vi.enc E.length).length+(E.flatMap (gU T)).length:=by unfold aL;rw[La];omega
 have hcn:=Lv g1 (by have:=aW T E;omega);have hl:j5 T (aL T E) bnd=(E,0+(Vi.enc E.length).length+(E.flatMap (gU T)).length,0):=by
  unfold j5;rw[hcn];simp only[ne_eq,BP,Ee];rw[i1];simp
 unfold dec;rw[Ng om,kg,hl];have hf:Wr.fin (aL T E) (0+(Vi.enc E.length).length+(E.flatMap (gU T)).length) 0=0:=by
  unfold Wr.fin;rw[←hlen];simp
 simp only[hf];simp
end Pe
section
open Go.RowKit Go.Shelf
namespace Ps
theorem y8:∀(M) (k) (p),p∈eQ M k→(k:Int)≤p.2∧p.2< (k:Int)+M.length
 |[],_,p,h=>by simp[eQ]at h
 |m::M,k,p,h=>by
  rw[eQ,ja]at h;rcases h with h|h
  ·obtain⟨x,_,rfl⟩:=bQ.1 h;simp only[Lc];omega
  ·have:=y8 M (k+1) p h;simp only[Lc];omega
theorem rQ {P E} (h:qY P E):E.length≤P.length∧∀e∈E,e.2.length≤P.length:=by
 refine⟨?_,fun e he=>by rw[h.fA e he];exact Ll _ _⟩;have hnd:(E.map (·.1)).Nodup:=by
  have:=h.srt;unfold Lb.kY at this;refine this.imp fun hxy e=>?_
  rw[e,Lb.iE]at hxy;cases hxy
 have:=bW _ _ hnd (fun x hx=>(h.mem x).1 hx);simpa using this
end Ps
namespace Pe
theorem Yf {bnd:Nat}:∀{s} {a} {f},Ls.S s→(∀y∈s,(if f=true then a≤y else a<y)∧y< (bnd:Int))→Asc bnd a f s
 |[],_,_,_,_=>trivial
 |y::r,a,f,hs,h=>by
  obtain⟨h1,h2⟩:=AO.1 (show(y::r).Pairwise _ from hs);exact⟨(h y sm).1,(h y sm).2,Yf h2 fun z hz=>⟨by rw[Ng sm];exact h1 z hz,(h z (by simp[hz])).2⟩⟩
theorem Rm:∀{s} {a},Up a s→0≤a→(gap a s).length≤s.length*10
 |[],_,_,_=>by simp[gap]
 |y::r,a,h,h0=>by
  have h1:=Rm h.2.2 (show 0≤y by have:=h.1;omega);have h2:=Vi.bq (y-a).toNat (by have:=h.1;have:=h.2.1;omega);rw[gap,La,Lc,Nat.succ_mul];omega
theorem y9 {T} (hT:T.length≤1000000) (s):(Rc.dP T s).length≤10:=by
 unfold Rc.dP;cases h:Sy.idx T s with
 |none=>exact Vi.bq _ sm
 |some k=>
  obtain⟨hk,_⟩:=Sy.jr h;exact Vi.bq _ (by simp;omega)
end Pe
theorem Ps.um {M E} (hs:Ps.Sets M) (h:Ps.qY (Ps.eQ M 0) E):E.length≤1000000∧∀e∈E,e.2.length≤1000000:=by
 obtain⟨h1,h2⟩:=Ps.rQ h;have h3:=Ps.lQ M 0;have h4:=hs.2;exact⟨om,fun e he=>by have:=h2 e he;omega⟩
theorem Ps.za:∀(M) (k),(∀m∈M,Lb.iM m)→∀x,Ls.S (Ps.fA x (Ps.eQ M k))
 |[],_,_,_=>List.Pairwise.nil
 |m::M,k,h,x=>by
  rw[Ps.eQ,Ps.lN];have key:∀(m:List aO),Lb.iM m→Ps.fA x (m.map fun x=>(x,(k:Int)))=[]∨Ps.fA x (m.map fun x=>(x,(k:Int)))=[(k:Int)]:=by
   intro m
   induction m with
   |nil=>intro _;exact .inl rfl
   |cons z m ih=>
    intro hs;obtain⟨q1,q2⟩:=AO.1 (show(z::m).Pairwise _ from hs);rw[AA,show((z,(k:Int))::m.map fun x=>(x,(k:Int)))=[(z,(k:Int))]++m.map (fun x=>(x,(k:Int)))from rfl,Ps.lN];by_cases hz:z=x
    ·subst hz;rw[Ps.yY,Ps.FI]
     ·exact .inr rfl
     ·intro hm;rw[BV]at hm;obtain⟨y,hy,e⟩:=bQ.1 hm;have e:y=z:=e;have:=q1 y hy;rw[e,St.irrefl]at this;cases this
    ·rw[Ps.tZ hz,Az];exact ih q2
  refine Cq.2 ⟨?_,Ps.za M (k+1) (fun m hm=>h m (by simp[hm])) x,fun a ha b hb=>?_⟩
  ·rcases key m (h m sm)with h1|h1<;>rw[h1]<;>simp
  ·have hb2:(x,b)∈Ps.eQ M (k+1):=by
    unfold Ps.fA at hb;obtain⟨p,hp,e⟩:=bQ.1 hb;obtain⟨h3,h4⟩:=Ca.1 hp;have:p=(x,b):=Bw (by simpa using h4) e;rw[←this];exact h3
   have h5:=(Ps.y8 M (k+1) _ hb2).1;simp only[]at h5;rcases key m (h m sm)with h1|h1
   ·rw[h1]at ha;cases ha
   ·rw[h1,gz]at ha;omega
theorem Ps.VL {M x y} (h:y∈Ps.fA x (Ps.eQ M 0)):0≤y∧y< (M.length:Int):=by
 unfold Ps.fA at h;obtain⟨p,hp,e⟩:=bQ.1 h;have:=Ps.y8 M 0 p (Ca.1 hp).1;rw[e]at this;omega
theorem Ps.FV {M E} (hs:Ps.Sets M) (h:Ps.qY (Ps.eQ M 0) E):∀e∈E,Pe.Asc M.length 0 true e.2:=fun e he=>by
 rw[h.fA e he];exact Pe.Yf (Ps.za M 0 (fun m hm=>(hs.1 m hm).1) e.1) fun y hy=>by
  have:=Ps.VL hy;rw[Ps0 rfl];omega
theorem Ps.Lx {M E} (hs:Ps.Sets M) (h:Ps.qY (Ps.eQ M 0) E):∀e∈E,Pe.Up 0 e.2:=fun e he=>Pe.Ri (by have:=Ps.uf M;have:=hs.2;omega) (Ps.FV hs h e he)
namespace Ps
def strs (M:List (List aO)):List ByteArray:=M.flatMap Lb.strs
theorem nV:∀(M),(strs M).length≤2*wt M
 |[]=>by simp[strs]
 |m::M=>by
  have h1:=nV M;have h2:=Lb.aV m;unfold strs wt at*;rw[Au,La,AA,Bp];omega
theorem FW {M m} (hm:m∈M) {x} (hx:x∈m):x.n∈strs M∧x.v∈strs M:=by
 unfold strs Lb.strs;exact⟨mK.2 ⟨m,hm,mK.2 ⟨x,hx,sm⟩⟩,mK.2 ⟨m,hm,mK.2 ⟨x,hx,sm⟩⟩⟩
theorem lS:∀(M) (k) (x),x∈(eQ M k).map (·.1)→∃m∈M,x∈m
 |[],_,x,h=>by simp[eQ]at h
 |m::M,k,x,h=>by
  rw[eQ,dW,ja]at h;rcases h with h|h
  ·refine⟨m,sm,?_⟩;rw[BV]at h;obtain⟨y,hy,e⟩:=bQ.1 h;have e:y=x:=e;rw[←e];exact hy
  ·obtain⟨m',hm,hx⟩:=lS M (k+1) x h;exact⟨m',by simp[hm],hx⟩
theorem LD {M E T} (h:qY (eQ M 0) E) (ht:Sy.gq (strs M) T):∀e∈E,Pe.FJ T e=true:=fun e he=>by
 obtain⟨m,hm,hx⟩:=lS M 0 e.1 ((h.mem e.1).1 (bQ.2 ⟨e,he,rfl⟩));obtain⟨h1,h2⟩:=FW hm hx;have key:∀s,s∈strs M→(Sy.idx T s).isSome=true:=fun s hs=>by
  obtain⟨k,hk,e⟩:=jK.1 ((ht.2 s).2 hs);rw[Sy.rJ ht.1 hk e];rfl
 unfold Pe.FJ;rw[key _ h1,key _ h2];rfl
theorem Zq {x P} (h:x∈P.map (·.1)):fA x P≠[]:=fun e=>by
 obtain⟨p,hp,h1⟩:=bQ.1 h;have:p.2∈fA x P:=by
  unfold fA;exact bQ.2 ⟨p,Ca.2 ⟨hp,by simpa using h1⟩,rfl⟩
 rw[e]at this;cases this
theorem round {M E T} (hs:Sets M) (h:qY (eQ M 0) E) (ht:Sy.gq (strs M) T) (hT:T.length≤1000000):Pe.enc T E=(Pe.aL T E,0)∧Pe.dec T (M.length:Int) (Pe.aL T E)=(E,0):=by
 have hok:=LD h ht;obtain⟨h1,h2⟩:=um hs h;have hwl:=uf M;have hw:=hs.2;refine⟨by rw[Pe.enc,Ps0 (Dr.2 hok)],Pe.bR ht.1 (by unfold Rc.mx;omega) om (by unfold Rc.mx;omega) h.srt fun e he=>⟨⟨hok e he,?_,FV hs h e he⟩,by have:=h2 e he;unfold Rc.mx;omega⟩⟩;rw[h.fA e he];exact Zq ((h.mem e.1).1 (bQ.2 ⟨e,he,rfl⟩))
end Ps
end
theorem Lb.iB {l} (h:Lb.df l=0):Lb.iM l∧∀x∈l,Lb.one x=0:=by
 have hz:∀j,j<l.length→Lb.dM l j=0:=by
  rcases Lb.sN (Lb.dM l) l.length with⟨_,hz⟩|⟨k,hk,hk0,he,_⟩
  ·exact hz
  ·unfold Lb.df at h;rw[he]at h;exact absurd h hk0
 have h1:∀j (hj:j<l.length),Lb.one l[j]=0:=fun j hj=>by
  have:=hz j hj;unfold Lb.dM at this;rw[Lb.getD_at hj]at this;simp only[]at this;by_cases q:Lb.one l[j]=0
  ·exact q
  ·rw[Ps0 q]at this;exact absurd this q
 refine⟨Lb.II fun j hj=>?_,fun x hx=>?_⟩
 ·have:=hz (j+1) hj;unfold Lb.dM at this;rw[Lb.getD_at hj]at this;simp only[]at this;rw[Ng (by simpa using h1 (j+1) hj),Ng om,Bz,Lb.getD_at (show j<l.length from om)]at this;by_cases q:l[j].n=l[j+1].n
  ·rw[Ps0 q]at this;cases this
  ·rw[Ng q]at this;by_cases q2:St.lt l[j+1].n l[j].n=true
   ·rw[Ps0 q2]at this;cases this
   ·cases q3:St.lt l[j].n l[j+1].n with
    |true=>rfl
    |false=>exact absurd (St.total q3 (by simpa using q2)) q
 ·obtain⟨j,hj,rfl⟩:=jK.1 hx;exact h1 j hj
theorem Lb.FX {x} (h:Lb.one x=0):x.n.size≤65535∧x.v.size≤65535:=by
 unfold Lb.one at h;split at h
 ·cases h
 ·split at h
  ·cases h
  ·omega
namespace Bk
open Cs (gD In lens tq)
def sets (b:jb):List (List aO):=b.map (·.1)
def VM (b:jb):List (List aO×List Nat):=b.map fun s=>(s.1,lens s.2)
def mi (b:jb):List jM:=(VM b).map Rc.bU
def dat (b:jb):List UInt8:=b.flatMap fun s=>tq s.2
def D4 (T:List ByteArray) (E:List dQ) (b:jb) (i:Nat):List UInt8:=
 if i=0 then Sy.aL T else if i=1 then Rc.aL T (mi b)else if i=2 then dat b else Pe.aL T E
def Of (b:jb) (T:List ByteArray) (E:List dQ):Prop:=Sy.gq (Ps.strs (sets b)) T∧Ps.qY (Ps.eQ (sets b) 0) E
def ln (r:jM):List Nat:=r.2.map Int.toNat
def used (T:List ByteArray) (rs:List jM):Bool:=T.all fun s=>(rs.flatMap fun r=>Lb.strs r.1).any fun t=>decide (t=s)
open Classical in
noncomputable def FY (b:jb) (E:List dQ):Int:=if Ps.qY (Ps.eQ (sets b) 0) E then 0 else 22
noncomputable def VN (T:List ByteArray) (b:jb) (d3:List UInt8):jb×Int:=
 if df b≠0 then([],df b)else if(Pe.dec T (b.length:Int) d3).2≠0 then([],(Pe.dec T (b.length:Int) d3).2)
 else if FY b (Pe.dec T (b.length:Int) d3).1≠0 then([],FY b (Pe.dec T (b.length:Int) d3).1)else(b,0)
def nW (rs:List jM) (d2:List UInt8):List gD×Int:=if(rs.map ln).flatten.sum≠d2.length then([],23)else Cs.Ic (rs.map ln) [] d2
noncomputable def vO (T:List ByteArray) (rs:List jM) (d2 d3:List UInt8):jb×Int:=
 if used T rs=false then([],15)else if(nW rs d2).2≠0 then([],(nW rs d2).2)else VN T ((rs.map (·.1)).zip (nW rs d2).1) d3
noncomputable def VO (T:List ByteArray) (d1 d2 d3:List UInt8):jb×Int:=
 if(Rc.dec T d1).2≠0 then([],(Rc.dec T d1).2)else vO T (Rc.dec T d1).1 d2 d3
noncomputable def nX (D:Nat→List UInt8):jb×Int:=
 if(Sy.dec (D 0)).2≠0 then([],(Sy.dec (D 0)).2)else VO (Sy.dec (D 0)).1 (D 1) (D 2) (D 3)
noncomputable def dec (L:List UInt8):jb×Int:=if Ly.pe L≠0 then([],Ly.pe L)else nX (Ly.mG L)
theorem uo {s} (h:one s=0):Lb.df s.1=0∧s.2≠[]∧yC iN 20 s.2=0:=by
 unfold one at h;by_cases h1:Lb.df s.1=0
 ·rw[Ng (by simpa using h1)]at h;by_cases h2:s.2=[]
  ·rw[Ps0 h2]at h;cases h
  ·rw[Ng h2]at h;exact⟨h1,h2,h⟩
 ·rw[Ps0 h1]at h;exact absurd h h1
theorem jD {b} (h:df b=0) (hw:Ps.wt (sets b)≤1000000):Ps.Sets (sets b):=by
 obtain⟨-,-,h3,-⟩:=iB h;refine⟨fun m hm=>?_,hw⟩;obtain⟨s,hs,rfl⟩:=bQ.1 hm;obtain⟨g1,g2⟩:=Lb.iB (uo (h3 s hs)).1;refine⟨g1,fun x hx=>?_⟩;have:=Lb.FX (g2 x hx);unfold maxLen;omega
theorem iH {b} (h:df b=0):∀s∈Ps.strs (sets b),s.size≤65535:=by
 obtain⟨-,-,h3,-⟩:=iB h;intro s hs;unfold Ps.strs Lb.strs at hs;obtain⟨m,hm,h1⟩:=mK.1 hs;obtain⟨x,hx,h2⟩:=mK.1 h1;obtain⟨q,hq,rfl⟩:=bQ.1 hm;obtain⟨g1,g2⟩:=Lb.iB (uo (h3 q hq)).1;have:=Lb.FX (g2 x hx);simp only[dV,List.not_mem_nil,or_false]at h2;rcases h2 with rfl|rfl
 ·exact this.1
 ·exact this.2
theorem uq {s}:∀n∈lens s,2≤n∧n≤2200:=by
 intro n hn;unfold lens at hn;obtain⟨c,hc,rfl⟩:=bQ.1 hn;refine Ck.U9 ?_;have key:∀(k:Nat) (s:gD),s.length≤k→∀c∈Ck.jA s,c.length≤120:=by
  intro k
  induction k with
  |zero=>
   intro s hs c hc;rw[oG (show s.length=0 from om),Ck.dS]at hc;cases hc
  |succ k ih=>
   intro s hs c hc;by_cases h0:s=[]
   ·rw[h0,Ck.dS]at hc;cases hc
   ·rw[Ck.jP h0]at hc;rcases dV.1 hc with rfl|hc
    ·rw[oF];omega
    ·refine ih _ ?_ c hc;have:=oH.2 h0;rw[lZ];omega
 exact key s.length s Ai c hc
theorem rR (s):(lens s).length≤s.length:=by
 unfold lens;rw[fF];have key:∀(k:Nat) (s:gD),s.length≤k→(Ck.jA s).length≤s.length:=by
  intro k
  induction k with
  |zero=>
   intro s hs;rw[oG (show s.length=0 from om),Ck.dS];simp
  |succ k ih=>
   intro s hs;by_cases h0:s=[]
   ·rw[h0,Ck.dS];simp
   ·rw[Ck.jP h0];have:=oH.2 h0;have:=ih (s.drop 120) (by rw[lZ];omega);rw[lZ]at this;rw[Lc];omega
 exact key s.length s Ai
theorem Rn (q):ln (Rc.bU q)=q.2:=by
 unfold ln Rc.bU;rw[BV]
 conv=>rhs;rw[←List.map_id q.2]
 refine Dy fun n _=>?_
 simp
theorem Zr (b):(mi b).map ln=b.map fun s=>lens s.2:=by
 unfold mi VM;rw[BV,BV];refine Dy fun s _=>?_
 exact Rn _
theorem FZ (b):(mi b).map (·.1)=sets b:=by
 unfold mi VM sets;rw[BV,BV]
 rfl
theorem Ro (rs:List jM):(rs.flatMap fun r=>Lb.strs r.1)=Ps.strs (rs.map (·.1)):=by
 unfold Ps.strs;rw[List.flatMap_map]
theorem Rp (b):(sets b).zip (b.map (·.2))=b:=by
 unfold sets
 induction b with
 |nil=>rfl
 |cons s b ih=>rw[AA,AA,List.zip_cons_cons,ih]
theorem Rq (T rs):used T rs=true↔∀s∈T,s∈Ps.strs (rs.map (·.1)):=by
 unfold used;rw[Ro,Dr];constructor
 ·intro h s hs;have:=h s hs;rw[Dc]at this;obtain⟨t,ht,e⟩:=this;have:t=s:=by simpa using e
  rw[←this];exact ht
 ·intro h s hs;rw[Dc];exact⟨s,h s hs,sm⟩
theorem Yg {b T} (hc:df b=0) (hw:Ps.wt (sets b)≤1000000) (hT:Sy.gq (Ps.strs (sets b)) T):∀r∈VM b,Rc.okN T r:=by
 obtain⟨-,hs,h3,-⟩:=iB hc;intro r hr;obtain⟨s,hs',rfl⟩:=bQ.1 hr;obtain⟨g1,g2,-⟩:=uo (h3 s hs');have hm:s.1∈sets b:=bQ.2 ⟨s,hs',rfl⟩;have key:∀t,t∈Ps.strs (sets b)→(Sy.idx T t).isSome=true:=fun t ht=>by
  obtain⟨k,hk,e⟩:=jK.1 ((hT.2 t).2 ht);rw[Sy.rJ hT.1 hk e];rfl
 have hl1:s.1.length≤Ps.wt (sets b):=by
  obtain⟨u,v,e⟩:=List.append_of_mem hm;rw[e];unfold Ps.wt;simp;omega
 have hl2:s.2.length≤dI b:=by
  obtain⟨u,v,e⟩:=List.append_of_mem hs';rw[e];unfold dI;simp;omega
 have hl3:=rR s.2;refine⟨⟨⟨by show s.1.length≤_;unfold Rc.mx;omega,fun x hx=>?_⟩,by show(lens s.2).length≤_;unfold Rc.mx;omega,fun n hn=>?_⟩,fun e=>?_⟩
 ·obtain⟨a1,a2⟩:=Ps.FW hm hx;exact⟨key _ a1,key _ a2⟩
 ·have:=uq n hn;omega
 ·exact g2 (Cs.qD e)
theorem Yh {b}:b.length≤Ps.wt (sets b):=by
 have:=Ps.uf (sets b);unfold sets at this⊢;rw[fF]at this;exact this
theorem Rs:∀(ls:List (List Nat)),ls.flatten.sum=(ls.map List.sum).sum
 |[]=>rfl
 |l::ls=>by rw[Cy,Dx,AA,Bp,Rs ls]
theorem Rt {b T E} (hc:df b=0) (hin:∀s∈b,In s.2) (hw:Ps.wt (sets b)≤500000) (h:Of b T E):nX (D4 T E b)=(b,0):=by
 obtain⟨hT,hE⟩:=h;have hS:=jD hc om;have hTl:T.length≤1000000:=by
  have h1:=Sy.gq.len hT;have h2:=Ps.nV (sets b);omega
 have hTm:T.length≤Rc.mx:=by unfold Rc.mx;omega
 have hbl:=Yh (b:=b);have e0:Sy.dec (D4 T E b 0)=(T,0):=Sy.bR hT.1 hTm (Sy.gq.size hT (iH hc));have e1:Rc.dec T (D4 T E b 1)=(mi b,0):=Rc.bR hT.1 hTm (by unfold VM;rw[fF];unfold Rc.mx;omega) (Yg hc om hT);have eu:used T (mi b)=true:=(Rq _ _).2 fun s hs=>by rw[FZ];exact(hT.2 s).1 hs
 have ec:nW (mi b) (D4 T E b 2)=(b.map (·.2),0):=by
  unfold nW;rw[Zr,Ng]
  ·have h1:=Cs.KR (b.map (·.2)) [] [] (fun s hs=>by obtain⟨q,hq,rfl⟩:=bQ.1 hs;exact hin q hq);rw[Bg,Az,BV,List.flatMap_map]at h1;exact h1
  ·intro hne;apply hne;show _=(dat b).length;unfold dat;rw[List.length_flatMap,Rs,BV]
   congr 1
   refine Dy fun s _=>?_
   exact(Cs.KS s.2).symm
 have hz:((mi b).map (·.1)).zip (b.map (·.2))=b:=by rw[FZ,Rp]
 obtain⟨-,er⟩:=Ps.round hS hE hT hTl;have ep:Pe.dec T (b.length:Int) (D4 T E b 3)=(E,0):=by
  have:(sets b).length=b.length:=by unfold sets;rw[fF]
  rw[this]at er;exact er
 have ei:FY b E=0:=by unfold FY;rw[Ps0 hE]
 unfold nX VO vO VN;rw[e0];simp only[ne_eq,BP,Ee];rw[e1];simp only[BP,Ee];rw[eu,ec];simp only[BP,Ee,Bool.true_eq_false];rw[hz,hc,ep];simp only[BP,Ee];rw[ei];simp
def File (b:jb) (L:List UInt8):Prop:=∃T E,Of b T E∧L=Ly.asm (D4 T E b)
theorem Jz {D D'} (h:∀i,i<4→D i=D' i):nX D=nX D':=by
 unfold nX;rw[h 0 om,h 1 om,h 2 om,h 3 om]
theorem zb (D i) (hi:i<4):(D i).length≤(Ly.asm D).length:=by
 have h1:(D i).length≤(Ly.pre D 4).length:=by
  unfold Ly.pre;rw[La];have:i∈List.range 4:=List.mem_range.2 hi;obtain⟨u,v,e⟩:=List.append_of_mem this;rw[e];have:(D i).length≤(Wr.frame (UInt8.ofNat (1+i)) (D i)).length:=by
   unfold Wr.frame bK.app Wr.str;simp only[La,Lc];omega
  simp only[oL,Au,La];omega
 rw[Ly.x9];unfold Ly.body;rw[La];omega
theorem ze (D):Ly.tot D 4≤4*(Ly.asm D).length:=by
 have h0:=zb D 0 om;have h1:=zb D 1 om;have h2:=zb D 2 om;have h3:=zb D 3 om;show((((0+(D 0).length)+(D 1).length)+(D 2).length)+(D 3).length)≤_;omega
theorem Rv {b L} (hc:df b=0) (hin:∀s∈b,In s.2) (hw:Ps.wt (sets b)≤500000) (hL:L.length≤100000000000) (h:File b L):dec L=(b,0):=by
 obtain⟨T,E,h1,rfl⟩:=h;have ht:Ly.tot (D4 T E b) 4≤140737488352000:=by
  have:=ze (D4 T E b);omega
 unfold dec;rw[Ly.P9 _ ht,Ng sm];have:nX (Ly.mG (Ly.asm (D4 T E b)))=nX (D4 T E b):=Jz fun i hi=>Ly.EH _ ht i hi
 rw[this];exact Rt hc hin hw h1
end Bk
section
open Go.RowKit Go.Shelf
theorem xy {α:Type} [DecidableEq α] (f:α→Nat):∀(T l:List α),T.Nodup→(∀x∈T,x∈l)→(T.map f).sum≤(l.map f).sum
 |[],_,_,_=>bE _
 |x::T,l,hn,hs=>by
  obtain⟨h1,h2⟩:=List.nodup_cons.1 hn;have hp:=((List.perm_cons_erase (hs x sm)).map f).sum_nat;have:=xy f T (l.erase x) h2 fun y hy=>(List.mem_erase_of_ne (fun e=>by subst e;exact h1 hy)).2 (hs y (by simp[hy]))
  rw[hp];simp only[AA,Bp];omega
theorem mW {α:Type} (f g:α→Nat) (l:List α) (h:∀x∈l,f x≤g x):(l.map f).sum≤(l.map g).sum:=by
 induction l with
 |nil=>simp
 |cons x l ih=>
  have:=ih fun y hy=>h y (by simp[hy])
  have:=h x sm;simp only[AA,Bp];omega
theorem aW {α β:Type} (f:α→List β) (l:List α):(l.flatMap f).length=(l.map fun x=>(f x).length).sum:=by
 induction l with
 |nil=>rfl
 |cons x l ih=>rw[Au,La,ih];simp
theorem lV {α:Type} (k f) (l:List α) (h:∀x∈l,f x≤k):(l.map f).sum≤k*l.length:=by
 induction l with
 |nil=>simp
 |cons x l ih=>
  have h1:=ih fun y hy=>h y (by simp[hy])
  have h2:=h x sm;simp only[AA,Bp,Lc];rw[Nat.mul_succ];omega
theorem rP:∀(s) (a),Pe.Up a s→0≤a→(Pe.gap a s).length≤10*s.length:=fun s a h h0=>by have:=Pe.Rm h h0;omega
namespace Bk
open Cs (gD In lens tq)
structure zf (b:jb):Prop where
 fA:b.length≤300
 lab:(sets b).flatten.length≤200
 dI:dI b≤3000
 str:Sy.tot (Lb.strs (sets b).flatten)≤200000
theorem pJ (M):Ps.strs M=Lb.strs M.flatten:=by
 unfold Ps.strs Lb.strs
 induction M with
 |nil=>rfl
 |cons m M ih=>rw[Au,ih,Cy,oL]
theorem VP (M):Ps.wt M=M.length+M.flatten.length:=by
 unfold Ps.wt
 induction M with
 |nil=>rfl
 |cons m M ih=>rw[AA,Bp,ih,Lc,Cy,La];omega
theorem zf.wt {b} (h:zf b):Ps.wt (sets b)≤500:=by
 rw[VP];have h1:=h.fA;have h2:=h.lab;have:(sets b).length=b.length:=by unfold sets;simp
 omega
theorem F4:∀(M) (k),(Ps.eQ M k).length=M.flatten.length
 |[],_=>rfl
 |m::M,k=>by rw[Ps.eQ,La,F4 M (k+1),fF,Cy,La]
theorem zf.tab {b T} (h:zf b) (hc:df b=0) (ht:Sy.gq (Ps.strs (sets b)) T):T.length≤400∧(T.map fun s=>s.size).sum≤200000:=by
 have h1:=bW T _ ht.1.nodup (fun s hs=>(ht.2 s).1 hs);have h2:=xy (fun s:ByteArray=>s.size) T _ ht.1.nodup (fun s hs=>(ht.2 s).1 hs);have h3:=iH hc;have h4:=h.str;have h5:=h.lab;rw[pJ]at h1 h2 h3;have h6:=Lb.aV (sets b).flatten;refine⟨om,Lt h2 (Lt (mW _ (fun s:ByteArray=>1+min s.size 200000) _ fun s hs=>?_) h4)⟩;have:=h3 s hs;omega
theorem Rw (s) (h:s.size≤65535):(Sy.l7 s).length≤s.size+10:=by
 unfold Sy.l7;have h2:s.data.toList.length=s.size:=sm;have:=Wr.rE s.data.toList om;omega
theorem Rx {T} (h1:T.length≤400) (h2:(T.map fun s=>s.size).sum≤200000) (h3:∀s∈T,s.size≤65535):(Sy.aL T).length≤300000:=by
 unfold Sy.aL;rw[La,aW];have a:=Vi.bq T.length om;have b:=mW (fun s=>(Sy.l7 s).length) (fun s=>s.size+10) T fun s hs=>Rw s (h3 s hs)
 have c:(T.map fun s=>s.size+10).sum=(T.map fun s=>s.size).sum+10*T.length:=by
  clear h1 h2 h3 a b
  induction T with
  |nil=>rfl
  |cons s T ih=>simp only[AA,Bp,Lc,ih];omega
 omega
theorem Ry {T r} (hT:T.length≤1000000) (h1:r.1.length≤1000000) (h2:r.2.length≤1000000) (h3:∀n∈r.2,n≤1000000):(Rc.jB T r).length≤20+20*r.1.length+10*r.2.length:=by
 unfold Rc.jB;simp only[La,aW];have a:=Vi.bq r.1.length om;have b:=Vi.bq r.2.length om;have c:=lV 10 (fun s=>(Rc.dP T s).length) (Lb.strs r.1) fun s _=>Pe.y9 hT s
 have d:=lV 10 (fun n=>(Rc.XU n).length) r.2 fun n hn=>Vi.bq _ (by have:=h3 n hn;omega)
 have e:=Lb.aV r.1;omega
theorem LH {T b} (hT:T.length≤1000000) (h:zf b):(Rc.aL T (mi b)).length≤100000:=by
 unfold Rc.aL;rw[La,aW];have hl:(mi b).length=b.length:=by unfold mi VM;simp
 have a:=Vi.bq (mi b).length (by have:=h.fA;omega);have key:∀(b:jb),(sets b).flatten.length≤1000000→dI b≤1000000→((mi b).map fun x=>(Rc.jB T x).length).sum≤20*b.length+20*(sets b).flatten.length+10*dI b:=by
  intro b
  induction b with
  |nil=>intro _ _;simp[mi,VM]
  |cons s b ih=>
   intro h1 h2;have e1:(sets (s::b)).flatten.length=s.1.length+(sets b).flatten.length:=by simp[sets]
   have e2:Bk.dI (s::b)=s.2.length+Bk.dI b:=by simp[Bk.dI]
   have e3:mi (s::b)=Rc.bU (s.1,lens s.2)::mi b:=rfl;have i1:=ih om om;have i2:(Rc.jB T (Rc.bU (s.1,lens s.2))).length≤20+20*s.1.length+10*(lens s.2).length:=by
    have:=Ry (T:=T) (r:=Rc.bU (s.1,lens s.2)) hT (by show s.1.length≤_;omega) (by
     show((lens s.2).map Int.ofNat).length≤_;rw[fF];have:=rR s.2;omega) (by
     intro n hn;obtain⟨m,hm,rfl⟩:=bQ.1 (show n∈(lens s.2).map Int.ofNat from hn);have:=(uq m hm).2;show(m:Int)≤_;omega)
    have e4:(Rc.bU (s.1,lens s.2)).2.length=(lens s.2).length:=by show((lens s.2).map Int.ofNat).length=_;rw[fF]
    rw[e4]at this;exact this
   have i3:=rR s.2;rw[e1,e2,e3,AA,Bp,Lc];omega
 have k:=key b (by have:=h.lab;omega) (by have:=h.dI;omega);have:=h.fA;have:=h.lab;have:=h.dI;omega
theorem LJ {b} (h:zf b):(dat b).length≤6600000:=by
 unfold dat;rw[aW];have key:∀s:gD,(tq s).length≤2200*s.length:=fun s=>by
  unfold tq;rw[aW];have h1:((Ck.jA s).map fun c=>(Ck.enc c).length)=lens s:=rfl;rw[h1];have h2:=lV 2200 id (lens s) fun n hn=>(uq n hn).2
  rw[List.map_id]at h2;have h3:=rR s;have h4:=Nat.mul_le_mul_left 2200 h3;omega
 have h1:=mW (fun s:KT=>(tq s.2).length) (fun s=>2200*s.2.length) b fun s _=>key s.2
 have h2:(b.map fun s=>2200*s.2.length).sum=2200*dI b:=by
  clear h h1;unfold dI
  induction b with
  |nil=>rfl
  |cons s b ih=>simp only[AA,Bp,ih];omega
 have:=h.dI;omega
theorem Rz {T E b} (hT:T.length≤1000000) (h:zf b) (hs:Ps.Sets (sets b)) (hi:Ps.qY (Ps.eQ (sets b) 0) E):(Pe.aL T E).length≤500000:=by
 obtain⟨h1,h2⟩:=Ps.rQ hi;rw[F4]at h1 h2;have hl:=h.lab;unfold Pe.aL;rw[La,aW];have a:=Vi.bq E.length om;have hu:=Ps.Lx hs hi;have b:=lV 2030 (fun e=>(Pe.gU T e).length) E fun e he=>by
  unfold Pe.gU;simp only[La];have c1:=Pe.y9 hT e.1.n;have c2:=Pe.y9 hT e.1.v;have c3:=Vi.bq e.2.length (by have:=h2 e he;omega);have c4:=rP e.2 0 (hu e he) (Int.le_refl _);have:=h2 e he;omega
 omega
theorem zf.sec {b T E} (h:zf b) (hc:df b=0) (ho:Of b T E):∀i,i<4→(D4 T E b i).length≤if i=2 then 10000000 else 1000000:=by
 obtain⟨t1,t2⟩:=h.tab hc ho.1;have hw:=h.wt;have hsm:=iH hc;intro i hi
 match i,hi with
 |0,_=>
  show(Sy.aL T).length≤1000000;have:=Rx t1 t2 (fun s hs=>hsm s ((ho.1.2 s).1 hs));omega
 |1,_=>
  show(Rc.aL T (mi b)).length≤1000000;have:=LH (T:=T) om h;omega
 |2,_=>
  show(dat b).length≤10000000;have:=LJ h;omega
 |3,_=>
  show(Pe.aL T E).length≤1000000;have:=Rz (T:=T) om h (jD hc om) ho.2;omega
end Bk
end
section
open Go.RowKit Go.Shelf
theorem zg (A n c l w) (hv:fG w w.heap.size A n c l) (hf:Lb.Fit l):
  Calls prog 58 #[.slice A n c] w fun e w'=>∃v:Int,e= .returned (.int .i64 v)∧(v=0→n≤200∧Sy.tot (Lb.strs l)≤200000)∧Below w.heap.size w w':=by
 have hlc:=hv.1;have hcm:=hv.2.1;unfold maxLen at hcm;have V:=Aj hv;have F:=Aj hf;clear hv hf;by_cases h:200<n
 ·have h':(200:Int)< (n:Int):=by omega
  go_enter func58,ntmps58;go_wp2;go_ret;exact⟨1,rfl,(fun h=>by cases h),Ae _ _⟩
 ·have h':¬(200:Int)< (n:Int):=by omega
  go_enter func58,ntmps58;go_wp2_with (first
   |(go_at_call 105;refine(sP A n c l w V.1 om).mono ?_;rintro e w1 ⟨A1,n1,c1,rfl,ho,hb⟩;have O:=Aj ho;have B1:=Aj hb;clear ho hb)
   |(go_at_call 104;refine(EO A1 n1 c1 _ _ w1 O.1.rd Ai (Lb.Qh F.1)).mono ?_;rintro e w2 ⟨v,rfl,hv1,hv2,hg⟩;have G:=Aj hg;have HV:=Aj hv2;clear hg hv1 hv2))
  go_ret;exact⟨v,rfl,fun h0=>⟨om,(HV.1 h0).2⟩,B1.1.trans (G.1.below.mono B1.1.size)⟩
namespace Bk
theorem ND (b:jb) {k} (h:k<b.length):(sets (b.take (k+1))).flatten=(sets (b.take k)).flatten++b[k].1:=by
 unfold sets;rw[Ts h,dW,List.flatten_append];simp
end Bk
theorem F7 (A n c B b w) (hv:iC w B A n c b) (hB:B≤w.heap.size) (hf:∀s∈b,Lb.Fit s.1):
  Calls prog 28 #[.slice A n c] w fun e w'=>∃v:Int,e= .returned (.int .i64 v)∧(v=0→Bk.zf b)∧Below w.heap.size w w':=by
 obtain⟨hlc,hcm⟩:=hv.cap;unfold maxLen at hcm;have hn:=Aj hv.len;have V:=Aj hv;have F:=Aj hf;clear hv hf;go_enter func28,ntmps28;go_wp2;go_loopw [3,4,9] (fun s o i wr=>∃k m:Nat,k≤n∧i= .int .i64 k∧s= .int .i64 m∧m≤3000∧k≤3000∧Kept (m=k+Bk.dI (b.take k))∧Kept (0<k→n≤300)∧∃A2 n2 c2,o= .slice A2 n2 c2∧n2≤200*k∧Kept (bT wr w.heap.size A2 n2 c2 (Bk.sets (b.take k)).flatten)∧Below w.heap.size w wr) (fun _ _ i _=>n-(intOf i).toNat)
 case atStart=>exact⟨0,0,om,rfl,rfl,om,om,⟨rfl⟩,⟨fun h=>absurd h om⟩,none,0,0,rfl,om,⟨bT.nil _ _⟩,Ae _ _⟩
 case round=>
  obtain⟨k,m,hk,rfl,rfl,Ff,hk3,hm,nz,A2,n2,c2,rfl,hn2,ho,hbw⟩:=hrel;have BW:=Aj hbw;have kM:=Aj hbw.size;by_cases hlt:k<n
  ·have hkl:k<b.length:=by rw[←hn.1];exact hlt
   obtain⟨b0,off,A1,n1,c1,A3,n3,c3,rfl,h1,h2,hc⟩:=V.1.cells hB hkl;obtain⟨r0,r1⟩:=hc wr hbw;have ahZ:(n1:Int)≤9223372036854775807:=by have a:=h1.1;have d:=h1.2.1;unfold maxLen at d;omega
   have ah0:(n3:Int)≤9223372036854775807:=by have a:=h2.1;have d:=h2.2.1;unfold maxLen at d;omega
   have h5:=Aj h2.len;have H1:=Aj h1;have hsm:=Aj (Bk.tC b k hkl);have hft:=Aj (Bk.ND b hkl);clear hbw h1 h2 hc;by_cases hb3:3000<n3
   ·have acg:(3000:Int)< (n3:Int):=by omega
    go_wp2;go_ret;exact⟨1,rfl,(fun h=>by cases h),BW.1.alloc kM.1 _⟩
   ·have acg:¬(3000:Int)< (n3:Int):=by omega
    by_cases hb4:3000<m+(1+n3)
    ·go_wp2;go_ret;exact⟨1,rfl,(fun h=>by cases h),BW.1.alloc kM.1 _⟩
    ·by_cases hb5:300<n
     ·have afm:(300:Int)< (n:Int):=by omega
      go_wp2;go_ret;exact⟨1,rfl,(fun h=>by cases h),BW.1.alloc kM.1 _⟩
     ·have afm:¬(300:Int)< (n:Int):=by omega
      by_cases hb6:200<n1
      ·have afn:(200:Int)< (n1:Int):=by omega
       go_wp2;go_ret;exact⟨1,rfl,(fun h=>by cases h),BW.1.alloc kM.1 _⟩
      ·have afn:¬(200:Int)< (n1:Int):=by omega
       have Yi:Kept (n≤300):=⟨om⟩
       have hmm:Kept (m+(1+n3)=(k+1)+Bk.dI (b.take (k+1))):=⟨by have:=hm.1;have:=hsm.1;have:=h5.1;omega⟩
       go_wp2_with (at_builtin;refine qz rfl (.tmp 33) (.tmp 35) rfl w.heap.size A2 n2 c2 _ rfl (Oa ho.1 _) B _ _ _ b[k].1 rfl (Rd.below H1.1 ((BW.1.alloc kM.1 _).mono hB)) om (by have:=kM.1;simp;omega) ?_;intro A5 c5 w5 hown hgrow hat;have O5:=Aj hown;have B5:=Aj ((BW.1.alloc kM.1 _).grown hgrow (by have:=kM.1;simp;omega) (fun r e=>(ae ho.1 r e).1));clear hown hgrow hat);go_roundw
       case rel=>exact⟨k+1,m+(1+n3),om,by go_num,by go_num,om,by have:=Yi.1;omega,hmm,⟨fun _=>Yi.1⟩,A5,n2+n1,c5,rfl,om,⟨by rw[hft.1];exact O5.1⟩,B5.1⟩
       case measure=>simp[intOf];omega
  ·obtain rfl:k=n:=by omega
   have hall:b.take k=b:=iL (by rw[←hn.1];exact Nr _);rw[hall]at ho hm;have LG:=Aj (zg A2 n2 c2 _ wr ho.1.rd (fun x hx=>by
    obtain⟨m,hm1,hm2⟩:=List.mem_flatten.1 hx;unfold Bk.sets at hm1;obtain⟨s,hs,rfl⟩:=bQ.1 hm1;exact F.1 s hs x hm2))
   have hl2:=Aj ho.1.len;clear hbw ho hall;go_wp2_with (go_at_call 58;refine LG.1.mono ?_;rintro e w6 ⟨v,rfl,hv,hb6⟩;have HV:=Aj hv;have B6:=Aj hb6;clear hv hb6 LG);go_ret;refine⟨v,rfl,fun h0=>?_,BW.1.trans (B6.1.mono kM.1)⟩;obtain⟨q1,q2⟩:=HV.1 h0;refine⟨?_,by rw[←hl2.1];exact q1,by have:=hm.1;omega,q2⟩;have:=hn.1;rcases l5 k with h|h
   ·omega
   ·have:=nz.1 h;omega
end
section
open Go.RowKit Go.Shelf
namespace En
open Cs (gD In lens tq)
def all:Nat→Bk.jb→List (Nat×List UInt8)
 |_,[]=>[]
 |i,s::b=>(Ck.jA s.2).map (fun c=>(i,Ck.enc c))++all (i+1) b
theorem zh:∀(a b) (i),all i (a++b)=all i a++all (i+a.length) b
 |[],b,i=>by simp[all]
 |s::a,b,i=>by
  rw[Ba,all,all,zh a b (i+1),Af,Lc,show i+1+a.length=i+(a.length+1)from om]
theorem F8 (b:Bk.jb) {k} (h:k<b.length):all 0 (b.take (k+1))=all 0 (b.take k)++(Ck.jA b[k].2).map (fun c=>(k,Ck.enc c)):=by
 rw[Ts h,zh,oF,Nat.min_eq_left (Nat.le_of_lt h),bZ];simp[all]
theorem VQ (b k):all 0 (b.take k)<+:all 0 b:=by
 have:=zh (b.take k) (b.drop k) 0;rw[jH]at this;exact⟨_,this.symm⟩
def dat (pre:List (Nat×List UInt8)):List UInt8:=pre.flatMap (·.2)
def cnt (pre:List (Nat×List UInt8)) (i:Nat):List Int:=(pre.filter fun x=>decide (x.1=i)).map fun x=>((x.2.length:Nat):Int)
theorem rT (a b):dat (a++b)=dat a++dat b:=by simp[dat]
theorem nY (a b i):cnt (a++b) i=cnt a i++cnt b i:=by simp[cnt]
theorem VR (i L):dat [(i,L)]=L:=by simp[dat]
theorem VS (i L):cnt [(i,L)] i=[((L.length:Nat):Int)]:=by simp[cnt]
theorem RF {i j} (h:i≠j) (L):cnt [(i,L)] j=[]:=by simp[cnt,h]
theorem zi:∀(b) (i),dat (all i b)=Bk.dat b
 |[],_=>rfl
 |s::b,i=>by
  rw[all,rT,zi b (i+1)];show _=tq s.2++Bk.dat b
  congr 1
  unfold dat tq;rw[List.flatMap_map]
theorem VU (l:List gD) (f:gD→List UInt8) (i):cnt (l.map fun c=>(i,f c)) i=l.map fun c=>(((f c).length:Nat):Int):=by
 unfold cnt;rw[List.filter_eq_self.2 (fun x hx=>by obtain⟨c,_,rfl⟩:=bQ.1 hx;simp),BV]
 rfl
theorem uu (l:List gD) (f:gD→List UInt8) {i j} (h:i≠j):cnt (l.map fun c=>(i,f c)) j=[]:=by
 unfold cnt;rw[List.filter_eq_nil_iff.2 (fun x hx=>by obtain⟨c,_,rfl⟩:=bQ.1 hx;simpa using h)]
 rfl
theorem LK:∀(b) (i j),j<i→cnt (all i b) j=[]
 |[],_,_,_=>rfl
 |s::b,i,j,h=>by
  rw[all,nY,uu _ _ om,LK b (i+1) j om,Az]
theorem rU:∀(b) (i j) (h:j<b.length),cnt (all i b) (i+j)=(lens b[j].2).map Int.ofNat
 |s::b,i,0,_=>by
  rw[all,nY,Cr,VU,LK b (i+1) i om,Bg];unfold lens;rw[BV]
  rfl
 |s::b,i,j+1,h=>by
  rw[all,nY,uu _ _ om,Az,show i+(j+1)=i+1+j from om,rU b (i+1) j (by simpa using h)]
  rfl
end En
end
section
open Go.RowKit Go.Shelf
attribute [local go_sem] Oper.semAt_some
theorem rV {w w':World} {base n c sz A xs t row} (h:w.ownsRow base t sz (.slice A n c) n xs) (hg:w.grownBy w' row)
  (hr:∀r,row=some r→ab A≠some r∨∃o:Obj,w.heap[r]? =some o∧o.isCells=false):w'.ownsRow base t sz (.slice A n c) n xs:=by
 refine⟨h.1,?_⟩;rcases h.2 with hn|⟨g,cap,cur,hv,h1,h2,rest⟩
 ·exact .inl hn
 ·refine .inr ⟨g,cap,cur,hv,h1,?_,rest⟩;rw[hg.block g (Ge.1 h2).1]
  ·exact h2
  ·intro e';rcases hr g e'.symm with h3|⟨o,ho,hoc⟩
   ·injection hv with hv
    rw[hv]at h3;exact h3 rfl
   ·rw[h2]at ho;cases ho;cases hoc
theorem zk {w:World} {base n c sz A xs t} (h:w.ownsRow base t sz (.slice A n c) n xs):∀j o,ab A=some j→w.heap[j]? =some o→o.isCells=true:=by
 intro j o ej hj;rcases h.2 with⟨hv,_⟩|⟨g',cap,cur,hv,_,hgb,_⟩
 ·injection hv with hv1;rw[hv1]at ej;cases ej
 ·injection hv with hv1
  rw[hv1]at ej;obtain rfl:g'=j:=by simpa[ab]using ej
  rw[hgb]at hj;cases hj;rfl
def mX (w:World) (B:Nat) (A:Option Addr) (n c:Nat) (LL:List Cs.gD):Prop:=
 ∃vs:List Value,Rd w B 1 A n c vs∧vs.length=LL.length∧∀(i:Nat) (l:Cs.gD),LL[i]? =some l→∃A' n' c',vs[i]? =some (.slice A' n' c')∧gT w B A' n' c' l
section
variable {w w':World} {B n c:Nat} {A:Option Addr} {LL:List Cs.gD}
theorem mX.len (h:mX w B A n c LL):n=LL.length:=by
 obtain⟨vs,h1,h2,_⟩:=h;have:=h1.2.2.1;omega
theorem mX.at_ {k} (h:mX w B A n c LL) (hk:k<LL.length):
  ∃b off A' n' c',A=some ⟨b,off,none⟩∧b<B∧w.cell? ⟨b,off+k,none⟩=some (.slice A' n' c')∧gT w B A' n' c' LL[k]:=by
 have hn:=h.len;obtain⟨vs,h1,h2,h3⟩:=h;obtain⟨b,off,u,e,hb,hu,hc⟩:=h1.at_ (k:=k) om;obtain⟨A',n',c',e',hr⟩:=h3 k LL[k] (kK hk);rw[hu]at e'
 injection e' with e'
 subst e';exact⟨b,off,A',n',c',e,hb,hc,hr⟩
theorem mX.take (h:mX w B A n c LL) {k} (hk:k≤n):mX w B A k c (LL.take k):=by
 have hn:=h.len;obtain⟨vs,h1,h2,h3⟩:=h;have:=h1.take hk;rw[C8]at this;refine⟨_,this,by simp[h2],fun i l hl=>?_⟩;rw[List.getElem?_take]at hl;split at hl
 ·next hi=>
  obtain⟨A',n',c',e',hr⟩:=h3 i l hl;exact⟨A',n',c',by rw[List.getElem?_take,Ps0 hi];exact e',hr⟩
 ·cases hl
end
theorem RG:(prog.info? 55).map (fun i=>(i.zero,i.size,i.bytes))=some (some (.slice none 0 0),1,24):=kr
theorem Rd.hdM (w:World) (v):Rd (w.alloc (.cells #[v] 55)) (w.heap.size+1) 1 (some ⟨w.heap.size,0,none⟩) 1 1 [v]:=
 ⟨Nr _,by unfold maxLen;omega,rfl,fun _=>⟨_,0,rfl,om,fun i u hu=>by
  match i,hu with
  |0,hu=>simp at hu;subst hu;exact Ao w _ _ _ 0⟩⟩
namespace Ck
def oD (n:Nat):Nat:=(n+119)/120
def F9 (A:Option Addr) (n j:Nat):Value:= .slice (A.map (·.add (120*j*2))) (min 120 (n-120*j)) (min 120 (n-120*j))
theorem uw (l):jA l=(List.range (oD l.length)).map fun j=>(l.drop (120*j)).take 120:=by
 by_cases h:l=[]
 ·subst h;rw[dS];rfl
 ·have hp:=oH.2 h;rw[jP h,uw (l.drop 120),lZ];have e:oD l.length=oD (l.length-120)+1:=by unfold oD;omega
  rw[e,List.range_succ_eq_map,AA,BV]
  congr 1
  refine Dy fun j _=>?_
  show((l.drop 120).drop (120*j)).take 120=(l.drop (120*(j+1))).take 120;rw[List.drop_drop]
  congr 2
  omega
termination_by l.length
decreasing_by
 have:=oH.2 h;rw[lZ];omega
end Ck
def RI (v:Value):Array Value:= #[v]
theorem zl (n bx bk B A m c) (l:Cs.gD) (w) (hw:Boxed w bx 55 (.slice A m c)) (hk:Boxed w bk 3 (.int .i64 120)) (hbx:bx<B) (hbk:bk<B) (hv:gT w B A m c l) (hm:m≤1000000000):
  Yields n prog 240 #[.pointer (some ⟨bx,0,none⟩),.pointer (some ⟨bk,0,none⟩)] RI (fun _=>False) (fun X Y=>Below B X Y) ((List.range (Ck.oD m)).map (Ck.F9 A m)) w:=by
 intro q J Jx W hK hJ hJx aU h0;have hlc:=hv.1;have hcm:=hv.2.1;unfold maxLen at hcm;have hW:Boxed W bx 55 (.slice A m c):=(hK.block bx hbx).trans hw;have hW2:Boxed W bk 3 (.int .i64 120):=(hK.block bk hbk).trans hk;have V:=Aj (hv.below hK);have bJ:=Aj aU;have KW:=Aj (show∀W',Below B W W'→W'.cell? ⟨bx,0,none⟩=some (.slice A m c)∧W'.cell? ⟨bk,0,none⟩=some (.int .i64 120)from fun W' hb=>⟨(show Boxed W' bx 55 (.slice A m c)from(hb.block bx hbx).trans hW).cell,(show Boxed W' bk 3 (.int .i64 120)from(hb.block bk hbk).trans hW2).cell⟩);have MJ:=Aj hJ;clear hw hK aU hJ hJx hv hW hW2 hk;refine Bj.2 ?_;go_enter func240,ntmps240;go_wp2;go_loopw [4] (fun i wr=>∃k:Nat,k≤Ck.oD m∧i= .int .i64 ((120*k:Nat):Int)∧Below B W wr∧Kept (J (((List.range (Ck.oD m)).map (Ck.F9 A m)).take k) wr)) (fun i _=>m+120-(intOf i).toNat)
 case atStart=>exact⟨0,om,rfl,Ae _ _,⟨h0⟩⟩
 case round=>
  clear h0;obtain⟨k,hk,rfl,hb,hj⟩:=hrel;obtain⟨k0,k1⟩:=KW.1 _ hb;by_cases hlt:120*k<m
  ·have hlt':((120*k:Nat):Int)< (m:Int):=by omega
   have hc1:¬c=120*k:=om;have hkn:k<Ck.oD m:=by unfold Ck.oD;omega
   have hkl:k< ((List.range (Ck.oD m)).map (Ck.F9 A m)).length:=by rw[fF,CY];exact hkn
   have ht:=Ts hkl;have hg:((List.range (Ck.oD m)).map (Ck.F9 A m))[k]=Ck.F9 A m k:=sm;rw[hg]at ht;have HT:=Aj ht;have BB:=Aj hb;have HJ:=Aj hj.1;clear ht hg hb hj;obtain⟨b,off,rfl,-,-⟩:=V.1.2.2.2 om;go_wp2;go_quiet (fail);obtain⟨e,he⟩:∃e,e=min 120 (m-120*k):=⟨_,rfl⟩
   have hmin:min (120:Int) ((m-120*k:Nat):Int)=(e:Int):=om;rw[hmin];have he1:1≤e:=om;have he2:120*k+e≤m:=om;have HE:Kept (Ck.F9 (some ⟨b,off,none⟩) m k= .slice (some ⟨b,off+120*k*2,none⟩) e e):=⟨by unfold Ck.F9;rw[BZ,add_plain,←he]⟩
   clear hmin he;have J0:=MJ.1 _ _ (wr.drewN nq) none HJ.1 ⟨rfl,rfl,rfl,Nr _,fun _ _ _=>rfl⟩ (fun r h=>by cases h);obtain⟨fn,tmps,assign,body,hy,ow⟩:=bJ.1 _ (Ck.F9 (some ⟨b,off,none⟩) m k) (wr.drewN nq) J0 ⟨((List.range (Ck.oD m)).map (Ck.F9 (some ⟨b,off,none⟩) m)).drop (k+1),by rw[←HT.1,jH]⟩;unfold RI at hy;rw[HE.1]at hy;rw[←HT.1]at ow;clear J0 k0 k1;obtain⟨k0,k1⟩:=KW.1 (wr.drewN nq) (below_drewN BB.1 nq);have BB2:=Aj (below_drewN BB.1 nq);have KW2:=Aj KW.1;clear KW bJ HJ BB HE HT;generalize wr.drewN nq=wd at*;go_upto_region 4 with fail;refine(Bu (n:=n)).1 ?_
   gi_wp2
   refine⟨(fun h=>by simp[Fence.wide]at h),ow.mono ?_⟩;rintro e2 W' (⟨rfl,hj',hb'⟩|⟨rfl,qQ⟩)
   ·have B2:=Aj (BB2.1.trans hb');have J2:=Aj hj';obtain⟨q0,q1⟩:=KW2.1 _ B2.1;clear hj' hb' k0 k1 ow
    gi_wp2
    go_wp2;go_roundw
    case rel=>exact⟨k+1,om,by go_num,B2.1,J2⟩
    case measure=>simp[intOf];omega
   ·have X2:=Aj qQ;clear qQ k0 k1 ow
    gi_wp2
    go_wp2;exact Bh (CJ rfl _ _ _) rfl ⟨⟨_,rfl⟩,.inr ⟨_,List.take_prefix _ _,X2.1⟩⟩
  ·have J2:Kept (J ((List.range (Ck.oD m)).map (Ck.F9 A m)) wr):=⟨by have:=hj.1;rwa[iL (by rw[fF,CY];unfold Ck.oD;omega)]at this⟩
   have hlt':¬((120*k:Nat):Int)< (m:Int):=om;clear hj;go_wp2;go_end0;exact⟨⟨_,rfl⟩,.inl J2.1⟩
def zm (w:World) (pre:List Value) (W:World):Prop:=
 ∃A n c,Boxed W w.heap.size 147 (.slice A n c)∧W.ownsRow (w.heap.size+1) 55 1 (.slice A n c) n pre∧Below w.heap.size w W
theorem zm.own {w}:aH (w.heap.size+1) (fun _=>False) (zm w):=by
 rintro s W W' row ⟨A,n,c,hb,ho,hbel⟩ hg hr;have hrow:∀r,row=some r→w.heap.size<r:=fun r e=>by
  rcases hr r e with h|⟨h,_⟩
  ·exact h.elim
  ·omega
 refine⟨A,n,c,hb.kept hg (fun e=>by have:=hrow _ e.symm;omega),rV ho hg (fun r e=>?_),hbel.grown hg hbel.size (fun g e=>by have:=hrow g e;omega)⟩;rcases hr r e with h|⟨_,h⟩
 ·exact h.elim
 ·exact .inr h
theorem zm.push {w W w5 A A4 n c c4 pre x tmp} (hW:w.heap.size+1≤W.heap.size) (hb:Boxed W w.heap.size 147 (.slice A n c)) (ho:W.ownsRow (w.heap.size+1) 55 1 (.slice A n c) n pre) (hbel:Below w.heap.size w W)
  (hown:w5.ownsRow (w.heap.size+1) 55 1 (.slice A4 (n+1) c4) (n+1) (pre++[x])) (hg:(W.alloc tmp).grownBy w5 (ab A)):
  KeepsFrom (w.heap.size+1) W (w5.setCell ⟨w.heap.size,0,none⟩ (.slice A4 (n+1) c4))∧Below w.heap.size W (w5.setCell ⟨w.heap.size,0,none⟩ (.slice A4 (n+1) c4))∧zm w (pre++[x]) (w5.setCell ⟨w.heap.size,0,none⟩ (.slice A4 (n+1) c4)):=by
 have hlt:∀g,ab A=some g→w.heap.size+1≤g:=fun g e=>(ae ho g e).1
 have Ii:∀g,ab A4=some g→w.heap.size+1≤g:=fun g e=>(ae hown g e).1
 have hcl:∀j o,ab A=some j→(W.alloc tmp).heap[j]? =some o→o.isCells=true:=zk (Oa ho tmp);have gs:=DC w5 w.heap.size (.slice A4 (n+1) c4);have hb1:Below w.heap.size W w5:=((Ae _ W).alloc om tmp).grown hg (by simp;omega) (fun g e=>by have:=hlt g e;omega);have hb2:Below w.heap.size W (w5.setCell ⟨w.heap.size,0,none⟩ (.slice A4 (n+1) c4)):=hb1.setCell (p:=⟨w.heap.size,0,none⟩) Ai _;refine⟨(((DY W _).trans (CR hg hcl)).trans (Ct _ _ _)).from _,hb2,A4,n+1,c4,?_,?_,hbel.trans hb2⟩
 ·refine Boxed.set _ ((hb.alloc tmp).kept hg (fun e=>?_));have:=hlt _ e.symm;omega
 ·exact rV hown gs (fun r e=> .inl fun e2=>by cases e;have:=Ii _ e2;omega)
theorem uy (bx bk A m c) (l:Cs.gD) (w) (hw:Boxed w bx 55 (.slice A m c)) (hk:Boxed w bk 3 (.int .i64 120)) (hv:gT w w.heap.size A m c l) (hm:m≤1000000000):
  Calls prog 239 #[.slice none 0 0,.func (.func 240) #[] #[.pointer (some ⟨bx,0,none⟩),.pointer (some ⟨bk,0,none⟩)]] w fun e w'=>∃A2 n2 c2,e= .returned (.slice A2 n2 c2)∧w'.ownsRow w.heap.size 55 1 (.slice A2 n2 c2) n2 ((List.range (Ck.oD m)).map (Ck.F9 A m))∧Below w.heap.size w w':=by
 have hbx:=hw.lt;have hbk:=hk.lt;obtain⟨L,hL⟩:∃L,L=(List.range (Ck.oD m)).map (Ck.F9 A m):=⟨_,rfl⟩
 have YV:Kept (∀o,Yields 8 prog 240 #[.pointer (some ⟨bx,0,none⟩),.pointer (some ⟨bk,0,none⟩)] RI (fun _=>False) (fun X Y=>Below w.heap.size X Y) L (w.alloc o)):=⟨fun o=>by rw[hL];exact zl 8 bx bk w.heap.size A m c l (w.alloc o) (hw.alloc o) (hk.alloc o) hbx hbk (hv.alloc Ai o) hm⟩
 have hlen:Kept (L.length≤10000000):=⟨by rw[hL,fF,CY];unfold Ck.oD;omega⟩
 have hone:Kept (∀x∈L,∃A0 n0 c0,x= .slice A0 n0 c0):=⟨fun x hx=>by rw[hL]at hx;obtain⟨j,_,rfl⟩:=bQ.1 hx;exact⟨_,_,_,rfl⟩⟩
 rw[←hL];clear hw hv hk hL;refine(Bj (n:=9)).1 ?_;refine Cu func239 rfl trivial ?_ rfl;simp only[ntmps239,Cf,Lc,AZ,Nat.reduceAdd,Nat.reduceSub,Ch,Ci,CW,Cv,Az,Ba];refine Bu.2 ?_;go_wp2;have bB:=Bb w 147 (.slice none 0 0);have hsz:(w.alloc (.cells #[.slice none 0 0] 147)).heap.size=w.heap.size+1:=sm;have g0:Below w.heap.size w (w.alloc (.cells #[.slice none 0 0] 147)):=(Ae _ _).alloc Ai _;have Y4:=YV.1 (.cells #[.slice none 0 0] 147);clear YV;generalize w.alloc (.cells #[.slice none 0 0] 147)=w4 at*;refine(Bu (n:=9)).1 ?_;refine ny Ah (gf:=240) (lb:= #[.pointer (some ⟨bx,0,none⟩),.pointer (some ⟨bk,0,none⟩)]) rfl (enters_of func240 kr rfl)
  (encs:=RI) (O:=fun _=>False) (Kp:=fun X Y=>Below w.heap.size X Y) (L:=L) Y4
  (fun _ h=>h.elim) (fun h k=>h.trans k) (fun W W' row hW hg hr=>(Ae _ W).grown hg om (fun g e=>by have:=hr g e;omega)) (fun _=>rfl)
  (zm w) (fun _ _ _=>False)
  (fun pre x a₁ W=>zm w pre W∧
   a₁={tmps:= #[.slice none 0 0,.func (.func 240) #[] #[.pointer (some ⟨bx,0,none⟩),.pointer (some ⟨bk,0,none⟩)],.pointer (some ⟨w.heap.size,0,none⟩),undef,.slice none 0 0,x,.func (.func 240) #[] #[.pointer (some ⟨bx,0,none⟩),.pointer (some ⟨bk,0,none⟩)],
    x,undef,undef,undef,undef,undef],defers:=[]})
  ?hI (fun _ _ _ _ _ h _ _=>h) ?hM ?h0 ?assign ?body ?done ?stop
 case hI=>rw[hsz];exact zm.own
 case hM=>
  rw[hsz];rintro pre p a₁ u W W' row ⟨hI,ha⟩ hgr hr;exact⟨zm.own _ _ _ _ hI hgr hr,ha⟩
 case h0=>exact⟨none,0,0,bB,AV _ _ _ _,g0⟩
 case assign=>
  rintro q pre x W hI hpre hW;unfold RI
  gi_wp2
  exact⟨⟨Nr _,fun _ _ _ h _=>h⟩,Ae _ _,hI,trivial⟩
 case body=>
  rintro q pre x a₁ W ⟨⟨A',n',c',hb,ho,hbel⟩,rfl⟩ hpre hW;have hl1:n'≤10000000:=by
   have h1:=ho.1;have h2:=hpre.length_le;have h3:=hlen.1;simp at h2;omega
  obtain⟨A0,n0,c0,rfl⟩:=hone.1 x (hpre.subset sm);have hcO:=hb.cell;have Hb:=Aj hb;have vE:=Aj ho;have HB:=Aj hbel;have hlo:∀g,ab A'=some g→w.heap.size+1≤g:=fun g e=>(ae ho g e).1
  have HLO:=Aj hlo;have h1c:Kept (∀u∈[Value.slice A0 n0 c0],u.oneCell'=true):=⟨by intro u hu;rw[gz.1 hu];rfl⟩
  clear hb ho hbel hlo;obtain⟨i0,hi0,hz0,hz1,hz2⟩:=AX RG
  gi_wp2_with (gi_at_builtin;refine dE _ rfl (.tmp 8) (.tmp 10) _ rfl (w.heap.size+1) 55 i0 (.slice none 0 0) 1 24 underlying147 hi0 hz0 hz1 hz2 rfl Ah A' n' c' _ rfl (Oa vE.1 _) (W.heap.size+1) _ _ _ [.slice A0 n0 c0] rfl (Rd.hdM W (.slice A0 n0 c0)) h1c.1 (by unfold maxLen;omega) om (by simp;omega) ?_;intro A4 c4 w5 av af cu;have ko:Boxed w5 w.heap.size 147 (.slice A' n' c'):=(Hb.1.alloc _).kept af (fun e=>by have:=HLO.1 _ e.symm;omega);have Pq:=ko.cell;have Pt:=ko.frozen)
  rw[hsz];exact zm.push om Hb.1 vE.1 HB.1 av af
 case done=>
  rintro D W hD ⟨A',n',c',hb,ho,hbel⟩ hK;have hc:=hb.cell;have vE:=Aj ho;have HB:=Aj hbel;clear ho hbel;go_wp2;refine⟨sm,.inl ⟨_,_,rfl,CU hK,?_⟩⟩;have hgo:W.grownBy (W.putObj D (.deferred none)) (some D):=Bd W D _;have hb2:=rV vE.1 hgo (fun r e=>by cases e;exact .inr ⟨_,hK,rfl⟩);refine⟨_,results_tmp rfl _ _ _,A',n',c',rfl,?_,HB.1.grown hgo HB.1.size (fun g e=>by cases e;omega)⟩;exact⟨hb2.1,hb2.2.imp id fun⟨g,cap,cur,h1,h2,h3⟩=>⟨g,cap,cur,h1,om,h3⟩⟩
 case stop=>
  rintro D c pre W _ _ h _;exact h.elim
theorem bz.made (w:World) (base) (h:base≤w.heap.size):bz (w.alloc (.cells #[] 127)) base (some ⟨w.heap.size,0,none⟩) 0 0 []:=World.ownsRow_made w #[] 0 h sm rfl
theorem JA (A n c B) (l:Cs.gD) (w) (hv:gT w B A n c l) (hB:B≤w.heap.size) (hl:n≤4398046511000):
  Calls prog 189 #[.slice A n c] w fun e w'=>∃A3 c3,e= .returned (.slice A3 n c3)∧bz w' w.heap.size A3 n c3 l∧Below w.heap.size w w':=by
 have hlc:=hv.1;have hcm:=hv.2.1;unfold maxLen at hcm;have Hv:=Aj hv;have hn:=Aj hv.len;clear hv;have qT:∀(w:World) (a:Option Addr) (n c n' c':Nat),(binOp .eql 55 (.slice a n c) (.slice none n' c')).run prog w= .ok (.bool a.isNone) w:=fun w a n c n' c'=>Lib.run_eql_slice_nil w _ _ a n c n' c' underlying55
 cases A with
 |none=>
  have h0:n=0:=by
   rcases l5 n with h|h
   ·exact h
   ·obtain⟨b,off,e,_⟩:=Hv.1.2.2.2 h;cases e
  subst h0;obtain rfl:l=[]:=oG hn.1.symm;go_enter func189,ntmps189;go_wp2;go_ret;exact⟨none,0,rfl,bz.nil _ _,Ae _ _⟩
 |some a=>
  go_enter func189,ntmps189;go_wp2_with (at_builtin;refine qA rfl (.tmp 5) (.tmp 6) rfl w.heap.size _ _ _ [] rfl (bz.made w _ Ai) B _ _ _ l rfl (Rd.alloc Hv.1 hB _) om sm ?_;intro A2 c2 w1 hown1 hgrow1 UA;have hb1:Below w.heap.size w w1:=((Ae _ w).alloc Ai _).grown hgrow1 sm (by simp[ab]));rw[Az,bZ]at hown1;go_ret;exact⟨A2,c2,rfl,hown1,hb1⟩
theorem zn (bx bk A m c) (l:Cs.gD) (w) (hw:Boxed w bx 55 (.slice A m c)) (hk:Boxed w bk 3 (.int .i64 120)) (hv:gT w w.heap.size A m c l) (hm:m≤1000000000):
  Calls prog 187 #[.func (.func 240) #[] #[.pointer (some ⟨bx,0,none⟩),.pointer (some ⟨bk,0,none⟩)]] w fun e w'=>∃A2 n2 c2,e= .returned (.slice A2 n2 c2)∧w'.ownsRow w.heap.size 55 1 (.slice A2 n2 c2) n2 ((List.range (Ck.oD m)).map (Ck.F9 A m))∧Below w.heap.size w w':=by
 have AP:=Aj (uy bx bk A m c l w hw hk hv hm);clear hw hk hv;go_enter func187,ntmps187;go_wp2_with (go_at_call 239;refine AP.1.mono ?_;rintro e w1 ⟨A2,n2,c2,rfl,ho,hb⟩;have O:=Aj ho;have HB:=Aj hb;clear ho hb);go_ret;exact⟨A2,n2,c2,rfl,O.1,HB.1⟩
theorem JB (A m c w):
  Calls prog 188 #[.slice A m c,.int .i64 120] w fun e w'=>e= .returned (.func (.func 240) #[] #[.pointer (some ⟨w.heap.size,0,none⟩),.pointer (some ⟨w.heap.size+1,0,none⟩)])∧w'=(w.alloc (.cells #[.slice A m c] 55)).alloc (.cells #[.int .i64 120] 3):=by
 have hmf:∀(fn:Fn) (first cap:Array Value) (w:World),(Instr.makeFunc fn first cap).run prog w= .ok (.func fn first cap) w:=fun _ _ _ _=>rfl
 go_enter func188,ntmps188;go_wp2;go_ret;exact⟨rfl,rfl⟩
theorem mX.chunks {w B m c A2n A A2 n2 c2} {l:Cs.gD} (hv:gT w B A m c l) (hB:B≤A2n) (ho:Rd w A2n 1 A2 n2 c2 ((List.range (Ck.oD m)).map (Ck.F9 A m))):mX w A2n A2 n2 c2 (Ck.jA l):=by
 have hn:=hv.len;refine⟨_,ho,?_,fun i s hs=>?_⟩
 ·rw[Ck.uw,fF,fF,hn]
 ·rw[Ck.uw]at hs;rw[BQ]at hs⊢;obtain⟨j,hj,rfl⟩:=Dj.1 hs;rw[←hn]at hj;rw[hj];have hij:j<Ck.oD m:=by have:=List.mem_of_getElem? hj;exact List.mem_range.1 this
  have hjm:120*j<m:=by unfold Ck.oD at hij;omega
  refine⟨_,_,_,rfl,?_⟩;have h1:=hv.drop (k:=120*j) om;have h2:=h1.take (k:=min 120 (m-120*j)) om;have hlc:=hv.1;rw[Ng om]at h2;have e:(l.drop (120*j)).take (min 120 (m-120*j))=(l.drop (120*j)).take 120:=by
   by_cases q:120≤m-120*j
   ·rw[Nat.min_eq_left q]
   ·rw[Nat.min_eq_right om,iL (by rw[lZ];omega),iL (by rw[lZ];omega)]
  rw[e]at h2;have h3:gT w B (A.map (·.add (120*j*2))) (min 120 (m-120*j)) (min 120 (m-120*j)) ((l.drop (120*j)).take 120):=⟨Nr _,by have:=h2.2.1;omega,h2.2.2.1,h2.2.2.2⟩
  exact h3.more hB
end
end Go.Proofs.YtjcpmfphnodaaaaGreatDoor
