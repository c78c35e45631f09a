/- Part 20. -/
import Derived.Test.YtjcpmfphnodaaaaGreatDoorZTAS
import Derived.Test.YtjcpmfphnodaaaaGreatDoorZTAL
namespace Go.Proofs.YtjcpmfphnodaaaaGreatDoor
set_option maxRecDepth 100000
set_option maxHeartbeats 0
open _root_.Go.Proofs.Tryz
namespace Pe
open Rc (Good)
def Asc (bnd:Nat):Int→Bool→List Int→Prop
 |_,_,[]=>True
 |a,f,y::r=>(if f=true then a≤y else a<y)∧y< (bnd:Int)∧Asc bnd y false r
theorem QF {bnd} (hb:bnd≤9223372036854775808):∀{s} {a} {f},Asc bnd a f s→Up a s
 |[],_,_,_=>trivial
 |y::r,a,f,h=>⟨by have:=h.1;cases f<;>simp at this<;>omega,by have:=h.2.1;omega,QF hb h.2.2⟩
theorem bO (x):0< (Vi.enc x).length:=Vi.bO x
theorem rP:∀(s) (a),s.length≤(gap a s).length
 |[],_=>by simp[gap]
 |y::r,a=>by
  have h1:=rP r y;have h2:=bO (y-a).toNat;rw[gap,La,Lc];omega
theorem QG (T) (e):0< (gD T e).length:=by
 have:=bO e.2.length;simp only[gD,La];omega
theorem aW (T):∀(E:List eB),E.length≤(E.flatMap (gD T)).length
 |[]=>sm
 |e::E=>by
  have h1:=aW T E;have h2:=QG T e;rw[Aq,La,Lc];omega
theorem Ky {l} {a n a'} (h:Wr.uint l a 0 Rc.mx=(n,a',0)) (hn:n≤l.length-a'):Rc.cnt l a 0=(n,a',0):=by
 unfold Rc.cnt;rw[h];simp only[ne_eq,Bw,Dx];rw[Ng om]
theorem Fa {l} {bnd}:∀(k last) (acc) (a) (s) (a'),a≤l.length→last≤bnd→sl l bnd k last acc a=(s,a',0)→
  ∃ys,s=acc++ys∧ys.length=k∧l.drop a=gap last ys++l.drop a'∧a≤a'∧a'≤l.length∧Asc bnd last acc.isEmpty ys
 |0,last,acc,a,s,a',ha,hl,h=>by
  rw[y9]at h;simp only[ay,Bi]at h;obtain⟨rfl,rfl⟩:=h;exact⟨[],sm,rfl,by simp[gap],Nr _,ha,trivial⟩
 |k+1,last,acc,a,s,a',ha,hl,h=>by
  obtain⟨X,hX⟩:∃X,Wr.uint l a 0 Rc.mx=X:=⟨_,rfl⟩
  obtain⟨x,a1,e1⟩:=X;by_cases he:e1=0
  ·subst he;cases ho:okD bnd last x acc.isEmpty with
   |false=>
    rw[WT k hX ho]at h;simp at h
   |true=>
    rw[Qz k hX ho]at h;obtain⟨c1,c2,c3,c4⟩:=Rc.aI.canon l a x a1 ha hX;unfold okD at ho;rw[BV,CU,Bool.or_eq_true,CU]at ho;obtain⟨ys,d1,d2,d3,d4,d5,d6⟩:=Fa k (last+x) (acc++[((last+x:Nat):Int)]) a1 s a' c4 om h;refine⟨((last+x:Nat):Int)::ys,by rw[d1];simp,by simp[d2],?_,om,d5,?_,om,?_⟩
    ·rw[c2,d3,gap,Af,show(((last+x:Nat):Int)-(last:Int)).toNat=x from om]
    ·rcases ho.2 with h|h
     ·rw[h,Ps0 rfl];omega
     ·split<;>omega
    ·have:(acc++[((last+x:Nat):Int)]).isEmpty=false:=by cases acc<;>rfl
     rw[this]at d6;exact d6
  ·rw[Qy k hX he]at h;simp only[ay]at h;exact absurd h.2.2 he
theorem QH {l} {bnd} (hb:bnd≤9223372036854775808):∀(ys) (last:Nat) (acc) (a) (r),Asc bnd last acc.isEmpty ys→l.drop a=gap last ys++r→a≤l.length→
  sl l bnd ys.length last acc a=(acc++ys,a+(gap last ys).length,0)∧l.drop (a+(gap last ys).length)=r∧a+(gap last ys).length≤l.length
 |[],last,acc,a,r,h,hd,ha=>by
  rw[AB,y9];simp[gap]at hd⊢;exact⟨hd,ha⟩
 |y::ys,last,acc,a,r,h,hd,ha=>by
  obtain⟨h1,h2,h3⟩:=h;rw[gap,Af]at hd;have hly:(last:Int)≤y:=by split at h1<;>omega
  obtain⟨m,rfl⟩:=Ce (show 0≤y from om);have hx:((m:Int)-(last:Int)).toNat=m-last:=om;rw[hx]at hd;obtain⟨g1,g2,g3⟩:=Rc.aI.at_ (x:=m-last) (by unfold Rc.mx;omega) hd ha;have ho:okD bnd last (m-last) acc.isEmpty=true:=by
   unfold okD;rw[BV,CU,Bool.or_eq_true,CU];refine⟨om,?_⟩;split at h1
   ·next e=>exact .inl e
   ·exact .inr om
  rw[Lc,Qz _ g1 ho,show last+(m-last)=m from om];obtain⟨i1,i2,i3⟩:=QH hb ys m (acc++[(m:Int)]) _ r (by
   have:(acc++[(m:Int)]).isEmpty=false:=by cases acc<;>rfl
   rw[this];exact h3) g2 g3
  rw[i1,gap,hx,La];rw[gM]at i2 i3;exact⟨by simp[gM],i2,i3⟩
def okS (bnd:Nat) (s:List Int):Prop:=s≠[]∧Asc bnd 0 true s
theorem MH {l} {bnd a} {s} {a'} (ha:a≤l.length) (h:fA l bnd a=(s,a',0)):
  l.drop a=Vi.enc s.length++gap 0 s++l.drop a'∧a≤a'∧a'≤l.length∧okS bnd s:=by
 unfold fA at h;obtain⟨X,hX⟩:∃X,Rc.cnt l a 0=X:=⟨_,rfl⟩
 rw[hX]at h;obtain⟨n,a1,e1⟩:=X;simp only[]at h;by_cases he:e1=0
 ·subst he;rw[Ng sm]at h;by_cases hn:n=0
  ·rw[Ps0 hn]at h;simp at h
  ·rw[Ng hn]at h;obtain⟨c0,c00⟩:=Rc.tC hX;obtain⟨c1,c2,c3,c4⟩:=Rc.aI.canon l a n a1 ha c0;obtain⟨ys,d1,d2,d3,d4,d5,d6⟩:=Fa n 0 [] a1 s a' c4 (bE _) h;have hys:s=ys:=by simpa using d1
   subst hys;refine⟨?_,om,d5,⟨fun e=>?_,d6⟩⟩
   ·rw[c2,d3,d2,Af];rfl
   ·rw[e]at d2;simp at d2;omega
 ·rw[Ps0 he]at h;simp only[ay]at h;exact absurd h.2.2 he
theorem UM {l} {bnd a} {s} {r} (hb:bnd≤9223372036854775808) (hs:okS bnd s) (hsl:s.length≤Rc.mx) (ha:a≤l.length) (hd:l.drop a=Vi.enc s.length++gap 0 s++r):
  fA l bnd a=(s,a+(Vi.enc s.length++gap 0 s).length,0)∧l.drop (a+(Vi.enc s.length++gap 0 s).length)=r∧a+(Vi.enc s.length++gap 0 s).length≤l.length:=by
 rw[Af]at hd;obtain⟨g1,g2,g3⟩:=Rc.aI.at_ (x:=s.length) hsl hd ha;obtain⟨i1,i2,i3⟩:=QH hb s 0 [] _ r hs.2 g2 g3;have hgl:=rP s 0;have hcn:=Ky g1 (by
  have:=congrArg List.length g2;rw[jX,La]at this;omega)
 have hs0:s.length≠0:=fun e=>hs.1 (vg e)
 unfold fA;rw[hcn];simp only[ne_eq,Bw,Dx,Ng hs0];rw[i1,La,←gM];exact⟨sm,i2,i3⟩
theorem xk {acc} {x} {a}:fJ acc (x,a,0)=if za acc x=true then 0 else 16:=by
 unfold fJ;simp
theorem xm {acc} {x} {s:List Int} (h:Lb.iR (acc.map (·.1))):za acc x=true↔Lb.iR ((acc++[(x,s)]).map (·.1)):=by
 rw[dY];unfold Lb.iR at h⊢;rw[BN];constructor
 ·intro ho;refine⟨h,List.pairwise_singleton _ _,fun a ha b hb=>?_⟩;have hb':b=x:=by simpa using hb
  subst hb';rcases List.eq_nil_or_concat acc with h0|⟨L,e,rfl⟩
  ·subst h0;simp at ha
  ·have hl:Lb.EU e.1 b=true:=by
    unfold za at ho;rw[Dk,List.getLast?_concat]at ho;exact ho
   rw[Dk,dY,jl]at ha;rw[Dk,dY,BN]at h;rcases ha with ha|ha
   ·exact Lb.lI (h.2.2 a ha e.1 sm) hl
   ·have:a=e.1:=by simpa using ha
    rw[this];exact hl
 ·rintro⟨_,_,h3⟩;rcases List.eq_nil_or_concat acc with h0|⟨L,e,rfl⟩
  ·subst h0;rfl
  ·unfold za;rw[Dk,List.getLast?_concat];exact h3 e.1 sm x sm
def UN (T:List ByteArray) (bnd:Nat) (e:eB):Prop:=zM T e=true∧okS bnd e.2
theorem Fb {T} (hS:Sy.gK T) (hT:T.length≤Rc.mx) {l} {bnd}:∀(k) (acc) (a) (E) (a'),a≤l.length→Lb.iR (acc.map (·.1))→el T l bnd k acc a=(E,a',0)→
  ∃ys,E=acc++ys∧ys.length=k∧l.drop a=ys.flatMap (gD T)++l.drop a'∧a≤a'∧a'≤l.length∧(∀e∈ys,UN T bnd e)∧Lb.iR (E.map (·.1))
 |0,acc,a,E,a',ha,hp,h=>by
  rw[zb]at h;simp only[ay,Bi]at h;obtain⟨rfl,rfl⟩:=h;exact⟨[],sm,rfl,sm,Nr _,ha,sm,hp⟩
 |k+1,acc,a,E,a',ha,hp,h=>by
  obtain⟨X,hX⟩:∃X,Rc.lab T l a 0=X:=⟨_,rfl⟩
  by_cases he:fJ acc X=0
  ·obtain⟨Y,hY⟩:∃Y,fA l bnd X.2.1=Y:=⟨_,rfl⟩
   by_cases he2:Y.2.2=0
   ·rw[QC k hX he hY he2]at h;obtain⟨x,a1,e1⟩:=X;obtain⟨s,a2,e2⟩:=Y;simp only[]at he2 h hY;subst he2;have he1:e1=0:=by
     unfold fJ at he;simp only[]at he;by_cases h0:e1=0
     ·exact h0
     ·rw[Ps0 h0]at he;exact absurd he h0
    subst he1;rw[xk]at he;have ho:za acc x=true:=by
     apply Cj;intro hn;rw[Ng hn]at he;exact absurd he Ah
    obtain⟨c1,c2,c3,c4⟩:=(Rc.nW hS hT).canon l a x a1 ha hX;obtain⟨d1,d2,d3,d4⟩:=MH c4 hY;obtain⟨ys,f1,f2,f3,f4,f5,f6,f7⟩:=Fb hS hT k (acc++[(x,s)]) a2 E a' d3 ((xm hp).1 ho) h;refine⟨(x,s)::ys,by rw[f1];simp,by simp[f2],?_,om,f5,fun e he=>?_,f7⟩
    ·rw[c2,d1,f3,Aq];simp[gD]
    ·rcases iM.1 he with rfl|he
     ·exact⟨by unfold zM;rw[BV];exact c1,d4⟩
     ·exact f6 e he
   ·rw[QB k hX he hY he2]at h;rw[ay]at h;rw[h.2]at he2;exact absurd rfl he2
  ·rw[QA k hX he]at h;simp only[ay]at h;exact absurd h.2.2 he
theorem QI {T} (hS:Sy.gK T) (hT:T.length≤Rc.mx) {l} {bnd} (hb:bnd≤9223372036854775808):∀(ys acc) (a) (r),Lb.iR ((acc++ys).map (·.1))→(∀e∈ys,UN T bnd e∧e.2.length≤Rc.mx)→
  l.drop a=ys.flatMap (gD T)++r→a≤l.length→el T l bnd ys.length acc a=(acc++ys,a+(ys.flatMap (gD T)).length,0)∧l.drop (a+(ys.flatMap (gD T)).length)=r∧a+(ys.flatMap (gD T)).length≤l.length
 |[],acc,a,r,hp,h,hd,ha=>by
  rw[AB,zb];simp at hd⊢;exact⟨hd,ha⟩
 |e::ys,acc,a,r,hp,h,hd,ha=>by
  obtain⟨⟨h1,h2⟩,h3⟩:=h e sm;obtain⟨x,s⟩:=e;simp only[]at h2 h3;have hsp:acc++(x,s)::ys=(acc++[(x,s)])++ys:=sm;rw[hsp]at hp⊢;have hpa:Lb.iR ((acc++[(x,s)]).map (·.1)):=by
   unfold Lb.iR at hp⊢;rw[dY,BN]at hp;exact hp.1
  have hp0:Lb.iR (acc.map (·.1)):=by
   unfold Lb.iR at hpa⊢;rw[dY,BN]at hpa;exact hpa.1
  rw[Aq,Af]at hd;unfold gD at hd;simp only[]at hd;rw[Af]at hd;obtain⟨g1,g2,g3⟩:=(Rc.nW hS hT).at_ (x:=x) (by unfold zM at h1;rw[BV]at h1;exact h1) hd ha;obtain⟨i1,i2,i3⟩:=UM hb h2 h3 g3 g2;have ho:fJ acc (x,a+(Rc.dE T x.n++Rc.dE T x.v).length,0)=0:=by rw[xk,Ps0 ((xm hp0).2 hpa)]
  rw[Lc,QC _ g1 ho i1 rfl];obtain⟨j1,j2,j3⟩:=QI hS hT hb ys (acc++[(x,s)]) _ r hp (fun e he=>h e (by simp[he])) (by
   have hfe:(fun x:eB=>Rc.dE T x.1.n++Rc.dE T x.1.v++(Vi.enc x.2.length++gap 0 x.2))=gD T:=rfl;rw[i2,hfe]) i3
  have hlen:(List.flatMap (gD T) ((x,s)::ys)).length=(Rc.dE T x.n++Rc.dE T x.v).length+(Vi.enc s.length++gap 0 s).length+(ys.flatMap (gD T)).length:=by
   rw[Aq,La];unfold gD;simp only[La]
  rw[j1,hlen];rw[←gM,←gM];exact⟨rfl,j2,j3⟩
theorem Io {l} {a} {e} (h:Wr.fin l a e=0):e=0∧l.length≤a:=by
 unfold Wr.fin at h;by_cases he:e=0
 ·subst he;simp at h;exact⟨rfl,h⟩
 ·rw[Ps0 he]at h;exact absurd h he
theorem fH {T} (hS:Sy.gK T) (hT:T.length≤Rc.mx) {n} {l} {E} (h:dec T n l=(E,0)):
  0≤n∧aH T E=l∧(∀e∈E,UN T n.toNat e)∧Lb.iR (E.map (·.1)):=by
 unfold dec at h;split at h
 ·simp at h
 ·next hn=>
  split at h
  ·next hf=>
   simp only[ay]at h;exact absurd h.2 hf
  ·next hf=>
   simp only[ne_eq,Decidable.not_not]at hf;obtain⟨h1,h2⟩:=Io hf;simp only[ay,Bi]at h;unfold jJ at h h1 h2;obtain⟨X,hX⟩:∃X,Rc.cnt l 0 0=X:=⟨_,rfl⟩
   rw[hX]at h h1 h2;obtain⟨m,a0,e0⟩:=X;simp only[]at h h1 h2;by_cases he:e0=0
   ·subst he;rw[Ng sm]at h h1 h2;obtain⟨c0,c00⟩:=Rc.tC hX;obtain⟨c1,c2,c3,c4⟩:=Rc.aI.canon l 0 m a0 (bE _) c0;obtain⟨ys,d1,d2,d3,d4,d5,d6,d7⟩:=Fb hS hT m [] a0 (el T l n.toNat m [] a0).1 (el T l n.toNat m [] a0).2.1 c4 (by simp[Lb.iR]) (Ba rfl (Ba rfl h1));rw[h]at d1 d7;have hys:E=ys:=by simpa using d1
    subst hys;refine⟨om,?_,d6,d7⟩;rw[oL h2,AZ]at d3;unfold aH;rw[d2,←d3,←c2,BO]
   ·rw[Ps0 he]at h1;exact absurd h1 he
theorem bT {T} (hS:Sy.gK T) (hT:T.length≤Rc.mx) {bnd} (hb:bnd≤9223372036854775808) {E} (hE:E.length≤Rc.mx) (hp:Lb.iR (E.map (·.1))) (h:∀e∈E,UN T bnd e∧e.2.length≤Rc.mx):dec T (bnd:Int) (aH T E)=(E,0):=by
 obtain⟨g1,g2,g3⟩:=Rc.aI.at_ (l:=aH T E) (a:=0) (x:=E.length) (r:=E.flatMap (gD T)) hE (by rw[BO];rfl) (bE _);obtain⟨i1,i2,i3⟩:=QI hS hT hb E [] _ [] hp h (by rw[g2,AZ]) g3;have hlen:(aH T E).length=0+(Vi.enc E.length).length+(E.flatMap (gD T)).length:=by unfold aH;rw[La];omega
 have hcn:=Ky g1 (by have:=aW T E;omega);have hl:jJ T (aH T E) bnd=(E,0+(Vi.enc E.length).length+(E.flatMap (gD T)).length,0):=by
  unfold jJ;rw[hcn];simp only[ne_eq,Bw,Dx];rw[i1];simp
 unfold dec;rw[Ng om,lS,hl];have hf:Wr.fin (aH T E) (0+(Vi.enc E.length).length+(E.flatMap (gD T)).length) 0=0:=by
  unfold Wr.fin;rw[←hlen];simp
 simp only[hf];simp
end Pe
section
open Go.RowKit Go.Shelf
namespace Ps
theorem zg:∀(M) (k) (p),p∈gB M k→(k:Int)≤p.2∧p.2< (k:Int)+M.length
 |[],_,p,h=>by simp[gB]at h
 |m::M,k,p,h=>by
  rw[gB,jl]at h;rcases h with h|h
  ·obtain⟨x,_,rfl⟩:=dM.1 h;simp only[Lc];omega
  ·have:=zg M (k+1) p h;simp only[Lc];omega
theorem Kz {P} {E} (h:uY P E):E.length≤P.length∧∀e∈E,e.2.length≤P.length:=by
 refine⟨?_,fun e he=>by rw[h.fA e he];exact Kv _ _⟩;have hnd:(E.map (·.1)).Nodup:=by
  have:=h.srt;unfold Lb.iR at this;refine this.imp fun hxy e=>?_
  rw[e,Lb.iA]at hxy;cases hxy
 have:=bY _ _ hnd (fun x hx=>(h.mem x).1 hx);simpa using this
end Ps
namespace Pe
theorem WW {bnd:Nat}:∀{s} {a} {f},Ls.S s→(∀y∈s,(if f=true then a≤y else a<y)∧y< (bnd:Int))→Asc bnd a f s
 |[],_,_,_,_=>trivial
 |y::r,a,f,hs,h=>by
  obtain⟨h1,h2⟩:=Bo.1 (show(y::r).Pairwise _ from hs);exact⟨(h y sm).1,(h y sm).2,WW h2 fun z hz=>⟨by rw[Ng sm];exact h1 z hz,(h z (by simp[hz])).2⟩⟩
theorem QJ:∀{s} {a},Up a s→0≤a→(gap a s).length≤s.length*10
 |[],_,_,_=>by simp[gap]
 |y::r,a,h,h0=>by
  have h1:=QJ h.2.2 (show 0≤y by have:=h.1;omega);have h2:=Vi.bC (y-a).toNat (by have:=h.1;have:=h.2.1;omega);rw[gap,La,Lc,Nat.succ_mul];omega
theorem zh {T} (hT:T.length≤1000000) (s):(Rc.dE T s).length≤10:=by
 unfold Rc.dE;cases h:Sy.idx T s with
 |none=>exact Vi.bC _ sm
 |some k=>
  obtain⟨hk,_⟩:=Sy.ib h;exact Vi.bC _ (by simp;omega)
end Pe
theorem Ps.tZ {M} {E} (hs:Ps.Sets M) (h:Ps.uY (Ps.gB M 0) E):E.length≤1000000∧∀e∈E,e.2.length≤1000000:=by
 obtain⟨h1,h2⟩:=Ps.Kz h;have h3:=Ps.rO M 0;have h4:=hs.2;exact⟨om,fun e he=>by have:=h2 e he;omega⟩
theorem Ps.KA:∀(M) (k),(∀m∈M,Lb.gK m)→∀x,Ls.S (Ps.fA x (Ps.gB M k))
 |[],_,_,_=>List.Pairwise.nil
 |m::M,k,h,x=>by
  rw[Ps.gB,Ps.lJ];have key:∀(m:List bf),Lb.gK m→Ps.fA x (m.map fun x=>(x,(k:Int)))=[]∨Ps.fA x (m.map fun x=>(x,(k:Int)))=[(k:Int)]:=by
   intro m
   induction m with
   |nil=>intro _;exact .inl rfl
   |cons z m ih=>
    intro hs;obtain⟨q1,q2⟩:=Bo.1 (show(z::m).Pairwise _ from hs);rw[AA,show((z,(k:Int))::m.map fun x=>(x,(k:Int)))=[(z,(k:Int))]++m.map (fun x=>(x,(k:Int)))from rfl,Ps.lJ];by_cases hz:z=x
    ·subst hz;rw[Ps.yY,Ps.EW]
     ·exact .inr rfl
     ·intro hm;rw[Bg]at hm;obtain⟨y,hy,e⟩:=dM.1 hm;have e:y=z:=e;have:=q1 y hy;rw[e,St.irrefl]at this;cases this
    ·rw[Ps.tQ hz,Ay];exact ih q2
  refine BN.2 ⟨?_,Ps.KA M (k+1) (fun m hm=>h m (by simp[hm])) x,fun a ha b hb=>?_⟩
  ·rcases key m (h m sm)with h1|h1<;>rw[h1]<;>simp
  ·have hb2:(x,b)∈Ps.gB M (k+1):=by
    unfold Ps.fA at hb;obtain⟨p,hp,e⟩:=dM.1 hb;obtain⟨h3,h4⟩:=DW.1 hp;have:p=(x,b):=Ba (by simpa using h4) e;rw[←this];exact h3
   have h5:=(Ps.zg M (k+1) _ hb2).1;simp only[]at h5;rcases key m (h m sm)with h1|h1
   ·rw[h1]at ha;cases ha
   ·rw[h1,iF]at ha;omega
theorem Ps.UO {M} {x} {y} (h:y∈Ps.fA x (Ps.gB M 0)):0≤y∧y< (M.length:Int):=by
 unfold Ps.fA at h;obtain⟨p,hp,e⟩:=dM.1 h;have:=Ps.zg M 0 p (DW.1 hp).1;rw[e]at this;omega
theorem Ps.Fe {M} {E} (hs:Ps.Sets M) (h:Ps.uY (Ps.gB M 0) E):∀e∈E,Pe.Asc M.length 0 true e.2:=fun e he=>by
 rw[h.fA e he];exact Pe.WW (Ps.KA M 0 (fun m hm=>(hs.1 m hm).1) e.1) fun y hy=>by
  have:=Ps.UO hy;rw[Ps0 rfl];omega
theorem Ps.KC {M} {E} (hs:Ps.Sets M) (h:Ps.uY (Ps.gB M 0) E):∀e∈E,Pe.Up 0 e.2:=fun e he=>Pe.QF (by have:=Ps.yZ M;have:=hs.2;omega) (Ps.Fe hs h e he)
namespace Ps
def strs (M:List (List bf)):List ByteArray:=M.flatMap Lb.strs
theorem oo:∀(M),(strs M).length≤2*wt M
 |[]=>by simp[strs]
 |m::M=>by
  have h1:=oo M;have h2:=Lb.aQ m;unfold strs wt at*;rw[Aq,La,AA,Bj];omega
theorem Ff {M} {m} (hm:m∈M) {x} (hx:x∈m):x.n∈strs M∧x.v∈strs M:=by
 unfold strs Lb.strs;exact⟨kM.2 ⟨m,hm,kM.2 ⟨x,hx,sm⟩⟩,kM.2 ⟨m,hm,kM.2 ⟨x,hx,sm⟩⟩⟩
theorem KE:∀(M) (k) (x),x∈(gB M k).map (·.1)→∃m∈M,x∈m
 |[],_,x,h=>by simp[gB]at h
 |m::M,k,x,h=>by
  rw[gB,dY,jl]at h;rcases h with h|h
  ·refine⟨m,sm,?_⟩;rw[Bg]at h;obtain⟨y,hy,e⟩:=dM.1 h;have e:y=x:=e;rw[←e];exact hy
  ·obtain⟨m',hm,hx⟩:=KE M (k+1) x h;exact⟨m',by simp[hm],hx⟩
theorem KF {M} {E} {T} (h:uY (gB M 0) E) (ht:Sy.eD (strs M) T):∀e∈E,Pe.zM T e=true:=fun e he=>by
 obtain⟨m,hm,hx⟩:=KE M 0 e.1 ((h.mem e.1).1 (dM.2 ⟨e,he,rfl⟩));obtain⟨h1,h2⟩:=Ff hm hx;have key:∀s,s∈strs M→(Sy.idx T s).isSome=true:=fun s hs=>by
  obtain⟨k,hk,e⟩:=lV.1 ((ht.2 s).2 hs);rw[Sy.rH ht.1 hk e];rfl
 unfold Pe.zM;rw[key _ h1,key _ h2];rfl
theorem Yp {x} {P} (h:x∈P.map (·.1)):fA x P≠[]:=fun e=>by
 obtain⟨p,hp,h1⟩:=dM.1 h;have:p.2∈fA x P:=by
  unfold fA;exact dM.2 ⟨p,DW.2 ⟨hp,by simpa using h1⟩,rfl⟩
 rw[e]at this;cases this
theorem round {M} {E} {T} (hs:Sets M) (h:uY (gB M 0) E) (ht:Sy.eD (strs M) T) (hT:T.length≤1000000):Pe.enc T E=(Pe.aH T E,0)∧Pe.dec T (M.length:Int) (Pe.aH T E)=(E,0):=by
 have hok:=KF h ht;obtain⟨h1,h2⟩:=tZ hs h;have hwl:=yZ M;have hw:=hs.2;refine⟨by rw[Pe.enc,Ps0 (Df.2 hok)],Pe.bT ht.1 (by unfold Rc.mx;omega) om (by unfold Rc.mx;omega) h.srt fun e he=>⟨⟨hok e he,?_,Fe hs h e he⟩,by have:=h2 e he;unfold Rc.mx;omega⟩⟩;rw[h.fA e he];exact Yp ((h.mem e.1).1 (dM.2 ⟨e,he,rfl⟩))
end Ps
end
theorem Lb.iq {l} (h:Lb.bN l=0):Lb.gK l∧∀x∈l,Lb.one x=0:=by
 have hz:∀j,j<l.length→Lb.dI l j=0:=by
  rcases Lb.sJ (Lb.dI l) l.length with⟨_,hz⟩|⟨k,hk,hk0,he,_⟩
  ·exact hz
  ·unfold Lb.bN at h;rw[he]at h;exact absurd h hk0
 have h1:∀j (hj:j<l.length),Lb.one l[j]=0:=fun j hj=>by
  have:=hz j hj;unfold Lb.dI at this;rw[Lb.getD_at hj]at this;simp only[]at this;by_cases q:Lb.one l[j]=0
  ·exact q
  ·rw[Ps0 q]at this;exact absurd this q
 refine⟨Lb.Hz fun j hj=>?_,fun x hx=>?_⟩
 ·have:=hz (j+1) hj;unfold Lb.dI at this;rw[Lb.getD_at hj]at this;simp only[]at this;rw[Ng (by simpa using h1 (j+1) hj),Ng om,Bn,Lb.getD_at (show j<l.length from om)]at this;by_cases q:l[j].n=l[j+1].n
  ·rw[Ps0 q]at this;cases this
  ·rw[Ng q]at this;by_cases q2:St.lt l[j+1].n l[j].n=true
   ·rw[Ps0 q2]at this;cases this
   ·cases q3:St.lt l[j].n l[j+1].n with
    |true=>rfl
    |false=>exact absurd (St.total q3 (by simpa using q2)) q
 ·obtain⟨j,hj,rfl⟩:=lV.1 hx;exact h1 j hj
theorem Lb.Fg {x} (h:Lb.one x=0):x.n.size≤65535∧x.v.size≤65535:=by
 unfold Lb.one at h;split at h
 ·cases h
 ·split at h
  ·cases h
  ·omega
namespace Bk
open Cs (gz In lens sV)
def sets (b:iP):List (List bf):=b.map (·.1)
def I8 (b:iP):List (List bf×List Nat):=b.map fun s=>(s.1,lens s.2)
def jw (b:iP):List jK:=(I8 b).map Rc.bH
def dat (b:iP):List UInt8:=b.flatMap fun s=>sV s.2
def D4 (T:List ByteArray) (E:List eB) (b:iP) (i:Nat):List UInt8:=
 if i=0 then Sy.aH T else if i=1 then Rc.aH T (jw b)else if i=2 then dat b else Pe.aH T E
def Of (b:iP) (T:List ByteArray) (E:List eB):Prop:=Sy.eD (Ps.strs (sets b)) T∧Ps.uY (Ps.gB (sets b) 0) E
theorem Of.uniq {b} {T T'} {E E'} (h:Of b T E) (h':Of b T' E'):T=T'∧E=E':=⟨h.1.uniq h'.1,h.2.uniq h'.2⟩
def ln (r:jK):List Nat:=r.2.map Int.toNat
def used (T:List ByteArray) (rs:List jK):Bool:=T.all fun s=>(rs.flatMap fun r=>Lb.strs r.1).any fun t=>decide (t=s)
open Classical in
noncomputable def vR (b:iP) (E:List eB):Int:=if Ps.uY (Ps.gB (sets b) 0) E then 0 else 22
noncomputable def MI (T:List ByteArray) (b:iP) (d3:List UInt8):iP×Int:=
 if bN b≠0 then([],bN b)else if(Pe.dec T (b.length:Int) d3).2≠0 then([],(Pe.dec T (b.length:Int) d3).2)
 else if vR b (Pe.dec T (b.length:Int) d3).1≠0 then([],vR b (Pe.dec T (b.length:Int) d3).1)else(b,0)
def kU (rs:List jK) (d2:List UInt8):List gz×Int:=if(rs.map ln).flatten.sum≠d2.length then([],23)else Cs.Gu (rs.map ln) [] d2
noncomputable def qV (T:List ByteArray) (rs:List jK) (d2 d3:List UInt8):iP×Int:=
 if used T rs=false then([],15)else if(kU rs d2).2≠0 then([],(kU rs d2).2)else MI T ((rs.map (·.1)).zip (kU rs d2).1) d3
noncomputable def MK (T:List ByteArray) (d1 d2 d3:List UInt8):iP×Int:=
 if(Rc.dec T d1).2≠0 then([],(Rc.dec T d1).2)else qV T (Rc.dec T d1).1 d2 d3
noncomputable def kC (D:Nat→List UInt8):iP×Int:=
 if(Sy.dec (D 0)).2≠0 then([],(Sy.dec (D 0)).2)else MK (Sy.dec (D 0)).1 (D 1) (D 2) (D 3)
noncomputable def dec (L:List UInt8):iP×Int:=if Ly.pe L≠0 then([],Ly.pe L)else kC (Ly.gH L)
theorem uf {s} (h:one s=0):Lb.bN s.1=0∧s.2≠[]∧yB iG 20 s.2=0:=by
 unfold one at h;by_cases h1:Lb.bN s.1=0
 ·rw[Ng (by simpa using h1)]at h;by_cases h2:s.2=[]
  ·rw[Ps0 h2]at h;cases h
  ·rw[Ng h2]at h;exact⟨h1,h2,h⟩
 ·rw[Ps0 h1]at h;exact absurd h h1
theorem kV {b} (h:bN b=0) (hw:Ps.wt (sets b)≤1000000):Ps.Sets (sets b):=by
 obtain⟨-,-,h3,-⟩:=iq h;refine⟨fun m hm=>?_,hw⟩;obtain⟨s,hs,rfl⟩:=dM.1 hm;obtain⟨g1,g2⟩:=Lb.iq (uf (h3 s hs)).1;refine⟨g1,fun x hx=>?_⟩;have:=Lb.Fg (g2 x hx);unfold maxLen;omega
theorem iC {b} (h:bN b=0):∀s∈Ps.strs (sets b),s.size≤65535:=by
 obtain⟨-,-,h3,-⟩:=iq h;intro s hs;unfold Ps.strs Lb.strs at hs;obtain⟨m,hm,h1⟩:=kM.1 hs;obtain⟨x,hx,h2⟩:=kM.1 h1;obtain⟨q,hq,rfl⟩:=dM.1 hm;obtain⟨g1,g2⟩:=Lb.iq (uf (h3 q hq)).1;have:=Lb.Fg (g2 x hx);simp only[iM,List.not_mem_nil,or_false]at h2;rcases h2 with rfl|rfl
 ·exact this.1
 ·exact this.2
theorem ug {s}:∀n∈lens s,2≤n∧n≤2200:=by
 intro n hn;unfold lens at hn;obtain⟨c,hc,rfl⟩:=dM.1 hn;refine Ck.Uh ?_;have key:∀(k:Nat) (s:gz),s.length≤k→∀c∈Ck.jm s,c.length≤120:=by
  intro k
  induction k with
  |zero=>
   intro s hs c hc;rw[vg (show s.length=0 from om),Ck.dN]at hc;cases hc
  |succ k ih=>
   intro s hs c hc;by_cases h0:s=[]
   ·rw[h0,Ck.dN]at hc;cases hc
   ·rw[Ck.jN h0]at hc;rcases iM.1 hc with rfl|hc
    ·rw[lQ];omega
    ·refine ih _ ?_ c hc;have:=oJ.2 h0;rw[jX];omega
 exact key s.length s Ai c hc
theorem rQ (s):(lens s).length≤s.length:=by
 unfold lens;rw[fu];have key:∀(k:Nat) (s:gz),s.length≤k→(Ck.jm s).length≤s.length:=by
  intro k
  induction k with
  |zero=>
   intro s hs;rw[vg (show s.length=0 from om),Ck.dN];simp
  |succ k ih=>
   intro s hs;by_cases h0:s=[]
   ·rw[h0,Ck.dN];simp
   ·rw[Ck.jN h0];have:=oJ.2 h0;have:=ih (s.drop 120) (by rw[jX];omega);rw[jX]at this;rw[Lc];omega
 exact key s.length s Ai
theorem I9 (q):ln (Rc.bH q)=q.2:=by
 unfold ln Rc.bH;rw[Bg]
 conv=>rhs;rw[←List.map_id q.2]
 refine BZ fun n _=>?_
 simp
theorem Yq (b):(jw b).map ln=b.map fun s=>lens s.2:=by
 unfold jw I8;rw[Bg,Bg];refine BZ fun s _=>?_
 exact I9 _
theorem Fh (b):(jw b).map (·.1)=sets b:=by
 unfold jw I8 sets;rw[Bg,Bg]
 rfl
theorem QK (rs:List jK):(rs.flatMap fun r=>Lb.strs r.1)=Ps.strs (rs.map (·.1)):=by
 unfold Ps.strs;rw[DR]
theorem QL (b):(sets b).zip (b.map (·.2))=b:=by
 unfold sets
 induction b with
 |nil=>rfl
 |cons s b ih=>rw[AA,AA,List.zip_cons_cons,ih]
theorem Fj (T) (rs):used T rs=true↔∀s∈T,s∈Ps.strs (rs.map (·.1)):=by
 unfold used;rw[QK,Df];constructor
 ·intro h s hs;have:=h s hs;rw[List.any_eq_true]at this;obtain⟨t,ht,e⟩:=this;have:t=s:=by simpa using e
  rw[←this];exact ht
 ·intro h s hs;rw[List.any_eq_true];exact⟨s,h s hs,sm⟩
theorem WX {b} {T} (hc:bN b=0) (hw:Ps.wt (sets b)≤1000000) (hT:Sy.eD (Ps.strs (sets b)) T):∀r∈I8 b,Rc.ZT T r:=by
 obtain⟨-,hs,h3,-⟩:=iq hc;intro r hr;obtain⟨s,hs',rfl⟩:=dM.1 hr;obtain⟨g1,g2,-⟩:=uf (h3 s hs');have hm:s.1∈sets b:=dM.2 ⟨s,hs',rfl⟩;have key:∀t,t∈Ps.strs (sets b)→(Sy.idx T t).isSome=true:=fun t ht=>by
  obtain⟨k,hk,e⟩:=lV.1 ((hT.2 t).2 ht);rw[Sy.rH hT.1 hk e];rfl
 have hl1:s.1.length≤Ps.wt (sets b):=by
  obtain⟨u,v,e⟩:=List.append_of_mem hm;rw[e];unfold Ps.wt;simp;omega
 have hl2:s.2.length≤cK b:=by
  obtain⟨u,v,e⟩:=List.append_of_mem hs';rw[e];unfold cK;simp;omega
 have hl3:=rQ s.2;refine⟨⟨⟨by show s.1.length≤_;unfold Rc.mx;omega,fun x hx=>?_⟩,by show(lens s.2).length≤_;unfold Rc.mx;omega,fun n hn=>?_⟩,fun e=>?_⟩
 ·obtain⟨a1,a2⟩:=Ps.Ff hm hx;exact⟨key _ a1,key _ a2⟩
 ·have:=ug n hn;omega
 ·exact g2 (Cs.qF e)
theorem WY {b}:b.length≤Ps.wt (sets b):=by
 have:=Ps.yZ (sets b);unfold sets at this⊢;rw[fu]at this;exact this
theorem QM:∀(ls:List (List Nat)),ls.flatten.sum=(ls.map List.sum).sum
 |[]=>rfl
 |l::ls=>by rw[Cc,CY,AA,Bj,QM ls]
theorem QN {b} {T} {E} (hc:bN b=0) (hin:∀s∈b,In s.2) (hw:Ps.wt (sets b)≤500000) (h:Of b T E):kC (D4 T E b)=(b,0):=by
 obtain⟨hT,hE⟩:=h;have hS:=kV hc om;have hTl:T.length≤1000000:=by
  have h1:=Sy.eD.len hT;have h2:=Ps.oo (sets b);omega
 have hTm:T.length≤Rc.mx:=by unfold Rc.mx;omega
 have hbl:=WY (b:=b);have e0:Sy.dec (D4 T E b 0)=(T,0):=Sy.bT hT.1 hTm (Sy.eD.size hT (iC hc));have e1:Rc.dec T (D4 T E b 1)=(jw b,0):=Rc.bT hT.1 hTm (by unfold I8;rw[fu];unfold Rc.mx;omega) (WX hc om hT);have eu:used T (jw b)=true:=(Fj _ _).2 fun s hs=>by rw[Fh];exact(hT.2 s).1 hs
 have ec:kU (jw b) (D4 T E b 2)=(b.map (·.2),0):=by
  unfold kU;rw[Yq,Ng]
  ·have h1:=Cs.Kc (b.map (·.2)) [] [] (fun s hs=>by obtain⟨q,hq,rfl⟩:=dM.1 hs;exact hin q hq);rw[AZ,Ay,Bg,DR]at h1;exact h1
  ·intro hne;apply hne;show _=(dat b).length;unfold dat;rw[List.length_flatMap,QM,Bg]
   congr 1
   refine BZ fun s _=>?_
   exact(Cs.Ke s.2).symm
 have hz:((jw b).map (·.1)).zip (b.map (·.2))=b:=by rw[Fh,QL]
 obtain⟨-,er⟩:=Ps.round hS hE hT hTl;have ep:Pe.dec T (b.length:Int) (D4 T E b 3)=(E,0):=by
  have:(sets b).length=b.length:=by unfold sets;rw[fu]
  rw[this]at er;exact er
 have ei:vR b E=0:=by unfold vR;rw[Ps0 hE]
 unfold kC MK qV MI;rw[e0];simp only[ne_eq,Bw,Dx];rw[e1];simp only[Bw,Dx];rw[eu,ec];simp only[Bw,Dx,Bool.true_eq_false];rw[hz,hc,ep];simp only[Bw,Dx];rw[ei];simp
def File (b:iP) (L:List UInt8):Prop:=∃T E,Of b T E∧L=Ly.asm (D4 T E b)
theorem File.uniq {b} {L L'} (h:File b L) (h':File b L'):L=L':=by
 obtain⟨T,E,h1,rfl⟩:=h;obtain⟨T',E',h2,rfl⟩:=h';obtain⟨rfl,rfl⟩:=h1.uniq h2
 rfl
theorem Ja {D D'} (h:∀i,i<4→D i=D' i):kC D=kC D':=by
 unfold kC;rw[h 0 om,h 1 om,h 2 om,h 3 om]
theorem ML {D D'}:∀k,k≤4→(∀i,i<4→D i=D' i)→Ly.pre D k=Ly.pre D' k:=fun k hk h=>by
 unfold Ly.pre
 congr 1
 rw[List.flatMap_def,List.flatMap_def]
 congr 1
 refine BZ fun i hi=>?_
 rw[h i (by have:=List.mem_range.1 hi;omega)]
theorem MM {D D'} (h:∀i,i<4→D i=D' i):Ly.asm D=Ly.asm D':=by
 have hp:=fun k hk=>ML (D:=D) (D':=D') k hk h
 have hc:Ly.gJ (Ly.off D) 4=Ly.gJ (Ly.off D') 4:=by
  unfold Ly.gJ;rw[List.flatMap_def,List.flatMap_def]
  congr 1
  refine BZ fun i hi=>?_
  unfold Ly.off;rw[hp i (by have:=List.mem_range.1 hi;omega)]
 unfold Ly.asm Ly.body;rw[hp 4 om,hc]
theorem mW (D) (i) (hi:i<4):(D i).length≤(Ly.asm D).length:=by
 have h1:(D i).length≤(Ly.pre D 4).length:=by
  unfold Ly.pre;rw[La];have:i∈List.range 4:=List.mem_range.2 hi;obtain⟨u,v,e⟩:=List.append_of_mem this;rw[e];have:(D i).length≤(Wr.frame (UInt8.ofNat (1+i)) (D i)).length:=by
   unfold Wr.frame aL.app Wr.str;simp only[La,Lc];omega
  simp only[oV,Aq,La];omega
 rw[Ly.rF];unfold Ly.body;rw[La];omega
theorem Yr (D):Ly.tot D 4≤4*(Ly.asm D).length:=by
 have h0:=mW D 0 om;have h1:=mW D 1 om;have h2:=mW D 2 om;have h3:=mW D 3 om;show((((0+(D 0).length)+(D 1).length)+(D 2).length)+(D 3).length)≤_;omega
theorem UQ {D} {b} (h0:(D 0).length≤Rc.mx) (h1:(D 1).length≤Rc.mx) (h:kC D=(b,0)):bN b=0∧(∀s∈b,In s.2)∧∃T E,Of b T E∧∀i,i<4→D4 T E b i=D i:=by
 unfold kC at h;by_cases a0:(Sy.dec (D 0)).2=0
 case neg=>rw[Ps0 a0]at h;exact absurd (congrArg Prod.snd h) a0
 rw[Ng (by simpa using a0)]at h;obtain⟨T,hT⟩:∃T,Sy.dec (D 0)=(T,0):=⟨_,Ba rfl a0⟩
 rw[hT]at h;obtain⟨s1,s2,s3,s4⟩:=Sy.fH hT;unfold MK at h;simp only[]at h;by_cases a1:(Rc.dec T (D 1)).2=0
 case neg=>rw[Ps0 a1]at h;exact absurd (congrArg Prod.snd h) a1
 rw[Ng (by simpa using a1)]at h;obtain⟨rs,hR⟩:∃rs,Rc.dec T (D 1)=(rs,0):=⟨_,Ba rfl a1⟩
 rw[hR]at h;obtain⟨r1,r2,r3,r4⟩:=Rc.fH s1 (Lt s3 h0) hR;have hre:Rc.err T rs=0:=by
  unfold Rc.enc at r1;by_cases q:Rc.err T rs=0
  ·exact q
  ·rw[Ng q]at r1;exact absurd (congrArg Prod.snd r1) q
 obtain⟨yL,q1,q2⟩:=Rc.IK (fun r hr=>⟨Lt (r4 r hr).1 h1,Lt (r4 r hr).2 h1⟩) hre;unfold qV at h;simp only[]at h;cases hu:used T rs with
 |false=>rw[hu,Ps0 rfl]at h;exact absurd (congrArg Prod.snd h) sm
 |true=>
  rw[hu,Ng sm]at h;by_cases a2:(kU rs (D 2)).2=0
  case neg=>rw[Ps0 a2]at h;exact absurd (congrArg Prod.snd h) a2
  rw[Ng (by simpa using a2)]at h;obtain⟨c,hc⟩:∃c,kU rs (D 2)=(c,0):=⟨_,Ba rfl a2⟩
  rw[hc]at h;unfold kU at hc;by_cases a3:(rs.map ln).flatten.sum=(D 2).length
  case neg=>rw[Ps0 a3]at hc;exact absurd (congrArg Prod.snd hc) sm
  rw[Ng (by simpa using a3)]at hc;obtain⟨c',e1,e2,e3,e4⟩:=Cs.Iq _ [] _ c a3 hc;rw[Ay]at e1;subst e1;unfold MI at h;simp only[]at h;obtain⟨B,hB⟩:∃B,B=(rs.map (·.1)).zip c:=⟨_,rfl⟩
  rw[←hB]at h;by_cases a4:bN B=0
  case neg=>rw[Ps0 a4]at h;exact absurd (congrArg Prod.snd h) a4
  rw[Ng (by simpa using a4)]at h;by_cases a5:(Pe.dec T (B.length:Int) (D 3)).2=0
  case neg=>rw[Ps0 a5]at h;exact absurd (congrArg Prod.snd h) a5
  rw[Ng (by simpa using a5)]at h;obtain⟨E,hE⟩:∃E,Pe.dec T (B.length:Int) (D 3)=(E,0):=⟨_,Ba rfl a5⟩
  rw[hE]at h;by_cases a6:vR B E=0
  case neg=>rw[Ps0 a6]at h;exact absurd (congrArg Prod.snd h) a6
  rw[Ng (by simpa using a6)]at h;simp only[ay,Bi]at h;rw[h]at hB a4 a6 hE;clear h;have hI:Ps.uY (Ps.gB (sets b) 0) E:=by
   unfold vR at a6;by_cases q:Ps.uY (Ps.gB (sets b) 0) E
   ·exact q
   ·rw[Ng q]at a6;cases a6
  obtain⟨-,p2,-,-⟩:=Pe.fH s1 (Lt s3 h0) hE;have hlen:rs.length=c.length:=by
   have:=congrArg List.length e3;rw[fu,fu]at this;exact this
  have hf:sets b=rs.map (·.1):=by
   unfold sets;rw[hB,List.map_fst_zip];rw[fu];omega
  have hs:b.map (·.2)=c:=by
   rw[hB,List.map_snd_zip];rw[fu];omega
  have hrc:jw b=rs:=by
   have k1:yL.map (·.2)=b.map fun s=>lens s.2:=by
    rw[q1,Bg]at e3;have:yL.map (·.2)=yL.map (ln∘Rc.bH):=BZ fun q _=>(I9 q).symm
    rw[this,e3,←hs,Bg];rfl
   have k2:yL.map (·.1)=b.map (·.1):=by
    have:sets b=b.map (·.1):=rfl;rw[←this,hf,q1,Bg];rfl
   have k3:I8 b=yL:=by
    have z1:∀(l:List (List bf×List Nat)),(l.map (·.1)).zip (l.map (·.2))=l:=fun l=>by
     induction l with
     |nil=>rfl
     |cons x l ih=>rw[AA,AA,List.zip_cons_cons,ih]
    have k4:(I8 b).map (·.1)=b.map (·.1):=by unfold I8;rw[Bg];rfl
    have k5:(I8 b).map (·.2)=b.map fun s=>lens s.2:=by unfold I8;rw[Bg];rfl
    rw[←z1 (I8 b),k4,k5,←k1,←k2,z1]
   unfold jw;rw[k3,←q1]
  refine⟨a4,fun s hsb=>e2 _ ?_,T,E,⟨⟨s1,fun s=>⟨fun h=>?_,fun h=>?_⟩⟩,hI⟩,fun i hi=>?_⟩
  ·rw[←hs];exact dM.2 ⟨s,hsb,rfl⟩
  ·rw[hf];exact(Fj _ _).1 hu s h
  ·rw[hf]at h;unfold Ps.strs at h;obtain⟨m,hm,h2⟩:=kM.1 h;obtain⟨r,hr,rfl⟩:=dM.1 hm;rw[q1]at hr;obtain⟨q,hq,rfl⟩:=dM.1 hr;unfold Lb.strs at h2;obtain⟨x,hx,h3⟩:=kM.1 h2;have h4:=(q2 q hq).1.1.2 x hx;have key:∀t,(Sy.idx T t).isSome=true→t∈T:=fun t ht=>by
    obtain⟨k,hk⟩:=Option.isSome_iff_exists.1 ht;obtain⟨hk1,hk2,-⟩:=Sy.ib hk;rw[←hk2];exact ic hk1
   simp only[iM,List.not_mem_nil,or_false]at h3;rcases h3 with rfl|rfl
   ·exact key _ h4.1
   ·exact key _ h4.2
  ·match i,hi with
   |0,_=>exact s2
   |1,_=>show Rc.aH T (jw b)=_;rw[hrc];exact r2
   |2,_=>
    show dat b=_;rw[e4,←hs];unfold dat;rw[DR]
   |3,_=>exact p2
theorem fG {L} {b} (hL:L.length≤1000000000) (h:dec L=(b,0)):bN b=0∧(∀s∈b,In s.2)∧File b L:=by
 unfold dec at h;by_cases a:Ly.pe L=0
 case neg=>rw[Ps0 a]at h;exact absurd (congrArg Prod.snd h) a
 rw[Ng (by simpa using a)]at h;have ho:∀i,Ly.gH L i=Ly.sec L i:=fun i=>by unfold Ly.gH;rw[Ps0 a]
 have hl:∀i,i<4→(Ly.gH L i).length≤Rc.mx:=fun i hi=>by
  have h1:=Ly.canon L a;have h2:(Ly.sec L i).length≤(Ly.asm (Ly.sec L)).length:=mW (Ly.sec L) i hi;rw[h1]at h2;rw[ho];unfold Rc.mx;omega
 obtain⟨h1,h2,T,E,h3,h4⟩:=UQ (hl 0 om) (hl 1 om) h;refine⟨h1,h2,T,E,h3,?_⟩;rw[MM (D':=Ly.sec L) fun i hi=>(h4 i hi).trans (ho i)];exact(Ly.canon L a).symm
theorem QO {b} {L} (hc:bN b=0) (hin:∀s∈b,In s.2) (hw:Ps.wt (sets b)≤500000) (hL:L.length≤100000000000) (h:File b L):dec L=(b,0):=by
 obtain⟨T,E,h1,rfl⟩:=h;have ht:Ly.tot (D4 T E b) 4≤140737488352000:=by
  have:=Yr (D4 T E b);omega
 unfold dec;rw[Ly.GV _ ht,Ng sm];have:kC (Ly.gH (Ly.asm (D4 T E b)))=kC (D4 T E b):=Ja fun i hi=>Ly.Ed _ ht i hi
 rw[this];exact QN hc hin hw h1
end Bk
section
open Go.RowKit Go.Shelf
theorem xq {α:Type} [DecidableEq α] (f:α→Nat):∀(T l:List α),T.Nodup→(∀x∈T,x∈l)→(T.map f).sum≤(l.map f).sum
 |[],_,_,_=>bE _
 |x::T,l,hn,hs=>by
  obtain⟨h1,h2⟩:=List.nodup_cons.1 hn;have hp:=((List.perm_cons_erase (hs x sm)).map f).sum_nat;have:=xq f T (l.erase x) h2 fun y hy=>(List.mem_erase_of_ne (fun e=>by subst e;exact h1 hy)).2 (hs y (by simp[hy]))
  rw[hp];simp only[AA,Bj];omega
theorem mX {α:Type} (f g:α→Nat) (l:List α) (h:∀x∈l,f x≤g x):(l.map f).sum≤(l.map g).sum:=by
 induction l with
 |nil=>simp
 |cons x l ih=>
  have:=ih fun y hy=>h y (by simp[hy])
  have:=h x sm;simp only[AA,Bj];omega
theorem aW {α β:Type} (f:α→List β) (l:List α):(l.flatMap f).length=(l.map fun x=>(f x).length).sum:=by
 induction l with
 |nil=>rfl
 |cons x l ih=>rw[Aq,La,ih];simp
theorem lL {α:Type} (k) (f) (l:List α) (h:∀x∈l,f x≤k):(l.map f).sum≤k*l.length:=by
 induction l with
 |nil=>simp
 |cons x l ih=>
  have h1:=ih fun y hy=>h y (by simp[hy])
  have h2:=h x sm;simp only[AA,Bj,Lc];rw[Nat.mul_succ];omega
theorem rP:∀(s) (a),Pe.Up a s→0≤a→(Pe.gap a s).length≤10*s.length:=fun s a h h0=>by have:=Pe.QJ h h0;omega
namespace Bk
open Cs (gz In lens sV)
structure xu (b:iP):Prop where
 fA:b.length≤300
 lab:(sets b).flatten.length≤200
 cK:cK b≤3000
 str:Sy.tot (Lb.strs (sets b).flatten)≤200000
theorem pU (M):Ps.strs M=Lb.strs M.flatten:=by
 unfold Ps.strs Lb.strs
 induction M with
 |nil=>rfl
 |cons m M ih=>rw[Aq,ih,Cc,oV]
theorem UR (M):Ps.wt M=M.length+M.flatten.length:=by
 unfold Ps.wt
 induction M with
 |nil=>rfl
 |cons m M ih=>rw[AA,Bj,ih,Lc,Cc,La];omega
theorem xu.wt {b} (h:xu b):Ps.wt (sets b)≤500:=by
 rw[UR];have h1:=h.fA;have h2:=h.lab;have:(sets b).length=b.length:=by unfold sets;simp
 omega
theorem Fp:∀(M) (k),(Ps.gB M k).length=M.flatten.length
 |[],_=>rfl
 |m::M,k=>by rw[Ps.gB,La,Fp M (k+1),fu,Cc,La]
theorem xu.tab {b} {T} (h:xu b) (hc:bN b=0) (ht:Sy.eD (Ps.strs (sets b)) T):T.length≤400∧(T.map fun s=>s.size).sum≤200000:=by
 have h1:=bY T _ ht.1.nodup (fun s hs=>(ht.2 s).1 hs);have h2:=xq (fun s:ByteArray=>s.size) T _ ht.1.nodup (fun s hs=>(ht.2 s).1 hs);have h3:=iC hc;have h4:=h.str;have h5:=h.lab;rw[pU]at h1 h2 h3;have h6:=Lb.aQ (sets b).flatten;refine⟨om,Lt h2 (Lt (mX _ (fun s:ByteArray=>1+min s.size 200000) _ fun s hs=>?_) h4)⟩;have:=h3 s hs;omega
theorem QP (s) (h:s.size≤65535):(Sy.lW s).length≤s.size+10:=by
 unfold Sy.lW;have h2:s.data.toList.length=s.size:=sm;have:=Wr.rC s.data.toList om;omega
theorem QQ {T} (h1:T.length≤400) (h2:(T.map fun s=>s.size).sum≤200000) (h3:∀s∈T,s.size≤65535):(Sy.aH T).length≤300000:=by
 unfold Sy.aH;rw[La,aW];have a:=Vi.bC T.length om;have b:=mX (fun s=>(Sy.lW s).length) (fun s=>s.size+10) T fun s hs=>QP s (h3 s hs)
 have c:(T.map fun s=>s.size+10).sum=(T.map fun s=>s.size).sum+10*T.length:=by
  clear h1 h2 h3 a b
  induction T with
  |nil=>rfl
  |cons s T ih=>simp only[AA,Bj,Lc,ih];omega
 omega
theorem QR {T} {r} (hT:T.length≤1000000) (h1:r.1.length≤1000000) (h2:r.2.length≤1000000) (h3:∀n∈r.2,n≤1000000):(Rc.iw T r).length≤20+20*r.1.length+10*r.2.length:=by
 unfold Rc.iw;simp only[La,aW];have a:=Vi.bC r.1.length om;have b:=Vi.bC r.2.length om;have c:=lL 10 (fun s=>(Rc.dE T s).length) (Lb.strs r.1) fun s _=>Pe.zh hT s
 have d:=lL 10 (fun n=>(Rc.WH n).length) r.2 fun n hn=>Vi.bC _ (by have:=h3 n hn;omega)
 have e:=Lb.aQ r.1;omega
theorem KH {T} {b} (hT:T.length≤1000000) (h:xu b):(Rc.aH T (jw b)).length≤100000:=by
 unfold Rc.aH;rw[La,aW];have hl:(jw b).length=b.length:=by unfold jw I8;simp
 have a:=Vi.bC (jw b).length (by have:=h.fA;omega);have key:∀(b:iP),(sets b).flatten.length≤1000000→cK b≤1000000→((jw b).map fun x=>(Rc.iw T x).length).sum≤20*b.length+20*(sets b).flatten.length+10*cK b:=by
  intro b
  induction b with
  |nil=>intro _ _;simp[jw,I8]
  |cons s b ih=>
   intro h1 h2;have e1:(sets (s::b)).flatten.length=s.1.length+(sets b).flatten.length:=by simp[sets]
   have e2:Bk.cK (s::b)=s.2.length+Bk.cK b:=by simp[Bk.cK]
   have e3:jw (s::b)=Rc.bH (s.1,lens s.2)::jw b:=rfl;have i1:=ih om om;have i2:(Rc.iw T (Rc.bH (s.1,lens s.2))).length≤20+20*s.1.length+10*(lens s.2).length:=by
    have:=QR (T:=T) (r:=Rc.bH (s.1,lens s.2)) hT (by show s.1.length≤_;omega) (by
     show((lens s.2).map Int.ofNat).length≤_;rw[fu];have:=rQ s.2;omega) (by
     intro n hn;obtain⟨m,hm,rfl⟩:=dM.1 (show n∈(lens s.2).map Int.ofNat from hn);have:=(ug m hm).2;show(m:Int)≤_;omega)
    have e4:(Rc.bH (s.1,lens s.2)).2.length=(lens s.2).length:=by show((lens s.2).map Int.ofNat).length=_;rw[fu]
    rw[e4]at this;exact this
   have i3:=rQ s.2;rw[e1,e2,e3,AA,Bj,Lc];omega
 have k:=key b (by have:=h.lab;omega) (by have:=h.cK;omega);have:=h.fA;have:=h.lab;have:=h.cK;omega
theorem KJ {b} (h:xu b):(dat b).length≤6600000:=by
 unfold dat;rw[aW];have key:∀s:gz,(sV s).length≤2200*s.length:=fun s=>by
  unfold sV;rw[aW];have h1:((Ck.jm s).map fun c=>(Ck.enc c).length)=lens s:=rfl;rw[h1];have h2:=lL 2200 id (lens s) fun n hn=>(ug n hn).2
  rw[List.map_id]at h2;have h3:=rQ s;have h4:=Nat.mul_le_mul_left 2200 h3;omega
 have h1:=mX (fun s:Mj=>(sV s.2).length) (fun s=>2200*s.2.length) b fun s _=>key s.2
 have h2:(b.map fun s=>2200*s.2.length).sum=2200*cK b:=by
  clear h h1;unfold cK
  induction b with
  |nil=>rfl
  |cons s b ih=>simp only[AA,Bj,ih];omega
 have:=h.cK;omega
theorem QS {T} {E} {b} (hT:T.length≤1000000) (h:xu b) (hs:Ps.Sets (sets b)) (hi:Ps.uY (Ps.gB (sets b) 0) E):(Pe.aH T E).length≤500000:=by
 obtain⟨h1,h2⟩:=Ps.Kz hi;rw[Fp]at h1 h2;have hl:=h.lab;unfold Pe.aH;rw[La,aW];have a:=Vi.bC E.length om;have hu:=Ps.KC hs hi;have b:=lL 2030 (fun e=>(Pe.gD T e).length) E fun e he=>by
  unfold Pe.gD;simp only[La];have c1:=Pe.zh hT e.1.n;have c2:=Pe.zh hT e.1.v;have c3:=Vi.bC e.2.length (by have:=h2 e he;omega);have c4:=rP e.2 0 (hu e he) (Int.le_refl _);have:=h2 e he;omega
 omega
theorem xu.sec {b} {T} {E} (h:xu b) (hc:bN b=0) (ho:Of b T E):∀i,i<4→(D4 T E b i).length≤if i=2 then 10000000 else 1000000:=by
 obtain⟨t1,t2⟩:=h.tab hc ho.1;have hw:=h.wt;have hsm:=iC hc;intro i hi
 match i,hi with
 |0,_=>
  show(Sy.aH T).length≤1000000;have:=QQ t1 t2 (fun s hs=>hsm s ((ho.1.2 s).1 hs));omega
 |1,_=>
  show(Rc.aH T (jw b)).length≤1000000;have:=KH (T:=T) om h;omega
 |2,_=>
  show(dat b).length≤10000000;have:=KJ h;omega
 |3,_=>
  show(Pe.aH T E).length≤1000000;have:=QS (T:=T) om h (kV hc om) ho.2;omega
end Bk
end
section
open Go.RowKit Go.Shelf
theorem zi (A) (n c) (l) (w) (hv:fD w w.heap.size A n c l) (hf:Lb.Fit l):
  Calls prog 58 #[.slice A n c] w fun e w'=>∃v:Int,e= .returned (.int .i64 v)∧(v=0→n≤200∧Sy.tot (Lb.strs l)≤200000)∧Below w.heap.size w w':=by
 have hlc:=hv.1;have hcm:=hv.2.1;unfold maxLen at hcm;have V:=Aj hv;have F:=Aj hf;clear hv hf;by_cases h:200<n
 ·have h':(200:Int)< (n:Int):=by omega
  go_enter func58,ntmps58;go_wp2;go_ret;exact⟨1,rfl,(fun h=>by cases h),Ae _ _⟩
 ·have h':¬(200:Int)< (n:Int):=by omega
  go_enter func58,ntmps58;go_wp2_with (first
   |(go_at_call 105;refine(sM A n c l w V.1 om).mono ?_;rintro e w1 ⟨A1,n1,c1,rfl,ho,hb⟩;have O:=Aj ho;have B1:=Aj hb;clear ho hb)
   |(go_at_call 104;refine(Ej A1 n1 c1 _ _ w1 O.1.rd Ai (Lb.Pq F.1)).mono ?_;rintro e w2 ⟨v,rfl,hv1,hv2,hg⟩;have G:=Aj hg;have HV:=Aj hv2;clear hg hv1 hv2))
  go_ret;exact⟨v,rfl,fun h0=>⟨om,(HV.1 h0).2⟩,B1.1.trans (G.1.below.mono B1.1.size)⟩
namespace Bk
theorem MN (b:iP) {k} (h:k<b.length):(sets (b.take (k+1))).flatten=(sets (b.take k)).flatten++b[k].1:=by
 unfold sets;rw[Ts h,dY,List.flatten_append];simp
end Bk
theorem Fq (A) (n c B) (b) (w) (hv:iE w B A n c b) (hB:B≤w.heap.size) (hf:∀s∈b,Lb.Fit s.1):
  Calls prog 28 #[.slice A n c] w fun e w'=>∃v:Int,e= .returned (.int .i64 v)∧(v=0→Bk.xu b)∧Below w.heap.size w w':=by
 obtain⟨hlc,hcm⟩:=hv.cap;unfold maxLen at hcm;have hn:=Aj hv.len;have V:=Aj hv;have F:=Aj hf;clear hv hf;go_enter func28,ntmps28;go_wp2;go_loopw [3,4,9] (fun s o i wr=>∃k m:Nat,k≤n∧i= .int .i64 k∧s= .int .i64 m∧m≤3000∧k≤3000∧Kept (m=k+Bk.cK (b.take k))∧Kept (0<k→n≤300)∧∃A2 n2 c2,o= .slice A2 n2 c2∧n2≤200*k∧Kept (bV wr w.heap.size A2 n2 c2 (Bk.sets (b.take k)).flatten)∧Below w.heap.size w wr) (fun _ _ i _=>n-(intOf i).toNat)
 case atStart=>exact⟨0,0,om,rfl,rfl,om,om,⟨rfl⟩,⟨fun h=>absurd h om⟩,none,0,0,rfl,om,⟨bV.nil _ _⟩,Ae _ _⟩
 case round=>
  obtain⟨k,m,hk,rfl,rfl,IJ,hk3,hm,mo,A2,n2,c2,rfl,hn2,ho,hbw⟩:=hrel;have BW:=Aj hbw;have oH:=Aj hbw.size;by_cases hlt:k<n
  ·have hkl:k<b.length:=by rw[←hn.1];exact hlt
   obtain⟨b0,off,A1,n1,c1,A3,n3,c3,rfl,h1,h2,hc⟩:=V.1.cells hB hkl;obtain⟨r0,r1⟩:=hc wr hbw;have ag0:(n1:Int)≤9223372036854775807:=by have a:=h1.1;have d:=h1.2.1;unfold maxLen at d;omega
   have ag1:(n3:Int)≤9223372036854775807:=by have a:=h2.1;have d:=h2.2.1;unfold maxLen at d;omega
   have h5:=Aj h2.len;have H1:=Aj h1;have hsm:=Aj (Bk.sZ b k hkl);have hft:=Aj (Bk.MN b hkl);clear hbw h1 h2 hc;by_cases hb3:3000<n3
   ·have abj:(3000:Int)< (n3:Int):=by omega
    go_wp2;go_ret;exact⟨1,rfl,(fun h=>by cases h),BW.1.alloc oH.1 _⟩
   ·have abj:¬(3000:Int)< (n3:Int):=by omega
    by_cases hb4:3000<m+(1+n3)
    ·go_wp2;go_ret;exact⟨1,rfl,(fun h=>by cases h),BW.1.alloc oH.1 _⟩
    ·by_cases hb5:300<n
     ·have aev:(300:Int)< (n:Int):=by omega
      go_wp2;go_ret;exact⟨1,rfl,(fun h=>by cases h),BW.1.alloc oH.1 _⟩
     ·have aev:¬(300:Int)< (n:Int):=by omega
      by_cases hb6:200<n1
      ·have aew:(200:Int)< (n1:Int):=by omega
       go_wp2;go_ret;exact⟨1,rfl,(fun h=>by cases h),BW.1.alloc oH.1 _⟩
      ·have aew:¬(200:Int)< (n1:Int):=by omega
       have WZ:Kept (n≤300):=⟨om⟩
       have hmm:Kept (m+(1+n3)=(k+1)+Bk.cK (b.take (k+1))):=⟨by have:=hm.1;have:=hsm.1;have:=h5.1;omega⟩
       go_wp2_with (at_builtin;refine qB rfl (.tmp 33) (.tmp 35) rfl w.heap.size A2 n2 c2 _ rfl (Oa ho.1 _) B _ _ _ b[k].1 rfl (Rd.below H1.1 ((BW.1.alloc oH.1 _).mono hB)) om (by have:=oH.1;simp;omega) ?_;intro A5 c5 w5 hown hgrow hat;have O5:=Aj hown;have B5:=Aj ((BW.1.alloc oH.1 _).grown hgrow (by have:=oH.1;simp;omega) (fun r e=>(ae ho.1 r e).1));clear hown hgrow hat);go_roundw
       case rel=>exact⟨k+1,m+(1+n3),om,by go_num,by go_num,om,by have:=WZ.1;omega,hmm,⟨fun _=>WZ.1⟩,A5,n2+n1,c5,rfl,om,⟨by rw[hft.1];exact O5.1⟩,B5.1⟩
       case measure=>simp[intOf];omega
  ·obtain rfl:k=n:=by omega
   have hall:b.take k=b:=jY (by rw[←hn.1];exact Nr _);rw[hall]at ho hm;have LG:=Aj (zi A2 n2 c2 _ wr ho.1.rd (fun x hx=>by
    obtain⟨m,hm1,hm2⟩:=List.mem_flatten.1 hx;unfold Bk.sets at hm1;obtain⟨s,hs,rfl⟩:=dM.1 hm1;exact F.1 s hs x hm2))
   have hl2:=Aj ho.1.len;clear hbw ho hall;go_wp2_with (go_at_call 58;refine LG.1.mono ?_;rintro e w6 ⟨v,rfl,hv,hb6⟩;have HV:=Aj hv;have B6:=Aj hb6;clear hv hb6 LG);go_ret;refine⟨v,rfl,fun h0=>?_,BW.1.trans (B6.1.mono oH.1)⟩;obtain⟨q1,q2⟩:=HV.1 h0;refine⟨?_,by rw[←hl2.1];exact q1,by have:=hm.1;omega,q2⟩;have:=hn.1;rcases nz k with h|h
   ·omega
   ·have:=mo.1 h;omega
end
section
open Go.RowKit Go.Shelf
namespace En
open Cs (gz In lens sV)
def all:Nat→Bk.iP→List (Nat×List UInt8)
 |_,[]=>[]
 |i,s::b=>(Ck.jm s.2).map (fun c=>(i,Ck.enc c))++all (i+1) b
theorem zk:∀(a b) (i),all i (a++b)=all i a++all (i+a.length) b
 |[],b,i=>by simp[all]
 |s::a,b,i=>by
  rw[AU,all,all,zk a b (i+1),Af,Lc,show i+1+a.length=i+(a.length+1)from om]
theorem Fs (b:Bk.iP) {k} (h:k<b.length):all 0 (b.take (k+1))=all 0 (b.take k)++(Ck.jm b[k].2).map (fun c=>(k,Ck.enc c)):=by
 rw[Ts h,zk,lQ,Nat.min_eq_left (Nat.le_of_lt h),cB];simp[all]
theorem UT (b) (k):all 0 (b.take k)<+:all 0 b:=by
 have:=zk (b.take k) (b.drop k) 0;rw[jC]at this;exact⟨_,this.symm⟩
def dat (pre:List (Nat×List UInt8)):List UInt8:=pre.flatMap (·.2)
def cnt (pre:List (Nat×List UInt8)) (i:Nat):List Int:=(pre.filter fun x=>decide (x.1=i)).map fun x=>((x.2.length:Nat):Int)
theorem rR (a b):dat (a++b)=dat a++dat b:=by simp[dat]
theorem oq (a b) (i):cnt (a++b) i=cnt a i++cnt b i:=by simp[cnt]
theorem UU (i) (L):dat [(i,L)]=L:=by simp[dat]
theorem UW (i) (L):cnt [(i,L)] i=[((L.length:Nat):Int)]:=by simp[cnt]
theorem QT {i j} (h:i≠j) (L):cnt [(i,L)] j=[]:=by simp[cnt,h]
theorem zl:∀(b) (i),dat (all i b)=Bk.dat b
 |[],_=>rfl
 |s::b,i=>by
  rw[all,rR,zl b (i+1)];show _=sV s.2++Bk.dat b
  congr 1
  unfold dat sV;rw[DR]
theorem UX (l:List gz) (f:gz→List UInt8) (i):cnt (l.map fun c=>(i,f c)) i=l.map fun c=>(((f c).length:Nat):Int):=by
 unfold cnt;rw[List.filter_eq_self.2 (fun x hx=>by obtain⟨c,_,rfl⟩:=dM.1 hx;simp),Bg]
 rfl
theorem uh (l:List gz) (f:gz→List UInt8) {i j} (h:i≠j):cnt (l.map fun c=>(i,f c)) j=[]:=by
 unfold cnt;rw[List.filter_eq_nil_iff.2 (fun x hx=>by obtain⟨c,_,rfl⟩:=dM.1 hx;simpa using h)]
 rfl
theorem KL:∀(b) (i j),j<i→cnt (all i b) j=[]
 |[],_,_,_=>rfl
 |s::b,i,j,h=>by
  rw[all,oq,uh _ _ om,KL b (i+1) j om,Ay]
theorem rT:∀(b) (i j) (h:j<b.length),cnt (all i b) (i+j)=(lens b[j].2).map Int.ofNat
 |s::b,i,0,_=>by
  rw[all,oq,Da,UX,KL b (i+1) i om,AZ];unfold lens;rw[Bg]
  rfl
 |s::b,i,j+1,h=>by
  rw[all,oq,uh _ _ om,Ay,show i+(j+1)=i+1+j from om,rT b (i+1) j (by simpa using h)]
  rfl
end En
end
end Go.Proofs.YtjcpmfphnodaaaaGreatDoor
