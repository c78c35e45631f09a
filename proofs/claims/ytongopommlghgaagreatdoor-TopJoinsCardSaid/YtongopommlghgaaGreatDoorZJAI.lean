/- Part 9. -/
import Derived.Test.YtongopommlghgaaGreatDoorZJAH
import Derived.Lib.RowBridge
namespace Go.Proofs.YtongopommlghgaaGreatDoor
set_option maxRecDepth 100000
set_option maxHeartbeats 0
open _root_.Go.Proofs.Tryz
section
section
open Go.RowKit Go.Shelf Go.Sort
namespace Sy
def pX (l:List UInt8):ByteArray:=⟨l.toArray⟩
theorem jR (l):(pX l).toList=l:=by rw[St.tl];simp[pX]
theorem uf (s):pX s.data.toList=s:=by unfold pX;rfl
theorem VO {a b} (h:pX a=pX b):a=b:=by rw[←jR a,h,jR]
def bl (l:List ByteArray):List (List UInt8):=l.map fun s=>s.data.toList
theorem le_iff (x y):decide (x≤y)=true↔St.lt (pX y) (pX x)=false:=by
 rw[Em,Dh,Ne,St.lt_iff,jR,jR];exact List.not_lt.symm
theorem qJ {S:List (List UInt8)} (hS:S.Pairwise fun x y=>St.lt (pX y) (pX x)=false):∀m,m≤S.length→
  (Lib.compactUpTo S.toArray m).Pairwise (fun x y=>St.lt (pX x) (pX y)=true)∧∀x,x∈Lib.compactUpTo S.toArray m↔∃i,∃h:i<S.length,i<m∧S[i]=x
 |0,_=>⟨by simp[Lib.compactUpTo],fun x=>by simp[Lib.compactUpTo]⟩
 |m+1,hm=>by
  obtain⟨h1,h2⟩:=qJ hS m om;have vz:m<S.length:=om;have hg:S.toArray[m]! =S[m]:=by simp[vz]
  rw[Lib.compactUpTo_succ];have hle:∀i j (hi:i<S.length) (hj:j<S.length),i<j→St.lt (pX S[j]) (pX S[i])=false:=fun i j hi hj hij=>(AF.1 hS) i j hi hj hij
  by_cases hk:Lib.keeps S.toArray m=true
  ·rw[Ps0 hk,hg];refine⟨?_,fun x=>?_⟩
   ·rw[BZ];refine⟨h1,List.pairwise_singleton _ _,fun x hx y hy=>?_⟩;obtain⟨i,hi,him,rfl⟩:=(h2 x).1 hx;rw[iP.1 hy];have hd:m=0∨S.toArray[m]!≠S.toArray[m-1]!:=by simpa[Lib.keeps]using hk
    rcases hd with h0|hd
    ·omega
    ·have hg1:S.toArray[m-1]! =S[m-1]:=by simp[show m-1<S.length from om]
     rw[hg,hg1]at hd;apply Dl;intro hn;have hn':St.lt (pX S[i]) (pX S[m])=false:=by simpa using hn
     have he:=St.total hn' (hle i m hi vz him);apply hd;apply VO;rcases Cy i (m-1)with h3|h3
     ·have a1:=hle i (m-1) hi om h3;have a2:=hle (m-1) m om vz om;rw[←he]at a2⊢;exact St.total a2 a1
     ·obtain rfl:i=m-1:=by omega
      exact he.symm
   ·rw[gY,h2,iP];constructor
    ·rintro(⟨i,hi,him,rfl⟩|rfl)
     ·exact⟨i,hi,om,rfl⟩
     ·exact⟨m,vz,om,rfl⟩
    ·rintro⟨i,hi,him,rfl⟩;by_cases e:i=m
     ·subst e;exact .inr rfl
     ·exact .inl ⟨i,hi,om,rfl⟩
  ·rw[Ng hk,Bh];have hd:¬(m=0∨S.toArray[m]!≠S.toArray[m-1]!):=by simpa[Lib.keeps]using hk
   have hm0:m≠0:=fun h=>hd (.inl h)
   have he:S[m]=S[m-1]:=by
    have hg1:S.toArray[m-1]! =S[m-1]:=by simp[show m-1<S.length from om]
    rw[←hg,←hg1];exact Dl fun h=>hd (.inr h)
   refine⟨h1,fun x=>?_⟩;rw[h2];constructor
   ·rintro⟨i,hi,him,rfl⟩;exact⟨i,hi,om,rfl⟩
   ·rintro⟨i,hi,him,rfl⟩;by_cases e:i=m
    ·subst e;exact⟨i-1,om,om,he.symm⟩
    ·exact⟨i,hi,om,rfl⟩
def qZ (l:List ByteArray):List (List UInt8):=Lib.compact ((bl l).mergeSort fun x y=>decide (x≤y))
theorem Rb (l):gH l ((qZ l).map pX):=by
 obtain⟨S,hS⟩:∃S,S=(bl l).mergeSort fun x y=>decide (x≤y):=⟨_,rfl⟩
 have hsort:S.Pairwise fun x y=>St.lt (pX y) (pX x)=false:=by
  have:=List.pairwise_mergeSort (le:=fun x y:List UInt8=>decide (x≤y)) (fun a b c h1 h2=>by
   rw[le_iff]at h1 h2⊢;exact St.ntrans h2 h1) (fun a b=>by
   simp only[Bool.or_eq_true,le_iff];cases h:St.lt (pX b) (pX a)with
   |false=>exact .inl rfl
   |true=>exact .inr (St.asymm h)) (bl l)
  rw[←hS]at this;exact this.imp fun{a b} h=>(le_iff a b).1 h
 have hmem:∀x,x∈S↔x∈bl l:=fun x=>by rw[hS];exact List.mem_mergeSort
 obtain⟨h1,h2⟩:=qJ hsort S.length Aj;have e:qZ l=Lib.compactUpTo S.toArray S.length:=by unfold qZ;rw[←hS];rfl
 rw[e];refine⟨?_,fun s=>?_⟩
 ·unfold aN;rw[Ea];exact h1
 ·rw[dV];constructor
  ·rintro⟨x,hx,rfl⟩;obtain⟨i,hi,-,rfl⟩:=(h2 x).1 hx;have:=(hmem _).1 (dR hi);obtain⟨t,ht,e⟩:=dV.1 this;rw[←e,uf];exact ht
  ·intro hs;have:s.data.toList∈S:=(hmem _).2 (dV.2 ⟨s,hs,rfl⟩);obtain⟨i,hi,e⟩:=iC.1 this;exact⟨_,(h2 _).2 ⟨i,hi,hi,e⟩,uf s⟩
theorem yY (l):(bl l).length=l.length:=by simp[bl]
end Sy
theorem JC {w base g n c l} (h:aR w base (some ⟨g,0,none⟩) n c l):Holds encStr w g 0 (Sy.bl l).toArray:=by
 intro j hj;have hn:=h.len;have hj':j<l.length:=by simpa[Sy.bl]using hj
 rw[bO];refine⟨?_,AX h j⟩;rw[Bq h j om];simp[oL,sv,Sy.bl,hj',encStr]
theorem oh {α} [Inhabited α] {enc:α→Value} {w base g m d} (hg:base≤g):Below base w (putRow enc (Sort.ahead w m) g 0 d):=by
 refine⟨rfl,rfl,rfl,?_,fun k hk=>?_⟩
 ·unfold putRow mapBlock;simp[Sort.ahead]
 ·unfold putRow mapBlock;simp[Sort.ahead,DU,show g≠k from om]
theorem ug {w} (os):Below w.heap.size w (grow w os):=by
 refine⟨rfl,rfl,rfl,?_,fun k hk=>Sort.heap_grow_old _ os hk⟩;rw[Sort.size_grow];omega
theorem qK {α} [Inhabited α] {enc:α→Value} {w g m d}:(putRow enc (Sort.ahead w m) g 0 d).heap.size=w.heap.size:=by
 unfold putRow mapBlock;simp[Sort.ahead]
theorem oo {w g m d} (h:Holds encStr w g 0 d):Holds encStr (Sort.ahead w m) g 0 d:=holds_ahead encStr w m g 0 d h
theorem holds_grow {w g d} (h:Holds encStr w g 0 d) (os) (hg:g<w.heap.size):Holds encStr (grow w os) g 0 d:=by
 intro j hj;have hb:=(ug (w:=w) os)
 exact⟨(hb.cell (p:=⟨g,0+j,none⟩) hg).trans (h j hj).1,(hb.frozen (p:=⟨g,0+j,none⟩) hg).trans (h j hj).2⟩
theorem NR {w g B n c d k} (hB:g<B) (hc:k≤c) (hm:c≤maxLen) (hk:k≤d.size) (hn:n=k) (h:Holds encStr w g 0 d):bM w B (some ⟨g,0,none⟩) n c ((d.toList.take k).map Sy.pX):=by
 subst hn;refine⟨hc,hm,by simp[oL];omega,fun _=>⟨g,0,rfl,hB,fun i u hu=>?_⟩⟩;have hi:i<n:=by
  have:=(l5.1 hu).1;simp[oL]at this;omega
 have h1:=(h i om).1;rw[h1,←hu];simp[oL,sv,Sy.pX,encStr,hi,show i<d.size from om]
theorem FW (A n c w):Calls prog 196 #[.slice A n c] w fun e w'=>
  e= .returned (.func (.func 245) #[] #[.pointer (some ⟨w.heap.size,0,none⟩)])∧w'=w.alloc (.cells #[.slice A n c] 134):=by
 go_enter func196,ntmps196;go_wp2;go_ret;exact⟨rfl,rfl⟩
theorem yZ (bx A m c l w) (hw:Boxed w bx 134 (.slice A m c)) (hv:bM w w.heap.size A m c l) (hm:m≤1000000):
  Calls prog 243 #[.func (.func 245) #[] #[.pointer (some ⟨bx,0,none⟩)]] w fun e w'=>∃A2 n2 c2,e= .returned (.slice A2 n2 c2)∧aR w' w.heap.size A2 n2 c2 l∧Below w.heap.size w w':=by
 have AP:=Al (vU bx A m c l w hw hv hm);clear hw hv;go_enter func243,ntmps243;go_wp2_with (go_at_call 271;refine AP.1.mono ?_;rintro e w1 ⟨A2,n2,c2,rfl,ho,hb⟩;have O:=Al ho;have B:=Al hb;clear ho hb);go_ret;exact⟨A2,n2,c2,rfl,O.1,B.1⟩
def pY (w0 w:World) (A:Option Addr) (n c:Nat) (S:List (List UInt8)):Prop:=
 n=S.length∧c≤maxLen∧(n=0∨∃g,A=some ⟨g,0,none⟩∧w0.heap.size≤g∧g<w.heap.size∧n≤c∧c≤maxLen∧Holds encStr w g 0 S.toArray)
theorem FX (bx A m c l w) (hw:Boxed w bx 134 (.slice A m c)) (hv:bM w w.heap.size A m c l) (hm:m≤1000000):
  Calls prog 195 #[.func (.func 245) #[] #[.pointer (some ⟨bx,0,none⟩)]] w fun e w'=>∃A2 n2 c2,e= .returned (.slice A2 n2 c2)∧pY w w' A2 n2 c2 ((Sy.bl l).mergeSort fun x y=>decide (x≤y))∧Below w.heap.size w w':=by
 have vz:=hv.len;have CO:=Al (yZ bx A m c l w hw hv hm);have SO:Kept (∀(w1:World) A2 n2 c2,aR w1 w.heap.size A2 n2 c2 l→Below w.heap.size w w1→Calls prog 244 #[.slice A2 n2 c2] w1 fun e w'=>e= .returned (.tuple #[])∧pY w w' A2 n2 c2 ((Sy.bl l).mergeSort fun x y=>decide (x≤y))∧Below w.heap.size w w'):=⟨by
  intro w1 A2 n2 c2 ho hb;have hn:=ho.len;have hrd:=ho.rd;rcases lY n2 with h0|h0
  ·subst h0;obtain rfl:l=[]:=qU hn.symm;exact(Any.slices_Sort_string_none Tryz.sortS A2 c2 w1).mono fun e w' ⟨h1,h2⟩=>⟨h1,⟨by simp[Sy.bl],hrd.2.1,.inl rfl⟩,by rw[h2];exact hb⟩
  ·obtain⟨g,rfl,hg1,hg2⟩:=gG ho h0;have hH:=JC ho;have ig:=Any.slices_Sort_string Tryz.sortS g 0 c2 (Sy.bl l) w1 hH hg2 (by rw[Sy.yY];omega)
   change Calls prog 244 _ _ _ at ig
   rw[Sy.yY,←hn]at ig;refine ig.mono ?_;rintro e w' ⟨h1,q,os,h2⟩;have hsz:((Sy.bl l).mergeSort fun x y=>decide (x≤y)).length=l.length:=by rw[List.length_mergeSort,Sy.yY]
   have hz:(putRow encStr (Sort.ahead w1 q) g 0 ((Sy.bl l).mergeSort fun x y=>decide (x≤y)).toArray).heap.size=w1.heap.size:=qK;have hbb:=(hb.trans (oh (enc:=encStr) (w:=w1) (m:=q) (d:=((Sy.bl l).mergeSort fun x y=>decide (x≤y)).toArray) hg1))
   refine⟨h1,⟨by rw[hsz];exact hn,hrd.2.1,.inr ⟨g,rfl,hg1,?_,hrd.1,hrd.2.1,?_⟩⟩,?_⟩
   ·rw[h2,Sort.size_grow,hz];omega
   ·rw[h2];exact holds_grow (holds_putRow encStr (Sort.ahead w1 q) g 0 (Sy.bl l).toArray _ (oo hH) Ah) os (by rw[hz];exact hg2)
   ·rw[h2];exact hbb.trans ((ug os).mono hbb.size)⟩
 clear hw hv;go_enter func195,ntmps195;go_wp2_with (first
  |(go_at_call 243;refine CO.1.mono ?_;rintro e w1 ⟨A2,n2,c2,rfl,ho,hb⟩;have O:=Al ho;have B:=Al hb;clear ho hb)
  |(go_at_call 244;refine(SO.1 w1 A2 n2 c2 O.1 B.1).mono ?_;rintro e w2 ⟨rfl,hr,hb⟩;have R:=Al hr;have B2:=Al hb;clear hr hb))
 go_ret;exact⟨A2,n2,c2,rfl,R.1,B2.1⟩
theorem mZ (A n c l w) (hv:bM w w.heap.size A n c l) (hn:n≤1000000):
  Calls prog 141 #[.slice A n c] w fun r w'=>∃A2 n2 c2 out,r= .returned (.slice A2 n2 c2)∧Sy.gH l out∧bM w' w'.heap.size A2 n2 c2 out∧Below w.heap.size w w':=by
 have SR:=Al (FX w.heap.size A n c l (w.alloc (.cells #[.slice A n c] 134)) (Bo w _ _) ((hv.alloc Aj _).more Ah) hn);have hln:=hv.len;have CS:Kept (∀(w1:World) A2 n2 c2,pY (w.alloc (.cells #[.slice A n c] 134)) w1 A2 n2 c2 ((Sy.bl l).mergeSort fun x y=>decide (x≤y))→Below w.heap.size w w1→Calls prog 194 #[.slice A2 n2 c2] w1 fun e w'=>∃A3 n3 c3 out,e= .returned (.slice A3 n3 c3)∧Sy.gH l out∧bM w' w'.heap.size A3 n3 c3 out∧Below w.heap.size w w'):=⟨by
  rintro w1 A2 n2 c2 ⟨hs,hcm,hr⟩ hb;have hsz:((Sy.bl l).mergeSort fun x y=>decide (x≤y)).length=l.length:=by rw[List.length_mergeSort,Sy.yY]
  rcases lY n2 with h0|h0
  ·subst h0;obtain rfl:l=[]:=qU om;refine(Any.slices_Compact_string_empty Tryz.compS A2 c2 w1).mono ?_;rintro e w' ⟨h1,h2⟩;exact⟨A2,0,c2,[],h1,⟨List.Pairwise.nil,fun s=>Iff.rfl⟩,Rd.nil _ _ 1 c2 A2 hcm,by rw[h2];exact hb⟩
  ·rcases hr with hr|⟨g,rfl,hg1,hg2,hc1,hc2,hH⟩
   ·omega
   ·have ig:=Any.slices_Compact_string Tryz.compS g 0 c2 ((Sy.bl l).mergeSort fun x y=>decide (x≤y)) w1 hH (by rw[hsz];omega) (by rw[←hs];exact hc1)
    change Calls prog 194 _ _ _ at ig
    rw[←hs]at ig;refine ig.mono ?_;rintro e w' ⟨h1,q,h2⟩;have htl:(Sy.qZ l).length≤n2:=by rw[hs];exact Lib.compact_length_le _
    have hz:w'.heap.size=w1.heap.size:=by rw[h2];exact qK
    refine⟨_,_,_,(Sy.qZ l).map Sy.pX,h1,Sy.Rb l,?_,?_⟩
    ·have hh:=holds_putRow encStr (Sort.ahead w1 q) g 0 _ (Lib.compact ((Sy.bl l).mergeSort fun x y=>decide (x≤y))++List.replicate (n2-(Lib.compact ((Sy.bl l).mergeSort fun x y=>decide (x≤y))).length) []).toArray (oo hH) (by
      have:=htl;unfold Sy.qZ at this;simp only[Cq,La,Ep];omega)
     rw[←h2]at hh;have:=NR (B:=w'.heap.size) (c:=c2) (k:=(Sy.qZ l).length) (n:=(Sy.qZ l).length) (by rw[hz];exact hg2) om hc2 (by simp[Sy.qZ]) rfl hh;have e2:((Lib.compact ((Sy.bl l).mergeSort fun x y=>decide (x≤y))++List.replicate (n2-(Lib.compact ((Sy.bl l).mergeSort fun x y=>decide (x≤y))).length) []).toArray.toList.take (Sy.qZ l).length)=Sy.qZ l:=by
      unfold Sy.qZ;simp
     rw[e2]at this;exact this
    ·rw[h2];exact hb.trans (oh (by simp at hg1;omega))⟩
 clear hv hln;go_enter func141,ntmps141;go_wp2_with (first
  |(go_at_call 196;refine(FW A n c w).mono ?_;rintro e w1 ⟨rfl,rfl⟩)
  |(go_at_call 195;refine SR.1.mono ?_;rintro e w2 ⟨A2,n2,c2,rfl,hr,hb⟩;have R:=Al hr;have B:Kept (Below w.heap.size w w2):=⟨((Ae _ w).alloc Aj _).trans (hb.mono Ah)⟩;clear hr hb)
  |(go_at_call 194;refine(CS.1 w2 A2 n2 c2 R.1 B.1).mono ?_;rintro e w3 ⟨A3,n3,c3,out,rfl,ht,hr,hb⟩;have T:=Al ht;have R3:=Al hr;have B3:=Al hb;clear ht hr hb))
 go_ret;exact⟨A3,n3,c3,out,rfl,T.1,R3.1,B3.1⟩
end
end
section
section
open Go.RowKit Go.Shelf
namespace Sy
def fD (l:List UInt8) (a:Nat) (e:Int):ByteArray×Nat×Int:=(pX (Wr.string l a e 65535).1,(Wr.string l a e 65535).2)
theorem y8 (l a m):Wr.string l a 0 m=if(Wr.az l (Vi.get l (a:Int)) m).2.2≠0 then([],a,(Wr.az l (Vi.get l (a:Int)) m).2.2)else((Wr.az l (Vi.get l (a:Int)) m).1,(Wr.az l (Vi.get l (a:Int)) m).2.1.toNat,0):=by
 conv=>lhs;unfold Wr.string
 exact Ng Ah
theorem ng (l x k):Wr.az l (x,k,0) 65535=if(65535:Int)< (x:Int)then([],0,7)else if(l.length:Int)-k< (x:Int)then([],0,3)else((l.drop k.toNat).take x,k+(x:Int),0):=by
 unfold Wr.az;simp
theorem kQ (l x e k) (he:e≠0):Wr.az l (x,k,e) 65535=([],0,(e:Int)):=by
 unfold Wr.az;exact Ps0 he
theorem kR:Rc.Good fD l7 (fun s=>s.size≤65535) where
 canon:=fun l a s a' ha h=>by
  unfold fD Wr.string at h;rw[Ng Ah]at h;split at h
  ·rename_i h1
   simp only[aA]at h;exact absurd h.2.2 h1
  ·rename_i h1
   have h1':(Wr.az l (Vi.get l (a:Int)) 65535).2.2=0:=by simpa using h1
   have hc:=Vi.wS (l:=l) (a:=a) (x:=(Vi.get l (a:Int)).1) (t:=(Vi.get l (a:Int)).2.1);generalize Vi.get l (a:Int)=G at*;obtain⟨x,k,e⟩:=G;simp only[]at hc h1' h;unfold Wr.az at h1' h;simp only[]at h1' h;by_cases he:e=0
   ·subst he;obtain⟨c1,c2,c3⟩:=hc rfl;simp only[ne_eq,Bz,Dv]at h1' h;by_cases h3:(65535:Int)<0∨(65535:Int)< (x:Int)
    ·rw[Ps0 h3]at h1';cases h1'
    ·rw[Ng h3]at h1' h;by_cases h4:(l.length:Int)-k< (x:Int)
     ·rw[Ps0 h4]at h1';cases h1'
     ·rw[Ng h4]at h;simp only[aA]at h;obtain⟨h5,h6,-⟩:=h;have hk:0≤k:=om;have hl:((l.drop k.toNat).take x).length=x:=by rw[jD,kz];omega
      have hs:s.data.toList=(l.drop k.toNat).take x:=by rw[←h5];simp[pX]
      have hsz:s.size=x:=by rw[←hl,←hs];simp
      refine⟨om,?_,om,om⟩;have d1:=Rc.mX (l:=l) (a:=a) (b:=k.toNat) om;have d2:=Rc.mX (l:=l) (a:=k.toNat) (b:=a') om;rw[show a'-k.toNat=x from om]at d2;rw[c1]at d1;unfold l7 Wr.str;rw[hs,hl,Af,←d2];exact d1
   ·rw[Ps0 (by simp;exact he)]at h1';simp only[]at h1';exact absurd (by exact_mod_cast h1') he
 fwd:=fun p s r hs=>by
  have hd:s.data.toList.length=s.size:=Ah;have h:=Wr.I4 p r s.data.toList 65535 om (by rw[hd];omega);rw[Af]at h;unfold fD l7;rw[h];simp only[];rw[uf]
 app:=fun l m a ha h=>by
  unfold fD at h⊢;rw[y8]at h;rw[y8,y8];have hn:(Vi.get l (a:Int)).2.2≠3:=fun e3=>by
   apply h;have:Wr.az l (Vi.get l (a:Int)) 65535=([],0,3):=by
    generalize Vi.get l (a:Int)=G at*;obtain⟨x,k,e⟩:=G;have e3':e=3:=e3;subst e3';exact kQ l x 3 k Ai
   rw[this];rfl
  rw[Vi.KT m l a ha hn];have hto:∀x k,Vi.get l (a:Int)=(x,k,0)→(a:Int)<k∧k≤(l.length:Int):=fun x k h=>by have:=Vi.iY h;omega
  generalize Vi.get l (a:Int)=G at*;obtain⟨x,k,e⟩:=G;by_cases he:e=0
  ·subst he;obtain⟨t1,t2⟩:=hto x k rfl;rw[ng]at h;rw[ng,ng];by_cases h3:(65535:Int)< (x:Int)
   ·rw[Ps0 h3,Ps0 h3]
   ·rw[Ng h3]at h⊢;rw[Ng h3];by_cases h4:(l.length:Int)-k< (x:Int)
    ·rw[Ps0 h4]at h;exact absurd rfl h
    ·rw[Ng h4,Ng (show¬((l++m).length:Int)-k< (x:Int)by rw[La];omega),Vh l m _ _ om]
  ·rw[kQ _ x e k he,kQ _ x e k he]
 bad:=⟨pX [],fun l a e he=>by unfold fD Wr.string;rw[Ps0 he]⟩
 pos:=fun s _=>by unfold l7 Wr.str;have:=Vi.cK s.data.toList.length;rw[La];omega
def y9 (acc:List ByteArray) (s:ByteArray):Bool:=match acc.getLast? with|none=>true|some t=>St.lt t s
def dl (rd:Nat→Int→ByteArray×Nat×Int):Nat→List ByteArray→Nat→List ByteArray×Nat×Int
 |0,acc,a=>(acc,a,0)
 |n+1,acc,a=>if(rd a 0).2.2≠0 then([],(rd a 0).2.1,(rd a 0).2.2)else if y9 acc (rd a 0).1=false then([],(rd a 0).2.1,16)else dl rd n (acc++[(rd a 0).1]) (rd a 0).2.1
def dec (l:List UInt8):List ByteArray×Int:=
 if(Rc.cnt l 0 0).2.2≠0 then([],(Rc.cnt l 0 0).2.2)else
 if(dl (fD (l.drop (Rc.cnt l 0 0).2.1)) (Rc.cnt l 0 0).1 [] 0).2.2≠0 then([],(dl (fD (l.drop (Rc.cnt l 0 0).2.1)) (Rc.cnt l 0 0).1 [] 0).2.2)else
 if(dl (fD (l.drop (Rc.cnt l 0 0).2.1)) (Rc.cnt l 0 0).1 [] 0).2.1< (l.drop (Rc.cnt l 0 0).2.1).length then([],4)else((dl (fD (l.drop (Rc.cnt l 0 0).2.1)) (Rc.cnt l 0 0).1 [] 0).1,0)
end Sy
end
end
section
section
open Go.RowKit Go.Shelf
namespace Sy
section
variable {rd:Nat→Int→ByteArray×Nat×Int}
theorem ZG (n acc a) (hn:0<n) (h:(rd a 0).2.2≠0):dl rd n acc a=([],(rd a 0).2.1,(rd a 0).2.2):=by
 obtain⟨m,rfl⟩:∃m,n=m+1:=⟨n-1,om⟩
 unfold dl;exact Ps0 h
theorem ZH (n acc a) (hn:0<n) (h:(rd a 0).2.2=0) (ho:y9 acc (rd a 0).1=false):dl rd n acc a=([],(rd a 0).2.1,16):=by
 obtain⟨m,rfl⟩:∃m,n=m+1:=⟨n-1,om⟩
 unfold dl;rw[Ng (by simp[h]),Ps0 ho]
theorem Yt (n acc a) (hn:0<n) (h:(rd a 0).2.2=0) (ho:y9 acc (rd a 0).1=true):dl rd n acc a=dl rd (n-1) (acc++[(rd a 0).1]) (rd a 0).2.1:=by
 obtain⟨m,rfl⟩:∃m,n=m+1:=⟨n-1,om⟩
 rw[Bj]
 conv=>lhs;unfold dl
 rw[Ng (by simp[h]),Ng (by simp[ho])]
theorem FY {acc s} (h:aN acc):y9 acc s=true↔aN (acc++[s]):=by
 unfold aN at*;rw[BZ];unfold y9;rcases List.eq_nil_or_concat acc with rfl|⟨pre,t,rfl⟩
 ·simp
 ·rw[DV]at*;have hl:(pre++[t]).getLast? =some t:=Ah;rw[hl];constructor
  ·intro hts;refine⟨h,List.pairwise_singleton _ _,fun x hx y hy=>?_⟩;rw[iP.1 hy];rw[BZ]at h;rcases gY.1 hx with hx|hx
   ·exact St.trans (h.2.2 x hx t Ah) hts
   ·rw[iP.1 hx];exact hts
  ·rintro⟨_,_,h3⟩;exact h3 t Ah s Ah
theorem Re:∀(n) (acc) (a a') (L),aN acc→dl rd n acc a=(L,a',0)→Rc.dI rd n acc a 0=(L,a',0)∧aN L
 |0,acc,a,a',L,hs,h=>by
  unfold dl at h;simp only[aA,BO]at h;obtain⟨rfl,rfl⟩:=h;exact⟨rfl,hs⟩
 |n+1,acc,a,a',L,hs,h=>by
  unfold dl at h;split at h
  ·rename_i h1
   simp only[aA]at h;exact absurd h.2.2 h1
  ·rename_i h1
   split at h
   ·simp at h
   ·rename_i h2
    have h1':(rd a 0).2.2=0:=by simpa using h1
    have h2':y9 acc (rd a 0).1=true:=by simpa using h2
    obtain⟨i1,i2⟩:=Re n _ _ _ _ ((FY hs).1 h2') h;refine⟨?_,i2⟩;have:=Rc.iZ rd (n+1) acc a 0 om h1';rw[this];exact i1
theorem Lu:∀(n) (acc) (a a') (L),Rc.dI rd n acc a 0=(L,a',0)→acc<+:L
 |0,acc,a,a',L,h=>by
  rw[Rc.dz]at h;simp only[aA,BO]at h;rw[h.1];exact List.prefix_refl _
 |n+1,acc,a,a',L,h=>by
  by_cases h1:(rd a 0).2.2=0
  ·rw[Rc.iZ rd (n+1) acc a 0 om h1]at h;exact(List.prefix_append acc _).trans (Lu n _ _ _ _ h)
  ·rw[Rc.iT rd (n+1) acc a 0 om h1]at h;simp only[aA]at h;exact absurd h.2.2 h1
theorem Rf:∀(n) (acc) (a a') (L),aN L→Rc.dI rd n acc a 0=(L,a',0)→dl rd n acc a=(L,a',0)
 |0,acc,a,a',L,_,h=>h
 |n+1,acc,a,a',L,hs,h=>by
  by_cases h1:(rd a 0).2.2=0
  ·rw[Rc.iZ rd (n+1) acc a 0 om h1]at h;have hp:=Lu n _ _ _ _ h;have hs1:aN (acc++[(rd a 0).1]):=hs.sublist hp.sublist;have hs2:aN acc:=hs1.sublist (List.sublist_append_left _ _);rw[Yt (n+1) acc a om h1 ((FY hs2).2 hs1)];exact Rf n _ _ _ _ hs h
  ·rw[Rc.iT rd (n+1) acc a 0 om h1]at h;simp only[aA]at h;exact absurd h.2.2 h1
end
theorem pR {l T} (h:dec l=(T,0)):aN T∧aM T=l∧T.length≤l.length∧∀s∈T,s.size≤65535:=by
 unfold dec at h;split at h
 ·rename_i h1
  simp only[aA]at h;exact absurd h.2 h1
 ·rename_i h1
  have h1':(Rc.cnt l 0 0).2.2=0:=by simpa using h1
  obtain⟨u1,u2⟩:=Rc.Jz (show Rc.cnt l 0 0=((Rc.cnt l 0 0).1,(Rc.cnt l 0 0).2.1,0)from BC rfl (BC rfl h1'));obtain⟨c1,c2,c3,c4⟩:=Rc.aT.canon l 0 _ _ (bf _) u1;generalize Rc.cnt l 0 0=C at*;obtain⟨n,t,e⟩:=C;simp only[]at h u1 u2 c1 c2 c3 c4;split at h
  ·rename_i h2
   simp only[aA]at h;exact absurd h.2 h2
  ·rename_i h2
   split at h
   ·simp at h
   ·rename_i h3
    simp only[aA,BO]at h;have h2':(dl (fD (l.drop t)) n [] 0).2.2=0:=by simpa using h2
    obtain⟨d1,d2⟩:=Re n [] 0 (dl (fD (l.drop t)) n [] 0).2.1 T List.Pairwise.nil (BC h (BC rfl h2'));generalize (dl (fD (l.drop t)) n [] 0).2.1=a' at*;obtain⟨ys,e1,e2,e3,e4,e5,e6⟩:=Rc.pM kR n (l.drop t) [] 0 T a' (bf _) d1;have e1':ys=T:=by rw[e1];rfl
    subst e1';have e6':a'=(l.drop t).length:=om;rw[Ct,qW (Nat.le_of_eq e6'.symm),Bh]at e4;have hfl:=Rc.aW kR ys e3;have hll:aM ys=l:=by
     unfold aM;rw[←e4,e2];have:=c2;rw[Ct]at this;exact this.symm
    refine⟨d2,hll,?_,e3⟩;rw[←e4,kz]at hfl;omega
theorem bV {T} (hS:aN T) (hl:T.length≤Rc.mx) (hsz:∀s∈T,s.size≤65535):dec (aM T)=(T,0):=by
 have hg:=Rc.rP kR;have h:=hg.fwd [] T [] ⟨hl,hsz⟩;rw[Bh,AB]at h;simp only[Ba,bO]at h;have hu:=Rc.aT.fwd [] T.length (T.flatMap l7) hl;have hfl:=Rc.aW kR T hsz;have hc:Rc.cnt (aM T) 0 0=(T.length,(Vi.enc T.length).length,0):=by
  unfold Rc.cnt aM;simp only[AB,Ba,bO]at hu;rw[hu];simp only[];rw[Ng Ah,Ng (by rw[La];omega)]
 have hd:(aM T).drop (Vi.enc T.length).length=T.flatMap l7:=by unfold aM;rw[Dr]
 have hf:=Rc.yU kR T (T.flatMap l7) [] 0 [] hsz Ah (bf _);rw[AB,bO]at hf;have hdl:=Rf T.length [] 0 _ T hS hf;unfold dec;rw[hc];simp only[hd,hdl];simp
end Sy
end
end
section
section
open Go.RowKit Go.Shelf
theorem Vi.Lv:∀(l) (i x),i≤9→x<128^i→(Vi.fP l i x).1<18446744073709551616
 |[],_,_,_,_=>by simp[Vi.fP]
 |c::l,i,x,hi,hx=>by
  rw[Vi.bZ];have hc:=c.toNat_lt;split
  ·simp
  ·rename_i h1
   split
   ·simp
   ·split
    ·rename_i h3
     show x+c.toNat%128*128^i<_;rw[kG h3];by_cases h9:i=9
     ·subst h9;have:c.toNat≤1:=om;have e:(128:Nat)^9=9223372036854775808:=Ai;rw[e]at hx⊢;have:c.toNat*9223372036854775808≤1*9223372036854775808:=Bl _ this;omega
     ·have h8:i+1≤9:=by omega
      have e1:(128:Nat)^ (i+1)≤128^9:=kF Ai h8;have e2:(128:Nat)^9=9223372036854775808:=Ai;have e3:c.toNat*128^i≤127*128^i:=Bl _ om;rw[CY]at e1;omega
    ·rename_i h3
     have h8:i+1≤9:=by
      have:i≠9:=fun e=>om
      omega
     refine Vi.Lv l (i+1) _ h8 ?_;have e3:c.toNat%128*128^i≤127*128^i:=Bl _ om;rw[CY];omega
theorem Vi.Rh (l a):(Vi.get l a).1<18446744073709551616:=by
 unfold Vi.get;split
 ·simp
 ·simp only[];split
  ·exact Vi.Lv _ 0 0 om Ah
  ·simp
namespace Sy
def VP (l:List UInt8) (n:Nat):List ByteArray×Int:=
 if Wr.fin l (dl (fD l) n [] 0).2.1 (dl (fD l) n [] 0).2.2≠0 then([],Wr.fin l (dl (fD l) n [] 0).2.1 (dl (fD l) n [] 0).2.2)else((dl (fD l) n [] 0).1,0)
theorem VQ {l x e t} (hg:Vi.get l (0:Int)=(x,t,e)):
  dec l=if e≠0 then([],(e:Int))else if(l.length:Int)-t< (x:Int)then([],3)else VP (l.drop t.toNat) x:=by
 have hb:=Vi.Rh l 0;have hu:Wr.uint l 0 0 Rc.mx=if e≠0 then(0,0,(e:Int))else(x,t.toNat,0):=by
  unfold Wr.uint;rw[Ng Ah];have:Vi.get l ((0:Nat):Int)=(x,t,e):=hg;rw[this];simp only[];by_cases he:e=0
  ·have hm:¬Rc.mx<x:=by rw[hg]at hb;unfold Rc.mx;simp only[]at hb;omega
   subst he;simp[hm]
  ·rw[Ps0 he,Ps0 he]
 by_cases he:e=0
 ·subst he;have hto:(0:Int)<t∧t≤l.length:=by have:=Vi.iY (a:=0) hg;omega
  rw[Ng Ah]at hu⊢;have hc:Rc.cnt l 0 0=if l.length-t.toNat<x then(0,t.toNat,3)else(x,t.toNat,0):=by
   unfold Rc.cnt;rw[hu];simp
  by_cases hx:l.length-t.toNat<x
  ·rw[Ps0 hx]at hc;rw[Ps0 om];unfold dec;rw[hc];simp
  ·rw[Ng hx]at hc;rw[Ng om];unfold dec VP Wr.fin;rw[hc];generalize l.drop t.toNat=l2;simp only[ne_eq,Bz,Dv];by_cases h2:(dl (fD l2) x [] 0).2.2=0
   ·simp only[h2,Bz,Dv];by_cases h3:(dl (fD l2) x [] 0).2.1<l2.length
    ·simp[h3]
    ·simp[h3]
   ·simp[h2]
 ·rw[Ps0 he]at hu⊢;have hc:Rc.cnt l 0 0=(0,0,(e:Int)):=by
   unfold Rc.cnt;rw[hu];simp[he]
  unfold dec;rw[hc];simp[he]
end Sy
theorem aR.past {w w' base n c p A l} (h:aR w base A n c l) (hg:w.grownBy w' (some p)) (hp:p<base):aR w' base A n c l:=
 ag h hg (by
  rcases hA:ab A with _|g
  ·exact .inl rfl
  ·refine .inr fun e=>?_
   have:=(ae h g hA).1;have:=Oj e;omega)
theorem bM.nil (w B):bM w B none 0 0 []:=Rd.nil w B 1 0 none (by unfold maxLen;omega)
theorem Sy.VR {acc s k} (h:k=acc.length) (hk:k-1<acc.length):Sy.y9 acc s=St.lt acc[k-1] s:=by
 subst h;unfold Sy.y9;rw[List.getLast?_eq_getElem?,kC hk]
theorem FZ (A n c l w) (hv:aY w w.heap.size A n c l) (hl:n≤80000000000):
  Calls prog 68 #[.slice A n c] w fun r w'=>∃A2 n2 c2,r= .returned (.tuple #[.slice A2 n2 c2,.int .i64 (Sy.dec l).2])∧bM w' w'.heap.size A2 n2 c2 (Sy.dec l).1∧Below w.heap.size w w':=by
 have hlc:=hv.1;have hcm:=hv.2.1;unfold maxLen at hcm;have HN:=Al hv.len;have V:=Al hv;obtain⟨M,hM⟩:∃M,M=Sy.dec l:=⟨_,rfl⟩
 rw[←hM];obtain⟨G,hG⟩:∃G,Vi.get l (0:Int)=G:=⟨_,rfl⟩
 have GA:=Al (rC A n c w.heap.size l 0 w hv om om);have hbd:=Vi.Rh l 0;have hto:=fun x t (h:G=(x,t,0))=>Vi.iY (a:=0) (hG.trans h)
 rw[hG]at GA hbd;obtain⟨x,t,e⟩:=G;have HM:=Al (hM.trans (Sy.VQ hG));unfold IU at GA;simp only[]at GA hbd;clear hv hM hG;by_cases he:e=0
 ·subst he;have ht:=hto x t rfl;have ht1:0<t:=om;have ht2:t≤(n:Int):=by have:=HN.1;omega
  have HM:=Al (HM.1.trans (Ng Ah));clear hto ht;obtain⟨q,rfl⟩:=Cr (show 0≤t from om);have hq1:0<q:=om;have hq2:q≤n:=om;have Zr:IntKind.u64.wrap ((n:Int)-(q:Int))=(n:Int)-(q:Int):=by simp[IntKind.wrap,IntKind.bits,IntKind.signed];omega
  by_cases hx:(n:Int)-(q:Int)< (x:Int)
  ·have df:Kept (M=([],3)):=⟨by rw[HM.1,Ps0 (by rw[←HN.1];exact hx)]⟩
   clear hbd;go_enter func68,ntmps68;go_wp2_with (go_at_call 118;refine GA.1.mono ?_;rintro r w1 ⟨rfl,rfl⟩);go_ret2;refine⟨none,0,0,?_,?_,Ae _ _⟩
   ·rw[df.1];rfl
   ·rw[df.1];exact bM.nil _ _
  ·have hxn:x≤n:=by omega
   have df:Kept (M=Sy.VP (l.drop q) x):=⟨by rw[HM.1,Ng (by rw[←HN.1];exact hx),lZ]⟩
   have hll:Kept ((l.drop q).length=n-q):=⟨by rw[kz,HN.1]⟩
   have RD:=Al (V.1.drop hq2);generalize l.drop q=l2 at*;obtain⟨X,hX⟩:∃X,X=Sy.dl (Sy.fD l2) x [] 0:=⟨_,rfl⟩
   have ZI:Kept (M=if Wr.fin l2 X.2.1 X.2.2≠0 then([],Wr.fin l2 X.2.1 X.2.2)else(X.1,0)):=⟨by rw[df.1,Sy.VP,hX]⟩
   have HX:=Al hX;have hxx:IntKind.i64.wrap (x:Int)=(x:Int):=by rw[AZ];omega
   clear hbd hX HM df;by_cases hc:c=q
   ·have RD2:=Al RD.1;rw[Ps0 hc]at RD2;subst hc;simp only[Dz,show n-c=0 from om]at RD2;clear RD;go_enter func68,ntmps68;go_upto_region 9 with(first
     |(go_at_call 118;refine GA.1.mono ?_;rintro r w1 ⟨rfl,rfl⟩)
     |(go_at_call 110;refine(dK _ _ _ w.heap.size l2 w RD2.1 Aj om).mono ?_;rintro r w1 ⟨p,rfl,hp1,hp2,hr1,hb1⟩;have D1:=Al hr1;have B1:=Al hb1;clear hr1 hb1))
    go_loopw [8,37] (fun o i wr=>∃k:Nat,k≤x∧i= .int .i64 k∧∃A2 m c2 acc a2,o= .slice A2 m c2∧aR wr w1.heap.size A2 m c2 acc∧aK wr p l2 a2 0∧Kept (m=k∧X=Sy.dl (Sy.fD l2) (x-k) acc a2)∧w1.grownBy wr (some p)) (fun _ i _=>x-(intOf i).toNat)
    case atStart=>exact⟨0,om,rfl,none,0,0,[],0,rfl,aR.nil _ _,D1.1,⟨rfl,HX.1⟩,Ci _ _⟩
    case round=>
     clear D1;obtain⟨k,hk,rfl,A2,m,c2,acc,a2,rfl,ho,hd,hm,hg⟩:=hrel;have hm1:=hm.1.1;have hm2:=hm.1.2;have hacc:=ho.len;have hz:=hg.size;by_cases hlt:k<x
     ·exact absurd hlt om
     ·have hX2:X=(acc,a2,0):=by rw[hm2,show x-k=0 from om];rfl
      have JD:Kept (M=if Wr.fin l2 a2 0≠0 then([],Wr.fin l2 a2 0)else(acc,0)):=⟨by rw[ZI.1,hX2]⟩
      have EN:=Al (gV p a2 l2 0 wr hd);have O:=Al ho;have BB:=Al (fu B1.1 hg hp1 hp2);generalize Wr.fin l2 a2 0=f at*;clear hX2 ho hd hm hg hm1 hm2 hacc;by_cases hf:f=0
      ·have Ri:Kept (M=(acc,0)):=⟨by rw[JD.1,Ng (by simpa using hf)]⟩
       subst hf;clear JD;go_wp2_with (go_at_call 117;refine EN.1.mono ?_;rintro r w5 ⟨rfl,rfl⟩);go_ret2;refine⟨A2,m,c2,?_,?_,BB.1⟩
       ·rw[Ri.1];rfl
       ·rw[Ri.1];exact O.1.rd
      ·have Ri:Kept (M=([],f)):=⟨by rw[JD.1,Ps0 hf]⟩
       have Fx:(f==0)=false:=by simpa using hf
       clear JD;go_wp2_with (go_at_call 117;refine EN.1.mono ?_;rintro r w5 ⟨rfl,rfl⟩);go_ret2;refine⟨none,0,0,?_,?_,BB.1⟩
       ·rw[Ri.1];rfl
       ·rw[Ri.1];exact bM.nil _ _
   ·have RD2:=Al RD.1;rw[Ng hc]at RD2;clear RD;go_enter func68,ntmps68;go_upto_region 9 with(first
     |(go_at_call 118;refine GA.1.mono ?_;rintro r w1 ⟨rfl,rfl⟩)
     |(go_at_call 110;refine(dK _ _ _ w.heap.size l2 w RD2.1 Aj om).mono ?_;rintro r w1 ⟨p,rfl,hp1,hp2,hr1,hb1⟩;have D1:=Al hr1;have B1:=Al hb1;clear hr1 hb1))
    go_loopw [8,37] (fun o i wr=>∃k:Nat,k≤x∧i= .int .i64 k∧∃A2 m c2 acc a2,o= .slice A2 m c2∧aR wr w1.heap.size A2 m c2 acc∧aK wr p l2 a2 0∧Kept (m=k∧X=Sy.dl (Sy.fD l2) (x-k) acc a2)∧w1.grownBy wr (some p)) (fun _ i _=>x-(intOf i).toNat)
    case atStart=>exact⟨0,om,rfl,none,0,0,[],0,rfl,aR.nil _ _,D1.1,⟨rfl,HX.1⟩,Ci _ _⟩
    case round=>
     clear D1;obtain⟨k,hk,rfl,A2,m,c2,acc,a2,rfl,ho,hd,hm,hg⟩:=hrel;have hm1:=hm.1.1;have hm2:=hm.1.2;have hacc:=ho.len;have hz:=hg.size;by_cases hlt:k<x
     ·have ST:Kept (Calls prog 119 #[.pointer (some ⟨p,0,none⟩),.int .i64 65535] wr fun r w'=>r= .returned (.string (Sy.fD l2 a2 0).1)∧aK w' p l2 (Sy.fD l2 a2 0).2.1 (Sy.fD l2 a2 0).2.2∧wr.grownBy w' (some p)):=⟨IZ p a2 l2 0 65535 wr hd om⟩
      have hbad:=Al (fun h=>hm2.trans (Sy.ZG (rd:=Sy.fD l2) (x-k) acc a2 om h));have gz:=Al (fun h h'=>hm2.trans (Sy.ZH (rd:=Sy.fD l2) (x-k) acc a2 om h h'));have hok:=Al (fun h h'=>hm2.trans (Sy.Yt (rd:=Sy.fD l2) (x-k) acc a2 om h h'));generalize Sy.fD l2 a2 0=Y at*;obtain⟨s,a3,e3⟩:=Y;simp only[]at ST hbad gz hok;have O:=Al ho;have Gr0:=Al hg;have UD:=Al hm1;have hm6:m≤80000000000:=om;by_cases kg:e3=0
      ·subst kg;rcases lY k with h0|h0
       ·have hnil:acc=[]:=qU om;have NX:=Al (hok.1 rfl (by rw[hnil];rfl));subst h0;clear hbad gz hok ho hd hm hg hm1 hm2 hacc hnil;go_wp2_with (first
         |(go_at_call 119;refine ST.1.mono ?_;rintro r w2 ⟨rfl,hr,hg⟩;have D2:=Al hr;have O2:=Al (aR.past O.1 hg hp2);have G2:=Al (Gr0.1.trans hg);clear hr hg ST)
         |(go_at_call 120;refine(ay p a3 l2 0 _ D2.1).mono ?_;rintro r w9 ⟨rfl,rfl⟩)
         |(at_builtin;refine gJ rfl (.tmp 65) (.tmp 67) rfl w1.heap.size A2 m c2 acc rfl (Oa O2.1 _) (w2.heap.size+1) _ _ _ [s] rfl (bM.one w2 s) om (by have:=G2.1.size;simp;omega) ?_;intro A4 c4 w4 au af bT;have O4:=Al au;have B4:Kept (Below w1.heap.size w2 w4):=⟨((Ae w1.heap.size w2).alloc G2.1.size _).grown af (by have:=G2.1.size;simp;omega) (fun g e=>(ae O2.1 g e).1)⟩;have D4:=Al (D2.1.below B4.1 hp2);have G4:=Al (iD G2.1 B4.1);clear au af bT))
        go_roundw
        case rel=>exact⟨0+1,om,by go_num,A4,_,c4,_,a3,rfl,O4.1,D4.1,⟨by rw[UD.1],by rw[NX.1,Nat.sub_sub]⟩,G4.1⟩
        case measure=>simp[intOf];omega
       ·have hk1:k-1<acc.length:=by omega
        obtain⟨g,rfl,hg1,hg2⟩:=ho.pos om;have hoB:Sy.y9 acc s=St.lt acc[k-1] s:=Sy.VR om hk1;have ek:(k:Int)-1=((k-1:Nat):Int):=om;have Nz:((k-1:Nat):Int)< (m:Int):=om;have ew:IntKind.i64.wrap ((k-1:Nat):Int)=((k-1:Nat):Int):=by rw[AZ];omega
        have hkp:(0:Int)< (k:Int):=om;have JB:Op.bytesLess acc[k-1].toList s.toList=St.lt acc[k-1] s:=rfl;by_cases hxy:St.lt acc[k-1] s=true
        ·have NX:=Al (hok.1 rfl (by rw[hoB];exact hxy));rw[hxy]at JB;clear hbad gz hok ho hd hm hg hm1 hm2 hacc hoB hxy;go_wp2_with (first
          |(go_at_call 119;refine ST.1.mono ?_;rintro r w2 ⟨rfl,hr,hg⟩;have D2:=Al hr;have O2:=Al (aR.past O.1 hg hp2);have G2:=Al (Gr0.1.trans hg);obtain⟨y0,-⟩:=aR.at_ O2.1 hk1;clear hr hg ST)
          |(go_at_call 120;refine(ay p a3 l2 0 _ D2.1).mono ?_;rintro r w9 ⟨rfl,rfl⟩)
          |(at_builtin;refine gJ rfl (.tmp 65) (.tmp 67) rfl w1.heap.size (some ⟨g,0,none⟩) m c2 acc rfl (Oa O2.1 _) (w2.heap.size+1) _ _ _ [s] rfl (bM.one w2 s) om (by have:=G2.1.size;simp;omega) ?_;intro A4 c4 w4 au af bT;have O4:=Al au;have B4:Kept (Below w1.heap.size w2 w4):=⟨((Ae w1.heap.size w2).alloc G2.1.size _).grown af (by have:=G2.1.size;simp;omega) (fun g e=>(ae O2.1 g e).1)⟩;have D4:=Al (D2.1.below B4.1 hp2);have G4:=Al (iD G2.1 B4.1);clear au af bT))
         go_roundw
         case rel=>exact⟨k+1,om,by go_num,A4,_,c4,_,a3,rfl,O4.1,D4.1,⟨by rw[UD.1],by rw[NX.1,Nat.sub_sub]⟩,G4.1⟩
         case measure=>simp[intOf];omega
        ·have hxy':St.lt acc[k-1] s=false:=by simpa using hxy
         have JD:Kept (M=([],16)):=⟨by rw[ZI.1,gz.1 rfl (by rw[hoB];exact hxy')];rfl⟩
         rw[hxy']at JB;clear hbad gz hok ho hd hm hg hm1 hm2 hacc hoB hxy hxy';go_wp2_with (first
          |(go_at_call 119;refine ST.1.mono ?_;rintro r w2 ⟨rfl,hr,hg⟩;have D2:=Al hr;have O2:=Al (aR.past O.1 hg hp2);have G2:=Al (Gr0.1.trans hg);obtain⟨y0,-⟩:=aR.at_ O2.1 hk1;clear hr hg ST)
          |(go_at_call 114;refine(dm p a3 l2 0 16 _ D2.1).mono ?_;rintro r w3 ⟨rfl,hr,hg⟩;rw[Ps0 rfl]at hr;have D3:=Al hr;have G3:=Al (G2.1.trans hg);clear hr hg)
          |(go_at_call 120;refine(ay p a3 l2 16 _ D3.1).mono ?_;rintro r w9 ⟨rfl,rfl⟩)
          |(go_at_call 120;refine(ay p a3 l2 0 _ D2.1).mono ?_;rintro r w9 ⟨rfl,rfl⟩))
         go_ret2;refine⟨none,0,0,?_,?_,fu B1.1 G3.1 hp1 hp2⟩
         ·rw[JD.1];rfl
         ·rw[JD.1];exact bM.nil _ _
      ·have JD:Kept (M=([],e3)):=⟨by rw[ZI.1,hbad.1 kg];unfold Wr.fin;simp[kg]⟩
       have yg:(e3==0)=false:=by simpa using kg
       clear hbad gz hok ho hd hm hg hm1 hm2 hacc;go_wp2_with (first
        |(go_at_call 119;refine ST.1.mono ?_;rintro r w2 ⟨rfl,hr,hg⟩;have D2:=Al hr;have O2:=Al (aR.past O.1 hg hp2);have G2:=Al (Gr0.1.trans hg);clear hr hg ST)
        |(go_at_call 120;refine(ay p a3 l2 e3 _ D2.1).mono ?_;rintro r w9 ⟨rfl,rfl⟩))
       go_ret2;refine⟨none,0,0,?_,?_,fu B1.1 G2.1 hp1 hp2⟩
       ·rw[JD.1];rfl
       ·rw[JD.1];exact bM.nil _ _
     ·have hX2:X=(acc,a2,0):=by rw[hm2,show x-k=0 from om];rfl
      have JD:Kept (M=if Wr.fin l2 a2 0≠0 then([],Wr.fin l2 a2 0)else(acc,0)):=⟨by rw[ZI.1,hX2]⟩
      have EN:=Al (gV p a2 l2 0 wr hd);have O:=Al ho;have BB:=Al (fu B1.1 hg hp1 hp2);generalize Wr.fin l2 a2 0=f at*;clear hX2 ho hd hm hg hm1 hm2 hacc;by_cases hf:f=0
      ·have Ri:Kept (M=(acc,0)):=⟨by rw[JD.1,Ng (by simpa using hf)]⟩
       subst hf;clear JD;go_wp2_with (go_at_call 117;refine EN.1.mono ?_;rintro r w5 ⟨rfl,rfl⟩);go_ret2;refine⟨A2,m,c2,?_,?_,BB.1⟩
       ·rw[Ri.1];rfl
       ·rw[Ri.1];exact O.1.rd
      ·have Ri:Kept (M=([],f)):=⟨by rw[JD.1,Ps0 hf]⟩
       have Fx:(f==0)=false:=by simpa using hf
       clear JD;go_wp2_with (go_at_call 117;refine EN.1.mono ?_;rintro r w5 ⟨rfl,rfl⟩);go_ret2;refine⟨none,0,0,?_,?_,BB.1⟩
       ·rw[Ri.1];rfl
       ·rw[Ri.1];exact bM.nil _ _
 ·have yg:((e:Int)==0)=false:=by simp;omega
  have he2:¬(e:Int)=0:=om;have df:Kept (M=([],(e:Int))):=⟨by rw[HM.1,Ps0 he]⟩
  clear hto hbd;go_enter func68,ntmps68;go_wp2_with (go_at_call 118;refine GA.1.mono ?_;rintro r w1 ⟨rfl,rfl⟩);go_ret2;refine⟨none,0,0,?_,?_,Ae _ _⟩
  ·rw[df.1];rfl
  ·rw[df.1];exact bM.nil _ _
end
end
namespace Ls
abbrev S (l:List Int):Prop:=l.Pairwise (· < ·)
end Ls
end Go.Proofs.YtongopommlghgaaGreatDoor
