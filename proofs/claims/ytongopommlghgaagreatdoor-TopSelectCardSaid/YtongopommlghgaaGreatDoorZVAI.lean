/- Part 9. -/
import Derived.Test.YtongopommlghgaaGreatDoorZVAH
import Derived.Lib.RowBridge
namespace Go.Proofs.YtongopommlghgaaGreatDoor
set_option maxRecDepth 100000
set_option maxHeartbeats 0
open _root_.Go.Proofs.Tryz
section
section
open Go.RowKit Go.Shelf Go.Sort
namespace Sy
def qb (l:List UInt8):ByteArray:=⟨l.toArray⟩
theorem jT (l):(qb l).toList=l:=by rw[St.tl];simp[qb]
theorem uh (s):qb s.data.toList=s:=by unfold qb;rfl
theorem Wq {a b} (h:qb a=qb b):a=b:=by rw[←jT a,h,jT]
def bl (l:List ByteArray):List (List UInt8):=l.map fun s=>s.data.toList
theorem le_iff (x y):decide (x≤y)=true↔St.lt (qb y) (qb x)=false:=by
 rw[Er,Cy,Ne,St.lt_iff,jT,jT];exact List.not_lt.symm
theorem qO {S:List (List UInt8)} (hS:S.Pairwise fun x y=>St.lt (qb y) (qb x)=false):∀m,m≤S.length→
  (Lib.compactUpTo S.toArray m).Pairwise (fun x y=>St.lt (qb x) (qb y)=true)∧∀x,x∈Lib.compactUpTo S.toArray m↔∃i,∃h:i<S.length,i<m∧S[i]=x
 |0,_=>⟨by simp[Lib.compactUpTo],fun x=>by simp[Lib.compactUpTo]⟩
 |m+1,hm=>by
  obtain⟨h1,h2⟩:=qO hS m om;have vJ:m<S.length:=om;have hg:S.toArray[m]! =S[m]:=by simp[vJ]
  rw[Lib.compactUpTo_succ];have hle:∀i j (hi:i<S.length) (hj:j<S.length),i<j→St.lt (qb S[j]) (qb S[i])=false:=fun i j hi hj hij=>(BC.1 hS) i j hi hj hij
  by_cases hk:Lib.keeps S.toArray m=true
  ·rw[Ps0 hk,hg];refine⟨?_,fun x=>?_⟩
   ·rw[Cr];refine⟨h1,List.pairwise_singleton _ _,fun x hx y hy=>?_⟩;obtain⟨i,hi,him,rfl⟩:=(h2 x).1 hx;rw[gJ.1 hy];have hd:m=0∨S.toArray[m]!≠S.toArray[m-1]!:=by simpa[Lib.keeps]using hk
    rcases hd with h0|hd
    ·omega
    ·have hg1:S.toArray[m-1]! =S[m-1]:=by simp[show m-1<S.length from om]
     rw[hg,hg1]at hd;apply Dl;intro hn;have hn':St.lt (qb S[i]) (qb S[m])=false:=by simpa using hn
     have he:=St.total hn' (hle i m hi vJ him);apply hd;apply Wq;rcases Eo i (m-1)with h3|h3
     ·have a1:=hle i (m-1) hi om h3;have a2:=hle (m-1) m om vJ om;rw[←he]at a2⊢;exact St.total a2 a1
     ·obtain rfl:i=m-1:=by omega
      exact he.symm
   ·rw[je,h2,gJ];constructor
    ·rintro(⟨i,hi,him,rfl⟩|rfl)
     ·exact⟨i,hi,om,rfl⟩
     ·exact⟨m,vJ,om,rfl⟩
    ·rintro⟨i,hi,him,rfl⟩;by_cases e:i=m
     ·subst e;exact .inr rfl
     ·exact .inl ⟨i,hi,om,rfl⟩
  ·rw[Ng hk,Bh];have hd:¬(m=0∨S.toArray[m]!≠S.toArray[m-1]!):=by simpa[Lib.keeps]using hk
   have hm0:m≠0:=fun h=>hd (.inl h)
   have he:S[m]=S[m-1]:=by
    have hg1:S.toArray[m-1]! =S[m-1]:=by simp[show m-1<S.length from om]
    rw[←hg,←hg1];exact Dl fun h=>hd (.inr h)
   refine⟨h1,fun x=>?_⟩;rw[h2];constructor
   ·rintro⟨i,hi,him,rfl⟩;exact⟨i,hi,om,rfl⟩
   ·rintro⟨i,hi,him,rfl⟩;by_cases e:i=m
    ·subst e;exact⟨i-1,om,om,he.symm⟩
    ·exact⟨i,hi,om,rfl⟩
def rA (l:List ByteArray):List (List UInt8):=Lib.compact ((bl l).mergeSort fun x y=>decide (x≤y))
theorem RS (l):gD l ((rA l).map qb):=by
 obtain⟨S,hS⟩:∃S,S=(bl l).mergeSort fun x y=>decide (x≤y):=⟨_,rfl⟩
 have hsort:S.Pairwise fun x y=>St.lt (qb y) (qb x)=false:=by
  have:=List.pairwise_mergeSort (le:=fun x y:List UInt8=>decide (x≤y)) (fun a b c h1 h2=>by
   rw[le_iff]at h1 h2⊢;exact St.ntrans h2 h1) (fun a b=>by
   simp only[Bool.or_eq_true,le_iff];cases h:St.lt (qb b) (qb a)with
   |false=>exact .inl rfl
   |true=>exact .inr (St.asymm h)) (bl l)
  rw[←hS]at this;exact this.imp fun{a b} h=>(le_iff a b).1 h
 have hmem:∀x,x∈S↔x∈bl l:=fun x=>by rw[hS];exact List.mem_mergeSort
 obtain⟨h1,h2⟩:=qO hsort S.length Ai;have e:rA l=Lib.compactUpTo S.toArray S.length:=by unfold rA;rw[←hS];rfl
 rw[e];refine⟨?_,fun s=>?_⟩
 ·unfold iO;rw[List.pairwise_map];exact h1
 ·rw[bY];constructor
  ·rintro⟨x,hx,rfl⟩;obtain⟨i,hi,-,rfl⟩:=(h2 x).1 hx;have:=(hmem _).1 (gG hi);obtain⟨t,ht,e⟩:=bY.1 this;rw[←e,uh];exact ht
  ·intro hs;have:s.data.toList∈S:=(hmem _).2 (bY.2 ⟨s,hs,rfl⟩);obtain⟨i,hi,e⟩:=jw.1 this;exact⟨_,(h2 _).2 ⟨i,hi,hi,e⟩,uh s⟩
theorem zg (l):(bl l).length=l.length:=by simp[bl]
end Sy
theorem JO {w base g n c l} (h:aT w base (some ⟨g,0,none⟩) n c l):Holds encStr w g 0 (Sy.bl l).toArray:=by
 intro j hj;have hn:=h.len;have hj':j<l.length:=by simpa[Sy.bl]using hj
 rw[cK];refine⟨?_,CR h j⟩;rw[C9 h j om];simp[oO,sv,Sy.bl,hj',encStr]
theorem oo {α} [Inhabited α] {enc:α→Value} {w base g m d} (hg:base≤g):Below base w (putRow enc (Sort.ahead w m) g 0 d):=by
 refine⟨rfl,rfl,rfl,?_,fun k hk=>?_⟩
 ·unfold putRow mapBlock;simp[Sort.ahead]
 ·unfold putRow mapBlock;simp[Sort.ahead,DK,show g≠k from om]
theorem ui {w} (os):Below w.heap.size w (grow w os):=by
 refine⟨rfl,rfl,rfl,?_,fun k hk=>Sort.heap_grow_old _ os hk⟩;rw[Sort.size_grow];omega
theorem qP {α} [Inhabited α] {enc:α→Value} {w g m d}:(putRow enc (Sort.ahead w m) g 0 d).heap.size=w.heap.size:=by
 unfold putRow mapBlock;simp[Sort.ahead]
theorem oq {w g m d} (h:Holds encStr w g 0 d):Holds encStr (Sort.ahead w m) g 0 d:=holds_ahead encStr w m g 0 d h
theorem holds_grow {w g d} (h:Holds encStr w g 0 d) (os) (hg:g<w.heap.size):Holds encStr (grow w os) g 0 d:=by
 intro j hj;have hb:=(ui (w:=w) os)
 exact⟨(hb.cell (p:=⟨g,0+j,none⟩) hg).trans (h j hj).1,(hb.frozen (p:=⟨g,0+j,none⟩) hg).trans (h j hj).2⟩
theorem Oi {w g B n c d k} (hB:g<B) (hc:k≤c) (hm:c≤maxLen) (hk:k≤d.size) (hn:n=k) (h:Holds encStr w g 0 d):bK w B (some ⟨g,0,none⟩) n c ((d.toList.take k).map Sy.qb):=by
 subst hn;refine⟨hc,hm,by simp[oO];omega,fun _=>⟨g,0,rfl,hB,fun i u hu=>?_⟩⟩;have hi:i<n:=by
  have:=(kT.1 hu).1;simp[oO]at this;omega
 have h1:=(h i om).1;rw[h1,←hu];simp[oO,sv,Sy.qb,encStr,hi,show i<d.size from om]
theorem F8 (A n c w):Calls prog 196 #[.slice A n c] w fun e w'=>
  e= .returned (.func (.func 245) #[] #[.pointer (some ⟨w.heap.size,0,none⟩)])∧w'=w.alloc (.cells #[.slice A n c] 134):=by
 go_enter func196,ntmps196;go_wp2;go_ret;exact⟨rfl,rfl⟩
theorem zh (bx A m c l w) (hw:Boxed w bx 134 (.slice A m c)) (hv:bK w w.heap.size A m c l) (hm:m≤1000000):
  Calls prog 243 #[.func (.func 245) #[] #[.pointer (some ⟨bx,0,none⟩)]] w fun e w'=>∃A2 n2 c2,e= .returned (.slice A2 n2 c2)∧aT w' w.heap.size A2 n2 c2 l∧Below w.heap.size w w':=by
 have AP:=Aj (wD bx A m c l w hw hv hm);clear hw hv;go_enter func243,ntmps243;go_wp2_with (go_at_call 271;refine AP.1.mono ?_;rintro e w1 ⟨A2,n2,c2,rfl,ho,hb⟩;have O:=Aj ho;have B:=Aj hb;clear ho hb);go_ret;exact⟨A2,n2,c2,rfl,O.1,B.1⟩
def qc (w0 w:World) (A:Option Addr) (n c:Nat) (S:List (List UInt8)):Prop:=
 n=S.length∧c≤maxLen∧(n=0∨∃g,A=some ⟨g,0,none⟩∧w0.heap.size≤g∧g<w.heap.size∧n≤c∧c≤maxLen∧Holds encStr w g 0 S.toArray)
theorem F9 (bx A m c l w) (hw:Boxed w bx 134 (.slice A m c)) (hv:bK w w.heap.size A m c l) (hm:m≤1000000):
  Calls prog 195 #[.func (.func 245) #[] #[.pointer (some ⟨bx,0,none⟩)]] w fun e w'=>∃A2 n2 c2,e= .returned (.slice A2 n2 c2)∧qc w w' A2 n2 c2 ((Sy.bl l).mergeSort fun x y=>decide (x≤y))∧Below w.heap.size w w':=by
 have vJ:=hv.len;have CO:=Aj (zh bx A m c l w hw hv hm);have SO:Kept (∀(w1:World) A2 n2 c2,aT w1 w.heap.size A2 n2 c2 l→Below w.heap.size w w1→Calls prog 244 #[.slice A2 n2 c2] w1 fun e w'=>e= .returned (.tuple #[])∧qc w w' A2 n2 c2 ((Sy.bl l).mergeSort fun x y=>decide (x≤y))∧Below w.heap.size w w'):=⟨by
  intro w1 A2 n2 c2 ho hb;have hn:=ho.len;have hrd:=ho.rd;rcases mM n2 with h0|h0
  ·subst h0;obtain rfl:l=[]:=nL hn.symm;exact(Any.slices_Sort_string_none Tryz.sortS A2 c2 w1).mono fun e w' ⟨h1,h2⟩=>⟨h1,⟨by simp[Sy.bl],hrd.2.1,.inl rfl⟩,by rw[h2];exact hb⟩
  ·obtain⟨g,rfl,hg1,hg2⟩:=nK ho h0;have hH:=JO ho;have iT:=Any.slices_Sort_string Tryz.sortS g 0 c2 (Sy.bl l) w1 hH hg2 (by rw[Sy.zg];omega)
   change Calls prog 244 _ _ _ at iT
   rw[Sy.zg,←hn]at iT;refine iT.mono ?_;rintro e w' ⟨h1,q,os,h2⟩;have hsz:((Sy.bl l).mergeSort fun x y=>decide (x≤y)).length=l.length:=by rw[List.length_mergeSort,Sy.zg]
   have hz:(putRow encStr (Sort.ahead w1 q) g 0 ((Sy.bl l).mergeSort fun x y=>decide (x≤y)).toArray).heap.size=w1.heap.size:=qP;have hbb:=(hb.trans (oo (enc:=encStr) (w:=w1) (m:=q) (d:=((Sy.bl l).mergeSort fun x y=>decide (x≤y)).toArray) hg1))
   refine⟨h1,⟨by rw[hsz];exact hn,hrd.2.1,.inr ⟨g,rfl,hg1,?_,hrd.1,hrd.2.1,?_⟩⟩,?_⟩
   ·rw[h2,Sort.size_grow,hz];omega
   ·rw[h2];exact holds_grow (holds_putRow encStr (Sort.ahead w1 q) g 0 (Sy.bl l).toArray _ (oq hH) sm) os (by rw[hz];exact hg2)
   ·rw[h2];exact hbb.trans ((ui os).mono hbb.size)⟩
 clear hw hv;go_enter func195,ntmps195;go_wp2_with (first
  |(go_at_call 243;refine CO.1.mono ?_;rintro e w1 ⟨A2,n2,c2,rfl,ho,hb⟩;have O:=Aj ho;have B:=Aj hb;clear ho hb)
  |(go_at_call 244;refine(SO.1 w1 A2 n2 c2 O.1 B.1).mono ?_;rintro e w2 ⟨rfl,hr,hb⟩;have R:=Aj hr;have B2:=Aj hb;clear hr hb))
 go_ret;exact⟨A2,n2,c2,rfl,R.1,B2.1⟩
theorem JP (A n c l w) (hv:bK w w.heap.size A n c l) (hn:n≤1000000):
  Calls prog 141 #[.slice A n c] w fun r w'=>∃A2 n2 c2 out,r= .returned (.slice A2 n2 c2)∧Sy.gD l out∧bK w' w'.heap.size A2 n2 c2 out∧Below w.heap.size w w':=by
 have SR:=Aj (F9 w.heap.size A n c l (w.alloc (.cells #[.slice A n c] 134)) (Bd w _ _) ((hv.alloc Ai _).more sm) hn);have hln:=hv.len;have CS:Kept (∀(w1:World) A2 n2 c2,qc (w.alloc (.cells #[.slice A n c] 134)) w1 A2 n2 c2 ((Sy.bl l).mergeSort fun x y=>decide (x≤y))→Below w.heap.size w w1→Calls prog 194 #[.slice A2 n2 c2] w1 fun e w'=>∃A3 n3 c3 out,e= .returned (.slice A3 n3 c3)∧Sy.gD l out∧bK w' w'.heap.size A3 n3 c3 out∧Below w.heap.size w w'):=⟨by
  rintro w1 A2 n2 c2 ⟨hs,hcm,hr⟩ hb;have hsz:((Sy.bl l).mergeSort fun x y=>decide (x≤y)).length=l.length:=by rw[List.length_mergeSort,Sy.zg]
  rcases mM n2 with h0|h0
  ·subst h0;obtain rfl:l=[]:=nL om;refine(Any.slices_Compact_string_empty Tryz.compS A2 c2 w1).mono ?_;rintro e w' ⟨h1,h2⟩;exact⟨A2,0,c2,[],h1,⟨List.Pairwise.nil,fun s=>Iff.rfl⟩,Rd.nil _ _ 1 c2 A2 hcm,by rw[h2];exact hb⟩
  ·rcases hr with hr|⟨g,rfl,hg1,hg2,hc1,hc2,hH⟩
   ·omega
   ·have iT:=Any.slices_Compact_string Tryz.compS g 0 c2 ((Sy.bl l).mergeSort fun x y=>decide (x≤y)) w1 hH (by rw[hsz];omega) (by rw[←hs];exact hc1)
    change Calls prog 194 _ _ _ at iT
    rw[←hs]at iT;refine iT.mono ?_;rintro e w' ⟨h1,q,h2⟩;have htl:(Sy.rA l).length≤n2:=by rw[hs];exact Lib.compact_length_le _
    have hz:w'.heap.size=w1.heap.size:=by rw[h2];exact qP
    refine⟨_,_,_,(Sy.rA l).map Sy.qb,h1,Sy.RS l,?_,?_⟩
    ·have hh:=holds_putRow encStr (Sort.ahead w1 q) g 0 _ (Lib.compact ((Sy.bl l).mergeSort fun x y=>decide (x≤y))++List.replicate (n2-(Lib.compact ((Sy.bl l).mergeSort fun x y=>decide (x≤y))).length) []).toArray (oq hH) (by
      have:=htl;unfold Sy.rA at this;simp only[Cg,La,Eu];omega)
     rw[←h2]at hh;have:=Oi (B:=w'.heap.size) (c:=c2) (k:=(Sy.rA l).length) (n:=(Sy.rA l).length) (by rw[hz];exact hg2) om hc2 (by simp[Sy.rA]) rfl hh;have e2:((Lib.compact ((Sy.bl l).mergeSort fun x y=>decide (x≤y))++List.replicate (n2-(Lib.compact ((Sy.bl l).mergeSort fun x y=>decide (x≤y))).length) []).toArray.toList.take (Sy.rA l).length)=Sy.rA l:=by
      unfold Sy.rA;simp
     rw[e2]at this;exact this
    ·rw[h2];exact hb.trans (oo (by simp at hg1;omega))⟩
 clear hv hln;go_enter func141,ntmps141;go_wp2_with (first
  |(go_at_call 196;refine(F8 A n c w).mono ?_;rintro e w1 ⟨rfl,rfl⟩)
  |(go_at_call 195;refine SR.1.mono ?_;rintro e w2 ⟨A2,n2,c2,rfl,hr,hb⟩;have R:=Aj hr;have B:Kept (Below w.heap.size w w2):=⟨((Ae _ w).alloc Ai _).trans (hb.mono sm)⟩;clear hr hb)
  |(go_at_call 194;refine(CS.1 w2 A2 n2 c2 R.1 B.1).mono ?_;rintro e w3 ⟨A3,n3,c3,out,rfl,ht,hr,hb⟩;have T:=Aj ht;have R3:=Aj hr;have B3:=Aj hb;clear ht hr hb))
 go_ret;exact⟨A3,n3,c3,out,rfl,T.1,R3.1,B3.1⟩
end
end
section
section
open Go.RowKit Go.Shelf
namespace Sy
def fH (l:List UInt8) (a:Nat) (e:Int):ByteArray×Nat×Int:=(qb (Wr.string l a e 65535).1,(Wr.string l a e 65535).2)
theorem zi (l a m):Wr.string l a 0 m=if(Wr.aA l (Vi.get l (a:Int)) m).2.2≠0 then([],a,(Wr.aA l (Vi.get l (a:Int)) m).2.2)else((Wr.aA l (Vi.get l (a:Int)) m).1,(Wr.aA l (Vi.get l (a:Int)) m).2.1.toNat,0):=by
 conv=>lhs;unfold Wr.string
 exact Ng sm
theorem nA (l x k):Wr.aA l (x,k,0) 65535=if(65535:Int)< (x:Int)then([],0,7)else if(l.length:Int)-k< (x:Int)then([],0,3)else((l.drop k.toNat).take x,k+(x:Int),0):=by
 unfold Wr.aA;simp
theorem kZ (l x e k) (he:e≠0):Wr.aA l (x,k,e) 65535=([],0,(e:Int)):=by
 unfold Wr.aA;exact Ps0 he
theorem lg:Rc.Good fH mi (fun s=>s.size≤65535) where
 canon:=fun l a s a' ha h=>by
  unfold fH Wr.string at h;rw[Ng sm]at h;split at h
  ·rename_i h1
   simp only[az]at h;exact absurd h.2.2 h1
  ·rename_i h1
   have h1':(Wr.aA l (Vi.get l (a:Int)) 65535).2.2=0:=by simpa using h1
   have hc:=Vi.xk (l:=l) (a:=a) (x:=(Vi.get l (a:Int)).1) (t:=(Vi.get l (a:Int)).2.1);generalize Vi.get l (a:Int)=G at*;obtain⟨x,k,e⟩:=G;simp only[]at hc h1' h;unfold Wr.aA at h1' h;simp only[]at h1' h;by_cases he:e=0
   ·subst he;obtain⟨c1,c2,c3⟩:=hc rfl;simp only[ne_eq,BR,Eg]at h1' h;by_cases h3:(65535:Int)<0∨(65535:Int)< (x:Int)
    ·rw[Ps0 h3]at h1';cases h1'
    ·rw[Ng h3]at h1' h;by_cases h4:(l.length:Int)-k< (x:Int)
     ·rw[Ps0 h4]at h1';cases h1'
     ·rw[Ng h4]at h;simp only[az]at h;obtain⟨h5,h6,-⟩:=h;have hk:0≤k:=om;have hl:((l.drop k.toNat).take x).length=x:=by rw[oV,mg];omega
      have hs:s.data.toList=(l.drop k.toNat).take x:=by rw[←h5];simp[qb]
      have hsz:s.size=x:=by rw[←hl,←hs];simp
      refine⟨om,?_,om,om⟩;have d1:=Rc.ny (l:=l) (a:=a) (b:=k.toNat) om;have d2:=Rc.ny (l:=l) (a:=k.toNat) (b:=a') om;rw[show a'-k.toNat=x from om]at d2;rw[c1]at d1;unfold mi Wr.str;rw[hs,hl,Af,←d2];exact d1
   ·rw[Ps0 (by simp;exact he)]at h1';simp only[]at h1';exact absurd (by exact_mod_cast h1') he
 fwd:=fun p s r hs=>by
  have hd:s.data.toList.length=s.size:=sm;have h:=Wr.Jb p r s.data.toList 65535 om (by rw[hd];omega);rw[Af]at h;unfold fH mi;rw[h];simp only[];rw[uh]
 app:=fun l m a ha h=>by
  unfold fH at h⊢;rw[zi]at h;rw[zi,zi];have hn:(Vi.get l (a:Int)).2.2≠3:=fun e3=>by
   apply h;have:Wr.aA l (Vi.get l (a:Int)) 65535=([],0,3):=by
    generalize Vi.get l (a:Int)=G at*;obtain⟨x,k,e⟩:=G;have e3':e=3:=e3;subst e3';exact kZ l x 3 k Ah
   rw[this];rfl
  rw[Vi.Lv m l a ha hn];have hto:∀x k,Vi.get l (a:Int)=(x,k,0)→(a:Int)<k∧k≤(l.length:Int):=fun x k h=>by have:=Vi.jc h;omega
  generalize Vi.get l (a:Int)=G at*;obtain⟨x,k,e⟩:=G;by_cases he:e=0
  ·subst he;obtain⟨t1,t2⟩:=hto x k rfl;rw[nA]at h;rw[nA,nA];by_cases h3:(65535:Int)< (x:Int)
   ·rw[Ps0 h3,Ps0 h3]
   ·rw[Ng h3]at h⊢;rw[Ng h3];by_cases h4:(l.length:Int)-k< (x:Int)
    ·rw[Ps0 h4]at h;exact absurd rfl h
    ·rw[Ng h4,Ng (show¬((l++m).length:Int)-k< (x:Int)by rw[La];omega),VJ l m _ _ om]
  ·rw[kZ _ x e k he,kZ _ x e k he]
 bad:=⟨qb [],fun l a e he=>by unfold fH Wr.string;rw[Ps0 he]⟩
 pos:=fun s _=>by unfold mi Wr.str;have:=Vi.dh s.data.toList.length;rw[La];omega
def zk (acc:List ByteArray) (s:ByteArray):Bool:=match acc.getLast? with|none=>true|some t=>St.lt t s
def dl (rd:Nat→Int→ByteArray×Nat×Int):Nat→List ByteArray→Nat→List ByteArray×Nat×Int
 |0,acc,a=>(acc,a,0)
 |n+1,acc,a=>if(rd a 0).2.2≠0 then([],(rd a 0).2.1,(rd a 0).2.2)else if zk acc (rd a 0).1=false then([],(rd a 0).2.1,16)else dl rd n (acc++[(rd a 0).1]) (rd a 0).2.1
def dec (l:List UInt8):List ByteArray×Int:=
 if(Rc.cnt l 0 0).2.2≠0 then([],(Rc.cnt l 0 0).2.2)else
 if(dl (fH (l.drop (Rc.cnt l 0 0).2.1)) (Rc.cnt l 0 0).1 [] 0).2.2≠0 then([],(dl (fH (l.drop (Rc.cnt l 0 0).2.1)) (Rc.cnt l 0 0).1 [] 0).2.2)else
 if(dl (fH (l.drop (Rc.cnt l 0 0).2.1)) (Rc.cnt l 0 0).1 [] 0).2.1< (l.drop (Rc.cnt l 0 0).2.1).length then([],4)else((dl (fH (l.drop (Rc.cnt l 0 0).2.1)) (Rc.cnt l 0 0).1 [] 0).1,0)
end Sy
end
end
section
section
open Go.RowKit Go.Shelf
namespace Sy
section
variable {rd:Nat→Int→ByteArray×Nat×Int}
theorem Z9 (n acc a) (hn:0<n) (h:(rd a 0).2.2≠0):dl rd n acc a=([],(rd a 0).2.1,(rd a 0).2.2):=by
 obtain⟨m,rfl⟩:∃m,n=m+1:=⟨n-1,om⟩
 unfold dl;exact Ps0 h
theorem aaa (n acc a) (hn:0<n) (h:(rd a 0).2.2=0) (ho:zk acc (rd a 0).1=false):dl rd n acc a=([],(rd a 0).2.1,16):=by
 obtain⟨m,rfl⟩:∃m,n=m+1:=⟨n-1,om⟩
 unfold dl;rw[Ng (by simp[h]),Ps0 ho]
theorem YO (n acc a) (hn:0<n) (h:(rd a 0).2.2=0) (ho:zk acc (rd a 0).1=true):dl rd n acc a=dl rd (n-1) (acc++[(rd a 0).1]) (rd a 0).2.1:=by
 obtain⟨m,rfl⟩:∃m,n=m+1:=⟨n-1,om⟩
 rw[Bz]
 conv=>lhs;unfold dl
 rw[Ng (by simp[h]),Ng (by simp[ho])]
theorem Gb {acc s} (h:iO acc):zk acc s=true↔iO (acc++[s]):=by
 unfold iO at*;rw[Cr];unfold zk;rcases List.eq_nil_or_concat acc with rfl|⟨pre,t,rfl⟩
 ·simp
 ·rw[DL]at*;have hl:(pre++[t]).getLast? =some t:=sm;rw[hl];constructor
  ·intro hts;refine⟨h,List.pairwise_singleton _ _,fun x hx y hy=>?_⟩;rw[gJ.1 hy];rw[Cr]at h;rcases je.1 hx with hx|hx
   ·exact St.trans (h.2.2 x hx t sm) hts
   ·rw[gJ.1 hx];exact hts
  ·rintro⟨_,_,h3⟩;exact h3 t sm s sm
theorem RX:∀(n) (acc) (a a') (L),iO acc→dl rd n acc a=(L,a',0)→Rc.ko rd n acc a 0=(L,a',0)∧iO L
 |0,acc,a,a',L,hs,h=>by
  unfold dl at h;simp only[az,BJ]at h;obtain⟨rfl,rfl⟩:=h;exact⟨rfl,hs⟩
 |n+1,acc,a,a',L,hs,h=>by
  unfold dl at h;split at h
  ·rename_i h1
   simp only[az]at h;exact absurd h.2.2 h1
  ·rename_i h1
   split at h
   ·simp at h
   ·rename_i h2
    have h1':(rd a 0).2.2=0:=by simpa using h1
    have h2':zk acc (rd a 0).1=true:=by simpa using h2
    obtain⟨i1,i2⟩:=RX n _ _ _ _ ((Gb hs).1 h2') h;refine⟨?_,i2⟩;have:=Rc.jd rd (n+1) acc a 0 om h1';rw[this];exact i1
theorem Me:∀(n) (acc) (a a') (L),Rc.ko rd n acc a 0=(L,a',0)→acc<+:L
 |0,acc,a,a',L,h=>by
  rw[Rc.dE]at h;simp only[az,BJ]at h;rw[h.1];exact List.prefix_refl _
 |n+1,acc,a,a',L,h=>by
  by_cases h1:(rd a 0).2.2=0
  ·rw[Rc.jd rd (n+1) acc a 0 om h1]at h;exact(List.prefix_append acc _).trans (Me n _ _ _ _ h)
  ·rw[Rc.iV rd (n+1) acc a 0 om h1]at h;simp only[az]at h;exact absurd h.2.2 h1
theorem RZ:∀(n) (acc) (a a') (L),iO L→Rc.ko rd n acc a 0=(L,a',0)→dl rd n acc a=(L,a',0)
 |0,acc,a,a',L,_,h=>h
 |n+1,acc,a,a',L,hs,h=>by
  by_cases h1:(rd a 0).2.2=0
  ·rw[Rc.jd rd (n+1) acc a 0 om h1]at h;have hp:=Me n _ _ _ _ h;have hs1:iO (acc++[(rd a 0).1]):=hs.sublist hp.sublist;have hs2:iO acc:=hs1.sublist (List.sublist_append_left _ _);rw[YO (n+1) acc a om h1 ((Gb hs2).2 hs1)];exact RZ n _ _ _ _ hs h
  ·rw[Rc.iV rd (n+1) acc a 0 om h1]at h;simp only[az]at h;exact absurd h.2.2 h1
end
theorem pY {l T} (h:dec l=(T,0)):iO T∧aM T=l∧T.length≤l.length∧∀s∈T,s.size≤65535:=by
 unfold dec at h;split at h
 ·rename_i h1
  simp only[az]at h;exact absurd h.2 h1
 ·rename_i h1
  have h1':(Rc.cnt l 0 0).2.2=0:=by simpa using h1
  obtain⟨u1,u2⟩:=Rc.JM (show Rc.cnt l 0 0=((Rc.cnt l 0 0).1,(Rc.cnt l 0 0).2.1,0)from Bw rfl (Bw rfl h1'));obtain⟨c1,c2,c3,c4⟩:=Rc.aV.canon l 0 _ _ (bH _) u1;generalize Rc.cnt l 0 0=C at*;obtain⟨n,t,e⟩:=C;simp only[]at h u1 u2 c1 c2 c3 c4;split at h
  ·rename_i h2
   simp only[az]at h;exact absurd h.2 h2
  ·rename_i h2
   split at h
   ·simp at h
   ·rename_i h3
    simp only[az,BJ]at h;have h2':(dl (fH (l.drop t)) n [] 0).2.2=0:=by simpa using h2
    obtain⟨d1,d2⟩:=RX n [] 0 (dl (fH (l.drop t)) n [] 0).2.1 T List.Pairwise.nil (Bw h (Bw rfl h2'));generalize (dl (fH (l.drop t)) n [] 0).2.1=a' at*;obtain⟨ys,e1,e2,e3,e4,e5,e6⟩:=Rc.pV lg n (l.drop t) [] 0 T a' (bH _) d1;have e1':ys=T:=by rw[e1];rfl
    subst e1';have e6':a'=(l.drop t).length:=om;rw[Bp,ru (Nat.le_of_eq e6'.symm),Bh]at e4;have hfl:=Rc.aY lg ys e3;have hll:aM ys=l:=by
     unfold aM;rw[←e4,e2];have:=c2;rw[Bp]at this;exact this.symm
    refine⟨d2,hll,?_,e3⟩;rw[←e4,mg]at hfl;omega
theorem bU {T} (hS:iO T) (hl:T.length≤Rc.mx) (hsz:∀s∈T,s.size≤65535):dec (aM T)=(T,0):=by
 have hg:=Rc.rY lg;have h:=hg.fwd [] T [] ⟨hl,hsz⟩;rw[Bh,AA]at h;simp only[Ba,cK]at h;have hu:=Rc.aV.fwd [] T.length (T.flatMap mi) hl;have hfl:=Rc.aY lg T hsz;have hc:Rc.cnt (aM T) 0 0=(T.length,(Vi.enc T.length).length,0):=by
  unfold Rc.cnt aM;simp only[AA,Ba,cK]at hu;rw[hu];simp only[];rw[Ng sm,Ng (by rw[La];omega)]
 have hd:(aM T).drop (Vi.enc T.length).length=T.flatMap mi:=by unfold aM;rw[Dt]
 have hf:=Rc.zb lg T (T.flatMap mi) [] 0 [] hsz sm (bH _);rw[AA,cK]at hf;have hdl:=RZ T.length [] 0 _ T hS hf;unfold dec;rw[hc];simp only[hd,hdl];simp
end Sy
end
end
section
section
open Go.RowKit Go.Shelf
theorem Vi.Mf:∀(l) (i x),i≤9→x<128^i→(Vi.fP l i x).1<18446744073709551616
 |[],_,_,_,_=>by simp[Vi.fP]
 |c::l,i,x,hi,hx=>by
  rw[Vi.bZ];have hc:=c.toNat_lt;split
  ·simp
  ·rename_i h1
   split
   ·simp
   ·split
    ·rename_i h3
     show x+c.toNat%128*128^i<_;rw[kS h3];by_cases h9:i=9
     ·subst h9;have:c.toNat≤1:=om;have e:(128:Nat)^9=9223372036854775808:=Ah;rw[e]at hx⊢;have:c.toNat*9223372036854775808≤1*9223372036854775808:=CJ _ this;omega
     ·have h8:i+1≤9:=by omega
      have e1:(128:Nat)^ (i+1)≤128^9:=kR Ah h8;have e2:(128:Nat)^9=9223372036854775808:=Ah;have e3:c.toNat*128^i≤127*128^i:=CJ _ om;rw[Dc]at e1;omega
    ·rename_i h3
     have h8:i+1≤9:=by
      have:i≠9:=fun e=>om
      omega
     refine Vi.Mf l (i+1) _ h8 ?_;have e3:c.toNat%128*128^i≤127*128^i:=CJ _ om;rw[Dc];omega
theorem Vi.R8 (l a):(Vi.get l a).1<18446744073709551616:=by
 unfold Vi.get;split
 ·simp
 ·simp only[];split
  ·exact Vi.Mf _ 0 0 om sm
  ·simp
namespace Sy
def Ws (l:List UInt8) (n:Nat):List ByteArray×Int:=
 if Wr.fin l (dl (fH l) n [] 0).2.1 (dl (fH l) n [] 0).2.2≠0 then([],Wr.fin l (dl (fH l) n [] 0).2.1 (dl (fH l) n [] 0).2.2)else((dl (fH l) n [] 0).1,0)
theorem Wt {l x e t} (hg:Vi.get l (0:Int)=(x,t,e)):
  dec l=if e≠0 then([],(e:Int))else if(l.length:Int)-t< (x:Int)then([],3)else Ws (l.drop t.toNat) x:=by
 have hb:=Vi.R8 l 0;have hu:Wr.uint l 0 0 Rc.mx=if e≠0 then(0,0,(e:Int))else(x,t.toNat,0):=by
  unfold Wr.uint;rw[Ng sm];have:Vi.get l ((0:Nat):Int)=(x,t,e):=hg;rw[this];simp only[];by_cases he:e=0
  ·have hm:¬Rc.mx<x:=by rw[hg]at hb;unfold Rc.mx;simp only[]at hb;omega
   subst he;simp[hm]
  ·rw[Ps0 he,Ps0 he]
 by_cases he:e=0
 ·subst he;have hto:(0:Int)<t∧t≤l.length:=by have:=Vi.jc (a:=0) hg;omega
  rw[Ng sm]at hu⊢;have hc:Rc.cnt l 0 0=if l.length-t.toNat<x then(0,t.toNat,3)else(x,t.toNat,0):=by
   unfold Rc.cnt;rw[hu];simp
  by_cases hx:l.length-t.toNat<x
  ·rw[Ps0 hx]at hc;rw[Ps0 om];unfold dec;rw[hc];simp
  ·rw[Ng hx]at hc;rw[Ng om];unfold dec Ws Wr.fin;rw[hc];generalize l.drop t.toNat=l2;simp only[ne_eq,BR,Eg];by_cases h2:(dl (fH l2) x [] 0).2.2=0
   ·simp only[h2,BR,Eg];by_cases h3:(dl (fH l2) x [] 0).2.1<l2.length
    ·simp[h3]
    ·simp[h3]
   ·simp[h2]
 ·rw[Ps0 he]at hu⊢;have hc:Rc.cnt l 0 0=(0,0,(e:Int)):=by
   unfold Rc.cnt;rw[hu];simp[he]
  unfold dec;rw[hc];simp[he]
end Sy
theorem aT.past {w w' base n c p A l} (h:aT w base A n c l) (hg:w.grownBy w' (some p)) (hp:p<base):aT w' base A n c l:=
 ag h hg (by
  rcases hA:ab A with _|g
  ·exact .inl rfl
  ·refine .inr fun e=>?_
   have:=(ae h g hA).1;have:=Oj e;omega)
theorem bK.nil (w B):bK w B none 0 0 []:=Rd.nil w B 1 0 none (by unfold maxLen;omega)
theorem Sy.Wu {acc s k} (h:k=acc.length) (hk:k-1<acc.length):Sy.zk acc s=St.lt acc[k-1] s:=by
 subst h;unfold Sy.zk;rw[List.getLast?_eq_getElem?,ja hk]
theorem Gc (A n c l w) (hv:bf w w.heap.size A n c l) (hl:n≤80000000000):
  Calls prog 68 #[.slice A n c] w fun r w'=>∃A2 n2 c2,r= .returned (.tuple #[.slice A2 n2 c2,.int .i64 (Sy.dec l).2])∧bK w' w'.heap.size A2 n2 c2 (Sy.dec l).1∧Below w.heap.size w w':=by
 have hlc:=hv.1;have hcm:=hv.2.1;unfold maxLen at hcm;have HN:=Aj hv.len;have V:=Aj hv;obtain⟨M,hM⟩:∃M,M=Sy.dec l:=⟨_,rfl⟩
 rw[←hM];obtain⟨G,hG⟩:∃G,Vi.get l (0:Int)=G:=⟨_,rfl⟩
 have GA:=Aj (rP A n c w.heap.size l 0 w hv om om);have hbd:=Vi.R8 l 0;have hto:=fun x t (h:G=(x,t,0))=>Vi.jc (a:=0) (hG.trans h)
 rw[hG]at GA hbd;obtain⟨x,t,e⟩:=G;have HM:=Aj (hM.trans (Sy.Wt hG));unfold I5 at GA;simp only[]at GA hbd;clear hv hM hG;by_cases he:e=0
 ·subst he;have ht:=hto x t rfl;have ht1:0<t:=om;have ht2:t≤(n:Int):=by have:=HN.1;omega
  have HM:=Aj (HM.1.trans (Ng sm));clear hto ht;obtain⟨q,rfl⟩:=CB (show 0≤t from om);have hq1:0<q:=om;have hq2:q≤n:=om;have ZN:IntKind.u64.wrap ((n:Int)-(q:Int))=(n:Int)-(q:Int):=by simp[IntKind.wrap,IntKind.bits,IntKind.signed];omega
  by_cases hx:(n:Int)-(q:Int)< (x:Int)
  ·have dz:Kept (M=([],3)):=⟨by rw[HM.1,Ps0 (by rw[←HN.1];exact hx)]⟩
   clear hbd;go_enter func68,ntmps68;go_wp2_with (go_at_call 118;refine GA.1.mono ?_;rintro r w1 ⟨rfl,rfl⟩);go_ret2;refine⟨none,0,0,?_,?_,Ae _ _⟩
   ·rw[dz.1];rfl
   ·rw[dz.1];exact bK.nil _ _
  ·have hxn:x≤n:=by omega
   have dz:Kept (M=Sy.Ws (l.drop q) x):=⟨by rw[HM.1,Ng (by rw[←HN.1];exact hx),kz]⟩
   have hll:Kept ((l.drop q).length=n-q):=⟨by rw[mg,HN.1]⟩
   have RD:=Aj (V.1.drop hq2);generalize l.drop q=l2 at*;obtain⟨X,hX⟩:∃X,X=Sy.dl (Sy.fH l2) x [] 0:=⟨_,rfl⟩
   have HM3:Kept (M=if Wr.fin l2 X.2.1 X.2.2≠0 then([],Wr.fin l2 X.2.1 X.2.2)else(X.1,0)):=⟨by rw[dz.1,Sy.Ws,hX]⟩
   have HX:=Aj hX;have hxx:IntKind.i64.wrap (x:Int)=(x:Int):=by rw[Bq];omega
   clear hbd hX HM dz;by_cases hc:c=q
   ·have RD2:=Aj RD.1;rw[Ps0 hc]at RD2;subst hc;simp only[Dy,show n-c=0 from om]at RD2;clear RD;go_enter func68,ntmps68;go_upto_region 9 with(first
     |(go_at_call 118;refine GA.1.mono ?_;rintro r w1 ⟨rfl,rfl⟩)
     |(go_at_call 110;refine(dN _ _ _ w.heap.size l2 w RD2.1 Ai om).mono ?_;rintro r w1 ⟨p,rfl,hp1,hp2,hr1,hb1⟩;have D1:=Aj hr1;have B1:=Aj hb1;clear hr1 hb1))
    go_loopw [8,37] (fun o i wr=>∃k:Nat,k≤x∧i= .int .i64 k∧∃A2 m c2 acc a2,o= .slice A2 m c2∧aT wr w1.heap.size A2 m c2 acc∧aK wr p l2 a2 0∧Kept (m=k∧X=Sy.dl (Sy.fH l2) (x-k) acc a2)∧w1.grownBy wr (some p)) (fun _ i _=>x-(intOf i).toNat)
    case atStart=>exact⟨0,om,rfl,none,0,0,[],0,rfl,aT.nil _ _,D1.1,⟨rfl,HX.1⟩,Dn _ _⟩
    case round=>
     clear D1;obtain⟨k,hk,rfl,A2,m,c2,acc,a2,rfl,ho,hd,hm,hg⟩:=hrel;have hm1:=hm.1.1;have hm2:=hm.1.2;have hacc:=ho.len;have hz:=hg.size;by_cases hlt:k<x
     ·exact absurd hlt om
     ·have hX2:X=(acc,a2,0):=by rw[hm2,show x-k=0 from om];rfl
      have JQ:Kept (M=if Wr.fin l2 a2 0≠0 then([],Wr.fin l2 a2 0)else(acc,0)):=⟨by rw[HM3.1,hX2]⟩
      have EN:=Aj (gX p a2 l2 0 wr hd);have O:=Aj ho;have BB:=Aj (fD B1.1 hg hp1 hp2);generalize Wr.fin l2 a2 0=f at*;clear hX2 ho hd hm hg hm1 hm2 hacc;by_cases hf:f=0
      ·have R9:Kept (M=(acc,0)):=⟨by rw[JQ.1,Ng (by simpa using hf)]⟩
       subst hf;clear JQ;go_wp2_with (go_at_call 117;refine EN.1.mono ?_;rintro r w5 ⟨rfl,rfl⟩);go_ret2;refine⟨A2,m,c2,?_,?_,BB.1⟩
       ·rw[R9.1];rfl
       ·rw[R9.1];exact O.1.rd
      ·have R9:Kept (M=([],f)):=⟨by rw[JQ.1,Ps0 hf]⟩
       have Qe:(f==0)=false:=by simpa using hf
       clear JQ;go_wp2_with (go_at_call 117;refine EN.1.mono ?_;rintro r w5 ⟨rfl,rfl⟩);go_ret2;refine⟨none,0,0,?_,?_,BB.1⟩
       ·rw[R9.1];rfl
       ·rw[R9.1];exact bK.nil _ _
   ·have RD2:=Aj RD.1;rw[Ng hc]at RD2;clear RD;go_enter func68,ntmps68;go_upto_region 9 with(first
     |(go_at_call 118;refine GA.1.mono ?_;rintro r w1 ⟨rfl,rfl⟩)
     |(go_at_call 110;refine(dN _ _ _ w.heap.size l2 w RD2.1 Ai om).mono ?_;rintro r w1 ⟨p,rfl,hp1,hp2,hr1,hb1⟩;have D1:=Aj hr1;have B1:=Aj hb1;clear hr1 hb1))
    go_loopw [8,37] (fun o i wr=>∃k:Nat,k≤x∧i= .int .i64 k∧∃A2 m c2 acc a2,o= .slice A2 m c2∧aT wr w1.heap.size A2 m c2 acc∧aK wr p l2 a2 0∧Kept (m=k∧X=Sy.dl (Sy.fH l2) (x-k) acc a2)∧w1.grownBy wr (some p)) (fun _ i _=>x-(intOf i).toNat)
    case atStart=>exact⟨0,om,rfl,none,0,0,[],0,rfl,aT.nil _ _,D1.1,⟨rfl,HX.1⟩,Dn _ _⟩
    case round=>
     clear D1;obtain⟨k,hk,rfl,A2,m,c2,acc,a2,rfl,ho,hd,hm,hg⟩:=hrel;have hm1:=hm.1.1;have hm2:=hm.1.2;have hacc:=ho.len;have hz:=hg.size;by_cases hlt:k<x
     ·have ST:Kept (Calls prog 119 #[.pointer (some ⟨p,0,none⟩),.int .i64 65535] wr fun r w'=>r= .returned (.string (Sy.fH l2 a2 0).1)∧aK w' p l2 (Sy.fH l2 a2 0).2.1 (Sy.fH l2 a2 0).2.2∧wr.grownBy w' (some p)):=⟨I9 p a2 l2 0 65535 wr hd om⟩
      have hbad:=Aj (fun h=>hm2.trans (Sy.Z9 (rd:=Sy.fH l2) (x-k) acc a2 om h));have kG:=Aj (fun h h'=>hm2.trans (Sy.aaa (rd:=Sy.fH l2) (x-k) acc a2 om h h'));have hok:=Aj (fun h h'=>hm2.trans (Sy.YO (rd:=Sy.fH l2) (x-k) acc a2 om h h'));generalize Sy.fH l2 a2 0=Y at*;obtain⟨s,a3,e3⟩:=Y;simp only[]at ST hbad kG hok;have O:=Aj ho;have Gr0:=Aj hg;have U8:=Aj hm1;have hm6:m≤80000000000:=om;by_cases kJ:e3=0
      ·subst kJ;rcases mM k with h0|h0
       ·have hnil:acc=[]:=nL om;have NX:=Aj (hok.1 rfl (by rw[hnil];rfl));subst h0;clear hbad kG hok ho hd hm hg hm1 hm2 hacc hnil;go_wp2_with (first
         |(go_at_call 119;refine ST.1.mono ?_;rintro r w2 ⟨rfl,hr,hg⟩;have D2:=Aj hr;have O2:=Aj (aT.past O.1 hg hp2);have G2:=Aj (Gr0.1.trans hg);clear hr hg ST)
         |(go_at_call 120;refine(ay p a3 l2 0 _ D2.1).mono ?_;rintro r w9 ⟨rfl,rfl⟩)
         |(at_builtin;refine gI rfl (.tmp 65) (.tmp 67) rfl w1.heap.size A2 m c2 acc rfl (Oa O2.1 _) (w2.heap.size+1) _ _ _ [s] rfl (bK.one w2 s) om (by have:=G2.1.size;simp;omega) ?_;intro A4 c4 w4 av af cO;have O4:=Aj av;have B4:Kept (Below w1.heap.size w2 w4):=⟨((Ae w1.heap.size w2).alloc G2.1.size _).grown af (by have:=G2.1.size;simp;omega) (fun g e=>(ae O2.1 g e).1)⟩;have D4:=Aj (D2.1.below B4.1 hp2);have G4:=Aj (iA G2.1 B4.1);clear av af cO))
        go_roundw
        case rel=>exact⟨0+1,om,by go_num,A4,_,c4,_,a3,rfl,O4.1,D4.1,⟨by rw[U8.1],by rw[NX.1,Nat.sub_sub]⟩,G4.1⟩
        case measure=>simp[intOf];omega
       ·have hk1:k-1<acc.length:=by omega
        obtain⟨g,rfl,hg1,hg2⟩:=ho.pos om;have hoB:Sy.zk acc s=St.lt acc[k-1] s:=Sy.Wu om hk1;have ek:(k:Int)-1=((k-1:Nat):Int):=om;have ZO:((k-1:Nat):Int)< (m:Int):=om;have ew:IntKind.i64.wrap ((k-1:Nat):Int)=((k-1:Nat):Int):=by rw[Bq];omega
        have hkp:(0:Int)< (k:Int):=om;have RJ:Op.bytesLess acc[k-1].toList s.toList=St.lt acc[k-1] s:=rfl;by_cases hxy:St.lt acc[k-1] s=true
        ·have NX:=Aj (hok.1 rfl (by rw[hoB];exact hxy));rw[hxy]at RJ;clear hbad kG hok ho hd hm hg hm1 hm2 hacc hoB hxy;go_wp2_with (first
          |(go_at_call 119;refine ST.1.mono ?_;rintro r w2 ⟨rfl,hr,hg⟩;have D2:=Aj hr;have O2:=Aj (aT.past O.1 hg hp2);have G2:=Aj (Gr0.1.trans hg);obtain⟨y0,-⟩:=aT.at_ O2.1 hk1;clear hr hg ST)
          |(go_at_call 120;refine(ay p a3 l2 0 _ D2.1).mono ?_;rintro r w9 ⟨rfl,rfl⟩)
          |(at_builtin;refine gI rfl (.tmp 65) (.tmp 67) rfl w1.heap.size (some ⟨g,0,none⟩) m c2 acc rfl (Oa O2.1 _) (w2.heap.size+1) _ _ _ [s] rfl (bK.one w2 s) om (by have:=G2.1.size;simp;omega) ?_;intro A4 c4 w4 av af cO;have O4:=Aj av;have B4:Kept (Below w1.heap.size w2 w4):=⟨((Ae w1.heap.size w2).alloc G2.1.size _).grown af (by have:=G2.1.size;simp;omega) (fun g e=>(ae O2.1 g e).1)⟩;have D4:=Aj (D2.1.below B4.1 hp2);have G4:=Aj (iA G2.1 B4.1);clear av af cO))
         go_roundw
         case rel=>exact⟨k+1,om,by go_num,A4,_,c4,_,a3,rfl,O4.1,D4.1,⟨by rw[U8.1],by rw[NX.1,Nat.sub_sub]⟩,G4.1⟩
         case measure=>simp[intOf];omega
        ·have hxy':St.lt acc[k-1] s=false:=by simpa using hxy
         have JQ:Kept (M=([],16)):=⟨by rw[HM3.1,kG.1 rfl (by rw[hoB];exact hxy')];rfl⟩
         rw[hxy']at RJ;clear hbad kG hok ho hd hm hg hm1 hm2 hacc hoB hxy hxy';go_wp2_with (first
          |(go_at_call 119;refine ST.1.mono ?_;rintro r w2 ⟨rfl,hr,hg⟩;have D2:=Aj hr;have O2:=Aj (aT.past O.1 hg hp2);have G2:=Aj (Gr0.1.trans hg);obtain⟨y0,-⟩:=aT.at_ O2.1 hk1;clear hr hg ST)
          |(go_at_call 114;refine(dB p a3 l2 0 16 _ D2.1).mono ?_;rintro r w3 ⟨rfl,hr,hg⟩;rw[Ps0 rfl]at hr;have D3:=Aj hr;have G3:=Aj (G2.1.trans hg);clear hr hg)
          |(go_at_call 120;refine(ay p a3 l2 16 _ D3.1).mono ?_;rintro r w9 ⟨rfl,rfl⟩)
          |(go_at_call 120;refine(ay p a3 l2 0 _ D2.1).mono ?_;rintro r w9 ⟨rfl,rfl⟩))
         go_ret2;refine⟨none,0,0,?_,?_,fD B1.1 G3.1 hp1 hp2⟩
         ·rw[JQ.1];rfl
         ·rw[JQ.1];exact bK.nil _ _
      ·have JQ:Kept (M=([],e3)):=⟨by rw[HM3.1,hbad.1 kJ];unfold Wr.fin;simp[kJ]⟩
       have yo:(e3==0)=false:=by simpa using kJ
       clear hbad kG hok ho hd hm hg hm1 hm2 hacc;go_wp2_with (first
        |(go_at_call 119;refine ST.1.mono ?_;rintro r w2 ⟨rfl,hr,hg⟩;have D2:=Aj hr;have O2:=Aj (aT.past O.1 hg hp2);have G2:=Aj (Gr0.1.trans hg);clear hr hg ST)
        |(go_at_call 120;refine(ay p a3 l2 e3 _ D2.1).mono ?_;rintro r w9 ⟨rfl,rfl⟩))
       go_ret2;refine⟨none,0,0,?_,?_,fD B1.1 G2.1 hp1 hp2⟩
       ·rw[JQ.1];rfl
       ·rw[JQ.1];exact bK.nil _ _
     ·have hX2:X=(acc,a2,0):=by rw[hm2,show x-k=0 from om];rfl
      have JQ:Kept (M=if Wr.fin l2 a2 0≠0 then([],Wr.fin l2 a2 0)else(acc,0)):=⟨by rw[HM3.1,hX2]⟩
      have EN:=Aj (gX p a2 l2 0 wr hd);have O:=Aj ho;have BB:=Aj (fD B1.1 hg hp1 hp2);generalize Wr.fin l2 a2 0=f at*;clear hX2 ho hd hm hg hm1 hm2 hacc;by_cases hf:f=0
      ·have R9:Kept (M=(acc,0)):=⟨by rw[JQ.1,Ng (by simpa using hf)]⟩
       subst hf;clear JQ;go_wp2_with (go_at_call 117;refine EN.1.mono ?_;rintro r w5 ⟨rfl,rfl⟩);go_ret2;refine⟨A2,m,c2,?_,?_,BB.1⟩
       ·rw[R9.1];rfl
       ·rw[R9.1];exact O.1.rd
      ·have R9:Kept (M=([],f)):=⟨by rw[JQ.1,Ps0 hf]⟩
       have Qe:(f==0)=false:=by simpa using hf
       clear JQ;go_wp2_with (go_at_call 117;refine EN.1.mono ?_;rintro r w5 ⟨rfl,rfl⟩);go_ret2;refine⟨none,0,0,?_,?_,BB.1⟩
       ·rw[R9.1];rfl
       ·rw[R9.1];exact bK.nil _ _
 ·have yo:((e:Int)==0)=false:=by simp;omega
  have he2:¬(e:Int)=0:=om;have dz:Kept (M=([],(e:Int))):=⟨by rw[HM.1,Ps0 he]⟩
  clear hto hbd;go_enter func68,ntmps68;go_wp2_with (go_at_call 118;refine GA.1.mono ?_;rintro r w1 ⟨rfl,rfl⟩);go_ret2;refine⟨none,0,0,?_,?_,Ae _ _⟩
  ·rw[dz.1];rfl
  ·rw[dz.1];exact bK.nil _ _
end
end
namespace Ls
abbrev S (l:List Int):Prop:=l.Pairwise (· < ·)
def has (l:List Int) (x:Int):Bool:=l.any fun y=>y==x
def dif (a b:List Int):List Int:=a.filter fun x=>!has b x
def upto (n:Nat):List Int:=(List.range n).map fun i:Nat=>(i:Int)
def iN (a b:List Int):List (Int×Bool×Bool):=
 match a,b with
 |[],[]=>[]
 |x::a,[]=>(x,true,false)::iN a []
 |[],y::b=>(y,false,true)::iN [] b
 |x::a,y::b=>if x<y then(x,true,false)::iN a (y::b)else if y<x then(y,false,true)::iN (x::a) b else(x,true,true)::iN a b
termination_by a.length+b.length
def pick (ok:Bool→Bool→Bool) (a b:List Int):List Int:=((iN a b).filter fun p=>ok p.2.1 p.2.2).map (·.1)
theorem ext:∀{a b},S a→S b→(∀x,x∈a↔x∈b)→a=b
 |[],[],_,_,_=>rfl
 |[],y::b,_,_,h=>by have:=(h y).2 sm;simp at this
 |x::a,[],_,_,h=>by have:=(h x).1 sm;simp at this
 |x::a,y::b,ha,hb,h=>by
  rw[S,AQ]at ha hb;have hxy:x=y:=by
   have h1:=(h x).1 sm;have h2:=(h y).2 sm;simp only[eH]at h1 h2;rcases h1 with h1|h1
   ·exact h1
   ·rcases h2 with h2|h2
    ·exact h2.symm
    ·have:=ha.1 y h2;have:=hb.1 x h1;omega
  subst hxy
  congr 1
  refine ext ha.2 hb.2 fun z=>?_
  have hz:=h z;simp only[eH]at hz;constructor
  ·intro hza;have h1:=ha.1 z hza;rcases hz.1 (.inr hza)with h2|h2
   ·omega
   ·exact h2
  ·intro hzb;have h1:=hb.1 z hzb;rcases hz.2 (.inr hzb)with h2|h2
   ·omega
   ·exact h2
theorem iY:∀(n) (a b),a.length+b.length≤n→S a→S b→∀x f s,(x,f,s)∈iN a b↔(f=decide (x∈a)∧s=decide (x∈b)∧(x∈a∨x∈b))
 |n,[],[],_,_,_,x,f,s=>by simp[iN]
 |0,x::a,_,h,_,_,_,_,_=>by simp at h
 |0,[],y::b,h,_,_,_,_,_=>by simp at h
 |n+1,x::a,[],h,ha,hb,z,f,s=>by
  rw[S,AQ]at ha;have ih:=iY n a [] (by simp at h⊢;omega) ha.2 hb z f s;simp only[iN,eH,ih,az,List.not_mem_nil,decide_false,or_false];constructor
  ·rintro(⟨rfl,rfl,rfl⟩|⟨h1,h2,h3⟩)
   ·simp
   ·have hne:z≠x:=by have:=ha.1 z h3;omega
    simp[h1,h2,h3]
  ·rintro⟨h1,h2,h3⟩;rcases h3 with h3|h3
   ·left;subst h3;simp[h1,h2]
   ·right;have hne:z≠x:=by have:=ha.1 z h3;omega
    simp[h1,h2,h3]
 |n+1,[],y::b,h,ha,hb,z,f,s=>by
  rw[S,AQ]at hb;have ih:=iY n [] b (by simp at h⊢;omega) ha hb.2 z f s;simp only[iN,eH,ih,az,List.not_mem_nil,decide_false,false_or];constructor
  ·rintro(⟨rfl,rfl,rfl⟩|⟨h1,h2,h3⟩)
   ·simp
   ·simp[h1,h2,h3]
  ·rintro⟨h1,h2,h3⟩;rcases h3 with h3|h3
   ·left;subst h3;simp[h1,h2]
   ·right
    simp[h1,h2,h3]
 |n+1,x::a,y::b,h,ha,hb,z,f,s=>by
  have ha':=ha;have hb':=hb;rw[S,AQ]at ha hb;rw[iN];by_cases hxy:x<y
  ·have ih:=iY n a (y::b) (by simp at h⊢;omega) ha.2 hb' z f s;rw[Ps0 hxy,eH,ih];have hny:∀w,w∈y::b→x<w:=by
    intro w hw;rcases eH.1 hw with rfl|hw
    ·exact hxy
    ·have:=hb.1 w hw;omega
   simp only[az];constructor
   ·rintro(⟨rfl,rfl,rfl⟩|⟨h1,h2,h3⟩)
    ·have:¬z∈y::b:=fun hc=>by have:=hny z hc;omega
     simp[this]
    ·have hne:z≠x:=by
      rcases h3 with h3|h3
      ·have:=ha.1 z h3;omega
      ·have:=hny z h3;omega
     refine⟨by simp[h1,hne],h2,?_⟩;rcases h3 with h3|h3
     ·exact .inl (kH _ h3)
     ·exact .inr h3
   ·rintro⟨h1,h2,h3⟩;by_cases hz:z=x
    ·left
     subst hz;have:¬z∈y::b:=fun hc=>by have:=hny z hc;omega
     simp[h1,h2,this]
    ·right
     refine⟨by simp[h1,hz],h2,?_⟩;rcases h3 with h3|h3
     ·rcases eH.1 h3 with h4|h4
      ·exact absurd h4 hz
      ·exact .inl h4
     ·exact .inr h3
  ·rw[Ng hxy];by_cases hyx:y<x
   ·have ih:=iY n (x::a) b (by simp at h⊢;omega) ha' hb.2 z f s;rw[Ps0 hyx,eH,ih];have hnx:∀w,w∈x::a→y<w:=by
     intro w hw;rcases eH.1 hw with rfl|hw
     ·exact hyx
     ·have:=ha.1 w hw;omega
    simp only[az];constructor
    ·rintro(⟨rfl,rfl,rfl⟩|⟨h1,h2,h3⟩)
     ·have:¬z∈x::a:=fun hc=>by have:=hnx z hc;omega
      simp[this]
     ·have hne:z≠y:=by
       rcases h3 with h3|h3
       ·have:=hnx z h3;omega
       ·have:=hb.1 z h3;omega
      refine⟨h1,by simp[h2,hne],?_⟩;rcases h3 with h3|h3
      ·exact .inl h3
      ·exact .inr (kH _ h3)
    ·rintro⟨h1,h2,h3⟩;by_cases hz:z=y
     ·left
      subst hz;have:¬z∈x::a:=fun hc=>by have:=hnx z hc;omega
      simp[h1,h2,this]
     ·right
      refine⟨h1,by simp[h2,hz],?_⟩;rcases h3 with h3|h3
      ·exact .inl h3
      ·rcases eH.1 h3 with h4|h4
       ·exact absurd h4 hz
       ·exact .inr h4
   ·rw[Ng hyx];obtain rfl:x=y:=om;have ih:=iY n a b (by simp at h⊢;omega) ha.2 hb.2 z f s;rw[eH,ih];simp only[az];constructor
    ·rintro(⟨rfl,rfl,rfl⟩|⟨h1,h2,h3⟩)
     ·simp
     ·have hne:z≠x:=by
       rcases h3 with h3|h3
       ·have:=ha.1 z h3;omega
       ·have:=hb.1 z h3;omega
      refine⟨by simp[h1,hne],by simp[h2,hne],?_⟩;rcases h3 with h3|h3
      ·exact .inl (kH _ h3)
      ·exact .inr (kH _ h3)
    ·rintro⟨h1,h2,h3⟩;by_cases hz:z=x
     ·left;subst hz;simp[h1,h2]
     ·right
      refine⟨by simp[h1,hz],by simp[h2,hz],?_⟩;rcases h3 with h3|h3
      ·rcases eH.1 h3 with h4|h4
       ·exact absurd h4 hz
       ·exact .inl h4
      ·rcases eH.1 h3 with h4|h4
       ·exact absurd h4 hz
       ·exact .inr h4
theorem gL (a b) (ha:S a) (hb:S b) (p) (h:p∈iN a b):p.1∈a∨p.1∈b:=by
 obtain⟨x,f,s⟩:=p;exact((iY _ a b Ai ha hb x f s).1 h).2.2
theorem gq:∀(n) (a b),a.length+b.length≤n→S a→S b→(iN a b).Pairwise (fun p q=>p.1<q.1)
 |n,[],[],_,_,_=>by simp[iN]
 |0,x::a,_,h,_,_=>by simp at h
 |0,[],y::b,h,_,_=>by simp at h
 |n+1,x::a,[],h,ha,hb=>by
  rw[S,AQ]at ha;rw[iN,AQ];refine⟨fun p hp=>?_,gq n a [] (by simp at h⊢;omega) ha.2 hb⟩;rcases gL a [] ha.2 hb p hp with h1|h1
  ·exact ha.1 _ h1
  ·simp at h1
 |n+1,[],y::b,h,ha,hb=>by
  rw[S,AQ]at hb;rw[iN,AQ];refine⟨fun p hp=>?_,gq n [] b (by simp at h⊢;omega) ha hb.2⟩;rcases gL [] b ha hb.2 p hp with h1|h1
  ·simp at h1
  ·exact hb.1 _ h1
 |n+1,x::a,y::b,h,ha,hb=>by
  have ha':=ha;have hb':=hb;rw[S,AQ]at ha hb;rw[iN];by_cases hxy:x<y
  ·rw[Ps0 hxy,AQ];refine⟨fun p hp=>?_,gq n a (y::b) (by simp at h⊢;omega) ha.2 hb'⟩;rcases gL a (y::b) ha.2 hb' p hp with h1|h1
   ·exact ha.1 _ h1
   ·rcases eH.1 h1 with h2|h2
    ·rw[h2];exact hxy
    ·have:=hb.1 _ h2;omega
  ·rw[Ng hxy];by_cases hyx:y<x
   ·rw[Ps0 hyx,AQ];refine⟨fun p hp=>?_,gq n (x::a) b (by simp at h⊢;omega) ha' hb.2⟩;rcases gL (x::a) b ha' hb.2 p hp with h1|h1
    ·rcases eH.1 h1 with h2|h2
     ·rw[h2];exact hyx
     ·have:=ha.1 _ h2;omega
    ·exact hb.1 _ h1
   ·rw[Ng hyx,AQ];obtain rfl:x=y:=om;refine⟨fun p hp=>?_,gq n a b (by simp at h⊢;omega) ha.2 hb.2⟩;rcases gL a b ha.2 hb.2 p hp with h1|h1
    ·exact ha.1 _ h1
    ·exact hb.1 _ h1
theorem JR (ok) {a b} (ha:S a) (hb:S b):S (pick ok a b):=by
 unfold pick S;rw[List.pairwise_map];exact(gq _ a b Ai ha hb).filter _
theorem uj (ok) {a b} (ha:S a) (hb:S b) (x):x∈pick ok a b↔((x∈a∨x∈b)∧ok (decide (x∈a)) (decide (x∈b))=true):=by
 unfold pick;simp only[bY,BP,Prod.exists];constructor
 ·rintro⟨y,f,s,⟨hm,hok⟩,rfl⟩;obtain⟨h1,h2,h3⟩:=(iY _ a b Ai ha hb y f s).1 hm;subst h1;subst h2;exact⟨h3,hok⟩
 ·rintro⟨h3,hok⟩;exact⟨x,_,_,⟨(iY _ a b Ai ha hb x _ _).2 ⟨rfl,rfl,h3⟩,hok⟩,rfl⟩
theorem Mg (a b x):x∈dif a b↔x∈a∧¬x∈b:=by simp[dif,has];rintro-;constructor<;>intro h<;>(intro h2;first|exact h _ h2 rfl|(intro h3 h4;subst h4;exact h h3))
theorem YP {a} (b) (h:S a):S (dif a b):=h.filter _
theorem aac (n):S (upto n):=by
 unfold upto S;rw[List.pairwise_map];exact List.pairwise_lt_range.imp (by intro a b h;omega)
def wH (out:List Int) (r:List (List Int)):List Int:=r.foldl (fun o x=>pick (fun f s=>f&&s) o x) out
theorem Sa {r out} (ho:S out) (h:∀l∈r,S l):S (wH out r)∧∀x,x∈wH out r↔x∈out∧∀m∈r,x∈m:=by
 unfold wH
 induction r generalizing out with
 |nil=>simpa using ho
 |cons l r ih=>
  rw[List.foldl_cons];have hl:=h l sm;have hp:=JR (fun f s=>f&&s) ho hl;obtain⟨h1,h2⟩:=ih hp (fun m hm=>h m (by simp[hm]));refine⟨h1,fun x=>?_⟩;rw[h2,uj _ ho hl];simp only[CW,Ch,eH,forall_eq_or_imp];constructor
  ·rintro⟨⟨_,h3,h4⟩,h5⟩;exact⟨h3,h4,h5⟩
  ·rintro⟨h3,h4,h5⟩;exact⟨⟨.inl h3,h3,h4⟩,h5⟩
def mo (out:List Int) (r:List (List Int)):List Int:=r.foldl (fun o x=>pick (fun _ _=>true) o x) out
theorem Gd {r out} (ho:S out) (h:∀l∈r,S l):S (mo out r)∧∀x,x∈mo out r↔x∈out∨∃m∈r,x∈m:=by
 unfold mo
 induction r generalizing out with
 |nil=>simpa using ho
 |cons l r ih=>
  rw[List.foldl_cons];have hl:=h l sm;have hp:=JR (fun _ _=>true) ho hl;obtain⟨h1,h2⟩:=ih hp (fun m hm=>h m (by simp[hm]));refine⟨h1,fun x=>?_⟩;rw[h2,uj _ ho hl];simp only[BJ,eH,exists_eq_or_imp,or_assoc]
theorem Mh {a b} (ha:S a) (hb:S b):pick (fun _ s=>!s) a b=dif a b:=by
 refine ext (JR _ ha hb) (YP b ha) fun x=>?_
 rw[uj _ ha hb,Mg];simp only[Bool.not_eq_true',Ee];constructor
 ·rintro⟨h1|h1,h2⟩
  ·exact⟨h1,h2⟩
  ·exact absurd h1 h2
 ·rintro⟨h1,h2⟩;exact⟨.inl h1,h2⟩
end Ls
end Go.Proofs.YtongopommlghgaaGreatDoor
