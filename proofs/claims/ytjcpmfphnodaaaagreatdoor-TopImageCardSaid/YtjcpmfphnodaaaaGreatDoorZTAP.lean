/- Part 16. -/
import Derived.Test.YtjcpmfphnodaaaaGreatDoorZTAO
import Derived.Lib.RowBridge
namespace Go.Proofs.YtjcpmfphnodaaaaGreatDoor
set_option maxRecDepth 100000
set_option maxHeartbeats 0
open _root_.Go.Proofs.Tryz
section
section
open Go.RowKit Go.Shelf Go.Sort
namespace Sy
def pY (l:List UInt8):ByteArray:=⟨l.toArray⟩
theorem jP (l):(pY l).toList=l:=by rw[St.tl];simp[pY]
theorem tH (s):pY s.data.toList=s:=by unfold pY;rfl
theorem Uv {a b} (h:pY a=pY b):a=b:=by rw[←jP a,h,jP]
def bl (l:List ByteArray):List (List UInt8):=l.map fun s=>s.data.toList
theorem le_iff (x y):decide (x≤y)=true↔St.lt (pY y) (pY x)=false:=by
 rw[CU,CB,Ne,St.lt_iff,jP,jP];exact List.not_lt.symm
theorem qK {S:List (List UInt8)} (hS:S.Pairwise fun x y=>St.lt (pY y) (pY x)=false):∀m,m≤S.length→
  (Lib.compactUpTo S.toArray m).Pairwise (fun x y=>St.lt (pY x) (pY y)=true)∧∀x,x∈Lib.compactUpTo S.toArray m↔∃i,∃h:i<S.length,i<m∧S[i]=x
 |0,_=>⟨by simp[Lib.compactUpTo],fun x=>by simp[Lib.compactUpTo]⟩
 |m+1,hm=>by
  obtain⟨h1,h2⟩:=qK hS m om;have rE:m<S.length:=om;have hg:S.toArray[m]! =S[m]:=by simp[rE]
  rw[Lib.compactUpTo_succ];have hle:∀i j (hi:i<S.length) (hj:j<S.length),i<j→St.lt (pY S[j]) (pY S[i])=false:=fun i j hi hj hij=>(BM.1 hS) i j hi hj hij
  by_cases hk:Lib.keeps S.toArray m=true
  ·rw[Ps0 hk,hg];refine⟨?_,fun x=>?_⟩
   ·rw[BN];refine⟨h1,List.pairwise_singleton _ _,fun x hx y hy=>?_⟩;obtain⟨i,hi,him,rfl⟩:=(h2 x).1 hx;rw[iF.1 hy];have hd:m=0∨S.toArray[m]!≠S.toArray[m-1]!:=by simpa[Lib.keeps]using hk
    rcases hd with h0|hd
    ·omega
    ·have hg1:S.toArray[m-1]! =S[m-1]:=by simp[show m-1<S.length from om]
     rw[hg,hg1]at hd;apply Cj;intro hn;have hn':St.lt (pY S[i]) (pY S[m])=false:=by simpa using hn
     have he:=St.total hn' (hle i m hi rE him);apply hd;apply Uv;rcases DD i (m-1)with h3|h3
     ·have a1:=hle i (m-1) hi om h3;have a2:=hle (m-1) m om rE om;rw[←he]at a2⊢;exact St.total a2 a1
     ·obtain rfl:i=m-1:=by omega
      exact he.symm
   ·rw[jl,h2,iF];constructor
    ·rintro(⟨i,hi,him,rfl⟩|rfl)
     ·exact⟨i,hi,om,rfl⟩
     ·exact⟨m,rE,om,rfl⟩
    ·rintro⟨i,hi,him,rfl⟩;by_cases e:i=m
     ·subst e;exact .inr rfl
     ·exact .inl ⟨i,hi,om,rfl⟩
  ·rw[Ng hk,AZ];have hd:¬(m=0∨S.toArray[m]!≠S.toArray[m-1]!):=by simpa[Lib.keeps]using hk
   have hm0:m≠0:=fun h=>hd (.inl h)
   have he:S[m]=S[m-1]:=by
    have hg1:S.toArray[m-1]! =S[m-1]:=by simp[show m-1<S.length from om]
    rw[←hg,←hg1];exact Cj fun h=>hd (.inr h)
   refine⟨h1,fun x=>?_⟩;rw[h2];constructor
   ·rintro⟨i,hi,him,rfl⟩;exact⟨i,hi,om,rfl⟩
   ·rintro⟨i,hi,him,rfl⟩;by_cases e:i=m
    ·subst e;exact⟨i-1,om,om,he.symm⟩
    ·exact⟨i,hi,om,rfl⟩
def qW (l:List ByteArray):List (List UInt8):=Lib.compact ((bl l).mergeSort fun x y=>decide (x≤y))
theorem Qg (l):eD l ((qW l).map pY):=by
 obtain⟨S,hS⟩:∃S,S=(bl l).mergeSort fun x y=>decide (x≤y):=⟨_,rfl⟩
 have hsort:S.Pairwise fun x y=>St.lt (pY y) (pY x)=false:=by
  have:=List.pairwise_mergeSort (le:=fun x y:List UInt8=>decide (x≤y)) (fun a b c h1 h2=>by
   rw[le_iff]at h1 h2⊢;exact St.ntrans h2 h1) (fun a b=>by
   simp only[Bool.or_eq_true,le_iff];cases h:St.lt (pY b) (pY a)with
   |false=>exact .inl rfl
   |true=>exact .inr (St.asymm h)) (bl l)
  rw[←hS]at this;exact this.imp fun{a b} h=>(le_iff a b).1 h
 have hmem:∀x,x∈S↔x∈bl l:=fun x=>by rw[hS];exact List.mem_mergeSort
 obtain⟨h1,h2⟩:=qK hsort S.length Ai;have e:qW l=Lib.compactUpTo S.toArray S.length:=by unfold qW;rw[←hS];rfl
 rw[e];refine⟨?_,fun s=>?_⟩
 ·unfold gK;rw[List.pairwise_map];exact h1
 ·rw[dM];constructor
  ·rintro⟨x,hx,rfl⟩;obtain⟨i,hi,-,rfl⟩:=(h2 x).1 hx;have:=(hmem _).1 (ic hi);obtain⟨t,ht,e⟩:=dM.1 this;rw[←e,tH];exact ht
  ·intro hs;have:s.data.toList∈S:=(hmem _).2 (dM.2 ⟨s,hs,rfl⟩);obtain⟨i,hi,e⟩:=lV.1 this;exact⟨_,(h2 _).2 ⟨i,hi,hi,e⟩,tH s⟩
theorem yN (l):(bl l).length=l.length:=by simp[bl]
end Sy
theorem IM {w} {base g n c} {l} (h:aS w base (some ⟨g,0,none⟩) n c l):Holds encStr w g 0 (Sy.bl l).toArray:=by
 intro j hj;have hn:=h.len;have hj':j<l.length:=by simpa[Sy.bl]using hj
 rw[cB];refine⟨?_,Ci h j⟩;rw[Cu h j om];simp[oF,sv,Sy.bl,hj',encStr]
theorem nX {α} [Inhabited α] {enc:α→Value} {w} {base g m} {d} (hg:base≤g):Below base w (putRow enc (Sort.ahead w m) g 0 d):=by
 refine⟨rfl,rfl,rfl,?_,fun k hk=>?_⟩
 ·unfold putRow mapBlock;simp[Sort.ahead]
 ·unfold putRow mapBlock;simp[Sort.ahead,Dj,show g≠k from om]
theorem tJ {w} (os):Below w.heap.size w (grow w os):=by
 refine⟨rfl,rfl,rfl,?_,fun k hk=>Sort.heap_grow_old _ os hk⟩;rw[Sort.size_grow];omega
theorem qL {α} [Inhabited α] {enc:α→Value} {w} {g m} {d}:(putRow enc (Sort.ahead w m) g 0 d).heap.size=w.heap.size:=by
 unfold putRow mapBlock;simp[Sort.ahead]
theorem nY {w} {g m} {d} (h:Holds encStr w g 0 d):Holds encStr (Sort.ahead w m) g 0 d:=holds_ahead encStr w m g 0 d h
theorem holds_grow {w} {g} {d} (h:Holds encStr w g 0 d) (os) (hg:g<w.heap.size):Holds encStr (grow w os) g 0 d:=by
 intro j hj;have hb:=(tJ (w:=w) os)
 exact⟨(hb.cell (p:=⟨g,0+j,none⟩) hg).trans (h j hj).1,(hb.frozen (p:=⟨g,0+j,none⟩) hg).trans (h j hj).2⟩
theorem Mt {w} {g B n c} {d} {k} (hB:g<B) (hc:k≤c) (hm:c≤maxLen) (hk:k≤d.size) (hn:n=k) (h:Holds encStr w g 0 d):bM w B (some ⟨g,0,none⟩) n c ((d.toList.take k).map Sy.pY):=by
 subst hn;refine⟨hc,hm,by simp[oF];omega,fun _=>⟨g,0,rfl,hB,fun i u hu=>?_⟩⟩;have hi:i<n:=by
  have:=(kH.1 hu).1;simp[oF]at this;omega
 have h1:=(h i om).1;rw[h1,←hu];simp[oF,sv,Sy.pY,encStr,hi,show i<d.size from om]
theorem EJ (A) (n c) (w):Calls prog 196 #[.slice A n c] w fun e w'=>
  e= .returned (.func (.func 245) #[] #[.pointer (some ⟨w.heap.size,0,none⟩)])∧w'=w.alloc (.cells #[.slice A n c] 134):=by
 go_enter func196,ntmps196;go_wp2;go_ret;exact⟨rfl,rfl⟩
theorem yO (bx) (A) (m c) (l) (w) (hw:Boxed w bx 134 (.slice A m c)) (hv:bM w w.heap.size A m c l) (hm:m≤1000000):
  Calls prog 243 #[.func (.func 245) #[] #[.pointer (some ⟨bx,0,none⟩)]] w fun e w'=>∃A2 n2 c2,e= .returned (.slice A2 n2 c2)∧aS w' w.heap.size A2 n2 c2 l∧Below w.heap.size w w':=by
 have AP:=Aj (vL bx A m c l w hw hv hm);clear hw hv;go_enter func243,ntmps243;go_wp2_with (go_at_call 271;refine AP.1.mono ?_;rintro e w1 ⟨A2,n2,c2,rfl,ho,hb⟩;have O:=Aj ho;have B:=Aj hb;clear ho hb);go_ret;exact⟨A2,n2,c2,rfl,O.1,B.1⟩
def p8 (w0 w:World) (A:Option Addr) (n c:Nat) (S:List (List UInt8)):Prop:=
 n=S.length∧c≤maxLen∧(n=0∨∃g,A=some ⟨g,0,none⟩∧w0.heap.size≤g∧g<w.heap.size∧n≤c∧c≤maxLen∧Holds encStr w g 0 S.toArray)
theorem EK (bx) (A) (m c) (l) (w) (hw:Boxed w bx 134 (.slice A m c)) (hv:bM w w.heap.size A m c l) (hm:m≤1000000):
  Calls prog 195 #[.func (.func 245) #[] #[.pointer (some ⟨bx,0,none⟩)]] w fun e w'=>∃A2 n2 c2,e= .returned (.slice A2 n2 c2)∧p8 w w' A2 n2 c2 ((Sy.bl l).mergeSort fun x y=>decide (x≤y))∧Below w.heap.size w w':=by
 have rE:=hv.len;have CO:=Aj (yO bx A m c l w hw hv hm);have SO:Kept (∀(w1:World) A2 n2 c2,aS w1 w.heap.size A2 n2 c2 l→Below w.heap.size w w1→Calls prog 244 #[.slice A2 n2 c2] w1 fun e w'=>e= .returned (.tuple #[])∧p8 w w' A2 n2 c2 ((Sy.bl l).mergeSort fun x y=>decide (x≤y))∧Below w.heap.size w w'):=⟨by
  intro w1 A2 n2 c2 ho hb;have hn:=ho.len;have hrd:=ho.rd;rcases nz n2 with h0|h0
  ·subst h0;obtain rfl:l=[]:=vg hn.symm;exact(Any.slices_Sort_string_none Tryz.sortS A2 c2 w1).mono fun e w' ⟨h1,h2⟩=>⟨h1,⟨by simp[Sy.bl],hrd.2.1,.inl rfl⟩,by rw[h2];exact hb⟩
  ·obtain⟨g,rfl,hg1,hg2⟩:=ny ho h0;have hH:=IM ho;have gJ:=Any.slices_Sort_string Tryz.sortS g 0 c2 (Sy.bl l) w1 hH hg2 (by rw[Sy.yN];omega)
   change Calls prog 244 _ _ _ at gJ
   rw[Sy.yN,←hn]at gJ;refine gJ.mono ?_;rintro e w' ⟨h1,q,os,h2⟩;have hsz:((Sy.bl l).mergeSort fun x y=>decide (x≤y)).length=l.length:=by rw[List.length_mergeSort,Sy.yN]
   have hz:(putRow encStr (Sort.ahead w1 q) g 0 ((Sy.bl l).mergeSort fun x y=>decide (x≤y)).toArray).heap.size=w1.heap.size:=qL;have hbb:=(hb.trans (nX (enc:=encStr) (w:=w1) (m:=q) (d:=((Sy.bl l).mergeSort fun x y=>decide (x≤y)).toArray) hg1))
   refine⟨h1,⟨by rw[hsz];exact hn,hrd.2.1,.inr ⟨g,rfl,hg1,?_,hrd.1,hrd.2.1,?_⟩⟩,?_⟩
   ·rw[h2,Sort.size_grow,hz];omega
   ·rw[h2];exact holds_grow (holds_putRow encStr (Sort.ahead w1 q) g 0 (Sy.bl l).toArray _ (nY hH) sm) os (by rw[hz];exact hg2)
   ·rw[h2];exact hbb.trans ((tJ os).mono hbb.size)⟩
 clear hw hv;go_enter func195,ntmps195;go_wp2_with (first
  |(go_at_call 243;refine CO.1.mono ?_;rintro e w1 ⟨A2,n2,c2,rfl,ho,hb⟩;have O:=Aj ho;have B:=Aj hb;clear ho hb)
  |(go_at_call 244;refine(SO.1 w1 A2 n2 c2 O.1 B.1).mono ?_;rintro e w2 ⟨rfl,hr,hb⟩;have R:=Aj hr;have B2:=Aj hb;clear hr hb))
 go_ret;exact⟨A2,n2,c2,rfl,R.1,B2.1⟩
theorem IP (A) (n c) (l) (w) (hv:bM w w.heap.size A n c l) (hn:n≤1000000):
  Calls prog 141 #[.slice A n c] w fun r w'=>∃A2 n2 c2 out,r= .returned (.slice A2 n2 c2)∧Sy.eD l out∧bM w' w'.heap.size A2 n2 c2 out∧Below w.heap.size w w':=by
 have SR:=Aj (EK w.heap.size A n c l (w.alloc (.cells #[.slice A n c] 134)) (Boxed.new w _ _) ((hv.alloc Ai _).more sm) hn);have hln:=hv.len;have CS:Kept (∀(w1:World) A2 n2 c2,p8 (w.alloc (.cells #[.slice A n c] 134)) w1 A2 n2 c2 ((Sy.bl l).mergeSort fun x y=>decide (x≤y))→Below w.heap.size w w1→Calls prog 194 #[.slice A2 n2 c2] w1 fun e w'=>∃A3 n3 c3 out,e= .returned (.slice A3 n3 c3)∧Sy.eD l out∧bM w' w'.heap.size A3 n3 c3 out∧Below w.heap.size w w'):=⟨by
  rintro w1 A2 n2 c2 ⟨hs,hcm,hr⟩ hb;have hsz:((Sy.bl l).mergeSort fun x y=>decide (x≤y)).length=l.length:=by rw[List.length_mergeSort,Sy.yN]
  rcases nz n2 with h0|h0
  ·subst h0;obtain rfl:l=[]:=vg om;refine(Any.slices_Compact_string_empty Tryz.compS A2 c2 w1).mono ?_;rintro e w' ⟨h1,h2⟩;exact⟨A2,0,c2,[],h1,⟨List.Pairwise.nil,fun s=>Iff.rfl⟩,Rd.nil _ _ 1 c2 A2 hcm,by rw[h2];exact hb⟩
  ·rcases hr with hr|⟨g,rfl,hg1,hg2,hc1,hc2,hH⟩
   ·omega
   ·have gJ:=Any.slices_Compact_string Tryz.compS g 0 c2 ((Sy.bl l).mergeSort fun x y=>decide (x≤y)) w1 hH (by rw[hsz];omega) (by rw[←hs];exact hc1)
    change Calls prog 194 _ _ _ at gJ
    rw[←hs]at gJ;refine gJ.mono ?_;rintro e w' ⟨h1,q,h2⟩;have htl:(Sy.qW l).length≤n2:=by rw[hs];exact Lib.compact_length_le _
    have hz:w'.heap.size=w1.heap.size:=by rw[h2];exact qL
    refine⟨_,_,_,(Sy.qW l).map Sy.pY,h1,Sy.Qg l,?_,?_⟩
    ·have hh:=holds_putRow encStr (Sort.ahead w1 q) g 0 _ (Lib.compact ((Sy.bl l).mergeSort fun x y=>decide (x≤y))++List.replicate (n2-(Lib.compact ((Sy.bl l).mergeSort fun x y=>decide (x≤y))).length) []).toArray (nY hH) (by
      have:=htl;unfold Sy.qW at this;simp only[Ca,La,DI];omega)
     rw[←h2]at hh;have:=Mt (B:=w'.heap.size) (c:=c2) (k:=(Sy.qW l).length) (n:=(Sy.qW l).length) (by rw[hz];exact hg2) om hc2 (by simp[Sy.qW]) rfl hh;have e2:((Lib.compact ((Sy.bl l).mergeSort fun x y=>decide (x≤y))++List.replicate (n2-(Lib.compact ((Sy.bl l).mergeSort fun x y=>decide (x≤y))).length) []).toArray.toList.take (Sy.qW l).length)=Sy.qW l:=by
      unfold Sy.qW;simp
     rw[e2]at this;exact this
    ·rw[h2];exact hb.trans (nX (by simp at hg1;omega))⟩
 clear hv hln;go_enter func141,ntmps141;go_wp2_with (first
  |(go_at_call 196;refine(EJ A n c w).mono ?_;rintro e w1 ⟨rfl,rfl⟩)
  |(go_at_call 195;refine SR.1.mono ?_;rintro e w2 ⟨A2,n2,c2,rfl,hr,hb⟩;have R:=Aj hr;have B:Kept (Below w.heap.size w w2):=⟨((Ae _ w).alloc Ai _).trans (hb.mono sm)⟩;clear hr hb)
  |(go_at_call 194;refine(CS.1 w2 A2 n2 c2 R.1 B.1).mono ?_;rintro e w3 ⟨A3,n3,c3,out,rfl,ht,hr,hb⟩;have T:=Aj ht;have R3:=Aj hr;have B3:=Aj hb;clear ht hr hb))
 go_ret;exact⟨A3,n3,c3,out,rfl,T.1,R3.1,B3.1⟩
end
end
section
section
open Go.RowKit Go.Shelf
namespace Sy
def eX (l:List UInt8) (a:Nat) (e:Int):ByteArray×Nat×Int:=(pY (Wr.string l a e 65535).1,(Wr.string l a e 65535).2)
theorem yP (l) (a) (m):Wr.string l a 0 m=if(Wr.aA l (Vi.get l (a:Int)) m).2.2≠0 then([],a,(Wr.aA l (Vi.get l (a:Int)) m).2.2)else((Wr.aA l (Vi.get l (a:Int)) m).1,(Wr.aA l (Vi.get l (a:Int)) m).2.1.toNat,0):=by
 conv=>lhs;unfold Wr.string
 exact Ng sm
theorem mQ (l) (x) (k):Wr.aA l (x,k,0) 65535=if(65535:Int)< (x:Int)then([],0,7)else if(l.length:Int)-k< (x:Int)then([],0,3)else((l.drop k.toNat).take x,k+(x:Int),0):=by
 unfold Wr.aA;simp
theorem kS (l) (x e) (k) (he:e≠0):Wr.aA l (x,k,e) 65535=([],0,(e:Int)):=by
 unfold Wr.aA;exact Ps0 he
theorem kT:Rc.Good eX lW (fun s=>s.size≤65535) where
 canon:=fun l a s a' ha h=>by
  unfold eX Wr.string at h;rw[Ng sm]at h;split at h
  ·rename_i h1
   simp only[ay]at h;exact absurd h.2.2 h1
  ·rename_i h1
   have h1':(Wr.aA l (Vi.get l (a:Int)) 65535).2.2=0:=by simpa using h1
   have hc:=Vi.pg (l:=l) (a:=a) (x:=(Vi.get l (a:Int)).1) (t:=(Vi.get l (a:Int)).2.1);generalize Vi.get l (a:Int)=G at*;obtain⟨x,k,e⟩:=G;simp only[]at hc h1' h;unfold Wr.aA at h1' h;simp only[]at h1' h;by_cases he:e=0
   ·subst he;obtain⟨c1,c2,c3⟩:=hc rfl;simp only[ne_eq,Bw,Dx]at h1' h;by_cases h3:(65535:Int)<0∨(65535:Int)< (x:Int)
    ·rw[Ps0 h3]at h1';cases h1'
    ·rw[Ng h3]at h1' h;by_cases h4:(l.length:Int)-k< (x:Int)
     ·rw[Ps0 h4]at h1';cases h1'
     ·rw[Ng h4]at h;simp only[ay]at h;obtain⟨h5,h6,-⟩:=h;have hk:0≤k:=om;have hl:((l.drop k.toNat).take x).length=x:=by rw[lQ,jX];omega
      have hs:s.data.toList=(l.drop k.toNat).take x:=by rw[←h5];simp[pY]
      have hsz:s.size=x:=by rw[←hl,←hs];simp
      refine⟨om,?_,om,om⟩;have d1:=Rc.mO (l:=l) (a:=a) (b:=k.toNat) om;have d2:=Rc.mO (l:=l) (a:=k.toNat) (b:=a') om;rw[show a'-k.toNat=x from om]at d2;rw[c1]at d1;unfold lW Wr.str;rw[hs,hl,Af,←d2];exact d1
   ·rw[Ps0 (by simp;exact he)]at h1';simp only[]at h1';exact absurd (by exact_mod_cast h1') he
 fwd:=fun p s r hs=>by
  have hd:s.data.toList.length=s.size:=sm;have h:=Wr.GM p r s.data.toList 65535 om (by rw[hd];omega);rw[Af]at h;unfold eX lW;rw[h];simp only[];rw[tH]
 app:=fun l m a ha h=>by
  unfold eX at h⊢;rw[yP]at h;rw[yP,yP];have hn:(Vi.get l (a:Int)).2.2≠3:=fun e3=>by
   apply h;have:Wr.aA l (Vi.get l (a:Int)) 65535=([],0,3):=by
    generalize Vi.get l (a:Int)=G at*;obtain⟨x,k,e⟩:=G;have e3':e=3:=e3;subst e3';exact kS l x 3 k Ah
   rw[this];rfl
  rw[Vi.JZ m l a ha hn];have hto:∀x k,Vi.get l (a:Int)=(x,k,0)→(a:Int)<k∧k≤(l.length:Int):=fun x k h=>by have:=Vi.gX h;omega
  generalize Vi.get l (a:Int)=G at*;obtain⟨x,k,e⟩:=G;by_cases he:e=0
  ·subst he;obtain⟨t1,t2⟩:=hto x k rfl;rw[mQ]at h;rw[mQ,mQ];by_cases h3:(65535:Int)< (x:Int)
   ·rw[Ps0 h3,Ps0 h3]
   ·rw[Ng h3]at h⊢;rw[Ng h3];by_cases h4:(l.length:Int)-k< (x:Int)
    ·rw[Ps0 h4]at h;exact absurd rfl h
    ·rw[Ng h4,Ng (show¬((l++m).length:Int)-k< (x:Int)by rw[La];omega),TP l m _ _ om]
  ·rw[kS _ x e k he,kS _ x e k he]
 bad:=⟨pY [],fun l a e he=>by unfold eX Wr.string;rw[Ps0 he]⟩
 pos:=fun s _=>by unfold lW Wr.str;have:=Vi.bO s.data.toList.length;rw[La];omega
def yQ (acc:List ByteArray) (s:ByteArray):Bool:=match acc.getLast? with|none=>true|some t=>St.lt t s
def dl (rd:Nat→Int→ByteArray×Nat×Int):Nat→List ByteArray→Nat→List ByteArray×Nat×Int
 |0,acc,a=>(acc,a,0)
 |n+1,acc,a=>if(rd a 0).2.2≠0 then([],(rd a 0).2.1,(rd a 0).2.2)else if yQ acc (rd a 0).1=false then([],(rd a 0).2.1,16)else dl rd n (acc++[(rd a 0).1]) (rd a 0).2.1
def dec (l:List UInt8):List ByteArray×Int:=
 if(Rc.cnt l 0 0).2.2≠0 then([],(Rc.cnt l 0 0).2.2)else
 if(dl (eX (l.drop (Rc.cnt l 0 0).2.1)) (Rc.cnt l 0 0).1 [] 0).2.2≠0 then([],(dl (eX (l.drop (Rc.cnt l 0 0).2.1)) (Rc.cnt l 0 0).1 [] 0).2.2)else
 if(dl (eX (l.drop (Rc.cnt l 0 0).2.1)) (Rc.cnt l 0 0).1 [] 0).2.1< (l.drop (Rc.cnt l 0 0).2.1).length then([],4)else((dl (eX (l.drop (Rc.cnt l 0 0).2.1)) (Rc.cnt l 0 0).1 [] 0).1,0)
end Sy
end
end
section
section
open Go.RowKit Go.Shelf
namespace Sy
section
variable {rd:Nat→Int→ByteArray×Nat×Int}
theorem Yb (n) (acc) (a) (hn:0<n) (h:(rd a 0).2.2≠0):dl rd n acc a=([],(rd a 0).2.1,(rd a 0).2.2):=by
 obtain⟨m,rfl⟩:∃m,n=m+1:=⟨n-1,om⟩
 unfold dl;exact Ps0 h
theorem Yc (n) (acc) (a) (hn:0<n) (h:(rd a 0).2.2=0) (ho:yQ acc (rd a 0).1=false):dl rd n acc a=([],(rd a 0).2.1,16):=by
 obtain⟨m,rfl⟩:∃m,n=m+1:=⟨n-1,om⟩
 unfold dl;rw[Ng (by simp[h]),Ps0 ho]
theorem WK (n) (acc) (a) (hn:0<n) (h:(rd a 0).2.2=0) (ho:yQ acc (rd a 0).1=true):dl rd n acc a=dl rd (n-1) (acc++[(rd a 0).1]) (rd a 0).2.1:=by
 obtain⟨m,rfl⟩:∃m,n=m+1:=⟨n-1,om⟩
 rw[Bn]
 conv=>lhs;unfold dl
 rw[Ng (by simp[h]),Ng (by simp[ho])]
theorem EM {acc} {s} (h:gK acc):yQ acc s=true↔gK (acc++[s]):=by
 unfold gK at*;rw[BN];unfold yQ;rcases List.eq_nil_or_concat acc with rfl|⟨pre,t,rfl⟩
 ·simp
 ·rw[Dk]at*;have hl:(pre++[t]).getLast? =some t:=sm;rw[hl];constructor
  ·intro hts;refine⟨h,List.pairwise_singleton _ _,fun x hx y hy=>?_⟩;rw[iF.1 hy];rw[BN]at h;rcases jl.1 hx with hx|hx
   ·exact St.trans (h.2.2 x hx t sm) hts
   ·rw[iF.1 hx];exact hts
  ·rintro⟨_,_,h3⟩;exact h3 t sm s sm
theorem Qh:∀(n) (acc) (a a') (L),gK acc→dl rd n acc a=(L,a',0)→Rc.jJ rd n acc a 0=(L,a',0)∧gK L
 |0,acc,a,a',L,hs,h=>by
  unfold dl at h;simp only[ay,Bi]at h;obtain⟨rfl,rfl⟩:=h;exact⟨rfl,hs⟩
 |n+1,acc,a,a',L,hs,h=>by
  unfold dl at h;split at h
  ·rename_i h1
   simp only[ay]at h;exact absurd h.2.2 h1
  ·rename_i h1
   split at h
   ·simp at h
   ·rename_i h2
    have h1':(rd a 0).2.2=0:=by simpa using h1
    have h2':yQ acc (rd a 0).1=true:=by simpa using h2
    obtain⟨i1,i2⟩:=Qh n _ _ _ _ ((EM hs).1 h2') h;refine⟨?_,i2⟩;have:=Rc.iO rd (n+1) acc a 0 om h1';rw[this];exact i1
theorem Kk:∀(n) (acc) (a a') (L),Rc.jJ rd n acc a 0=(L,a',0)→acc<+:L
 |0,acc,a,a',L,h=>by
  rw[Rc.dz]at h;simp only[ay,Bi]at h;rw[h.1];exact List.prefix_refl _
 |n+1,acc,a,a',L,h=>by
  by_cases h1:(rd a 0).2.2=0
  ·rw[Rc.iO rd (n+1) acc a 0 om h1]at h;exact(List.prefix_append acc _).trans (Kk n _ _ _ _ h)
  ·rw[Rc.iI rd (n+1) acc a 0 om h1]at h;simp only[ay]at h;exact absurd h.2.2 h1
theorem Qi:∀(n) (acc) (a a') (L),gK L→Rc.jJ rd n acc a 0=(L,a',0)→dl rd n acc a=(L,a',0)
 |0,acc,a,a',L,_,h=>h
 |n+1,acc,a,a',L,hs,h=>by
  by_cases h1:(rd a 0).2.2=0
  ·rw[Rc.iO rd (n+1) acc a 0 om h1]at h;have hp:=Kk n _ _ _ _ h;have hs1:gK (acc++[(rd a 0).1]):=hs.sublist hp.sublist;have hs2:gK acc:=hs1.sublist (List.sublist_append_left _ _);rw[WK (n+1) acc a om h1 ((EM hs2).2 hs1)];exact Qi n _ _ _ _ hs h
  ·rw[Rc.iI rd (n+1) acc a 0 om h1]at h;simp only[ay]at h;exact absurd h.2.2 h1
end
theorem fH {l} {T} (h:dec l=(T,0)):gK T∧aH T=l∧T.length≤l.length∧∀s∈T,s.size≤65535:=by
 unfold dec at h;split at h
 ·rename_i h1
  simp only[ay]at h;exact absurd h.2 h1
 ·rename_i h1
  have h1':(Rc.cnt l 0 0).2.2=0:=by simpa using h1
  obtain⟨u1,u2⟩:=Rc.tC (show Rc.cnt l 0 0=((Rc.cnt l 0 0).1,(Rc.cnt l 0 0).2.1,0)from Ba rfl (Ba rfl h1'));obtain⟨c1,c2,c3,c4⟩:=Rc.aI.canon l 0 _ _ (bE _) u1;generalize Rc.cnt l 0 0=C at*;obtain⟨n,t,e⟩:=C;simp only[]at h u1 u2 c1 c2 c3 c4;split at h
  ·rename_i h2
   simp only[ay]at h;exact absurd h.2 h2
  ·rename_i h2
   split at h
   ·simp at h
   ·rename_i h3
    simp only[ay,Bi]at h;have h2':(dl (eX (l.drop t)) n [] 0).2.2=0:=by simpa using h2
    obtain⟨d1,d2⟩:=Qh n [] 0 (dl (eX (l.drop t)) n [] 0).2.1 T List.Pairwise.nil (Ba h (Ba rfl h2'));generalize (dl (eX (l.drop t)) n [] 0).2.1=a' at*;obtain⟨ys,e1,e2,e3,e4,e5,e6⟩:=Rc.pQ kT n (l.drop t) [] 0 T a' (bE _) d1;have e1':ys=T:=by rw[e1];rfl
    subst e1';have e6':a'=(l.drop t).length:=om;rw[BO,oL (Nat.le_of_eq e6'.symm),AZ]at e4;have hfl:=Rc.aW kT ys e3;have hll:aH ys=l:=by
     unfold aH;rw[←e4,e2];have:=c2;rw[BO]at this;exact this.symm
    refine⟨d2,hll,?_,e3⟩;rw[←e4,jX]at hfl;omega
theorem bT {T} (hS:gK T) (hl:T.length≤Rc.mx) (hsz:∀s∈T,s.size≤65535):dec (aH T)=(T,0):=by
 have hg:=Rc.rM kT;have h:=hg.fwd [] T [] ⟨hl,hsz⟩;rw[AZ,Ay]at h;simp only[AB,cB]at h;have hu:=Rc.aI.fwd [] T.length (T.flatMap lW) hl;have hfl:=Rc.aW kT T hsz;have hc:Rc.cnt (aH T) 0 0=(T.length,(Vi.enc T.length).length,0):=by
  unfold Rc.cnt aH;simp only[Ay,AB,cB]at hu;rw[hu];simp only[];rw[Ng sm,Ng (by rw[La];omega)]
 have hd:(aH T).drop (Vi.enc T.length).length=T.flatMap lW:=by unfold aH;rw[CW]
 have hf:=Rc.yJ kT T (T.flatMap lW) [] 0 [] hsz sm (bE _);rw[Ay,cB]at hf;have hdl:=Qi T.length [] 0 _ T hS hf;unfold dec;rw[hc];simp only[hd,hdl];simp
end Sy
end
end
section
section
open Go.RowKit Go.Shelf
theorem Vi.Kl:∀(l) (i x),i≤9→x<128^i→(Vi.dP l i x).1<18446744073709551616
 |[],_,_,_,_=>by simp[Vi.dP]
 |c::l,i,x,hi,hx=>by
  rw[Vi.bQ];have hc:=c.toNat_lt;split
  ·simp
  ·rename_i h1
   split
   ·simp
   ·split
    ·rename_i h3
     show x+c.toNat%128*128^i<_;rw[jA h3];by_cases h9:i=9
     ·subst h9;have:c.toNat≤1:=om;have e:(128:Nat)^9=9223372036854775808:=Ah;rw[e]at hx⊢;have:c.toNat*9223372036854775808≤1*9223372036854775808:=Ct _ this;omega
     ·have h8:i+1≤9:=by omega
      have e1:(128:Nat)^ (i+1)≤128^9:=j5 Ah h8;have e2:(128:Nat)^9=9223372036854775808:=Ah;have e3:c.toNat*128^i≤127*128^i:=Ct _ om;rw[BQ]at e1;omega
    ·rename_i h3
     have h8:i+1≤9:=by
      have:i≠9:=fun e=>om
      omega
     refine Vi.Kl l (i+1) _ h8 ?_;have e3:c.toNat%128*128^i≤127*128^i:=Ct _ om;rw[BQ];omega
theorem Vi.Qj (l) (a):(Vi.get l a).1<18446744073709551616:=by
 unfold Vi.get;split
 ·simp
 ·simp only[];split
  ·exact Vi.Kl _ 0 0 om sm
  ·simp
namespace Sy
def Uw (l:List UInt8) (n:Nat):List ByteArray×Int:=
 if Wr.fin l (dl (eX l) n [] 0).2.1 (dl (eX l) n [] 0).2.2≠0 then([],Wr.fin l (dl (eX l) n [] 0).2.1 (dl (eX l) n [] 0).2.2)else((dl (eX l) n [] 0).1,0)
theorem Ux {l} {x e} {t} (hg:Vi.get l (0:Int)=(x,t,e)):
  dec l=if e≠0 then([],(e:Int))else if(l.length:Int)-t< (x:Int)then([],3)else Uw (l.drop t.toNat) x:=by
 have hb:=Vi.Qj l 0;have hu:Wr.uint l 0 0 Rc.mx=if e≠0 then(0,0,(e:Int))else(x,t.toNat,0):=by
  unfold Wr.uint;rw[Ng sm];have:Vi.get l ((0:Nat):Int)=(x,t,e):=hg;rw[this];simp only[];by_cases he:e=0
  ·have hm:¬Rc.mx<x:=by rw[hg]at hb;unfold Rc.mx;simp only[]at hb;omega
   subst he;simp[hm]
  ·rw[Ps0 he,Ps0 he]
 by_cases he:e=0
 ·subst he;have hto:(0:Int)<t∧t≤l.length:=by have:=Vi.gX (a:=0) hg;omega
  rw[Ng sm]at hu⊢;have hc:Rc.cnt l 0 0=if l.length-t.toNat<x then(0,t.toNat,3)else(x,t.toNat,0):=by
   unfold Rc.cnt;rw[hu];simp
  by_cases hx:l.length-t.toNat<x
  ·rw[Ps0 hx]at hc;rw[Ps0 om];unfold dec;rw[hc];simp
  ·rw[Ng hx]at hc;rw[Ng om];unfold dec Uw Wr.fin;rw[hc];generalize l.drop t.toNat=l2;simp only[ne_eq,Bw,Dx];by_cases h2:(dl (eX l2) x [] 0).2.2=0
   ·simp only[h2,Bw,Dx];by_cases h3:(dl (eX l2) x [] 0).2.1<l2.length
    ·simp[h3]
    ·simp[h3]
   ·simp[h2]
 ·rw[Ps0 he]at hu⊢;have hc:Rc.cnt l 0 0=(0,0,(e:Int)):=by
   unfold Rc.cnt;rw[hu];simp[he]
  unfold dec;rw[hc];simp[he]
end Sy
theorem aS.past {w w'} {base n c p} {A} {l} (h:aS w base A n c l) (hg:w.grownBy w' (some p)) (hp:p<base):aS w' base A n c l:=
 af h hg (by
  rcases hA:ab A with _|g
  ·exact .inl rfl
  ·refine .inr fun e=>?_
   have:=(ae h g hA).1;have:=Oj e;omega)
theorem bM.nil (w) (B):bM w B none 0 0 []:=Rd.nil w B 1 0 none (by unfold maxLen;omega)
theorem Sy.Uy {acc} {s} {k} (h:k=acc.length) (hk:k-1<acc.length):Sy.yQ acc s=St.lt acc[k-1] s:=by
 subst h;unfold Sy.yQ;rw[List.getLast?_eq_getElem?,l8 hk]
theorem EO (A) (n c) (l) (w) (hv:aN w w.heap.size A n c l) (hl:n≤80000000000):
  Calls prog 68 #[.slice A n c] w fun r w'=>∃A2 n2 c2,r= .returned (.tuple #[.slice A2 n2 c2,.int .i64 (Sy.dec l).2])∧bM w' w'.heap.size A2 n2 c2 (Sy.dec l).1∧Below w.heap.size w w':=by
 have hlc:=hv.1;have hcm:=hv.2.1;unfold maxLen at hcm;have HN:=Aj hv.len;have V:=Aj hv;obtain⟨M,hM⟩:∃M,M=Sy.dec l:=⟨_,rfl⟩
 rw[←hM];obtain⟨G,hG⟩:∃G,Vi.get l (0:Int)=G:=⟨_,rfl⟩
 have GA:=Aj (nC A n c w.heap.size l 0 w hv om om);have hbd:=Vi.Qj l 0;have hto:=fun x t (h:G=(x,t,0))=>Vi.gX (a:=0) (hG.trans h)
 rw[hG]at GA hbd;obtain⟨x,t,e⟩:=G;have HM:=Aj (hM.trans (Sy.Ux hG));unfold zQ at GA;simp only[]at GA hbd;clear hv hM hG;by_cases he:e=0
 ·subst he;have ht:=hto x t rfl;have ht1:0<t:=om;have ht2:t≤(n:Int):=by have:=HN.1;omega
  have HM:=Aj (HM.1.trans (Ng sm));clear hto ht;obtain⟨q,rfl⟩:=Ce (show 0≤t from om);have hq1:0<q:=om;have hq2:q≤n:=om;have XQ:IntKind.u64.wrap ((n:Int)-(q:Int))=(n:Int)-(q:Int):=by simp[IntKind.wrap,IntKind.bits,IntKind.signed];omega
  by_cases hx:(n:Int)-(q:Int)< (x:Int)
  ·have cZ:Kept (M=([],3)):=⟨by rw[HM.1,Ps0 (by rw[←HN.1];exact hx)]⟩
   clear hbd;go_enter func68,ntmps68;go_wp2_with (go_at_call 118;refine GA.1.mono ?_;rintro r w1 ⟨rfl,rfl⟩);go_ret2;refine⟨none,0,0,?_,?_,Ae _ _⟩
   ·rw[cZ.1];rfl
   ·rw[cZ.1];exact bM.nil _ _
  ·have hxn:x≤n:=by omega
   have cZ:Kept (M=Sy.Uw (l.drop q) x):=⟨by rw[HM.1,Ng (by rw[←HN.1];exact hx),lS]⟩
   have hll:Kept ((l.drop q).length=n-q):=⟨by rw[jX,HN.1]⟩
   have RD:=Aj (V.1.drop hq2);generalize l.drop q=l2 at*;obtain⟨X,hX⟩:∃X,X=Sy.dl (Sy.eX l2) x [] 0:=⟨_,rfl⟩
   have Yd:Kept (M=if Wr.fin l2 X.2.1 X.2.2≠0 then([],Wr.fin l2 X.2.1 X.2.2)else(X.1,0)):=⟨by rw[cZ.1,Sy.Uw,hX]⟩
   have HX:=Aj hX;have hxx:IntKind.i64.wrap (x:Int)=(x:Int):=by rw[AV];omega
   clear hbd hX HM cZ;by_cases hc:c=q
   ·have ZU:=Aj RD.1;rw[Ps0 hc]at ZU;subst hc;simp only[CZ,show n-c=0 from om]at ZU;clear RD;go_enter func68,ntmps68;go_upto_region 9 with(first
     |(go_at_call 118;refine GA.1.mono ?_;rintro r w1 ⟨rfl,rfl⟩)
     |(go_at_call 110;refine(bW _ _ _ w.heap.size l2 w ZU.1 Ai om).mono ?_;rintro r w1 ⟨p,rfl,hp1,hp2,hr1,hb1⟩;have D1:=Aj hr1;have B1:=Aj hb1;clear hr1 hb1))
    go_loopw [8,37] (fun o i wr=>∃k:Nat,k≤x∧i= .int .i64 k∧∃A2 m c2 acc a2,o= .slice A2 m c2∧aS wr w1.heap.size A2 m c2 acc∧aK wr p l2 a2 0∧Kept (m=k∧X=Sy.dl (Sy.eX l2) (x-k) acc a2)∧w1.grownBy wr (some p)) (fun _ i _=>x-(intOf i).toNat)
    case atStart=>exact⟨0,om,rfl,none,0,0,[],0,rfl,aS.nil _ _,D1.1,⟨rfl,HX.1⟩,CQ _ _⟩
    case round=>
     clear D1;obtain⟨k,hk,rfl,A2,m,c2,acc,a2,rfl,ho,hd,hm,hg⟩:=hrel;have hm1:=hm.1.1;have hm2:=hm.1.2;have hacc:=ho.len;have hz:=hg.size;by_cases hlt:k<x
     ·exact absurd hlt om
     ·have hX2:X=(acc,a2,0):=by rw[hm2,show x-k=0 from om];rfl
      have IQ:Kept (M=if Wr.fin l2 a2 0≠0 then([],Wr.fin l2 a2 0)else(acc,0)):=⟨by rw[Yd.1,hX2]⟩
      have EN:=Aj (fQ p a2 l2 0 wr hd);have O:=Aj ho;have BB:=Aj (dD B1.1 hg hp1 hp2);generalize Wr.fin l2 a2 0=f at*;clear hX2 ho hd hm hg hm1 hm2 hacc;by_cases hf:f=0
      ·have Qk:Kept (M=(acc,0)):=⟨by rw[IQ.1,Ng (by simpa using hf)]⟩
       subst hf;clear IQ;go_wp2_with (go_at_call 117;refine EN.1.mono ?_;rintro r w5 ⟨rfl,rfl⟩);go_ret2;refine⟨A2,m,c2,?_,?_,BB.1⟩
       ·rw[Qk.1];rfl
       ·rw[Qk.1];exact O.1.rd
      ·have Qk:Kept (M=([],f)):=⟨by rw[IQ.1,Ps0 hf]⟩
       have Pt:(f==0)=false:=by simpa using hf
       clear IQ;go_wp2_with (go_at_call 117;refine EN.1.mono ?_;rintro r w5 ⟨rfl,rfl⟩);go_ret2;refine⟨none,0,0,?_,?_,BB.1⟩
       ·rw[Qk.1];rfl
       ·rw[Qk.1];exact bM.nil _ _
   ·have ZU:=Aj RD.1;rw[Ng hc]at ZU;clear RD;go_enter func68,ntmps68;go_upto_region 9 with(first
     |(go_at_call 118;refine GA.1.mono ?_;rintro r w1 ⟨rfl,rfl⟩)
     |(go_at_call 110;refine(bW _ _ _ w.heap.size l2 w ZU.1 Ai om).mono ?_;rintro r w1 ⟨p,rfl,hp1,hp2,hr1,hb1⟩;have D1:=Aj hr1;have B1:=Aj hb1;clear hr1 hb1))
    go_loopw [8,37] (fun o i wr=>∃k:Nat,k≤x∧i= .int .i64 k∧∃A2 m c2 acc a2,o= .slice A2 m c2∧aS wr w1.heap.size A2 m c2 acc∧aK wr p l2 a2 0∧Kept (m=k∧X=Sy.dl (Sy.eX l2) (x-k) acc a2)∧w1.grownBy wr (some p)) (fun _ i _=>x-(intOf i).toNat)
    case atStart=>exact⟨0,om,rfl,none,0,0,[],0,rfl,aS.nil _ _,D1.1,⟨rfl,HX.1⟩,CQ _ _⟩
    case round=>
     clear D1;obtain⟨k,hk,rfl,A2,m,c2,acc,a2,rfl,ho,hd,hm,hg⟩:=hrel;have hm1:=hm.1.1;have hm2:=hm.1.2;have hacc:=ho.len;have hz:=hg.size;by_cases hlt:k<x
     ·have ST:Kept (Calls prog 119 #[.pointer (some ⟨p,0,none⟩),.int .i64 65535] wr fun r w'=>r= .returned (.string (Sy.eX l2 a2 0).1)∧aK w' p l2 (Sy.eX l2 a2 0).2.1 (Sy.eX l2 a2 0).2.2∧wr.grownBy w' (some p)):=⟨GK p a2 l2 0 65535 wr hd om⟩
      have hbad:=Aj (fun h=>hm2.trans (Sy.Yb (rd:=Sy.eX l2) (x-k) acc a2 om h));have ko:=Aj (fun h h'=>hm2.trans (Sy.Yc (rd:=Sy.eX l2) (x-k) acc a2 om h h'));have hok:=Aj (fun h h'=>hm2.trans (Sy.WK (rd:=Sy.eX l2) (x-k) acc a2 om h h'));generalize Sy.eX l2 a2 0=Y at*;obtain⟨s,a3,e3⟩:=Y;simp only[]at ST hbad ko hok;have O:=Aj ho;have Gr0:=Aj hg;have SL:=Aj hm1;have hm6:m≤80000000000:=om;by_cases kz:e3=0
      ·subst kz;rcases nz k with h0|h0
       ·have hnil:acc=[]:=vg om;have NX:=Aj (hok.1 rfl (by rw[hnil];rfl));subst h0;clear hbad ko hok ho hd hm hg hm1 hm2 hacc hnil;go_wp2_with (first
         |(go_at_call 119;refine ST.1.mono ?_;rintro r w2 ⟨rfl,hr,hg⟩;have D2:=Aj hr;have O2:=Aj (aS.past O.1 hg hp2);have G2:=Aj (Gr0.1.trans hg);clear hr hg ST)
         |(go_at_call 120;refine(az p a3 l2 0 _ D2.1).mono ?_;rintro r w9 ⟨rfl,rfl⟩)
         |(at_builtin;refine gu rfl (.tmp 65) (.tmp 67) rfl w1.heap.size A2 m c2 acc rfl (Oa O2.1 _) (w2.heap.size+1) _ _ _ [s] rfl (bM.one w2 s) om (by have:=G2.1.size;simp;omega) ?_;intro A4 c4 w4 ax aj di;have O4:=Aj ax;have B4:Kept (Below w1.heap.size w2 w4):=⟨((Ae w1.heap.size w2).alloc G2.1.size _).grown aj (by have:=G2.1.size;simp;omega) (fun g e=>(ae O2.1 g e).1)⟩;have D4:=Aj (D2.1.below B4.1 hp2);have G4:=Aj (ig G2.1 B4.1);clear ax aj di))
        go_roundw
        case rel=>exact⟨0+1,om,by go_num,A4,_,c4,_,a3,rfl,O4.1,D4.1,⟨by rw[SL.1],by rw[NX.1,Nat.sub_sub]⟩,G4.1⟩
        case measure=>simp[intOf];omega
       ·have hk1:k-1<acc.length:=by omega
        obtain⟨g,rfl,hg1,hg2⟩:=ho.pos om;have hoB:Sy.yQ acc s=St.lt acc[k-1] s:=Sy.Uy om hk1;have ek:(k:Int)-1=((k-1:Nat):Int):=om;have XR:((k-1:Nat):Int)< (m:Int):=om;have ew:IntKind.i64.wrap ((k-1:Nat):Int)=((k-1:Nat):Int):=by rw[AV];omega
        have hkp:(0:Int)< (k:Int):=om;have Qf:Op.bytesLess acc[k-1].toList s.toList=St.lt acc[k-1] s:=rfl;by_cases hxy:St.lt acc[k-1] s=true
        ·have NX:=Aj (hok.1 rfl (by rw[hoB];exact hxy));rw[hxy]at Qf;clear hbad ko hok ho hd hm hg hm1 hm2 hacc hoB hxy;go_wp2_with (first
          |(go_at_call 119;refine ST.1.mono ?_;rintro r w2 ⟨rfl,hr,hg⟩;have D2:=Aj hr;have O2:=Aj (aS.past O.1 hg hp2);have G2:=Aj (Gr0.1.trans hg);obtain⟨y0,-⟩:=aS.at_ O2.1 hk1;clear hr hg ST)
          |(go_at_call 120;refine(az p a3 l2 0 _ D2.1).mono ?_;rintro r w9 ⟨rfl,rfl⟩)
          |(at_builtin;refine gu rfl (.tmp 65) (.tmp 67) rfl w1.heap.size (some ⟨g,0,none⟩) m c2 acc rfl (Oa O2.1 _) (w2.heap.size+1) _ _ _ [s] rfl (bM.one w2 s) om (by have:=G2.1.size;simp;omega) ?_;intro A4 c4 w4 ax aj di;have O4:=Aj ax;have B4:Kept (Below w1.heap.size w2 w4):=⟨((Ae w1.heap.size w2).alloc G2.1.size _).grown aj (by have:=G2.1.size;simp;omega) (fun g e=>(ae O2.1 g e).1)⟩;have D4:=Aj (D2.1.below B4.1 hp2);have G4:=Aj (ig G2.1 B4.1);clear ax aj di))
         go_roundw
         case rel=>exact⟨k+1,om,by go_num,A4,_,c4,_,a3,rfl,O4.1,D4.1,⟨by rw[SL.1],by rw[NX.1,Nat.sub_sub]⟩,G4.1⟩
         case measure=>simp[intOf];omega
        ·have hxy':St.lt acc[k-1] s=false:=by simpa using hxy
         have IQ:Kept (M=([],16)):=⟨by rw[Yd.1,ko.1 rfl (by rw[hoB];exact hxy')];rfl⟩
         rw[hxy']at Qf;clear hbad ko hok ho hd hm hg hm1 hm2 hacc hoB hxy hxy';go_wp2_with (first
          |(go_at_call 119;refine ST.1.mono ?_;rintro r w2 ⟨rfl,hr,hg⟩;have D2:=Aj hr;have O2:=Aj (aS.past O.1 hg hp2);have G2:=Aj (Gr0.1.trans hg);obtain⟨y0,-⟩:=aS.at_ O2.1 hk1;clear hr hg ST)
          |(go_at_call 114;refine(bU p a3 l2 0 16 _ D2.1).mono ?_;rintro r w3 ⟨rfl,hr,hg⟩;rw[Ps0 rfl]at hr;have D3:=Aj hr;have G3:=Aj (G2.1.trans hg);clear hr hg)
          |(go_at_call 120;refine(az p a3 l2 16 _ D3.1).mono ?_;rintro r w9 ⟨rfl,rfl⟩)
          |(go_at_call 120;refine(az p a3 l2 0 _ D2.1).mono ?_;rintro r w9 ⟨rfl,rfl⟩))
         go_ret2;refine⟨none,0,0,?_,?_,dD B1.1 G3.1 hp1 hp2⟩
         ·rw[IQ.1];rfl
         ·rw[IQ.1];exact bM.nil _ _
      ·have IQ:Kept (M=([],e3)):=⟨by rw[Yd.1,hbad.1 kz];unfold Wr.fin;simp[kz]⟩
       have wG:(e3==0)=false:=by simpa using kz
       clear hbad ko hok ho hd hm hg hm1 hm2 hacc;go_wp2_with (first
        |(go_at_call 119;refine ST.1.mono ?_;rintro r w2 ⟨rfl,hr,hg⟩;have D2:=Aj hr;have O2:=Aj (aS.past O.1 hg hp2);have G2:=Aj (Gr0.1.trans hg);clear hr hg ST)
        |(go_at_call 120;refine(az p a3 l2 e3 _ D2.1).mono ?_;rintro r w9 ⟨rfl,rfl⟩))
       go_ret2;refine⟨none,0,0,?_,?_,dD B1.1 G2.1 hp1 hp2⟩
       ·rw[IQ.1];rfl
       ·rw[IQ.1];exact bM.nil _ _
     ·have hX2:X=(acc,a2,0):=by rw[hm2,show x-k=0 from om];rfl
      have IQ:Kept (M=if Wr.fin l2 a2 0≠0 then([],Wr.fin l2 a2 0)else(acc,0)):=⟨by rw[Yd.1,hX2]⟩
      have EN:=Aj (fQ p a2 l2 0 wr hd);have O:=Aj ho;have BB:=Aj (dD B1.1 hg hp1 hp2);generalize Wr.fin l2 a2 0=f at*;clear hX2 ho hd hm hg hm1 hm2 hacc;by_cases hf:f=0
      ·have Qk:Kept (M=(acc,0)):=⟨by rw[IQ.1,Ng (by simpa using hf)]⟩
       subst hf;clear IQ;go_wp2_with (go_at_call 117;refine EN.1.mono ?_;rintro r w5 ⟨rfl,rfl⟩);go_ret2;refine⟨A2,m,c2,?_,?_,BB.1⟩
       ·rw[Qk.1];rfl
       ·rw[Qk.1];exact O.1.rd
      ·have Qk:Kept (M=([],f)):=⟨by rw[IQ.1,Ps0 hf]⟩
       have Pt:(f==0)=false:=by simpa using hf
       clear IQ;go_wp2_with (go_at_call 117;refine EN.1.mono ?_;rintro r w5 ⟨rfl,rfl⟩);go_ret2;refine⟨none,0,0,?_,?_,BB.1⟩
       ·rw[Qk.1];rfl
       ·rw[Qk.1];exact bM.nil _ _
 ·have wG:((e:Int)==0)=false:=by simp;omega
  have he2:¬(e:Int)=0:=om;have cZ:Kept (M=([],(e:Int))):=⟨by rw[HM.1,Ps0 he]⟩
  clear hto hbd;go_enter func68,ntmps68;go_wp2_with (go_at_call 118;refine GA.1.mono ?_;rintro r w1 ⟨rfl,rfl⟩);go_ret2;refine⟨none,0,0,?_,?_,Ae _ _⟩
  ·rw[cZ.1];rfl
  ·rw[cZ.1];exact bM.nil _ _
end
end
namespace Ls
abbrev S (l:List Int):Prop:=l.Pairwise (· < ·)
end Ls
end Go.Proofs.YtjcpmfphnodaaaaGreatDoor
