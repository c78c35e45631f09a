/- Part 10. -/
import Derived.Test.YtjcpmfphnodaaaaGreatDoorZTAH
import Derived.Shelf.SlicesE.Kit
namespace Go.Proofs.YtjcpmfphnodaaaaGreatDoor
set_option maxRecDepth 100000
set_option maxHeartbeats 0
open _root_.Go.Proofs.Tryz
section
section
open Go.RowKit Go.Shelf
theorem Ih (x) (w) (h1:x.n.size≤maxLen) (h2:x.v.size≤maxLen):Calls prog 109 #[.agg #[.string x.n,.string x.v]] w fun e w'=>e= .returned (.int .i64 (Lb.one x))∧Gr w w':=by
 unfold maxLen at h1 h2;have e1:x.n.toList.isEmpty=decide (x.n.size=0):=by
  rw[St.tl];obtain⟨⟨l⟩⟩:=x.n;cases l<;>simp[ByteArray.size]
 by_cases h0:x.n.size=0
 ·rw[Bc h0]at e1;have hr:Lb.one x=17:=by simp[Lb.one,h0]
  rw[hr];go_enter func109,ntmps109;go_wp2;go_ret;exact⟨rfl,(Gr.refl w).alloc _⟩
 ·rw[Az h0]at e1;by_cases hb:65535<x.n.size
  ·have hr:Lb.one x=7:=by simp[Lb.one,h0,hb]
   have hb':(65535:Int)< (x.n.size:Int):=om;rw[hr];go_enter func109,ntmps109;go_wp2;go_ret;exact⟨rfl,(Gr.refl w).alloc _⟩
  ·have hb':¬(65535:Int)< (x.n.size:Int):=by omega
   by_cases hb2:65535<x.v.size
   ·have hr:Lb.one x=7:=by simp[Lb.one,h0,hb2]
    have hb2':(65535:Int)< (x.v.size:Int):=om;rw[hr];go_enter func109,ntmps109;go_wp2;go_ret;exact⟨rfl,(Gr.refl w).alloc _⟩
   ·have hr:Lb.one x=0:=by simp[Lb.one,h0,hb,hb2]
    have hb2':¬(65535:Int)< (x.v.size:Int):=om;rw[hr];go_enter func109,ntmps109;go_wp2;go_ret;exact⟨rfl,(Gr.refl w).alloc _⟩
namespace Lb
theorem Fit.at {l} (h:Fit l) {k} (hk:k<l.length):l[k].n.size≤maxLen∧l[k].v.size≤maxLen:=h _ (ic hk)
theorem nN {l} {k} (hk:k<l.length) (h:one l[k]≠0):dI l k=one l[k]:=by
 unfold dI;rw[getD_at hk];simp only[];rw[Ps0 h]
theorem wW {l} (hk:0<l.length) (h:one l[0]=0):dI l 0=0:=by
 unfold dI;rw[getD_at hk];simp[h]
theorem nO {l:List bf} {k:Nat} (hk:k<l.length) (h0:k≠0) (h:one l[k]=0) (he:l[k-1].n=l[k].n):dI l k=18:=by
 unfold dI;rw[getD_at hk];simp only[];rw[Ng (by simp[h]),Ng h0,getD_at (show k-1<l.length from om),Ps0 he]
theorem nP {l:List bf} {k:Nat} (hk:k<l.length) (h0:k≠0) (h:one l[k]=0) (he:St.lt l[k].n l[k-1].n=true):dI l k=16:=by
 unfold dI;rw[getD_at hk];simp only[];rw[Ng (by simp[h]),Ng h0,getD_at (show k-1<l.length from om),Ng (fun e=>by rw[e,St.irrefl]at he;cases he),Ps0 he]
theorem step_ok {l:List bf} {k:Nat} (hk:k<l.length) (h0:k≠0) (h:one l[k]=0) (he:¬l[k-1].n=l[k].n) (hl:St.lt l[k].n l[k-1].n=false):dI l k=0:=by
 unfold dI;rw[getD_at hk];simp only[];rw[Ng (by simp[h]),Ng h0,getD_at (show k-1<l.length from om),Ng he,Ng (by simp[hl])]
theorem nQ {l} {k} (h:∀j,j<k→dI l j=0) (hk:dI l k=0):∀j,j<k+1→dI l j=0:=fun j hj=>by
 by_cases e:j=k
 ·subst e;exact hk
 ·exact h j om
end Lb
theorem yo (A) (n c B) (l) (w) (hv:fD w B A n c l) (hB:B≤w.heap.size) (hf:Lb.Fit l):
  Calls prog 96 #[.slice A n c] w fun e w'=>e= .returned (.int .i64 (Lb.bN l))∧Gr w w':=by
 have hlc:=hv.1;have hcm:=hv.2.1;unfold maxLen at hcm;have hn:=Aj hv.len;have V:=Aj hv;have F:=Aj hf;clear hv hf;obtain⟨r,hr⟩:∃r,r=Lb.bN l:=⟨_,rfl⟩
 rw[←hr];have HR:=Aj hr;clear hr;go_enter func96,ntmps96;go_wp2;go_loopw [3] (fun i wr=>∃k:Nat,k≤n∧i= .int .i64 k∧Kept (∀j,j<k→Lb.dI l j=0)∧Gr w wr) (fun i _=>n-(intOf i).toNat)
 case atStart=>exact⟨0,om,rfl,⟨fun j hj=>om⟩,Gr.refl w⟩
 case round=>
  obtain⟨k,hk,rfl,hd,gr⟩:=hrel;by_cases hlt:k<n
  ·have hkl:k<l.length:=by rw[←hn.1];exact hlt
   obtain⟨b,off,rfl,hc⟩:=V.1.cells hB hkl;obtain⟨c0,c1⟩:=hc wr gr.below;have C:=Aj (fun W (g:Gr w W)=>hc W g.below);have G:=Aj gr;obtain⟨hf1,hf2⟩:=F.1.at hkl;have ONE:=Aj (fun W=>Ih l[k] W hf1 hf2);clear hc gr hf1 hf2;by_cases h1:Lb.one l[k]=0
   ·rw[h1]at ONE;by_cases h0:k=0
    ·have hd2:=Aj (Lb.nQ hd.1 (by subst h0;exact Lb.wW hkl h1));clear h1;subst h0;simp only[Nat.zero_mul,Da]at c0 c1;generalize l[0].n=xn at*;generalize l[0].v=xv at*;go_wp2_with (go_at_call 109;refine(ONE.1 _).mono ?_;rintro e w2 ⟨rfl,g2⟩;have G2:=Aj (G.1.trans g2);clear g2);go_quiet (fail);go_wp2;go_quiet (fail);go_wp2;go_roundw
     case rel=>exact⟨1,om,rfl,hd2,G2.1.drewN _⟩
     case measure=>simp[intOf];omega
    ·have nR:k-1<l.length:=by omega
     obtain⟨b',off',e',hp⟩:=V.1.cells hB nR;simp only[gV,BP,Bi]at e';obtain⟨rfl,rfl⟩:=e';have CP:=Aj (fun W (g:Gr w W)=>hp W g.below);have ek:(k:Int)-1=((k-1:Nat):Int):=om;have XR:((k-1:Nat):Int)< (n:Int):=om;have ek3:0<k:=om;have hq:=St.eq_iff l[k].n l[k-1].n;have hlt':Op.bytesLess l[k].n.toList l[k-1].n.toList=St.lt l[k].n l[k-1].n:=rfl;clear hp;by_cases hdup:l[k-1].n=l[k].n
     ·have hd2:Kept (r=18):=⟨HR.1.trans ((Lb.bq _ _ k hkl hd.1 (by rw[Lb.nO hkl h0 h1 hdup];decide)).trans (Lb.nO hkl h0 h1 hdup))⟩
      rw[Bc hdup.symm]at hq;clear h1 hdup hlt';generalize l[k].n=xn at*;generalize l[k].v=xv at*;generalize l[k-1].n=pn at*;generalize l[k-1].v=pv at*;go_wp2_with (go_at_call 109;refine(ONE.1 _).mono ?_;rintro e w2 ⟨rfl,g2⟩;have G2:=Aj (G.1.trans g2);clear g2;have f0:=(C.1 _ G2.1).1;have p0:=(CP.1 _ G2.1).1);go_quiet (fail);go_wp2;go_ret;exact⟨by rw[hd2.1];rfl,G2.1.drewN _⟩
     ·rw[Az (fun e=>hdup e.symm)]at hq;by_cases ko:St.lt l[k].n l[k-1].n=true
      ·have hd2:Kept (r=16):=⟨HR.1.trans ((Lb.bq _ _ k hkl hd.1 (by rw[Lb.nP hkl h0 h1 ko];decide)).trans (Lb.nP hkl h0 h1 ko))⟩
       rw[ko]at hlt';clear h1 hdup ko;generalize l[k].n=xn at*;generalize l[k].v=xv at*;generalize l[k-1].n=pn at*;generalize l[k-1].v=pv at*;go_wp2_with (go_at_call 109;refine(ONE.1 _).mono ?_;rintro e w2 ⟨rfl,g2⟩;have G2:=Aj (G.1.trans g2);clear g2;have f0:=(C.1 _ G2.1).1;have p0:=(CP.1 _ G2.1).1);go_quiet (fail);go_wp2;go_quiet (fail);go_wp2;go_ret;exact⟨by rw[hd2.1];rfl,(G2.1.drewN _).drewN _⟩
      ·have wX:St.lt l[k].n l[k-1].n=false:=by simpa using ko
       have hd2:=Aj (Lb.nQ hd.1 (Lb.step_ok hkl h0 h1 hdup wX));rw[wX]at hlt';clear h1 hdup ko wX;generalize l[k].n=xn at*;generalize l[k].v=xv at*;generalize l[k-1].n=pn at*;generalize l[k-1].v=pv at*;go_wp2_with (go_at_call 109;refine(ONE.1 _).mono ?_;rintro e w2 ⟨rfl,g2⟩;have G2:=Aj (G.1.trans g2);clear g2;have f0:=(C.1 _ G2.1).1;have p0:=(CP.1 _ G2.1).1);go_quiet (fail);go_wp2;go_quiet (fail);go_wp2;go_roundw
       case rel=>exact⟨k+1,om,by go_num,hd2,G2.1.drewN _⟩
       case measure=>simp[intOf];omega
   ·have hd2:Kept (r=Lb.one l[k]):=⟨HR.1.trans ((Lb.bq _ _ k hkl hd.1 (by rw[Lb.nN hkl h1];exact h1)).trans (Lb.nN hkl h1))⟩
    generalize Lb.one l[k]=s at*;generalize l[k].n=xn at*;generalize l[k].v=xv at*;go_wp2_with (go_at_call 109;refine(ONE.1 _).mono ?_;rintro e w2 ⟨rfl,g2⟩;have G2:=Aj (G.1.trans g2);clear g2);go_ret;exact⟨by rw[hd2.1];rfl,G2.1⟩
  ·have hd2:Kept (r=0):=⟨HR.1.trans (Lb.dx _ _ fun j hj=>hd.1 j (by have:=hn.1;omega))⟩
   have G:=Aj gr;clear gr;go_wp2;go_ret;exact⟨by rw[hd2.1];rfl,G.1⟩
end
end
section
section
open Go.RowKit Go.Shelf
theorem Pv (a) (W):Sem.run prog (Instr.field 254 (.agg #[a]) 0) W= .ok a W:=kr
theorem TZ {a b} (h:St.lt b a=true):St.cmp a b=1:=by simp[St.cmp,h,St.asymm h]
theorem Pw {a b} (h:St.lt b a=false) (hn:¬a=b):St.cmp a b= -1:=by
 unfold St.cmp;cases hab:St.lt a b with
 |true=>rfl
 |false=>exact absurd (St.total hab h) hn
theorem Ii (A) (n c B) (l) (w) (hv:fD w B A n c l) (hB:B≤w.heap.size) (hf:Lb.Fit l):
  Calls prog 92 #[.slice A n c] w fun e w'=>e= .returned (.int .i64 (Lb.bN l))∧Gr w w':=by
 have mixed:prog.follows .mixedOrders=true:=kr;have hlc:=hv.1;have hcm:=hv.2.1;unfold maxLen at hcm;have hn:=Aj hv.len;have V:=Aj hv;have F:=Aj hf;clear hv hf;obtain⟨r,hr⟩:∃r,r=Lb.bN l:=⟨_,rfl⟩
 rw[←hr];have HR:=Aj hr;clear hr;have ii:=fun W=>sK (.func (.func 203) #[] #[]) (.func (.func 204) #[] #[]) W
 have jj:=fun W=>Pv (.func (.func 203) #[] #[]) W
 have BY:=fun W=>Ia (.func (.func 203) #[] #[]) rfl W
 go_enter func92,ntmps92;go_upto_region 2 with(first
  |(go_at_call 150;refine(pG _).mono ?_;rintro e w1 ⟨rfl,g1⟩)
  |(go_at_call 149;refine(BY _).mono ?_;rintro e w2 ⟨rfl,rfl⟩))
 have G1:=Aj (g1.alloc (.cells #[.func (.func 203) #[] #[]] 252));have hcb:Kept ((w1.alloc (.cells #[.func (.func 203) #[] #[]] 252)).cell? ⟨w1.heap.size,0,none⟩=some (.func (.func 203) #[] #[])):=⟨Au w1 _ _ _ 0⟩
 have hzb:Kept (w1.heap.size< (w1.alloc (.cells #[.func (.func 203) #[] #[]] 252)).heap.size):=⟨sm⟩
 clear g1 ii jj BY;generalize w1.alloc (.cells #[.func (.func 203) #[] #[]] 252)=W1 at*;generalize w1.heap.size=Bf at*;go_wp2;go_loopw [13] (fun i wr=>∃k:Nat,k≤n∧i= .int .i64 k∧Kept (∀j,j<k→Lb.dI l j=0)∧Gr W1 wr) (fun i _=>n-(intOf i).toNat)
 case atStart=>exact⟨0,om,rfl,⟨fun j hj=>om⟩,Gr.refl W1⟩
 case round=>
  obtain⟨k,hk,rfl,hd,gr⟩:=hrel;by_cases hlt:k<n
  ·have hkl:k<l.length:=by rw[←hn.1];exact hlt
   obtain⟨b,off,rfl,hc⟩:=V.1.cells hB hkl;obtain⟨c0,c1⟩:=hc wr (G1.1.trans gr).below;have G:=Aj gr;obtain⟨hf1,hf2⟩:=F.1.at hkl;have ONE:=Aj (fun W=>Ib l[k] W hf1 hf2);clear hc gr hf1 hf2;by_cases h1:Lb.one l[k]=0
   ·rw[h1]at ONE;by_cases h0:k=0
    ·have hd2:=Aj (Lb.nQ hd.1 (by subst h0;exact Lb.wW hkl h1));clear h1;subst h0;simp only[Nat.zero_mul,Da]at c0 c1;generalize l[0].n=xn at*;generalize l[0].v=xv at*;go_wp2_with (go_at_call 151;refine(ONE.1 _).mono ?_;rintro e w2 ⟨rfl,g2⟩;have G2:=Aj ((G.1.alloc _).trans g2);clear g2);go_roundw
     case rel=>exact⟨1,om,rfl,hd2,G2.1⟩
     case measure=>simp[intOf];omega
    ·have nR:k-1<l.length:=by omega
     obtain⟨b',off',e',hp⟩:=V.1.cells hB nR;simp only[gV,BP,Bi]at e';obtain⟨rfl,rfl⟩:=e';have CP:=Aj (fun W (g:Gr W1 W)=>hp W (G1.1.trans g).below);have ek:(k:Int)-1=((k-1:Nat):Int):=om;have XR:((k-1:Nat):Int)< (n:Int):=om;have ew:IntKind.i64.wrap ((k-1:Nat):Int)=((k-1:Nat):Int):=by rw[AV];omega
     have ek3:0<k:=om;have ek4:¬k=0:=h0;have hcase:Kept ((St.cmp l[k-1].n l[k].n=0∧r=18)∨(St.cmp l[k-1].n l[k].n=1∧r=16)∨(St.cmp l[k-1].n l[k].n= -1∧∀j,j<k+1→Lb.dI l j=0)):=⟨by
      by_cases hdup:l[k-1].n=l[k].n
      ·exact .inl ⟨St.jg.2 hdup,HR.1.trans ((Lb.bq _ _ k hkl hd.1 (by rw[Lb.nO hkl h0 h1 hdup];decide)).trans (Lb.nO hkl h0 h1 hdup))⟩
      ·by_cases ko:St.lt l[k].n l[k-1].n=true
       ·exact .inr (.inl ⟨TZ ko,HR.1.trans ((Lb.bq _ _ k hkl hd.1 (by rw[Lb.nP hkl h0 h1 ko];decide)).trans (Lb.nP hkl h0 h1 ko))⟩)
       ·have wX:St.lt l[k].n l[k-1].n=false:=by simpa using ko
        exact .inr (.inr ⟨Pw wX hdup,Lb.nQ hd.1 (Lb.step_ok hkl h0 h1 hdup wX)⟩)⟩
     have B1:=Aj (fun W hB hc=>yh 203 bf.n (enters_of func203 kr rfl) pF Bf l[k-1] l[k] W hB hc);clear hp h1 h0;generalize St.cmp l[k-1].n l[k].n=s at*;generalize l[k].n=xn at*;generalize l[k].v=xv at*;generalize l[k-1].n=pn at*;generalize l[k-1].v=pv at*;go_upto_region 9 with(go_at_call 151;refine(ONE.1 _).mono ?_;rintro e w2 ⟨rfl,g2⟩;have G2:=Aj ((G.1.alloc _).trans g2))
     have hz2:wr.heap.size<w2.heap.size:=jB sm g2.size;have hz3:Bf<w2.heap.size:=jB hzb.1 G2.1.size;have f0:=fun n os=>cell_grown (a:=⟨wr.heap.size,0,none⟩) hz2 ((g2.cell _ 0 sm).trans (Au wr #[.string xn,.string xv] 59 (0,0) 0)) n os
     have f1:=fun n os=>cell_grown (a:=⟨wr.heap.size,1,none⟩) hz2 ((g2.cell _ 1 sm).trans (Au wr #[.string xn,.string xv] 59 (0,0) 1)) n os
     have p0:=fun n os=>(CP.1 (Sort.grow (w2.drewN n) os) (G2.1.trans ⟨n,os,rfl⟩)).1
     have p1:=fun n os=>(CP.1 (Sort.grow (w2.drewN n) os) (G2.1.trans ⟨n,os,rfl⟩)).2
     have BB:=fun n os=>B1.1 (Sort.grow (w2.drewN n) os) (jB hz3 (show w2.heap.size≤(Sort.grow (w2.drewN n) os).heap.size by rw[Sort.size_grow];show w2.heap.size≤w2.heap.size+_;omega)) (((G2.1.trans ⟨n,os,rfl⟩).cell Bf 0 hzb.1).trans hcb.1)
     clear B1 g2 hz2 hz3 c0 c1;go_quiet_grown (first|(go_at_call 202;refine Calls.grown_of (BB _ _)));clear f0 f1 p0 p1 BB;rcases hcase.1 with⟨rfl,hres⟩|⟨rfl,hres⟩|⟨rfl,hd2⟩
     ·have hres:=Aj hres;go_wp2;go_ret;exact⟨by first|rfl|(rw[hres.1];rfl),G1.1.trans (G2.1.trans ⟨_,_,rfl⟩)⟩
     ·have hres:=Aj hres;go_wp2;go_ret;exact⟨by first|rfl|(rw[hres.1];rfl),G1.1.trans (G2.1.trans ⟨_,_,rfl⟩)⟩
     ·have hd2:=Aj hd2;go_wp2;go_roundw
      case rel=>exact⟨k+1,om,by go_num,hd2,G2.1.trans ⟨_,_,rfl⟩⟩
      case measure=>simp[intOf];omega
   ·have hd2:Kept (r=Lb.one l[k]):=⟨HR.1.trans ((Lb.bq _ _ k hkl hd.1 (by rw[Lb.nN hkl h1];exact h1)).trans (Lb.nN hkl h1))⟩
    generalize Lb.one l[k]=s at*;generalize l[k].n=xn at*;generalize l[k].v=xv at*;go_wp2_with (go_at_call 151;refine(ONE.1 _).mono ?_;rintro e w2 ⟨rfl,g2⟩;have G2:=Aj ((G.1.alloc _).trans g2);clear g2);go_ret;exact⟨by rw[hd2.1];rfl,G1.1.trans G2.1⟩
  ·have hd2:Kept (r=0):=⟨HR.1.trans (Lb.dx _ _ fun j hj=>hd.1 j (by have:=hn.1;omega))⟩
   have G:=Aj gr;clear gr;go_wp2;go_ret;exact⟨by rw[hd2.1];rfl,G1.1.trans G.1⟩
end
end
namespace Bt
def bit (L:List UInt8) (k:Nat):Bool:=(L.getD (k/8) 0).toNat.testBit (7-k%8)
def bits (L:List UInt8):List Bool:=(List.range (8*L.length)).map (bit L)
def bw:Nat→Nat→List Bool
 |0,_=>[]
 |n+1,x=>x.testBit n::bw n x
def oG (l:List Bool):Nat:=l.foldl (fun a b=>2*a+b.toNat) 0
theorem ik (L):(bits L).length=8*L.length:=by simp[bits]
theorem ji (L) (k) (h:k< (bits L).length):(bits L)[k]=bit L k:=by simp[bits]
theorem ak:∀(n x),(bw n x).length=n
 |0,_=>rfl
 |n+1,x=>by rw[bw,Lc,ak n x]
theorem Ij:∀(n x i) (h:i< (bw n x).length),(bw n x)[i]=x.testBit (n-1-i)
 |0,_,_,h=>by simp[bw]at h
 |n+1,x,0,_=>by simp[bw]
 |n+1,x,i+1,h=>by
  have h2:i<n:=by rw[ak]at h;omega
  simp only[bw,Bz];rw[Ij n x i,show n+1-1-(i+1)=n-1-i from om]
theorem Mi (l) (a):l.foldl (fun a b=>2*a+b.toNat) a=a*2^l.length+oG l:=by
 induction l generalizing a with
 |nil=>simp[oG]
 |cons b l ih=>
  unfold oG;rw[List.foldl_cons,List.foldl_cons,ih,ih (2*0+b.toNat),Lc,BQ,Nat.mul_zero,cB,Nat.add_mul,Dm 2 a,Nat.mul_assoc,Dm 2 (2^l.length)];omega
theorem Px (l) (b):oG (l++[b])=2*oG l+b.toNat:=by simp[oG]
theorem sQ (b) (l):oG (b::l)=b.toNat*2^l.length+oG l:=by
 have:=Mi l b.toNat;rw[←this];simp[oG]
theorem yt (l):oG l<2^l.length:=by
 induction l with
 |nil=>simp[oG]
 |cons b l ih=>
  rw[sQ,Lc,BQ];cases b<;>simp<;>omega
theorem sS:∀(n x),oG (bw n x)=x%2^n
 |0,x=>by simp[bw,oG,Nat.mod_one]
 |n+1,x=>by
  rw[bw,sQ,ak,sS n x];rw[BQ,Nat.mod_mul,Dc,Nat.add_comm,Dm];rcases Cv (x/2^n)with h|h<;>simp[h]
theorem yu:∀(l),bw l.length (oG l)=l
 |[]=>rfl
 |b::l=>by
  have ih:=yu l;have hlt:=yt l;rw[Lc,bw,sQ];have h1:(b.toNat*2^l.length+oG l).testBit l.length=b:=by
   rw[Dc,Dm,Nat.mul_add_div (Nat.pow_pos Ah),Nat.div_eq_of_lt hlt];cases b<;>simp
  have h2:∀(n m:Nat),(∀i,i<n→m.testBit i=(oG l).testBit i)→bw n m=bw n (oG l):=by
   intro n
   induction n with
   |zero=>intros;rfl
   |succ n ih=>intro m h;rw[bw,bw,h n om,ih m (fun i hi=>h i om)]
  rw[h1,h2 l.length _ (fun i hi=>?_),ih];rw[Dm,Nat.testBit_two_pow_mul_add _ hlt,Ps0 hi]
theorem Py (L) (k) (y) (at_) (b) (hk:at_/8<L.length) (h0:bit L at_=false) (hy:y.toNat=(L.getD (at_/8) 0).toNat|||(b.toNat<<< (7-at_%8))):
  bit (L.set (at_/8) y) k=if k=at_ then b else bit L k:=by
 unfold bit at h0⊢;by_cases h8:k/8=at_/8
 ·have e1:(L.set (at_/8) y).getD (k/8) 0=y:=by
   rw[h8,ku,List.getElem?_set_self hk];rfl
  rw[e1,hy,Nat.testBit_or,Nat.testBit_shiftLeft,h8];by_cases hk2:k=at_
  ·subst hk2;rw[h0,Ps0 rfl];cases b<;>simp
  ·rw[Ng hk2];have hne:k%8≠at_%8:=fun h=>hk2 om
   by_cases hge:7-k%8≥7-at_%8
   ·have:7-k%8-(7-at_%8)≠0:=by omega
    obtain⟨j,hj⟩:=Nat.exists_eq_succ_of_ne_zero this;rw[hj];cases b<;>simp[Nat.testBit_succ]
   ·simp[hge]
 ·have e1:(L.set (at_/8) y).getD (k/8) 0=L.getD (k/8) 0:=by
   rw[ku,List.getElem?_set_ne (fun h=>h8 h.symm),ku]
  rw[e1,Ng (fun h=>h8 (by rw[h]))]
theorem Pz (L) (k):bit (L++[0]) k=bit L k:=by
 unfold bit;rw[ku,ku];rcases Dr (k/8) L.length with h|h|h
 ·rw[CJ h]
 ·rw[h];simp
 ·rw[BC (by simp;omega),BC om]
structure Wr (L:List UInt8) (bs:List Bool):Prop where
 len:L.length=(bs.length+7)/8
 get:∀(k:Nat) (h:k<bs.length),bit L k=bs[k]
 pad:∀k,bs.length≤k→bit L k=false
theorem Wr.nil:Wr [] []:=⟨rfl,fun k h=>by simp at h,fun k _=>by simp[bit]⟩
theorem Wr.push {L} {bs} (h:Wr L bs) (b) {y} {L2} (hL:L2=if bs.length%8=0 then L++[0]else L)
  (hy:y.toNat=(L2.getD (bs.length/8) 0).toNat|||(b.toNat<<< (7-bs.length%8))):bs.length/8<L2.length∧Wr (L2.set (bs.length/8) y) (bs++[b]):=by
 have hl:=h.len;have h2:L2.length=(bs.length+8)/8:=by
  rw[hL];split
  ·rw[La,hl];simp;omega
  ·omega
 have hb:∀k,bit L2 k=bit L k:=fun k=>by
  rw[hL];split
  ·exact Pz L k
  ·rfl
 have hk:bs.length/8<L2.length:=om;have P:=fun k=>Py L2 k y bs.length b hk (by rw[hb];exact h.pad _ Ai) hy
 refine⟨hk,?_,fun k hk2=>?_,fun k hk2=>?_⟩
 ·simp;omega
 ·rw[P,hb];simp only[La,Dh]at hk2;by_cases hkb:k=bs.length
  ·subst hkb;simp
  ·rw[Ng hkb,h.get k om,sP]
 ·simp at hk2;rw[P,hb,Ng om,h.pad k om]
theorem T9 {L M} (hl:L.length=M.length) (h:∀k,k<8*L.length→bit L k=bit M k):L=M:=by
 apply Dy hl;intro i h1 h2;apply UInt8.toNat_inj.1;apply Nat.eq_of_testBit_eq;intro j;by_cases hj:j<8
 ·have:=h (8*i+(7-j)) om;unfold bit at this;rw[show(8*i+(7-j))/8=i from om,show 7-(8*i+(7-j))%8=j from om]at this;simpa[ku,h1,h2]using this
 ·have p1:=L[i].toNat_lt;have p2:=M[i].toNat_lt;have hp:2^8≤2^j:=j5 Ah om;rw[Nat.testBit_lt_two_pow om,Nat.testBit_lt_two_pow om]
theorem Wr.inj {L M} {bs} (h1:Wr L bs) (h2:Wr M bs):L=M:=by
 refine T9 (by rw[h1.len,h2.len]) (fun k _=>?_);by_cases hk:k<bs.length
 ·rw[h1.get k hk,h2.get k hk]
 ·rw[h1.pad k om,h2.pad k om]
end Bt
namespace Tm
open Bt
def sw (x:Int):Int:=(x+9223372036854775808)%18446744073709551616-9223372036854775808
def In (x:Int):Prop:= -9223372036854775808≤x∧x<9223372036854775808
theorem qE (x):In (sw x):=by unfold In sw;omega
def wd (x:Int):Nat:=(x%18446744073709551616).toNat
theorem J5 (x):wd x<18446744073709551616:=by unfold wd;omega
theorem aaN {x} (h:In x):sw (wd x:Int)=x:=by unfold In at h;unfold sw wd;omega
def fm (x:Int):Nat:=if x=0 then 0 else if-64≤x∧x<64 then 1 else if-2048≤x∧x<2048 then 2 else if-2147483648≤x∧x<2147483648 then 3 else 4
def fb:Nat→Nat|0=>0|1=>2|2=>6|3=>14|_=>15
def fl:Nat→Nat|0=>1|1=>2|2=>3|3=>4|_=>4
def fw:Nat→Nat|0=>0|1=>7|2=>12|3=>32|_=>64
theorem Et (x):fm x≤4:=by unfold fm;split<;>(try split)<;>(try split)<;>(try split)<;>omega
def ex (n w:Nat):Int:=if w=0 then 0 else if 2*(n%2^w)<2^w then((n%2^w:Nat):Int)else((n%2^w:Nat):Int)-((2^w:Nat):Int)
def ch (x:Int):List Bool:=bw (fl (fm x)) (fb (fm x))++bw (fw (fm x)) (wd x)
def yw:Int→Int→List Int→List Int
 |_,_,[]=>[]
 |t,d,u::l=>sw (sw (u-t)-d)::yw u (sw (u-t)) l
def enc:List Int→List Bool
 |[]=>[]
 |t::l=>bw 64 (wd t)++(yw t 0 l).flatMap ch
def rd (n:Nat) (r:List Bool):Nat×List Bool×Int:=if r.length<n then(0,r,3)else(oG (r.take n),r.drop n,0)
theorem il (n x) (r):rd n (bw n x++r)=(x%2^n,r,0):=by
 unfold rd;rw[Ng (by simp[ak]),List.take_left' (ak n x),List.drop_left' (ak n x),sS]
theorem jk {n x} {r r'} (h:rd n r=(x,r',0)):r=bw n x++r'∧x<2^n:=by
 unfold rd at h;split at h
 ·simp at h
 ·rename_i hn
  simp only[ay]at h;obtain⟨rfl,rfl,-⟩:=h;have hl:(r.take n).length=n:=by simp;omega
  have:=yu (r.take n);rw[hl]at this;refine⟨by rw[this,jC],?_⟩;have:=yt (r.take n);rwa[hl]at this
def gf:Nat→Nat→List Bool→Nat×List Bool×Int
 |0,i,r=>(i,r,0)
 |k+1,i,r=>if(rd 1 r).2.2≠0∨(rd 1 r).1=0 then(i,(rd 1 r).2)else gf k (i+1) (rd 1 r).2.1
def gc (r:List Bool):Int×List Bool×Int:=
 if(gf 4 0 r).2.2≠0 then(0,(gf 4 0 r).2)
 else(ex (rd (fw (gf 4 0 r).1) (gf 4 0 r).2.1).1 (fw (gf 4 0 r).1),(rd (fw (gf 4 0 r).1) (gf 4 0 r).2.1).2.1,
  if(rd (fw (gf 4 0 r).1) (gf 4 0 r).2.1).2.2≠0 then(rd (fw (gf 4 0 r).1) (gf 4 0 r).2.1).2.2 else if fm (ex (rd (fw (gf 4 0 r).1) (gf 4 0 r).2.1).1 (fw (gf 4 0 r).1))≠(gf 4 0 r).1 then 8 else 0)
theorem aaO {i n} (hi:i≤4) (hn:n<2^fw i) (h:fm (ex n (fw i))=i):n=wd (ex n (fw i))%2^fw i:=by
 rcases(by omega:i=0∨i=1∨i=2∨i=3∨i=4)with rfl|rfl|rfl|rfl|rfl
 ·simp only[fw]at*;omega
 all_goals
  simp only[fw]at*;unfold ex wd;rw[Ng Ah];split<;>omega
theorem aaP {x} (hx:In x):ex (wd x%2^fw (fm x)) (fw (fm x))=x:=by
 unfold In at hx;unfold fm;split
 ·rename_i h;subst h;rfl
 ·split
  ·simp only[fw];unfold ex wd;rw[Ng Ah];split<;>omega
  ·split
   ·simp only[fw];unfold ex wd;rw[Ng Ah];split<;>omega
   ·split
    ·simp only[fw];unfold ex wd;rw[Ng Ah];split<;>omega
    ·simp only[fw];unfold ex wd;rw[Ng Ah];split<;>omega
theorem zK (b) (r):rd 1 (b::r)=(b.toNat,r,0):=by unfold rd;cases b<;>simp[oG]
theorem rJ:rd 1 []=(0,[],3):=rfl
theorem aaQ {i} (hi:i≤4) (r):gf 4 0 (bw (fl i) (fb i)++r)=(i,r,0):=by
 rcases(by omega:i=0∨i=1∨i=2∨i=3∨i=4)with rfl|rfl|rfl|rfl|rfl
 ·rw[show bw (fl 0) (fb 0)=[false]from rfl];simp[gf,zK]
 ·rw[show bw (fl 1) (fb 1)=[true,false]from rfl];simp[gf,zK]
 ·rw[show bw (fl 2) (fb 2)=[true,true,false]from rfl];simp[gf,zK]
 ·rw[show bw (fl 3) (fb 3)=[true,true,true,false]from rfl];simp[gf,zK]
 ·rw[show bw (fl 4) (fb 4)=[true,true,true,true]from rfl];simp[gf,zK]
theorem aaR {i} {r r'} (h:gf 4 0 r=(i,r',0)):i≤4∧r=bw (fl i) (fb i)++r':=by
 match r,h with
 |[],h=>simp[gf,rJ]at h
 |[true],h=>simp[gf,zK,rJ]at h
 |[true,true],h=>simp[gf,zK,rJ]at h
 |[true,true,true],h=>simp[gf,zK,rJ]at h
 |false::r,h=>
  simp[gf,zK]at h;obtain⟨rfl,rfl⟩:=h;exact⟨om,rfl⟩
 |true::false::r,h=>
  simp[gf,zK]at h;obtain⟨rfl,rfl⟩:=h;exact⟨om,rfl⟩
 |true::true::false::r,h=>
  simp[gf,zK]at h;obtain⟨rfl,rfl⟩:=h;exact⟨om,rfl⟩
 |true::true::true::false::r,h=>
  simp[gf,zK]at h;obtain⟨rfl,rfl⟩:=h;exact⟨om,rfl⟩
 |true::true::true::true::r,h=>
  simp[gf,zK]at h;obtain⟨rfl,rfl⟩:=h;exact⟨om,rfl⟩
theorem aaS {x} (hx:In x) (r):gc (ch x++r)=(x,r,0):=by
 unfold gc ch;rw[Af,aaQ (Et x),il];simp[aaP hx]
theorem Ws {n w} (hw:w≤64):In (ex n w):=by
 unfold ex;split
 ·unfold In;omega
 ·rename_i h0
  have h1:n%2^w<2^w:=Nat.mod_lt _ (Nat.pow_pos Ah);have h2:2^w≤2^64:=j5 Ah hw;generalize n%2^w=m at*;generalize 2^w=p at*;unfold In;split<;>omega
theorem aaT {x} {r r'} (h:gc r=(x,r',0)):In x∧r=ch x++r':=by
 unfold gc at h;obtain⟨i,r1,e1,hg⟩:∃i r1 e1,gf 4 0 r=(i,r1,e1):=⟨_,_,_,rfl⟩
 rw[hg]at h;simp only[]at h;by_cases he:e1=0
 ·subst he;rw[Ng sm]at h;obtain⟨n,r2,e2,hr⟩:∃n r2 e2,rd (fw i) r1=(n,r2,e2):=⟨_,_,_,rfl⟩
  rw[hr]at h;simp only[ay]at h;obtain⟨h1,rfl,h3⟩:=h;by_cases he2:e2=0
  ·subst he2;rw[Ng sm]at h3;by_cases hf:fm (ex n (fw i))=i
   ·obtain⟨hi,hg2⟩:=aaR hg;obtain⟨hr2,hn⟩:=jk hr;have hnx:=aaO hi hn hf;rw[h1]at hf hnx;refine⟨?_,?_⟩
    ·rw[←h1];exact Ws (by rcases(by omega:i=0∨i=1∨i=2∨i=3∨i=4)with rfl|rfl|rfl|rfl|rfl<;>simp[fw])
    ·unfold ch;rw[hf,Af,hg2,hr2]
     congr 2
     have:∀(n a b:Nat),a%2^n=b%2^n→bw n a=bw n b:=by
      intro n a b hab;have e1:=yu (bw n a);have e2:=yu (bw n b);rw[ak,sS]at e1 e2;rw[←e1,←e2,hab]
     exact this _ _ _ (by rw[jA hn];exact hnx)
   ·rw[Ps0 hf]at h3;simp at h3
  ·rw[Ps0 he2]at h3;exact absurd h3 he2
 ·rw[Ps0 he]at h;simp only[ay]at h;exact absurd h.2.2 he
def gt:Nat→Int→Int→List Int→List Bool→List Int×List Bool×Int
 |0,_,_,acc,r=>(acc,r,0)
 |n+1,t,d,acc,r=>if(gc r).2.2≠0 then([],(gc r).2)else gt n (sw (t+sw (d+(gc r).1))) (sw (d+(gc r).1)) (acc++[sw (t+sw (d+(gc r).1))]) (gc r).2.1
def dec (n:Nat) (r:List Bool):List Int×List Bool×Int:=
 if n=0 then([],r,0)else if(rd 64 r).2.2≠0 then([],(rd 64 r).2)else gt (n-1) (sw (rd 64 r).1) 0 [sw (rd 64 r).1] (rd 64 r).2.1
theorem PG:∀(l) (t d) (acc) (r),In t→In d→(∀u∈l,In u)→gt l.length t d acc ((yw t d l).flatMap ch++r)=(acc++l,r,0)
 |[],t,d,acc,r,_,_,_=>by simp[gt,yw]
 |u::l,t,d,acc,r,ht,hd,hl=>by
  have hu:=hl u jM;rw[Lc,gt,yw,Aq,Af,aaS (qE _)];have e1:sw (d+sw (sw (u-t)-d))=sw (u-t):=by unfold In at*;unfold sw;omega
  have e2:sw (t+sw (u-t))=u:=by unfold In at*;unfold sw;omega
  simp only[e1,e2];rw[Ng sm,PG l u (sw (u-t)) (acc++[u]) r hu (qE _) (fun v hv=>hl v (nS _ hv))];simp
theorem bT {l} (hl:∀u∈l,In u) (r):dec l.length (enc l++r)=(l,r,0):=by
 cases l with
 |nil=>simp[dec,enc]
 |cons t l=>
  have ht:=hl t jM;unfold dec enc;rw[Ng sm,Af,il,Ng sm];have e1:sw ((wd t%2^64:Nat):Int)=t:=by
   rw[jA (by have:=J5 t;omega),aaN ht]
  simp only[e1,Lc,Bn];rw[PG l t 0 [t] r ht (by unfold In;omega) (fun v hv=>hl v (nS _ hv))]
  rfl
theorem Wt:∀(n) (t d) (acc) (r) (l) (r'),In t→In d→gt n t d acc r=(l,r',0)→∃m,l=acc++m∧m.length=n∧(∀u∈m,In u)∧r=(yw t d m).flatMap ch++r'
 |0,t,d,acc,r,l,r',_,_,h=>by
  simp only[gt,ay]at h;exact⟨[],by simp[h.1],rfl,sm,by simp[yw,h.2.1]⟩
 |n+1,t,d,acc,r,l,r',ht,hd,h=>by
  rw[gt]at h;obtain⟨x,r1,e1,hg⟩:∃x r1 e1,gc r=(x,r1,e1):=⟨_,_,_,rfl⟩
  rw[hg]at h;simp only[]at h;by_cases he:e1=0
  ·subst he;rw[Ng sm]at h;obtain⟨hx,hr⟩:=aaT hg;obtain⟨m,h1,h2,h3,h4⟩:=Wt n _ _ _ _ _ _ (qE _) (qE _) h;refine⟨sw (t+sw (d+x))::m,by simp[h1],by simp[h2],?_,?_⟩
   ·intro u hu;rcases iM.1 hu with rfl|hu
    ·exact qE _
    ·exact h3 u hu
   ·have e1:sw (sw (t+sw (d+x))-t)=sw (d+x):=by unfold In at*;unfold sw;omega
    have e2:sw (sw (d+x)-d)=x:=by unfold In at*;unfold sw;omega
    rw[yw,e1,e2,Aq,hr,h4,Af]
  ·rw[Ps0 he]at h;simp only[ay]at h;exact absurd h.2.2 he
theorem fG {n} {r r'} {l} (h:dec n r=(l,r',0)):l.length=n∧(∀u∈l,In u)∧r=enc l++r':=by
 unfold dec at h;by_cases hn:n=0
 ·subst hn;rw[Ps0 rfl]at h;simp only[ay]at h;obtain⟨rfl,rfl,-⟩:=h;exact⟨rfl,sm,rfl⟩
 ·rw[Ng hn]at h;obtain⟨x,r1,e1,hg⟩:∃x r1 e1,rd 64 r=(x,r1,e1):=⟨_,_,_,rfl⟩
  rw[hg]at h;simp only[]at h;by_cases he:e1=0
  ·subst he;rw[Ng sm]at h;obtain⟨hr,hx⟩:=jk hg;obtain⟨m,h1,h2,h3,h4⟩:=Wt _ _ _ _ _ _ _ (qE _) (by unfold In;omega) h;subst h1;refine⟨by simp[h2];omega,?_,?_⟩
   ·intro u hu;have hu2:u∈sw (x:Int)::m:=hu;rcases iM.1 hu2 with h|hu
    ·rw[h];exact qE _
    ·exact h3 u hu
   ·have e1:wd (sw (x:Int))=x:=by unfold wd sw;omega
    rw[List.singleton_append,enc,e1,Af,←h4,hr]
  ·rw[Ps0 he]at h;simp only[ay]at h;exact absurd h.2.2 he
end Tm
namespace Di
open Bt Tm
def Up (l:List Nat):Prop:=l.Pairwise (· < ·)
def ins (x:Nat):List Nat→List Nat
 |[]=>[x]
 |y::l=>if x<y then x::y::l else if x=y then y::l else y::ins x l
def dZ (l:List Nat):List Nat:=l.foldr ins []
theorem yx (x z):∀(l),z∈ins x l↔z=x∨z∈l
 |[]=>by simp[ins]
 |y::l=>by
  rw[ins];split
  ·simp
  ·split
   ·rename_i h;subst h;simp
   ·rw[iM,yx x z l,iM];constructor
    ·rintro(h|h|h)<;>simp[h]
    ·rintro(h|h|h)<;>simp[h]
theorem PH (x):∀{l},Up l→Up (ins x l)
 |[],_=>by simp[ins,Up]
 |y::l,h=>by
  obtain⟨h1,h2⟩:=Bo.1 h;rw[ins];split
  ·rename_i hx
   refine Bo.2 ⟨fun z hz=>?_,h⟩;rcases iM.1 hz with rfl|hz
   ·exact hx
   ·have:=h1 z hz;omega
  ·split
   ·exact h
   ·refine Bo.2 ⟨fun z hz=>?_,PH x h2⟩;rcases(yx x z l).1 hz with rfl|hz
    ·omega
    ·exact h1 z hz
theorem pJ (l):Up (dZ l):=by
 induction l with
 |nil=>exact List.Pairwise.nil
 |cons x l ih=>exact PH x ih
theorem eO (l) (z):z∈dZ l↔z∈l:=by
 induction l with
 |nil=>simp[dZ]
 |cons x l ih=>
  have:dZ (x::l)=ins x (dZ l):=rfl;rw[this,yx,ih,iM]
theorem PI:∀{l m},Up l→Up m→(∀z,z∈l↔z∈m)→l=m
 |[],[],_,_,_=>rfl
 |[],y::m,_,_,h=>by have:=(h y).2 jM;simp at this
 |x::l,[],_,_,h=>by have:=(h x).1 jM;simp at this
 |x::l,y::m,h1,h2,h=>by
  obtain⟨a1,a2⟩:=Bo.1 h1;obtain⟨b1,b2⟩:=Bo.1 h2;have hxy:x=y:=by
   rcases iM.1 ((h x).1 jM)with e|e
   ·exact e
   ·rcases iM.1 ((h y).2 jM)with e2|e2
    ·exact e2.symm
    ·have:=b1 x e;have:=a1 y e2;omega
  subst hxy;rw[PI a2 b2 (fun z=>?_)];constructor
  ·intro hz;rcases iM.1 ((h z).1 (nS _ hz))with e|e
   ·subst e;exact absurd (a1 z hz) (DU _)
   ·exact e
  ·intro hz;rcases iM.1 ((h z).2 (nS _ hz))with e|e
   ·subst e;exact absurd (b1 z hz) (DU _)
   ·exact e
theorem up_sub:∀{l m},Up l→Up m→(∀z∈l,z∈m)→m.length≤l.length→l=m
 |[],m,_,_,_,hl=>by simp at hl;exact hl.symm
 |x::l,[],_,_,h,_=>by have:=h x jM;simp at this
 |x::l,y::m,h1,h2,h,hl=>by
  obtain⟨a1,a2⟩:=Bo.1 h1;obtain⟨b1,b2⟩:=Bo.1 h2;simp only[Lc]at hl;have hs:∀z∈l,z∈m:=fun z hz=>by
   rcases iM.1 (h z (nS _ hz))with e|e
   ·subst e;have:=a1 z hz;rcases iM.1 (h x jM)with e|e
    ·omega
    ·have:=b1 x e;omega
   ·exact e
  have hlm:=up_sub a2 b2 hs om;subst hlm;rcases iM.1 (h x jM)with e|e
  ·rw[e]
  ·exact absurd (a1 x e) (DU _)
def bl (n:Nat):Nat:=if n=0 then 0 else n.log2+1
def mI (k:Nat):Nat:=bl (k-1)
theorem Wu (n):n<2^bl n:=by
 unfold bl;split
 ·rename_i h;subst h;decide
 ·exact Nat.lt_log2_self
theorem XT {i k} (h:i<k):i<2^mI k:=by have:=Wu (k-1);unfold mI;omega
def enc (l:List Nat):List Bool:=if l=[]then[]else bw 7 ((dZ l).length-1)++((dZ l).flatMap (bw 64)++l.flatMap fun x=>bw (mI (dZ l).length) ((dZ l).idxOf x))
def gd:Nat→List Nat→List Bool→List Nat×List Bool×Int
 |0,acc,r=>(acc,r,0)
 |k+1,acc,r=>if(rd 64 r).2.2≠0 then([],(rd 64 r).2)else if∃y∈acc.getLast?,(rd 64 r).1≤y then([],(rd 64 r).2.1,8)else gd k (acc++[(rd 64 r).1]) (rd 64 r).2.1
def gv (d:List Nat):Nat→List Nat→List Bool→List Nat×List Bool×Int
 |0,acc,r=>(acc,r,0)
 |n+1,acc,r=>if(rd (mI d.length) r).2.2≠0 then([],(rd (mI d.length) r).2)else if d.length≤(rd (mI d.length) r).1 then([],(rd (mI d.length) r).2.1,8)else gv d n (acc++[d.getD (rd (mI d.length) r).1 0]) (rd (mI d.length) r).2.1
def qV (n:Nat) (d:List Nat) (r:List Bool):List Nat×List Bool×Int:=
 if(gv d n [] r).2.2≠0 then([],(gv d n [] r).2)else if(dZ (gv d n [] r).1).length<d.length then([],(gv d n [] r).2.1,8)else gv d n [] r
def dec (n:Nat) (r:List Bool):List Nat×List Bool×Int:=
 if n=0 then([],r,0)else if(rd 7 r).2.2≠0 then([],(rd 7 r).2)
 else if(gd ((rd 7 r).1+1) [] (rd 7 r).2.1).2.2≠0 then([],(gd ((rd 7 r).1+1) [] (rd 7 r).2.1).2)
 else qV n (gd ((rd 7 r).1+1) [] (rd 7 r).2.1).1 (gd ((rd 7 r).1+1) [] (rd 7 r).2.1).2.1
theorem PK:∀(d acc) (r),Up (acc++d)→(∀x∈d,x<2^64)→gd d.length acc (d.flatMap (bw 64)++r)=(acc++d,r,0)
 |[],acc,r,_,_=>by simp[gd]
 |x::d,acc,r,hu,hx=>by
  have e1:x%2^64=x:=jA (hx x jM);rw[Lc,gd,Aq,Af,il,e1];have hn:¬∃y∈acc.getLast?,x≤y:=by
   rintro⟨y,hy,hxy⟩;have hm:=List.mem_of_mem_getLast? hy;have:=(BN.1 hu).2.2 y hm x jM;omega
  simp only[];rw[Ng sm,Ng hn,PK d (acc++[x]) r (by simpa using hu) (fun y hy=>hx y (nS _ hy))];simp
theorem PL {d}:∀(l acc) (r),(∀x∈l,x∈d)→gv d l.length acc (l.flatMap (fun x=>bw (mI d.length) (d.idxOf x))++r)=(acc++l,r,0)
 |[],acc,r,_=>by simp[gv]
 |x::l,acc,r,hx=>by
  have hm:=hx x jM;have hi:d.idxOf x<d.length:=List.idxOf_lt_length_of_mem hm;have e1:d.idxOf x%2^mI d.length=d.idxOf x:=jA (XT hi);rw[Lc,gv,Aq,Af,il,e1];simp only[];have e2:d.getD (d.idxOf x) 0=x:=by
   rw[ku,l8 hi];simp
  rw[Ng sm,Ng om,e2,PL l (acc++[x]) r (fun y hy=>hx y (nS _ hy))];simp
theorem bT {l} (hx:∀x∈l,x<2^64) (hk:(dZ l).length≤128) (r):dec l.length (enc l++r)=(l,r,0):=by
 by_cases hl:l=[]
 ·subst hl;simp[dec,enc]
 ·have hpos:0<l.length:=oJ.2 hl;have hd0:dZ l≠[]:=fun e=>by
   obtain⟨x,hx⟩:=List.exists_mem_of_ne_nil l hl;have:=(eO l x).2 hx;rw[e]at this;simp at this
  have hd1:0< (dZ l).length:=oJ.2 hd0;unfold dec enc;rw[Ng om,Ng hl,Af,Af,il];have e1:((dZ l).length-1)%2^7=(dZ l).length-1:=jA om;have e2:(dZ l).length-1+1=(dZ l).length:=om;rw[e1];simp only[];rw[e2,PK (dZ l) [] _ (by simpa using pJ l) (fun x h=>hx x ((eO l x).1 h))];simp only[Ay];rw[Ng sm,Ng sm];unfold qV;rw[PL l [] r (fun x h=>(eO l x).2 h)];simp
theorem Ua {l} {x} (h:Up l) (hx:∀y∈l.getLast?,y<x):Up (l++[x]):=by
 refine BN.2 ⟨h,sm,fun y hy z hz=>?_⟩;obtain rfl:=iF.1 hz;have hne:l≠[]:=List.ne_nil_of_mem hy;have hl:l.getLast hne<z:=hx _ (List.getLast?_eq_some_getLast hne);obtain⟨i,hi,rfl⟩:=lV.1 hy;rw[List.getLast_eq_getElem]at hl;by_cases hq:i=l.length-1
 ·subst hq;exact hl
 ·have:=(BM.1 h) i (l.length-1) hi om om;omega
theorem XU {d} (h:Up d) {i} (hi:i<d.length):d.idxOf d[i]=i:=by
 have hm:=List.idxOf_lt_length_of_mem (ic hi);have e:d[d.idxOf d[i]]=d[i]:=sm;have P:=BM.1 h;rcases Dr (d.idxOf d[i]) i with q|q|q
 ·have:=P _ _ hm hi q;omega
 ·exact q
 ·have:=P _ _ hi hm q;omega
theorem PM:∀(k) (acc) (r) (d) (r'),Up acc→gd k acc r=(d,r',0)→∃m,d=acc++m∧m.length=k∧Up d∧(∀x∈m,x<2^64)∧r=m.flatMap (bw 64)++r'
 |0,acc,r,d,r',hu,h=>by
  simp only[gd,ay]at h;obtain⟨rfl,rfl,-⟩:=h;exact⟨[],sm,rfl,hu,sm,sm⟩
 |k+1,acc,r,d,r',hu,h=>by
  rw[gd]at h;obtain⟨x,r1,e1,hg⟩:∃x r1 e1,rd 64 r=(x,r1,e1):=⟨_,_,_,rfl⟩
  rw[hg]at h;simp only[]at h;by_cases he:e1=0
  ·subst he;rw[Ng sm]at h;by_cases hq:∃y∈acc.getLast?,x≤y
   ·rw[Ps0 hq]at h;simp at h
   ·rw[Ng hq]at h;obtain⟨d1,d2⟩:=jk hg;have hu2:Up (acc++[x]):=Ua hu (fun y hy=>by
     rcases DD y x with q|q
     ·exact q
     ·exact absurd ⟨y,hy,q⟩ hq)
    obtain⟨m,h1,h2,h3,h4,h5⟩:=PM k _ _ _ _ hu2 h;refine⟨x::m,by simp[h1],by simp[h2],h3,?_,?_⟩
    ·intro y hy;rcases iM.1 hy with q|q
     ·rw[q];exact d2
     ·exact h4 y q
    ·rw[Aq,d1,h5,Af]
  ·rw[Ps0 he]at h;simp only[ay]at h;exact absurd h.2.2 he
theorem Wv {d} (hu:Up d):∀(n) (acc) (r) (l) (r'),gv d n acc r=(l,r',0)→∃m,l=acc++m∧m.length=n∧(∀x∈m,x∈d)∧r=m.flatMap (fun x=>bw (mI d.length) (d.idxOf x))++r'
 |0,acc,r,l,r',h=>by
  simp only[gv,ay]at h;obtain⟨rfl,rfl,-⟩:=h;exact⟨[],sm,rfl,sm,sm⟩
 |n+1,acc,r,l,r',h=>by
  rw[gv]at h;obtain⟨i,r1,e1,hg⟩:∃i r1 e1,rd (mI d.length) r=(i,r1,e1):=⟨_,_,_,rfl⟩
  rw[hg]at h;simp only[]at h;by_cases he:e1=0
  ·subst he;rw[Ng sm]at h;by_cases hq:d.length≤i
   ·rw[Ps0 hq]at h;simp at h
   ·rw[Ng hq]at h;have hi:i<d.length:=om;have hv:d.getD i 0=d[i]:=by rw[ku,l8 hi];rfl
    rw[hv]at h;obtain⟨d1,d2⟩:=jk hg;obtain⟨m,h1,h2,h3,h4⟩:=Wv hu n _ _ _ _ h;refine⟨d[i]::m,by simp[h1],by simp[h2],?_,?_⟩
    ·intro y hy;rcases iM.1 hy with q|q
     ·rw[q];exact ic hi
     ·exact h3 y q
    ·rw[Aq,XU hu hi,d1,h4,Af]
  ·rw[Ps0 he]at h;simp only[ay]at h;exact absurd h.2.2 he
theorem fG {n} {r r'} {l} (h:dec n r=(l,r',0)):l.length=n∧(∀x∈l,x<2^64)∧(dZ l).length≤128∧r=enc l++r':=by
 unfold dec at h;by_cases hn:n=0
 ·subst hn;rw[Ps0 rfl]at h;simp only[ay]at h;obtain⟨rfl,rfl,-⟩:=h;exact⟨rfl,sm,by simp[dZ],rfl⟩
 ·rw[Ng hn]at h;obtain⟨k,r1,e1,hg⟩:∃k r1 e1,rd 7 r=(k,r1,e1):=⟨_,_,_,rfl⟩
  rw[hg]at h;simp only[]at h;by_cases he:e1=0
  ·subst he;rw[Ng sm]at h;obtain⟨d,r2,e2,hg2⟩:∃d r2 e2,gd (k+1) [] r1=(d,r2,e2):=⟨_,_,_,rfl⟩
   rw[hg2]at h;simp only[]at h;by_cases he2:e2=0
   ·subst he2;rw[Ng sm]at h;unfold qV at h;obtain⟨l3,r3,e3,hg3⟩:∃l3 r3 e3,gv d n [] r2=(l3,r3,e3):=⟨_,_,_,rfl⟩
    rw[hg3]at h;simp only[]at h;by_cases kz:e3=0
    ·subst kz;rw[Ng sm]at h;by_cases hq:(dZ l3).length<d.length
     ·rw[Ps0 hq]at h;simp at h
     ·rw[Ng hq]at h;simp only[ay]at h;obtain⟨rfl,rfl,-⟩:=h;obtain⟨a1,a2⟩:=jk hg;obtain⟨m,b1,b2,b3,b4,b5⟩:=PM _ _ _ _ _ List.Pairwise.nil hg2;rw[Ay]at b1;subst b1;obtain⟨m2,c1,c2,c3,c4⟩:=Wv b3 _ _ _ _ _ hg3;rw[Ay]at c1;subst c1;have hd:dZ l3=d:=up_sub (pJ l3) b3 (fun z hz=>c3 z ((eO l3 z).1 hz)) om;have hl:l3≠[]:=fun e=>by rw[e]at c2;simp at c2;omega
      refine⟨c2,fun x hx=>b4 x (c3 x hx),by rw[hd,b2];omega,?_⟩;unfold enc;rw[Ng hl,hd,b2,a1,b5,c4,b2];simp
    ·rw[Ps0 kz]at h;simp only[ay]at h;exact absurd h.2.2 kz
   ·rw[Ps0 he2]at h;simp only[ay]at h;exact absurd h.2.2 he2
  ·rw[Ps0 he]at h;simp only[ay]at h;exact absurd h.2.2 he
end Di
namespace Xo
open Bt Tm
def lz (x:Nat):Nat:=64-Di.bl x
def tz:Nat→Nat→Nat
 |0,_=>0
 |f+1,x=>if x%2=1 then 0 else 1+tz f (x/2)
theorem PN : ∀ (f x), tz f x ≤ f
  | 0, _ => Nr _
  | f + 1, x => by rw [tz]; split; · omega
                   · have := PN f (x / 2); omega
theorem yz:∀(f x),2^tz f x∣x
 |0,x=>by simp[tz]
 |f+1,x=>by
  rw[tz];split
  ·simp
  ·rename_i h
   rw[Nat.add_comm,BQ];obtain⟨k,hk⟩:=yz f (x/2);have h2:x=x/2*2:=om;have h3:=congrArg (·*2) hk;exact⟨k,h2.trans (h3.trans (Nat.mul_right_comm _ _ _))⟩
def win (x:Nat):Nat×Nat:=(lz x,64-lz x-tz 64 x)
def trail (w:Nat×Nat):Nat:=64-w.1-w.2
def fits (c:Nat×Nat) (x:Nat):Bool:=c !=(0,0)&& (decide (c.1≤(win x).1)&&decide (trail c≤trail (win x)))
def put (last:Nat) (c:Nat×Nat) (v:Nat):List Bool×(Nat×Nat):=
 if v^^^last=0 then(bw 1 0,c)
 else if fits c (v^^^last)=true then(bw 2 2++bw c.2 ((v^^^last)>>>trail c),c)
 else(bw 2 3++(bw 6 (win (v^^^last)).1++(bw 6 ((win (v^^^last)).2-1)++bw (win (v^^^last)).2 ((v^^^last)>>>trail (win (v^^^last))))),win (v^^^last))
def puts:Nat→Nat×Nat→List Nat→List Bool
 |_,_,[]=>[]
 |last,c,v::l=>(put last c v).1++puts v (put last c v).2 l
def enc:List Nat→List Bool
 |[]=>[]
 |v::l=>bw 64 v++puts v (0,0) l
def fresh (r:List Bool):(Nat×Nat)×List Bool×Int:=
 if(rd 6 r).2.2≠0 then((0,1),(rd 6 r).2)
 else if(rd 6 (rd 6 r).2.1).2.2≠0 then(((rd 6 r).1,1),(rd 6 (rd 6 r).2.1).2)
 else(((rd 6 r).1,(rd 6 (rd 6 r).2.1).1+1),(rd 6 (rd 6 r).2.1).2.1,if(rd 6 r).1+((rd 6 (rd 6 r).2.1).1+1)≤64 then 0 else 8)
def gG (w:Nat×Nat) (r:List Bool):Nat×List Bool×Int:=
 if(rd w.2 r).2.2≠0 then(0,(rd w.2 r).2)else((rd w.2 r).1<<<trail w,(rd w.2 r).2.1,if(rd w.2 r).1<<<trail w=0 then 8 else 0)
def get (last:Nat) (c:Nat×Nat) (r:List Bool):(Nat×(Nat×Nat))×List Bool×Int:=
 if(rd 1 r).2.2≠0 then((0,c),(rd 1 r).2)
 else if(rd 1 r).1=0 then((last,c),(rd 1 r).2.1,0)
 else if(rd 1 (rd 1 r).2.1).2.2≠0 then((0,c),(rd 1 (rd 1 r).2.1).2)
 else if(rd 1 (rd 1 r).2.1).1=0 then
  if c=(0,0)then((0,c),(rd 1 (rd 1 r).2.1).2.1,8)
  else if(gG c (rd 1 (rd 1 r).2.1).2.1).2.2≠0 then((0,c),(gG c (rd 1 (rd 1 r).2.1).2.1).2)
  else((last^^^ (gG c (rd 1 (rd 1 r).2.1).2.1).1,c),(gG c (rd 1 (rd 1 r).2.1).2.1).2)
 else if(fresh (rd 1 (rd 1 r).2.1).2.1).2.2≠0 then((0,c),(fresh (rd 1 (rd 1 r).2.1).2.1).2)
 else if(gG (fresh (rd 1 (rd 1 r).2.1).2.1).1 (fresh (rd 1 (rd 1 r).2.1).2.1).2.1).2.2≠0 then((0,c),(gG (fresh (rd 1 (rd 1 r).2.1).2.1).1 (fresh (rd 1 (rd 1 r).2.1).2.1).2.1).2)
 else if((fresh (rd 1 (rd 1 r).2.1).2.1).1=win (gG (fresh (rd 1 (rd 1 r).2.1).2.1).1 (fresh (rd 1 (rd 1 r).2.1).2.1).2.1).1∧fits c (gG (fresh (rd 1 (rd 1 r).2.1).2.1).1 (fresh (rd 1 (rd 1 r).2.1).2.1).2.1).1=false)then
  ((last^^^ (gG (fresh (rd 1 (rd 1 r).2.1).2.1).1 (fresh (rd 1 (rd 1 r).2.1).2.1).2.1).1,(fresh (rd 1 (rd 1 r).2.1).2.1).1),(gG (fresh (rd 1 (rd 1 r).2.1).2.1).1 (fresh (rd 1 (rd 1 r).2.1).2.1).2.1).2)
 else((0,c),(gG (fresh (rd 1 (rd 1 r).2.1).2.1).1 (fresh (rd 1 (rd 1 r).2.1).2.1).2.1).2.1,8)
def gets:Nat→Nat→Nat×Nat→List Nat→List Bool→List Nat×List Bool×Int
 |0,_,_,acc,r=>(acc,r,0)
 |n+1,last,c,acc,r=>if(get last c r).2.2≠0 then([],(get last c r).2)else gets n (get last c r).1.1 (get last c r).1.2 (acc++[(get last c r).1.1]) (get last c r).2.1
def dec (n:Nat) (r:List Bool):List Nat×List Bool×Int:=
 if n=0 then([],r,0)else if(rd 64 r).2.2≠0 then([],(rd 64 r).2)else gets (n-1) (rd 64 r).1 (0,0) [(rd 64 r).1] (rd 64 r).2.1
theorem PO {x n} (h:x<2^n):Di.bl x≤n:=by
 unfold Di.bl;split
 ·omega
 ·rename_i h0
  have:=(Nat.log2_lt h0).2 h;omega
theorem kQ {x} (hx:x<2^64) (h0:x≠0):1≤(win x).2∧(win x).1+(win x).2≤64∧(win x).1<64∧trail (win x)=tz 64 x∧x<2^ (64-(win x).1):=by
 have h1:=PO hx;have h2:x<2^Di.bl x:=Di.Wu x;have h3:2^tz 64 x≤x:=Nat.le_of_dvd om (yz 64 x);have h4:tz 64 x<Di.bl x:=by
  rcases DD (tz 64 x) (Di.bl x)with q|q
  ·exact q
  ·have:2^Di.bl x≤2^tz 64 x:=j5 Ah q;omega
 have h5:=PN 64 x;unfold trail win lz;simp only[];refine⟨om,om,om,om,?_⟩;rw[show 64-(64-Di.bl x)=Di.bl x from om];exact h2
theorem XV {x} {w} (hw:w.1+w.2≤64) (h1:x<2^ (64-w.1)) (h2:2^trail w∣x):(x>>>trail w)%2^w.2=x>>>trail w∧(x>>>trail w)<<<trail w=x:=by
 have hs:64-w.1=w.2+trail w:=by unfold trail;omega
 rw[hs,Nat.pow_add]at h1;refine⟨?_,?_⟩
 ·apply jA;rw[BJ];exact(Nat.div_lt_iff_lt_mul (Nat.pow_pos Ah)).2 h1
 ·rw[BJ,BH,Nat.div_mul_cancel h2]
theorem Ub {c} {x} (hx:x<2^64) (h0:x≠0) (h:fits c x=true):c≠(0,0)∧x<2^ (64-c.1)∧2^trail c∣x:=by
 obtain⟨-,-,-,h4,h5⟩:=kQ hx h0;unfold fits at h;simp only[BV,bne_iff_ne,decide_eq_true_eq]at h;obtain⟨a,b,d⟩:=h;refine⟨a,jB h5 (j5 Ah om),?_⟩;rw[h4]at d;exact Nat.dvd_trans (Nat.pow_dvd_pow 2 d) (yz 64 x)
theorem Ww:∀(f x t),x≠0→2^t∣x→t≤f→t≤tz f x
 |0,_,t,_,_,h=>by rw[tz];exact h
 |f+1,x,0,_,_,_=>bE _
 |f+1,x,t+1,h0,h,hf=>by
  obtain⟨k,hk⟩:=h;rw[BQ,Nat.mul_right_comm]at hk;rw[tz,Ng om];have:t≤tz f (x/2):=Ww f (x/2) t om ⟨k,om⟩ om;omega
theorem Uc {c} {x} (hc:c≠(0,0)) (h0:x≠0) (h1:x<2^ (64-c.1)) (h2:2^trail c∣x) (hc1:c.1≤64):fits c x=true:=by
 have hx:x<2^64:=jB h1 (j5 Ah om);obtain⟨-,-,-,h4,-⟩:=kQ hx h0;have h5:=PO h1;have h6:=Ww 64 x (trail c) h0 h2 (by unfold trail;omega);unfold fits;rw[h4];simp only[BV,bne_iff_ne,decide_eq_true_eq];refine⟨hc,?_,h6⟩;show c.1≤lz x;unfold lz;omega
def Cw (c:Nat×Nat):Prop:=c=(0,0)∨(1≤c.2∧c.1+c.2≤64)
theorem PQ (v last:Nat):last^^^ (v^^^last)=v:=by rw[Nat.xor_comm v last,←Cf,DL,Nat.zero_xor]
theorem PR {w} {x} (hw:w.1+w.2≤64) (h0:x≠0) (h1:x<2^ (64-w.1)) (h2:2^trail w∣x) (r):gG w (bw w.2 (x>>>trail w)++r)=(x,r,0):=by
 obtain⟨a,b⟩:=XV hw h1 h2;unfold gG;rw[il,a];simp only[];rw[Ng sm,b,Ng h0]
theorem PS {w} (h1:1≤w.2) (h2:w.1+w.2≤64) (r):fresh (bw 6 w.1++(bw 6 (w.2-1)++r))=(w,r,0):=by
 unfold fresh;have e1:w.1%2^6=w.1:=jA om;have e2:(w.2-1)%2^6=w.2-1:=jA om;rw[il,e1];simp only[];rw[il,e2];simp only[];rw[show w.2-1+1=w.2 from om,Ng sm,Ng sm,Ps0 h2]
theorem get_put {last v} {c} (hl:last<2^64) (hv:v<2^64) (hc:Cw c) (r):get last c ((put last c v).1++r)=((v,(put last c v).2),r,0):=by
 have hx:v^^^last<2^64:=Bp hv hl;have hb:=PQ v last;unfold put;generalize v^^^last=x at*;by_cases h0:x=0
 ·subst h0;rw[Ps0 rfl];rw[Nat.xor_zero]at hb;subst hb;rw[show bw 1 0++r=false::r from rfl];simp[get,zK]
 ·rw[Ng h0];by_cases hf:fits c x=true
  ·rw[Ps0 hf];obtain⟨a1,a2,a3⟩:=Ub hx h0 hf;obtain⟨b1,b2⟩:=hc.resolve_left a1;rw[Af,show∀q,bw 2 2++q=true::false::q from fun _=>rfl];unfold get;rw[zK];simp only[];rw[zK];simp only[];rw[PR b2 h0 a2 a3 r];simp[a1,hb]
  ·rw[Ng hf];obtain⟨b1,b2,b3,b4,b5⟩:=kQ hx h0;have hd:2^trail (win x)∣x:=by rw[b4];exact yz 64 x
   simp only[Af];rw[show∀q,bw 2 3++q=true::true::q from fun _=>rfl];unfold get;rw[zK];simp only[];rw[zK];simp only[];rw[PS b1 b2];simp only[];rw[PR b2 h0 b5 hd r];simp[hb,hf]
theorem Ik {last v} {c} (hl:last<2^64) (hv:v<2^64) (hc:Cw c):Cw (put last c v).2:=by
 have hx:v^^^last<2^64:=Bp hv hl;unfold put;split
 ·exact hc
 ·rename_i h0
  split
  ·exact hc
  ·obtain⟨b1,b2,b3,b4,b5⟩:=kQ hx h0;exact .inr ⟨b1,b2⟩
theorem wY:∀(l) (last) (c) (acc) (r),last<2^64→Cw c→(∀x∈l,x<2^64)→gets l.length last c acc (puts last c l++r)=(acc++l,r,0)
 |[],last,c,acc,r,_,_,_=>by simp[gets,puts]
 |v::l,last,c,acc,r,hl,hc,hx=>by
  have hv:=hx v jM;rw[Lc,gets,puts,Af,get_put hl hv hc];simp only[];rw[Ng sm,wY l v _ _ r hv (Ik hl hv hc) (fun y hy=>hx y (nS _ hy))];simp
theorem bT {l} (hx:∀x∈l,x<2^64) (r):dec l.length (enc l++r)=(l,r,0):=by
 cases l with
 |nil=>simp[dec,enc]
 |cons v l=>
  have hv:=hx v jM;have e1:v%2^64=v:=jA hv;unfold dec enc;rw[Ng sm,Af,il,e1];simp only[Lc,Bn];rw[Ng sm,wY l v (0,0) [v] r hv (.inl rfl) (fun y hy=>hx y (nS _ hy))]
  rfl
theorem PU {w} {x} {r r'} (hw:w.1+w.2≤64) (h:gG w r=(x,r',0)):x≠0∧x<2^ (64-w.1)∧2^trail w∣x∧r=bw w.2 (x>>>trail w)++r':=by
 unfold gG at h;obtain⟨y,r1,e1,hg⟩:∃y r1 e1,rd w.2 r=(y,r1,e1):=⟨_,_,_,rfl⟩
 rw[hg]at h;simp only[]at h;by_cases he:e1=0
 ·subst he;rw[Ng sm]at h;simp only[ay]at h;obtain⟨h1,rfl,h3⟩:=h;rw[h1]at h3;have h0:x≠0:=fun e=>by rw[Ps0 e]at h3;simp at h3
  obtain⟨d1,d2⟩:=jk hg;have hs:64-w.1=w.2+trail w:=by unfold trail;omega
  have hp:0<2^trail w:=Nat.pow_pos Ah;have hy:x>>>trail w=y:=by rw[←h1,BH,BJ,Nat.mul_div_cancel _ hp]
  refine⟨h0,?_,?_,by rw[hy];exact d1⟩
  ·rw[hs,Nat.pow_add,←h1,BH];exact Nat.mul_lt_mul_of_pos_right d2 hp
  ·rw[←h1,BH];exact Nat.dvd_mul_left _ _
 ·rw[Ps0 he]at h;simp only[ay]at h;exact absurd h.2.2 he
theorem Eu {w} {r r'} (h:fresh r=(w,r',0)):1≤w.2∧w.1+w.2≤64∧r=bw 6 w.1++(bw 6 (w.2-1)++r'):=by
 unfold fresh at h;obtain⟨a,r1,e1,hg⟩:∃a r1 e1,rd 6 r=(a,r1,e1):=⟨_,_,_,rfl⟩
 rw[hg]at h;simp only[]at h;by_cases he:e1=0
 ·subst he;rw[Ng sm]at h;obtain⟨b,r2,e2,hg2⟩:∃b r2 e2,rd 6 r1=(b,r2,e2):=⟨_,_,_,rfl⟩
  rw[hg2]at h;simp only[]at h;by_cases he2:e2=0
  ·subst he2;rw[Ng sm]at h;simp only[ay]at h;obtain⟨rfl,rfl,h3⟩:=h;obtain⟨d1,-⟩:=jk hg;obtain⟨d2,-⟩:=jk hg2;have:a+(b+1)≤64:=by
    by_cases q:a+(b+1)≤64
    ·exact q
    ·rw[Ng q]at h3;simp at h3
   exact⟨sm,this,by simp only[Bn];rw[←d2,←d1]⟩
  ·rw[Ps0 he2]at h;simp only[ay]at h;exact absurd h.2.2 he2
 ·rw[Ps0 he]at h;simp only[ay]at h;exact absurd h.2.2 he
theorem PW {last v} {c c'} {r r'} (hl:last<2^64) (hc:Cw c) (h:get last c r=((v,c'),r',0)):v<2^64∧put last c v=((put last c v).1,c')∧r=(put last c v).1++r':=by
 unfold get at h;obtain⟨a,r1,e1,hg⟩:∃a r1 e1,rd 1 r=(a,r1,e1):=⟨_,_,_,rfl⟩
 rw[hg]at h;simp only[]at h;by_cases he:e1=0
 ·subst he;rw[Ng sm]at h;obtain⟨d1,d2⟩:=jk hg;by_cases ha:a=0
  ·subst ha;rw[Ps0 rfl]at h;simp only[ay]at h;obtain⟨⟨rfl,rfl⟩,rfl,-⟩:=h;have:put last c last=(bw 1 0,c):=by unfold put;rw[DL,Ps0 rfl]
   rw[this];exact⟨hl,rfl,d1⟩
  ·rw[Ng ha]at h;have ha1:a=1:=om;subst ha1;obtain⟨b,r2,e2,hg2⟩:∃b r2 e2,rd 1 r1=(b,r2,e2):=⟨_,_,_,rfl⟩
   rw[hg2]at h;simp only[]at h;by_cases he2:e2=0
   ·subst he2;rw[Ng sm]at h;obtain⟨d3,d4⟩:=jk hg2;by_cases hb:b=0
    ·subst hb;rw[Ps0 rfl]at h;by_cases hcz:c=(0,0)
     ·rw[Ps0 hcz]at h;simp at h
     ·rw[Ng hcz]at h;obtain⟨x,r3,e3,hg3⟩:∃x r3 e3,gG c r2=(x,r3,e3):=⟨_,_,_,rfl⟩
      rw[hg3]at h;simp only[]at h;by_cases kz:e3=0
      ·subst kz;rw[Ng sm]at h;simp only[ay]at h;obtain⟨⟨rfl,rfl⟩,rfl,-⟩:=h;obtain⟨b1,b2⟩:=hc.resolve_left hcz;obtain⟨g1,g2,g3,g4⟩:=PU b2 hg3;have hx:x<2^64:=jB g2 (j5 Ah om);have e5:last^^^x^^^last=x:=by rw[Nat.xor_comm last x,Cf,DL,Nat.xor_zero]
       have hp:put last c (last^^^x)=(bw 2 2++bw c.2 (x>>>trail c),c):=by
        unfold put;rw[e5,Ng g1,Ps0 (Uc hcz g1 g2 g3 om)]
       rw[hp];refine⟨Bp hl hx,rfl,?_⟩;rw[d1,d3,g4]
       rfl
      ·rw[Ps0 kz]at h;simp only[ay]at h;exact absurd h.2.2 kz
    ·rw[Ng hb]at h;have hb1:b=1:=om;subst hb1;obtain⟨w,r3,e3,hg3⟩:∃w r3 e3,fresh r2=(w,r3,e3):=⟨_,_,_,rfl⟩
     rw[hg3]at h;simp only[]at h;by_cases kz:e3=0
     ·subst kz;rw[Ng sm]at h;obtain⟨x,r4,e4,hg4⟩:∃x r4 e4,gG w r3=(x,r4,e4):=⟨_,_,_,rfl⟩
      rw[hg4]at h;simp only[]at h;by_cases zL:e4=0
      ·subst zL;rw[Ng sm]at h;by_cases hq:w=win x∧fits c x=false
       ·rw[Ps0 hq]at h;simp only[ay]at h;obtain⟨⟨rfl,rfl⟩,rfl,-⟩:=h;obtain⟨f1,f2,f3⟩:=Eu hg3;obtain⟨g1,g2,g3,g4⟩:=PU f2 hg4;have hx:x<2^64:=jB g2 (j5 Ah om);have e5:last^^^x^^^last=x:=by rw[Nat.xor_comm last x,Cf,DL,Nat.xor_zero]
        have hp:put last c (last^^^x)=(bw 2 3++(bw 6 (win x).1++(bw 6 ((win x).2-1)++bw (win x).2 (x>>>trail (win x)))),win x):=by
         unfold put;rw[e5,Ng g1,Ng (by rw[hq.2];simp)]
        rw[hp];refine⟨Bp hl hx,by rw[hq.1],?_⟩;rw[d1,d3,f3,g4,←hq.1];simp only[Af]
        rfl
       ·rw[Ng hq]at h;simp at h
      ·rw[Ps0 zL]at h;simp only[ay]at h;exact absurd h.2.2 zL
     ·rw[Ps0 kz]at h;simp only[ay]at h;exact absurd h.2.2 kz
   ·rw[Ps0 he2]at h;simp only[ay]at h;exact absurd h.2.2 he2
 ·rw[Ps0 he]at h;simp only[ay]at h;exact absurd h.2.2 he
theorem J6:∀(n last) (c) (acc) (r) (l) (r'),last<2^64→Cw c→gets n last c acc r=(l,r',0)→
  ∃m,l=acc++m∧m.length=n∧(∀x∈m,x<2^64)∧r=puts last c m++r'
 |0,last,c,acc,r,l,r',_,_,h=>by
  simp only[gets,ay]at h;obtain⟨rfl,rfl,-⟩:=h;exact⟨[],sm,rfl,sm,by simp[puts]⟩
 |n+1,last,c,acc,r,l,r',hl,hc,h=>by
  rw[gets]at h;obtain⟨⟨v,c2⟩,r1,e1,hg⟩:∃q r1 e1,get last c r=(q,r1,e1):=⟨_,_,_,rfl⟩
  rw[hg]at h;simp only[]at h;by_cases he:e1=0
  ·subst he;rw[Ng sm]at h;obtain⟨a1,a2,a3⟩:=PW hl hc hg;have hc2:=Ik hl a1 hc;have a4:(put last c v).2=c2:=by rw[a2]
   rw[a4]at hc2;obtain⟨m,h1,h2,h3,h4⟩:=J6 n v c2 _ _ _ _ a1 hc2 h;refine⟨v::m,by simp[h1],by simp[h2],?_,?_⟩
   ·intro y hy;rcases iM.1 hy with q|q
    ·rw[q];exact a1
    ·exact h3 y q
   ·rw[puts,a4,Af,←h4,←a3]
  ·rw[Ps0 he]at h;simp only[ay]at h;exact absurd h.2.2 he
theorem fG {n} {r r'} {l} (h:dec n r=(l,r',0)):l.length=n∧(∀x∈l,x<2^64)∧r=enc l++r':=by
 unfold dec at h;by_cases hn:n=0
 ·subst hn;rw[Ps0 rfl]at h;simp only[ay]at h;obtain⟨rfl,rfl,-⟩:=h;exact⟨rfl,sm,rfl⟩
 ·rw[Ng hn]at h;obtain⟨v,r1,e1,hg⟩:∃v r1 e1,rd 64 r=(v,r1,e1):=⟨_,_,_,rfl⟩
  rw[hg]at h;simp only[]at h;by_cases he:e1=0
  ·subst he;rw[Ng sm]at h;obtain⟨d1,d2⟩:=jk hg;obtain⟨m,h1,h2,h3,h4⟩:=J6 _ _ _ _ _ _ _ d2 (.inl rfl) h;have h5:l=v::m:=h1;subst h5;refine⟨by simp[h2];omega,?_,?_⟩
   ·intro y hy;rcases iM.1 hy with q|q
    ·rw[q];exact d2
    ·exact h3 y q
   ·rw[enc,Af,←h4,←d1]
  ·rw[Ps0 he]at h;simp only[ay]at h;exact absurd h.2.2 he
end Xo
end Go.Proofs.YtjcpmfphnodaaaaGreatDoor
