/- Part 8. -/
import Derived.Test.YtjcpmfphnodaaaaGreatDoorZTAG
import Derived.Shelf.SlSortCmp.QuietGrown
import Derived.BigQuiet
import Derived.Deep.DeepCutAuto
import Derived.Laws.EntriesVeiled
import Derived.Deep.RegionHeld3
namespace Go.Proofs.YtjcpmfphnodaaaaGreatDoor
set_option maxRecDepth 100000
set_option maxHeartbeats 0
open _root_.Go.Proofs.Tryz
section
section
open Go.RowKit Go.Shelf
def lbv (x:bf):Value:= .agg #[.string x.n,.string x.v]
theorem sK (a b) (W):Sem.run prog (Instr.index 255 (.agg #[a,b]) (.int .i64 0)) W= .ok (.agg #[a]) W:=kr
theorem Ei (a b) (W):Sem.run prog (Instr.index 255 (.agg #[a,b]) (.int .i64 1)) W= .ok (.agg #[b]) W:=kr
theorem pE (x) (w):Calls prog 186 #[.string x] w fun e w'=>e= .returned (.bool false)∧w'=w:=by
 go_enter func186,ntmps186;go_wp2;go_ret;exact⟨sm,rfl⟩
theorem qD (x y) (w):Calls prog 137 #[.string x,.string y] w fun e w'=>e= .returned (.int .i64 (St.cmp x y))∧w'=w:=by
 have h1:Op.bytesLess x.toList y.toList=St.lt x y:=rfl;have h2:(!(Op.bytesLess x.toList y.toList||x.toList==y.toList))=(!(St.lt x y)&&St.lt y x):=by
  rw[h1,St.eq_iff];by_cases e:x=y
  ·subst e;simp[St.irrefl]
  ·cases a:St.lt x y with
   |true=>simp
   |false=>
    cases b:St.lt y x with
    |true=>simp[e]
    |false=>exact absurd (St.total a b) e
 by_cases a:St.lt x y=true
 ·go_enter func137,ntmps137;have a2:Op.bytesLess x.toList y.toList=true:=a;go_wp2_with (go_at_call 186;refine(pE _ _).mono ?_;rintro e w' ⟨rfl,rfl⟩);go_ret;exact⟨by simp[St.cmp,a],rfl⟩
 ·have a':St.lt x y=false:=by simpa using a
  have a2:Op.bytesLess x.toList y.toList=false:=a';rw[a']at h2;by_cases b:St.lt y x=true
  ·rw[b]at h2;rw[a2]at h2;have h3:(x.toList==y.toList)=false:=by simpa using h2
   go_enter func137,ntmps137;go_wp2_with (go_at_call 186;refine(pE _ _).mono ?_;rintro e w' ⟨rfl,rfl⟩);go_ret;exact⟨by simp[St.cmp,a',b],rfl⟩
  ·have b':St.lt y x=false:=by simpa using b
   rw[b',a2]at h2;have h3:(x.toList==y.toList)=true:=by simpa using h2
   go_enter func137,ntmps137;go_wp2_with (go_at_call 186;refine(pE _ _).mono ?_;rintro e w' ⟨rfl,rfl⟩);go_ret;exact⟨by simp[St.cmp,a',b'],rfl⟩
theorem pF (x:bf) (w):Calls prog 203 #[.agg #[.string x.n,.string x.v]] w fun e w'=>e= .returned (.string x.n)∧∃q os',w'=Sort.grow (w.drewN q) os':=by
 go_enter func203,ntmps203;go_wp2;go_ret;exact⟨rfl,0,_,by rw[Sort.alloc_eq_grow];rfl⟩
theorem wQ (x:bf) (w):Calls prog 204 #[.agg #[.string x.n,.string x.v]] w fun e w'=>e= .returned (.string x.v)∧∃q os',w'=Sort.grow (w.drewN q) os':=by
 go_enter func204,ntmps204;go_wp2;go_ret;exact⟨rfl,0,_,by rw[Sort.alloc_eq_grow];rfl⟩
theorem pG (w):Calls prog 150 #[] w fun e w'=>e= .returned (.agg #[.func (.func 203) #[] #[],.func (.func 204) #[] #[]])∧Gr w w':=by
 go_enter func150,ntmps150;go_wp2;refine AQ (v:= .agg #[.func (.func 203) #[] #[],.func (.func 204) #[] #[]]) ?hr rfl ?_
 case hr=>exact results_cell_row (fn:=Tryz.f150) (p:=0) (ty:=255) rfl _ _ w.heap.size _ _ _ _ rfl (Av w _) underlying255 rfl kr
 exact⟨rfl,(Gr.refl w).alloc _⟩
theorem Ia (v) (hv:v.oneCell'=true) (w):Calls prog 149 #[v] w fun e w'=>e= .returned (.func (.func 202) #[] #[.pointer (some ⟨w.heap.size,0,none⟩)])∧w'=w.alloc (.cells #[v] 252):=by
 go_enter func149,ntmps149;go_wp2;go_ret;exact⟨rfl,rfl⟩
theorem yh (g:Nat) (pf:bf→ByteArray) (eg:∀args w,(callFunc g args).run prog w= .ok (.enter g args) w)
  (hg:∀(x) (w),Calls prog g #[.agg #[.string x.n,.string x.v]] w fun e w'=>e= .returned (.string (pf x))∧∃q os',w'=Sort.grow (w.drewN q) os')
  (B) (x y) (w) (hB:B<w.heap.size) (hc:w.cell? ⟨B,0,none⟩=some (.func (.func g) #[] #[])):
  Calls prog 202 #[.agg #[.string x.n,.string x.v],.agg #[.string y.n,.string y.v],.pointer (some ⟨B,0,none⟩)] w fun e w'=>e= .returned (.int .i64 (St.cmp (pf x) (pf y)))∧∃q os',w'=Sort.grow (w.drewN q) os':=by
 have mixed:prog.follows .mixedOrders=true:=kr;have hcm:=fun W=>qD (pf x) (pf y) W
 have hx:=hg x;have hy:=hg y;generalize pf x=px at*;generalize pf y=py at*;generalize St.cmp px py=r at*;go_enter func202,ntmps202;go_wp2_with fail;obtain⟨W2,hW⟩:∃W2,W2=(w.alloc (.cells #[.string x.n,.string x.v] 59)).alloc (.cells #[.string y.n,.string y.v] 59):=⟨_,rfl⟩
 have hz:W2.heap.size=w.heap.size+2:=by rw[hW];simp
 have gW:Gr w W2:=by rw[hW];exact((Gr.refl w).alloc _).alloc _
 have b0:∀k,W2.cell? ⟨w.heap.size,k,none⟩=(#[Value.string x.n,.string x.v]:Array Value)[k]?:=fun k=>by
  rw[hW,AJ _ _ ⟨w.heap.size,k,none⟩ sm];exact Au w _ _ _ k
 have b1:∀k,W2.cell? ⟨w.heap.size+1,k,none⟩=(#[Value.string y.n,.string y.v]:Array Value)[k]?:=fun k=>by
  rw[hW];simp
 have c0:∀n os,(Sort.grow (W2.drewN n) os).cell? ⟨B,0,none⟩=some (.func (.func g) #[] #[]):=fun n os=>cell_grown (by show B<_;omega) ((gW.cell B 0 hB).trans hc) n os
 have c1:∀n os,(Sort.grow (W2.drewN n) os).cell? ⟨w.heap.size,0,none⟩=some (.string x.n):=fun n os=>cell_grown (by show w.heap.size<_;omega) (b0 0) n os
 have c2:∀n os,(Sort.grow (W2.drewN n) os).cell? ⟨w.heap.size,1,none⟩=some (.string x.v):=fun n os=>cell_grown (by show w.heap.size<_;omega) (b0 1) n os
 have c3:∀n os,(Sort.grow (W2.drewN n) os).cell? ⟨w.heap.size+1,0,none⟩=some (.string y.n):=fun n os=>cell_grown (by show w.heap.size+1<_;omega) (b1 0) n os
 have c4:∀n os,(Sort.grow (W2.drewN n) os).cell? ⟨w.heap.size+1,1,none⟩=some (.string y.v):=fun n os=>cell_grown (by show w.heap.size+1<_;omega) (b1 1) n os
 rw[←hW];clear hW b0 b1 hz hc;have G:=Aj gW;clear gW;have hcm2:∀W,Calls prog 137 #[.string px,.string py] W fun e w'=>e= .returned (.int .i64 r)∧∃q os',w'=Sort.grow (W.drewN q) os':=fun W=>(hcm W).mono fun _ _ h=>⟨h.1,0,#[],by rw[h.2,Sort.grow_empty];rfl⟩
 go_quiet_grown (first|(go_at_fn g;refine Calls.grown_of (hx _))|(go_at_fn g;refine Calls.grown_of (hy _))|(go_at_call 137;go_loud (refine Calls.grown_of (hcm2 _))));go_wp2;go_ret;exact⟨rfl,G.1.trans ⟨_,_,rfl⟩⟩
theorem Ib (x) (w) (h1:x.n.size≤maxLen) (h2:x.v.size≤maxLen):Calls prog 151 #[.agg #[.string x.n,.string x.v]] w fun e w'=>e= .returned (.int .i64 (Lb.one x))∧Gr w w':=by
 unfold maxLen at h1 h2;have e1:x.n.toList.isEmpty=decide (x.n.size=0):=by
  rw[St.tl];obtain⟨⟨l⟩⟩:=x.n;cases l<;>simp[ByteArray.size]
 by_cases h0:x.n.size=0
 ·rw[Bc h0]at e1;have hr:Lb.one x=17:=by simp[Lb.one,h0]
  rw[hr];go_enter func151,ntmps151;go_wp2;go_ret;exact⟨rfl,(Gr.refl w).alloc _⟩
 ·rw[Az h0]at e1;by_cases hb:65535<x.n.size∨65535<x.v.size
  ·have hr:Lb.one x=7:=by simp[Lb.one,h0,hb]
   rw[hr];rcases Dr x.n.size x.v.size with hlt|hlt|hlt
   all_goals
    go_enter func151,ntmps151;go_wp2;go_ret;exact⟨rfl,(Gr.refl w).alloc _⟩
  ·have hr:Lb.one x=0:=by simp[Lb.one,h0,hb]
   have hb1:(x.n.size:Int)≤65535:=om;have hb2:(x.v.size:Int)≤65535:=om;rw[hr];rcases Dr x.n.size x.v.size with hlt|hlt|hlt
   all_goals
    go_enter func151,ntmps151;go_wp2;go_ret;exact⟨rfl,(Gr.refl w).alloc _⟩
end
end
section
section
open Go.RowKit Go.Shelf
theorem Po (x y) (w):Calls prog 154 #[.agg #[.string x.n,.string x.v],.agg #[.string y.n,.string y.v]] w fun e w'=>e= .returned (.int .i64 (Lb.pz x y))∧Gr w w':=by
 have B1:=fun B W hB hc=>yh 203 bf.n (enters_of func203 kr rfl) pF B x y W hB hc
 have B2:=fun B W hB hc=>yh 204 bf.v (enters_of func204 kr rfl) wQ B x y W hB hc
 have A1:=fun W=>Ia (.func (.func 203) #[] #[]) rfl W
 have A2:=fun W=>Ia (.func (.func 204) #[] #[]) rfl W
 have HE:Kept (Lb.pz x y=if St.cmp x.n y.n=0 then St.cmp x.v y.v else St.cmp x.n y.n):=⟨rfl⟩
 generalize Lb.pz x y=r at*;generalize St.cmp x.n y.n=r1 at*;generalize St.cmp x.v y.v=r2 at*;go_enter func154,ntmps154;go_upto_region 1 with fail;obtain⟨W2,hW⟩:∃W2,W2=(w.alloc (.cells #[.string x.n,.string x.v] 59)).alloc (.cells #[.string y.n,.string y.v] 59):=⟨_,rfl⟩
 have hz:W2.heap.size=w.heap.size+2:=by rw[hW];simp
 have gW:Kept (Gr w W2):=⟨by rw[hW];exact((Gr.refl w).alloc _).alloc _⟩
 have b0:∀k,W2.cell? ⟨w.heap.size,k,none⟩=(#[Value.string x.n,.string x.v]:Array Value)[k]?:=fun k=>by
  rw[hW,AJ _ _ ⟨w.heap.size,k,none⟩ sm];exact Au w _ _ _ k
 have b1:∀k,W2.cell? ⟨w.heap.size+1,k,none⟩=(#[Value.string y.n,.string y.v]:Array Value)[k]?:=fun k=>by
  rw[hW];simp
 have hz1:Kept (w.heap.size+1<W2.heap.size):=⟨om⟩
 have K0:Kept (∀W,Gr W2 W→W.cell? ⟨w.heap.size,0,none⟩=some (.string x.n)):=⟨fun W h=>(h.cell _ 0 om).trans (b0 0)⟩
 have K1:Kept (∀W,Gr W2 W→W.cell? ⟨w.heap.size,1,none⟩=some (.string x.v)):=⟨fun W h=>(h.cell _ 1 om).trans (b0 1)⟩
 have K2:Kept (∀W,Gr W2 W→W.cell? ⟨w.heap.size+1,0,none⟩=some (.string y.n)):=⟨fun W h=>(h.cell _ 0 om).trans (b1 0)⟩
 have K3:Kept (∀W,Gr W2 W→W.cell? ⟨w.heap.size+1,1,none⟩=some (.string y.v)):=⟨fun W h=>(h.cell _ 1 om).trans (b1 1)⟩
 rw[←hW];clear hW b0 b1 hz;go_wp2_with (go_at_call 150;refine(pG _).mono ?_;rintro e w1 ⟨rfl,g1⟩);go_loopw [9] (fun i wr=>Gr W2 wr∧(i= .int .i64 0∨(i= .int .i64 1∧Kept (r1=0))∨(i= .int .i64 2∧Kept (r1=0∧r2=0)))) (fun i _=>2-(intOf i).toNat)
 case atStart=>exact⟨g1,.inl rfl⟩
 case round=>
  obtain⟨gr,hi⟩:=hrel;have c0:∀o1,(wr.alloc o1).cell? ⟨w.heap.size,0,none⟩=some (.string x.n):=fun o1=>K0.1 _ (gr.alloc o1)
  have d0:∀o1 o2,((wr.alloc o1).alloc o2).cell? ⟨w.heap.size,0,none⟩=some (.string x.n):=fun o1 o2=>K0.1 _ ((gr.alloc o1).alloc o2)
  have c1:∀o1,(wr.alloc o1).cell? ⟨w.heap.size,1,none⟩=some (.string x.v):=fun o1=>K1.1 _ (gr.alloc o1)
  have d1:∀o1 o2,((wr.alloc o1).alloc o2).cell? ⟨w.heap.size,1,none⟩=some (.string x.v):=fun o1 o2=>K1.1 _ ((gr.alloc o1).alloc o2)
  have c2:∀o1,(wr.alloc o1).cell? ⟨w.heap.size+1,0,none⟩=some (.string y.n):=fun o1=>K2.1 _ (gr.alloc o1)
  have d2:∀o1 o2,((wr.alloc o1).alloc o2).cell? ⟨w.heap.size+1,0,none⟩=some (.string y.n):=fun o1 o2=>K2.1 _ ((gr.alloc o1).alloc o2)
  have c3:∀o1,(wr.alloc o1).cell? ⟨w.heap.size+1,1,none⟩=some (.string y.v):=fun o1=>K3.1 _ (gr.alloc o1)
  have d3:∀o1 o2,((wr.alloc o1).alloc o2).cell? ⟨w.heap.size+1,1,none⟩=some (.string y.v):=fun o1 o2=>K3.1 _ ((gr.alloc o1).alloc o2)
  have i0:=fun W=>sK (.func (.func 203) #[] #[]) (.func (.func 204) #[] #[]) W
  have i1:=fun W=>Ei (.func (.func 203) #[] #[]) (.func (.func 204) #[] #[]) W
  rcases hi with rfl|⟨rfl,hr1⟩|⟨rfl,hr1⟩
  ·go_wp2_with fail;go_cut [7] (fun v wx=>v= .int .i64 r1∧Gr W2 wx)
   case first=>
    go_region_with (first
     |(go_at_call 149;refine(A1 _).mono ?_;rintro e w3 ⟨rfl,rfl⟩)
     |(go_at_call 202;refine(B1 _ _ sm sm).mono ?_;rintro e w4 ⟨rfl,q4,os4,rfl⟩))
    all_goals (go_wp2_with fail;go_meet;exact⟨rfl,(((gr.alloc _).alloc _).drewN _).trans ⟨0,os4,rfl⟩⟩)
   case rest=>
    obtain⟨rfl,gc⟩:=hcut;clear c0 c1 c2 c3 d0 d1 d2 d3 gr;by_cases hz:r1=0
    ·have hzk:=Aj hz;go_wp2;go_roundw
     case rel=>exact⟨gc,.inr (.inl ⟨rfl,hzk⟩)⟩
     case measure=>simp[intOf]
    ·have hr:r=r1:=by rw[HE.1];exact Ng hz
     go_wp2;go_ret;exact⟨by rw[hr];rfl,gW.1.trans gc⟩
  ·go_wp2_with fail;go_cut [7] (fun v wx=>v= .int .i64 r2∧Gr W2 wx)
   case first=>
    go_region_with (first
     |(go_at_call 149;refine(A2 _).mono ?_;rintro e w3 ⟨rfl,rfl⟩)
     |(go_at_call 202;refine(B2 _ _ sm sm).mono ?_;rintro e w4 ⟨rfl,q4,os4,rfl⟩))
    all_goals (go_wp2_with fail;go_meet;exact⟨rfl,(((gr.alloc _).alloc _).drewN _).trans ⟨0,os4,rfl⟩⟩)
   case rest=>
    obtain⟨rfl,gc⟩:=hcut;clear c0 c1 c2 c3 d0 d1 d2 d3 gr;by_cases hz:r2=0
    ·have hzk:=Aj hz;go_wp2;go_roundw
     case rel=>exact⟨gc,.inr (.inr ⟨rfl,⟨hr1.1,hzk.1⟩⟩)⟩
     case measure=>simp[intOf]
    ·have hr:r=r2:=by rw[HE.1];exact Ps0 hr1.1
     go_wp2;go_ret;exact⟨by rw[hr];rfl,gW.1.trans gc⟩
  ·have hr:r=0:=by rw[HE.1,Ps0 hr1.1.1];exact hr1.1.2
   go_wp2;go_ret;exact⟨by rw[hr];rfl,gW.1.trans gr⟩
end
end
section
section
open Go.RowKit Go.Shelf
theorem fD.cells {w} {B n c k} {A} {l} (h:fD w B A n c l) (hB:B≤w.heap.size) (hk:k<l.length):
  ∃b off,A=some ⟨b,off,none⟩∧∀W,Below w.heap.size w W→W.cell? ⟨b,off+k*2,none⟩=some (.string l[k].n)∧W.cell? ⟨b,off+k*2+1,none⟩=some (.string l[k].v):=by
 obtain⟨b,off,e,hb,h1,h2⟩:=h.at_ hk;exact⟨b,off,e,fun W hW=>⟨(hW.cell (p:=⟨b,_,none⟩) (by show b<_;omega)).trans h1,(hW.cell (p:=⟨b,_,none⟩) (by show b<_;omega)).trans (by rw[gM];exact h2)⟩⟩
theorem qU (A A2) (n c n2 c2) (l l2) (w) (hv:fD w w.heap.size A n c l) (hv2:fD w w.heap.size A2 n2 c2 l2):
  Calls prog 153 #[.slice A n c,.slice A2 n2 c2,.func (.func 154) #[] #[]] w fun e w'=>e= .returned (.int .i64 (Lb.cmpL l l2))∧Gr w w':=by
 have hlc:=hv.1;have hcm:=hv.2.1;have Pp:=hv2.1;have hcm2:=hv2.2.1;unfold maxLen at hcm hcm2;have hn:=Aj hv.len;have hn2:=Aj hv2.len;have V:=Aj hv;have V2:=Aj hv2;clear hv hv2;obtain⟨r,hr⟩:∃r,r=Lb.cmpL l l2:=⟨_,rfl⟩
 rw[←hr];have HR:=Aj hr;clear hr;go_enter func153,ntmps153;go_wp2;go_loopw [13] (fun i wr=>∃k:Nat,k≤n∧k≤n2∧i= .int .i64 k∧Kept (r=Lb.cmpL (l.drop k) (l2.drop k))∧Gr w wr) (fun i _=>n-(intOf i).toNat)
 case atStart=>exact⟨0,om,om,rfl,⟨HR.1⟩,Gr.refl w⟩
 case round=>
  obtain⟨k,hk,hk2,rfl,hd,gr⟩:=hrel;by_cases hlt:k<n
  ·have hkl:k<l.length:=by rw[←hn.1];exact hlt
   obtain⟨b,off,rfl,hc⟩:=V.1.cells Ai hkl;obtain⟨c0,c1⟩:=hc wr gr.below;clear hc;by_cases hlt2:k<n2
   ·have vH:k<l2.length:=by rw[←hn2.1];exact hlt2
    obtain⟨b2,vD,rfl,hc2⟩:=V2.1.cells Ai vH;have d0:=fun o=>(hc2 (wr.alloc o) (gr.alloc o).below).1
    have d1:=fun o=>(hc2 (wr.alloc o) (gr.alloc o).below).2
    clear hc2;have hd2:=Aj (hd.1.trans (Lb.wL l l2 k hkl vH));generalize l[k]=x at*;generalize l2[k]=y at*;have C1:=fun W=>Po x y W
    obtain⟨xn,xv⟩:=x;obtain⟨yn,yv⟩:=y;obtain⟨s,hs⟩:∃s,s=Lb.pz ⟨xn,xv⟩ ⟨yn,yv⟩:=⟨_,rfl⟩
    simp only[←hs]at C1;have HS:=Aj hs;have G:=Aj gr;clear hs gr;by_cases hz:s=0
    ·have hd3:Kept (r=Lb.cmpL (l.drop (k+1)) (l2.drop (k+1))):=⟨by rw[hd2.1,Ps0 (by rw[←HS.1];exact hz)]⟩
     go_wp2_with (go_at_call 154;refine(C1 _).mono ?_;rintro e w3 ⟨rfl,g3⟩);go_roundw
     case rel=>exact⟨k+1,om,om,by go_num,hd3,((G.1.alloc _).alloc _).trans g3⟩
     case measure=>simp[intOf];omega
    ·have hd3:Kept (r=s):=⟨by rw[hd2.1,Ng (by rw[←HS.1];exact hz),HS.1]⟩
     go_wp2_with (go_at_call 154;refine(C1 _).mono ?_;rintro e w3 ⟨rfl,g3⟩);go_ret;exact⟨by rw[hd3.1];rfl,((G.1.alloc _).alloc _).trans g3⟩
   ·have hd3:Kept (r=1):=⟨by rw[hd.1,Lb.wN l l2 k hkl (by have:=hn2.1;omega)]⟩
    have G:=Aj gr;have hge:(n2:Int)≤(k:Int):=om;clear gr;go_wp2;go_ret;exact⟨by rw[hd3.1];rfl,G.1.alloc _⟩
  ·have G:=Aj gr;clear gr;by_cases hlt2:n<n2
   ·have hd3:Kept (r= -1):=⟨by rw[hd.1,Lb.wM l l2 k (by have:=hn.1;omega) (by have:=hn2.1;omega)]⟩
    go_wp2;go_ret;exact⟨by rw[hd3.1];rfl,G.1⟩
   ·have hd3:Kept (r=0):=⟨by rw[hd.1,Lb.wO l l2 k (by have:=hn.1;omega) (by have:=hn2.1;omega)]⟩
    go_wp2;go_ret;exact⟨by rw[hd3.1];rfl,G.1⟩
theorem yj (A A2) (n c n2 c2) (l l2) (w) (hv:fD w w.heap.size A n c l) (hv2:fD w w.heap.size A2 n2 c2 l2):
  Calls prog 95 #[.slice A n c,.slice A2 n2 c2] w fun e w'=>e= .returned (.int .i64 (Lb.cmpL l l2))∧Gr w w':=by
 have C:=qU A A2 n c n2 c2 l l2 w hv hv2;generalize Lb.cmpL l l2=r at*;clear hv hv2;go_enter func95,ntmps95;go_wp2_with (go_at_call 153;refine C.mono ?_;rintro e w3 ⟨rfl,g3⟩);go_ret;exact⟨rfl,g3⟩
theorem wS (x y) (w):Calls prog 82 #[.string x,.string y] w fun e w'=>e= .returned (.int .i64 (St.cmp x y))∧w'=w:=by
 have h1:Op.bytesLess x.toList y.toList=St.lt x y:=rfl;have h2:(!(Op.bytesLess x.toList y.toList||x.toList==y.toList))=(!(St.lt x y)&&St.lt y x):=by
  rw[h1,St.eq_iff];by_cases e:x=y
  ·subst e;simp[St.irrefl]
  ·cases a:St.lt x y with
   |true=>simp
   |false=>
    cases b:St.lt y x with
    |true=>simp[e]
    |false=>exact absurd (St.total a b) e
 by_cases a:St.lt x y=true
 ·go_enter func82,ntmps82;have a2:Op.bytesLess x.toList y.toList=true:=a;go_wp2;go_ret;exact⟨by simp[St.cmp,a],rfl⟩
 ·have a':St.lt x y=false:=by simpa using a
  have a2:Op.bytesLess x.toList y.toList=false:=a';rw[a']at h2;by_cases b:St.lt y x=true
  ·rw[b]at h2;rw[a2]at h2;have h3:(x.toList==y.toList)=false:=by simpa using h2
   go_enter func82,ntmps82;go_wp2;go_ret;exact⟨by simp[St.cmp,a',b],rfl⟩
  ·have b':St.lt y x=false:=by simpa using b
   rw[b',a2]at h2;have h3:(x.toList==y.toList)=true:=by simpa using h2
   go_enter func82,ntmps82;go_wp2;go_ret;exact⟨by simp[St.cmp,a',b'],rfl⟩
theorem kN (A A2) (n c n2 c2) (l l2) (w) (hv:fD w w.heap.size A n c l) (hv2:fD w w.heap.size A2 n2 c2 l2):
  Calls prog 39 #[.slice A n c,.slice A2 n2 c2] w fun e w'=>e= .returned (.int .i64 (Lb.cmpL l l2))∧Gr w w':=by
 have hlc:=hv.1;have hcm:=hv.2.1;have Pp:=hv2.1;have hcm2:=hv2.2.1;unfold maxLen at hcm hcm2;have hn:=Aj hv.len;have hn2:=Aj hv2.len;have V:=Aj hv;have V2:=Aj hv2;clear hv hv2;obtain⟨r,hr⟩:∃r,r=Lb.cmpL l l2:=⟨_,rfl⟩
 rw[←hr];have HR:=Aj hr;clear hr;go_enter func39,ntmps39;go_wp2;go_loopw [5] (fun i wr=>∃k:Nat,k≤n∧k≤n2∧i= .int .i64 k∧Kept (r=Lb.cmpL (l.drop k) (l2.drop k))∧Gr w wr) (fun i _=>n-(intOf i).toNat)
 case atStart=>exact⟨0,om,om,rfl,⟨HR.1⟩,Gr.refl w⟩
 case round=>
  obtain⟨k,hk,hk2,rfl,hd,gr⟩:=hrel;by_cases hlt:k<n
  ·have hkl:k<l.length:=by rw[←hn.1];exact hlt
   obtain⟨b,off,rfl,hc⟩:=V.1.cells Ai hkl;by_cases hlt2:k<n2
   ·have vH:k<l2.length:=by rw[←hn2.1];exact hlt2
    obtain⟨b2,vD,rfl,hc2⟩:=V2.1.cells Ai vH;obtain⟨c0,c1⟩:=hc wr gr.below;obtain⟨d0,d1⟩:=hc2 wr gr.below;clear hc hc2;have hd2:=Aj (hd.1.trans (Lb.wL l l2 k hkl vH));generalize l[k]=x at*;generalize l2[k]=y at*;obtain⟨xn,xv⟩:=x;obtain⟨yn,yv⟩:=y;have O1:=fun W=>wS xn yn W
    have O2:=fun W=>wS xv yv W
    have HE:Kept (Lb.pz ⟨xn,xv⟩ ⟨yn,yv⟩=if St.cmp xn yn=0 then St.cmp xv yv else St.cmp xn yn):=⟨rfl⟩
    generalize Lb.pz ⟨xn,xv⟩ ⟨yn,yv⟩=s at*;generalize St.cmp xn yn=s1 at*;generalize St.cmp xv yv=s2 at*;have G:=Aj gr;clear gr;by_cases hz1:s1=0
    ·have hs:Kept (s=s2):=⟨by rw[HE.1,Ps0 hz1]⟩
     by_cases hz2:s2=0
     ·have hd3:Kept (r=Lb.cmpL (l.drop (k+1)) (l2.drop (k+1))):=⟨by rw[hd2.1,Ps0 (by rw[hs.1];exact hz2)]⟩
      subst hz1 hz2;go_wp2_with fail;go_quiet (first|(go_at_call 82;exact(O1 _).mono fun _ _ q=>⟨q.1,_,q.2⟩));go_wp2_with fail;go_quiet (first|(go_at_call 82;exact(O2 _).mono fun _ _ q=>⟨q.1,_,q.2⟩));go_wp2;go_roundw
      case rel=>exact⟨k+1,om,om,by go_num,hd3,G.1.drewN _⟩
      case measure=>simp[intOf];omega
     ·have hd3:Kept (r=s2):=⟨by rw[hd2.1,Ng (by rw[hs.1];exact hz2),hs.1]⟩
      subst hz1;go_wp2_with fail;go_quiet (first|(go_at_call 82;exact(O1 _).mono fun _ _ q=>⟨q.1,_,q.2⟩));go_wp2_with fail;go_quiet (first|(go_at_call 82;exact(O2 _).mono fun _ _ q=>⟨q.1,_,q.2⟩));go_wp2;go_ret;exact⟨by rw[hd3.1];rfl,G.1.drewN _⟩
    ·have hd3:Kept (r=s1):=⟨by rw[hd2.1,Ng (by rw[HE.1,Ng hz1];exact hz1),HE.1,Ng hz1]⟩
     go_wp2_with fail;go_quiet (first|(go_at_call 82;exact(O1 _).mono fun _ _ q=>⟨q.1,_,q.2⟩));go_wp2;go_ret;exact⟨by rw[hd3.1];rfl,G.1.drewN _⟩
   ·have hd3:Kept (r=1):=⟨by rw[hd.1,Lb.wN l l2 k hkl (by have:=hn2.1;omega)]⟩
    have G:=Aj gr;have hge:(n2:Int)≤(k:Int):=om;have aiZ:¬(n:Int)< (n2:Int):=om;have ad5:(n2:Int)< (n:Int):=om;clear gr;go_wp2;go_ret;exact⟨by rw[hd3.1];rfl,G.1⟩
  ·have G:=Aj gr;clear gr;by_cases hlt2:n<n2
   ·have hd3:Kept (r= -1):=⟨by rw[hd.1,Lb.wM l l2 k (by have:=hn.1;omega) (by have:=hn2.1;omega)]⟩
    go_wp2;go_ret;exact⟨by rw[hd3.1];rfl,G.1⟩
   ·have hd3:Kept (r=0):=⟨by rw[hd.1,Lb.wO l l2 k (by have:=hn.1;omega) (by have:=hn2.1;omega)]⟩
    have ad5:(n2:Int)≤(n:Int):=om;go_wp2;go_ret;exact⟨by rw[hd3.1];rfl,G.1⟩
end
end
section
section
open Go.RowKit Go.Shelf
theorem Mg {w} {ops} {o} {a} {K} {Q} {E} (hgd:o.guard=none) (s x)
  (ho:o.op= .call {callee:= .builtin .append,args:= #[s,x],argTypes:= #[134,134]})
  (base) (A) (n c) (l) (hs:a.eval s= .slice A n c) (hown:aS w base A n c l)
  (B) (S) (m d) (k) (hx:a.eval x= .slice S m d) (hr:bM w B S m d k)
  (hlen:n+m≤8796093022208) (hbase:base≤w.heap.size)
  (h:∀A2 c2 w',aS w' base A2 (n+m) c2 (l++k)→w.grownBy w' (ab A)→(ab A2=ab A∨ab A2=some w.heap.size)→K (a.put o.dst (.slice A2 (n+m) c2)) w'):
  if Region.wanted o (yielded ops a.tmps)=true then Oper.wp prog o a w K Q else E:=by
 have hw:Region.wanted o (yielded ops a.tmps)=true:=by simp[Region.wanted,hgd]
 rw[Ps0 hw];obtain⟨i0,hi0,hz0,hz1,hz2⟩:=AX Pf;refine mh w s x _ ho base 9 i0 (.string ByteArray.empty) 1 16 underlying134 hi0 hz0 hz1 hz2 rfl Ah A n c (oF l) hs hown B S m d (oF k) hx hr (J3 k) (by unfold maxLen;omega) om hbase ?_;rw[←mG];exact h
theorem aS.nil (w) (base):aS w base none 0 0 []:=⟨rfl,.inl ⟨rfl,rfl⟩⟩
theorem bM.two (w:World) (x y):bM (w.alloc (.cells #[.string x,.string y] 9)) (w.heap.size+1) (some ⟨w.heap.size,0,none⟩) 2 2 [x,y]:=bM.lit w [x,y] sm
theorem sM (A) (n c) (l) (w) (hv:fD w w.heap.size A n c l) (hcap:n≤1000000000000):
  Calls prog 105 #[.slice A n c] w fun e w'=>∃A2 n2 c2,e= .returned (.slice A2 n2 c2)∧aS w' w.heap.size A2 n2 c2 (Lb.strs l)∧Below w.heap.size w w':=by
 have hlc:=hv.1;have hcm:=hv.2.1;unfold maxLen at hcm;have hn:=Aj hv.len;have V:=Aj hv;clear hv;go_enter func105,ntmps105;go_wp2;go_loopw [3,4] (fun o i wr=>∃k:Nat,k≤n∧i= .int .i64 k∧∃A2 n2 c2,o= .slice A2 n2 c2∧aS wr w.heap.size A2 n2 c2 (Lb.strs (l.take k))∧Below w.heap.size w wr) (fun _ i _=>n-(intOf i).toNat)
 case atStart=>exact⟨0,om,rfl,none,0,0,rfl,by simpa[Lb.strs]using aS.nil w w.heap.size,Ae _ _⟩
 case round=>
  obtain⟨k,hk,rfl,A2,n2,c2,rfl,ho,hb⟩:=hrel;by_cases hlt:k<n
  ·have hkl:k<l.length:=by rw[←hn.1];exact hlt
   obtain⟨b,off,rfl,hc⟩:=V.1.cells Ai hkl;have hn2:n2≤2000000000000:=by
    have h1:=ho.len;rw[Lb.aQ,lQ]at h1;omega
   have hst:=Aj (Lb.wP l k hkl);have hz:=hb.size;have HC:=Aj hc;obtain⟨c0,c1⟩:=hc wr hb;have d0:=fun o=>(HC.1 (wr.alloc o) (hb.alloc hz o)).1
   have d1:=fun o=>(HC.1 (wr.alloc o) (hb.alloc hz o)).2
   have O:=Aj ho;have HB:=Aj hb;clear hc ho hb;generalize l[k].n=xn at*;generalize l[k].v=xv at*;have HA:Kept (Below w.heap.size w (wr.alloc (.cells #[.string xn,.string xv] 9))):=⟨HB.1.alloc hz _⟩
   go_wp2_with fail;go_region_held3 (fun w'=>w'.cell? ⟨b,off+k*2,none⟩=some (.string xn)∧w'.cell? ⟨b,off+k*2+1,none⟩=some (.string xv)) (first|exact⟨c0,c1⟩|exact⟨d0 _,d1 _⟩|exact k9)
    ((refine Mg ?g1 (.tmp 11) (.tmp 22) ?g2 w.heap.size A2 n2 c2 (Lb.strs (l.take k)) ?g3 ?g4 (wr.heap.size+1) (some ⟨wr.heap.size,0,none⟩) 2 2 [xn,xv] ?g5 ?g6 ?g7 ?g8 ?_;(case g1=>rfl);(case g2=>rfl);(case g3=>rfl);(case g5=>rfl);(case g4=>exact Oa O.1 _);(case g6=>exact bM.two _ xn xv);(case g7=>omega);(case g8=>(simp;omega));intro A3 c3 w3 hown hgrow hat;have hb3:Below w.heap.size w w3:=HA.1.drew.grown hgrow (by show _≤(World.alloc _ _).heap.size;simp;omega) fun g e=>(ae O.1 g e).1;have O3:=Aj hown;have B3:=Aj hb3;have k9:w3.cell? ⟨b,off+k*2,none⟩=some (.string xn)∧w3.cell? ⟨b,off+k*2+1,none⟩=some (.string xv):=HC.1 w3 hb3;clear hown hgrow hb3))
   go_wp2;go_roundw
   case rel=>exact⟨k+1,om,by go_num,A3,_,c3,rfl,by rw[hst.1];exact O3.1,B3.1⟩
   case measure=>simp[intOf];omega
  ·obtain rfl:k=n:=by omega
   have O:=Aj ho;have HB:=Aj hb;have ht:l.take k=l:=jY (by have:=hn.1;omega);clear ho hb;go_wp2;go_ret;exact⟨A2,n2,c2,rfl,by rw[←ht];exact O.1,HB.1⟩
end
end
section
section
open Go.RowKit Go.Shelf
theorem eH (w:World) (g k) (cs) (t) (fr) (h:w.heap[g]? =some (.cells cs t fr)):w.cell? ⟨g,k,none⟩=cs[k]?:=by
 simp[World.cell?,h]
theorem aS.apart {w} {base n c g} {A} {l} {cs} {t} {fr} (h:aS w base A n c l) (hg:w.heap[g]? =some (.cells cs t fr)) (ht:t≠9):ab A≠some g:=by
 intro e;rcases h.2 with⟨hv,_⟩|⟨g',cap,cur,hv,_,hg',_⟩
 ·injection hv with h1;rw[h1]at e;cases e
 ·injection hv with h1
  rw[h1]at e;have:g'=g:=Oj e;subst this;rw[hg]at hg'
  injection hg' with h2
  injection h2 with _ h3
  exact ht h3
theorem jI (A) (n c) (l) (w) (hv:fD w w.heap.size A n c l) (hcap:n≤1000000000000):
  Calls prog 123 #[.slice A n c] w fun e w'=>∃A2 n2 c2,e= .returned (.slice A2 n2 c2)∧aS w' w.heap.size A2 n2 c2 (Lb.strs l)∧Below w.heap.size w w':=by
 have hlc:=hv.1;have hcm:=hv.2.1;unfold maxLen at hcm;have hn:=Aj hv.len;have V:=Aj hv;clear hv;go_enter func123,ntmps123;go_wp2;go_loopw [3,10] (fun o i wr=>∃k:Nat,k≤n∧i= .int .i64 k∧∃A2 n2 c2,o= .slice A2 n2 c2∧aS wr w.heap.size A2 n2 c2 (Lb.strs (l.take k))∧Below w.heap.size w wr) (fun _ i _=>n-(intOf i).toNat)
 case atStart=>exact⟨0,om,rfl,none,0,0,rfl,by simpa[Lb.strs]using aS.nil w w.heap.size,Ae _ _⟩
 case round=>
  obtain⟨k,hk,rfl,A2,n2,c2,rfl,ho,hb⟩:=hrel;by_cases hlt:k<n
  ·have hkl:k<l.length:=by rw[←hn.1];exact hlt
   obtain⟨b,off,rfl,hc⟩:=V.1.cells Ai hkl;have hn2:n2≤2000000000000:=by
    have h1:=ho.len;rw[Lb.aQ,lQ]at h1;omega
   have hst:=Aj (Lb.wP l k hkl);have hz:=hb.size;obtain⟨c0,c1⟩:=hc wr hb;have O:=Aj ho;have HB:=Aj hb;clear hc ho hb;generalize l[k].n=xn at*;generalize l[k].v=xv at*;go_upto_region 6 with(go_at_call 150;refine(pG _).mono ?_;rintro e w1 ⟨rfl,g1⟩)
   have X1:Kept (w1.heap[wr.heap.size]? =some (.cells #[.string xn,.string xv] 59 (0,0))):=⟨(g1.below.block _ sm).trans (Av wr _)⟩
   have b01:=HB.1.alloc hz (.cells #[.string xn,.string xv] 59);have B1:=Aj (b01.trans (g1.below.mono b01.size));have O1:Kept (aS w1 w.heap.size A2 n2 c2 (Lb.strs (l.take k))):=⟨own_below (Oa O.1 _) g1.below (fun g e=>by have:=(ae O.1 g e).2;simp;omega)⟩
   clear b01 g1 HB O c0 c1 hz;generalize wr.heap.size=G at*
   rename World=>wq
   go_loopw [3,15] (fun o j wi=>∃A3 n3 c3,o= .slice A3 n3 c3∧Below w.heap.size w wi∧wi.heap[G]? =some (.cells #[.string xn,.string xv] 59 (0,0))∧((j= .int .i64 0∧aS wi w.heap.size A3 n3 c3 (Lb.strs (l.take k)))∨(j= .int .i64 1∧aS wi w.heap.size A3 n3 c3 (Lb.strs (l.take k)++[xn]))∨(j= .int .i64 2∧aS wi w.heap.size A3 n3 c3 ((Lb.strs (l.take k)++[xn])++[xv])))) (fun _ j _=>2-(intOf j).toNat)
   case atStart=>exact⟨A2,n2,c2,rfl,B1.1,X1.1,.inl ⟨rfl,O1.1⟩⟩
   case round=>
    clear B1 X1 O1;obtain⟨A3,n3,c3,rfl,hb,hx,hj⟩:=hrel;have HG:G<wr.heap.size:=(Ge.1 hx).1;have y0:=fun o=>(AJ wr o ⟨G,0,none⟩ HG).trans (eH wr G 0 _ _ _ hx)
    have y1:=fun o=>(AJ wr o ⟨G,1,none⟩ HG).trans (eH wr G 1 _ _ _ hx)
    have HB:=Aj hb;have Wo:=hb.size;have X:=Aj hx;clear hb hx;rcases hj with⟨rfl,ho⟩|⟨rfl,ho⟩|⟨rfl,ho⟩
    ·have ii:=fun W=>sK (.func (.func 203) #[] #[]) (.func (.func 204) #[] #[]) W
     have P1:∀W,Calls prog 203 #[.agg #[.string xn,.string xv]] W fun e w'=>e= .returned (.string xn)∧∃q os',w'=Sort.grow (W.drewN q) os':=fun W=>pF ⟨xn,xv⟩ W
     have mo:n3≤3000000000000:=by have h1:=ho.len;simp[Lb.aQ]at h1;omega
     have O:=Aj ho;clear ho;go_wp2_with (first
      |(go_at_call 203;refine(P1 _).mono ?_;rintro e w2 ⟨rfl,g2⟩;have G2:Kept (Below wr.heap.size wr w2):=⟨((Ae _ wr).alloc Ai _).trans ((Gr.below g2).mono sm)⟩;have O2:=Aj (own_below O.1 G2.1 (fun g e=>(ae O.1 g e).2));have hz2:=G2.1.size;clear g2)
      |(at_builtin;refine gu rfl (.tmp 18) (.tmp 23) rfl w.heap.size A3 n3 c3 _ rfl (Oa O2.1 _) (w2.heap.size+1) _ _ _ [xn] rfl (bM.one w2 xn) om (by simp;omega) ?_;intro A4 c4 w4 ax aj di;have O4:=Aj ax;have X2:Kept (w2.heap[G]? =some (.cells #[.string xn,.string xv] 59 (0,0))):=⟨(G2.1.block _ HG).trans X.1⟩;have X3:=Aj ((Aw w2 (.cells #[.string xn] 9) G om).trans X2.1);have X4:=Aj ((aj.block G (by simp;omega) (Ne.symm (aS.apart (Oa O2.1 _) X3.1 Ah))).trans X3.1);have B4:=Aj ((((HB.1.trans (G2.1.mono HB.1.size)).alloc (by have:=HB.1.size;omega) (.cells #[.string xn] 9)).grown aj (by have:=HB.1.size;simp;omega) (fun g e=>(ae O.1 g e).1)));clear ax aj di))
     go_roundw
     case rel=>exact⟨A4,_,c4,rfl,B4.1,X4.1,.inr (.inl ⟨rfl,O4.1⟩)⟩
     case measure=>simp[intOf]
    ·have ii:=fun W=>Ei (.func (.func 203) #[] #[]) (.func (.func 204) #[] #[]) W
     have P1:∀W,Calls prog 204 #[.agg #[.string xn,.string xv]] W fun e w'=>e= .returned (.string xv)∧∃q os',w'=Sort.grow (W.drewN q) os':=fun W=>wQ ⟨xn,xv⟩ W
     have mo:n3≤3000000000000:=by have h1:=ho.len;simp[Lb.aQ]at h1;omega
     have O:=Aj ho;clear ho;go_wp2_with (first
      |(go_at_call 204;refine(P1 _).mono ?_;rintro e w2 ⟨rfl,g2⟩;have G2:Kept (Below wr.heap.size wr w2):=⟨((Ae _ wr).alloc Ai _).trans ((Gr.below g2).mono sm)⟩;have O2:=Aj (own_below O.1 G2.1 (fun g e=>(ae O.1 g e).2));have hz2:=G2.1.size;clear g2)
      |(at_builtin;refine gu rfl (.tmp 18) (.tmp 23) rfl w.heap.size A3 n3 c3 _ rfl (Oa O2.1 _) (w2.heap.size+1) _ _ _ [xv] rfl (bM.one w2 xv) om (by simp;omega) ?_;intro A4 c4 w4 ax aj di;have O4:=Aj ax;have X2:Kept (w2.heap[G]? =some (.cells #[.string xn,.string xv] 59 (0,0))):=⟨(G2.1.block _ HG).trans X.1⟩;have X3:=Aj ((Aw w2 (.cells #[.string xv] 9) G om).trans X2.1);have X4:=Aj ((aj.block G (by simp;omega) (Ne.symm (aS.apart (Oa O2.1 _) X3.1 Ah))).trans X3.1);have B4:=Aj ((((HB.1.trans (G2.1.mono HB.1.size)).alloc (by have:=HB.1.size;omega) (.cells #[.string xv] 9)).grown aj (by have:=HB.1.size;simp;omega) (fun g e=>(ae O.1 g e).1)));clear ax aj di))
     go_roundw
     case rel=>exact⟨A4,_,c4,rfl,B4.1,X4.1,.inr (.inr ⟨rfl,O4.1⟩)⟩
     case measure=>simp[intOf]
    ·have O:=Aj ho;clear ho;go_wp2;go_roundw
     case rel=>exact⟨k+1,om,by go_num,A3,n3,c3,rfl,by rw[hst.1];simpa using O.1,HB.1⟩
     case measure=>simp[intOf];omega
  ·obtain rfl:k=n:=by omega
   have O:=Aj ho;have HB:=Aj hb;have ht:l.take k=l:=jY (by have:=hn.1;omega);clear ho hb;go_wp2;go_ret;exact⟨A2,n2,c2,rfl,by rw[←ht];exact O.1,HB.1⟩
end
end
section
section
open Go.RowKit Go.Shelf
theorem bM.cells {w} {B n c k} {A} {l} (h:bM w B A n c l) (hB:B≤w.heap.size) (hk:k<l.length):
  ∃b off,A=some ⟨b,off,none⟩∧∀W,Below w.heap.size w W→W.cell? ⟨b,off+k,none⟩=some (.string l[k]):=by
 obtain⟨b,off,e,hb,h1⟩:=h.at_ hk;exact⟨b,off,e,fun W hW=>(hW.cell (p:=⟨b,_,none⟩) (by show b<_;omega)).trans h1⟩
namespace Lb
def Fit (l:List bf):Prop:=∀x∈l,x.n.size≤maxLen∧x.v.size≤maxLen
end Lb
namespace Sy
def tot (L:List ByteArray):Nat:=(L.map fun s=>1+min s.size 200000).sum
theorem kP (L:List ByteArray) (k) (h:k<L.length):tot (L.take (k+1))=tot (L.take k)+(1+min L[k].size 200000):=by
 unfold tot;rw[Ts h,dY,CY];simp
def Fit (L:List ByteArray):Prop:=∀s∈L,s.size≤maxLen
end Sy
theorem Ej (A) (n c B) (L) (w) (hv:bM w B A n c L) (hB:B≤w.heap.size) (hf:Sy.Fit L):
  Calls prog 104 #[.slice A n c] w fun e w'=>∃v:Int,e= .returned (.int .i64 v)∧(v=0∨v=1)∧(v=0→n≤500∧Sy.tot L≤200000)∧Gr w w':=by
 have hlc:=hv.1;have hcm:=hv.2.1;unfold maxLen at hcm;have hn:=Aj hv.len;have V:=Aj hv;have F:=Aj hf;clear hv hf;go_enter func104,ntmps104;go_wp2;go_loopw [3,8] (fun s i wr=>∃k a:Nat,k≤n∧a≤200000∧i= .int .i64 k∧s= .int .i64 a∧Kept (a=Sy.tot (L.take k)∧(0<k→n≤500))∧Gr w wr) (fun _ i _=>n-(intOf i).toNat)
 case atStart=>exact⟨0,0,om,om,rfl,rfl,⟨rfl,fun h=>om⟩,Gr.refl w⟩
 case round=>
  obtain⟨k,a,hk,ha,rfl,rfl,hd,gr⟩:=hrel;by_cases hlt:k<n
  ·have hkl:k<L.length:=by rw[←hn.1];exact hlt
   obtain⟨b,off,rfl,hc⟩:=V.1.cells hB hkl;have c0:=hc wr gr.below;have G:=Aj gr;have hs:=F.1 _ (ic hkl);have ht:=Aj (Sy.kP L k hkl);unfold maxLen at hs;clear hc gr;generalize L[k]=x at*;rcases DD 200000 x.size with hx|hx
   rotate_left 1
   ·have hx':¬(200000:Int)< (x.size:Int):=by omega
    have hm:min x.size 200000=x.size:=om;rw[hm]at ht;by_cases h1:200000<a+(1+x.size)
    ·have h1':(200000:Int)< (a:Int)+(1+(x.size:Int)):=by omega
     clear h1 hm;go_wp2;go_ret;exact⟨1,rfl,.inr rfl,(fun h=>by cases h),G.1⟩
    ·have h1':¬(200000:Int)< (a:Int)+(1+(x.size:Int)):=by omega
     by_cases h2:500<n
     ·have h2':(500:Int)< (n:Int):=by omega
      clear h1 h2 hm;go_wp2;go_ret;exact⟨1,rfl,.inr rfl,(fun h=>by cases h),G.1⟩
     ·have h2':¬(500:Int)< (n:Int):=by omega
      have hd2:Kept (a+(1+x.size)=Sy.tot (L.take (k+1))∧(0<k+1→n≤500)):=⟨by rw[ht.1,←hd.1.1],fun _=>om⟩
      have ad6:Kept (a+(1+x.size)≤200000):=⟨om⟩
      clear h1 h2 hm;go_wp2;go_roundw
      case rel=>exact⟨k+1,a+(1+x.size),om,ad6.1,by go_num,by go_num,hd2,G.1⟩
      case measure=>simp[intOf];omega
   ·have h1':(200000:Int)< (a:Int)+200001:=by omega
    have hx':(200000:Int)< (x.size:Int):=om;have hw1:IntKind.i64.wrap (1+200000)=200001:=by rw[AV];rfl
    have ha0:(0:Int)≤(a:Int):=om;have ha1:(a:Int)≤200000:=om;generalize (a:Int)=ai at*;clear ht hx ha;go_wp2;go_ret;exact⟨1,rfl,.inr rfl,(fun h=>by cases h),G.1⟩
  ·have G:=Aj gr;have ht:L.take k=L:=jY (by have:=hn.1;omega);have hr:Kept (n≤500∧Sy.tot L≤200000):=⟨by
    by_cases h0:n=0
    ·omega
    ·exact hd.1.2 om,by rw[←ht,←hd.1.1];exact ha⟩
   clear gr;go_wp2;go_ret;exact⟨0,rfl,.inl rfl,fun _=>hr.1,G.1⟩
namespace Lb
theorem Pq {l} (h:Fit l):Sy.Fit (strs l):=fun s hs=>by
 unfold strs at hs;obtain⟨x,hx,hm⟩:=kM.1 hs;have:=h x hx;rcases iM.1 hm with rfl|hm
 ·exact this.1
 ·rw[iF]at hm;subst hm;exact this.2
end Lb
end
end
end Go.Proofs.YtjcpmfphnodaaaaGreatDoor
