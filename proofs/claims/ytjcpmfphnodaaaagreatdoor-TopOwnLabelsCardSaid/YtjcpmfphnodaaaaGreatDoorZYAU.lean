/- Part 21. -/
import Derived.Test.YtjcpmfphnodaaaaGreatDoorZYAA
import Derived.Sort.Walk13a
import Derived.Sort.WalkB3
import Derived.Sort.LotB
import Derived.Sort.WalkD2
import Derived.Sort.LotD4
import Derived.Sort.WalkA6
import Derived.Sort.WalkC4
import Derived.Deep.DeepCutAuto
import Derived.Deep.CutBlock
namespace Go.Proofs.YtjcpmfphnodaaaaGreatDoor
set_option maxRecDepth 100000
set_option maxHeartbeats 0
theorem Ay:type_of% @Go.Calls.quiet_of_same:= @Go.Calls.quiet_of_same
open _root_.Go.Proofs.Tryz
open Go.RowKit Go.Sort
abbrev eU:Int→Value:=fun x=>Value.int .u64 x
structure Sv (w:World) (b o:Nat) (d0 d:Array Int) (wr:World):Prop where
 h0:Holds eU w b o d0
 lt:b<w.heap.size
 sz:d.size=d0.size
 at_:At eU w b o d wr
section
variable {w wr w2:World} {b o:Nat} {d0 d d':Array Int}
theorem Sv.refl (h:Holds eU w b o d0) (hb:b<w.heap.size):Sv w b o d0 d0 w:=⟨h,hb,rfl,At.refl h⟩
theorem Sv.holds (h:Sv w b o d0 d wr):Holds eU wr b o d∧b<wr.heap.size:=h.at_.holds h.h0 h.sz h.lt
theorem Sv.cell (h:Sv w b o d0 d wr):∀t,t<d0.size→wr.cell? ⟨b,o+t,none⟩=some (.int .u64 d[t]!):=fun t ht=>(h.holds.1 t (by rw[h.sz];exact ht)).1
theorem Sv.iI (h:Sv w b o d0 d wr):∀t,t<d0.size→wr.frozen? ⟨b,o+t,none⟩=false:=fun t ht=>(h.holds.1 t (by rw[h.sz];exact ht)).2
theorem Sv.drewN (h:Sv w b o d0 d wr) (n):Sv w b o d0 d (wr.drewN n):=⟨h.h0,h.lt,h.sz,h.at_.ahead n⟩
theorem Sv.step (h:Sv w b o d0 d wr) (k:Sv wr b o d d' w2):Sv w b o d0 d' w2:=by
 obtain⟨n,os,hw⟩:=k.at_;exact⟨h.h0,h.lt,k.sz.trans h.sz,h.at_.stepG h.lt k.sz ⟨n,os,hw⟩⟩
theorem Sv.swp (h:Sv w b o d0 d wr) {i j:Nat} (hi:i<d0.size) (hj:j<d0.size):Sv w b o d0 (swp d i j) ((wr.setCell ⟨b,o+i,none⟩ (.int .u64 d[j]!)).setCell ⟨b,o+j,none⟩ (.int .u64 d[i]!)):=by
 refine h.step ⟨h.holds.1,h.holds.2,size_swp d i j,0,#[],?_⟩;rw[grow_empty,ahead_zero];have e:=putRow_self eU wr b o d h.holds.1;have e2:=putRow_swp eU wr b o d i j (by rw[h.sz];exact hi) (by rw[h.sz];exact hj);rw[e]at e2;exact e2
end
theorem VV (x w):Calls prog 297 #[.int .u64 x] w fun e w'=>e= .returned (.bool false)∧w'=w:=by
 go_enter func297,ntmps297;go_wp2;go_ret;exact⟨sm,rfl⟩
theorem aD (x y w):Calls prog 283 #[.int .u64 x,.int .u64 y] w fun e w'=>e= .returned (.bool (ltInt x y))∧w'=w:=by
 go_enter func283,ntmps283;go_wp2_with (go_at_call 297;refine(VV _ _).mono ?_;rintro e w' ⟨rfl,rfl⟩);go_ret;exact⟨rfl,rfl⟩
theorem qZ (b o c x y d w) (hH:Holds eU w b o d) (hw:b<w.heap.size) (hxy:x≤y) (hy:y≤d.size) (hsz:d.size<4611686018427387904):
  Calls prog 301 #[.slice (some ⟨b,o,none⟩) d.size c,.int .i64 x,.int .i64 y] w fun e w'=>e= .returned (.tuple #[])∧Sv w b o d (Sort.insertionSort ltInt d x y) w':=by
 go_enter func301,ntmps301;go_wp2;go_loopw [6] (fun vi wr=>∃(i:Nat) (dk:Array Int),vi= .int .i64 i∧x<i∧i≤y+1∧Sv w b o d dk wr∧Kept (insOuter ltInt x y i dk=insOuter ltInt x y (x+1) d)) (fun vi _=>y+1-(intOf vi).toNat)
 case atStart=>exact⟨x+1,d,by go_num,om,om,Sv.refl hH hw,⟨rfl⟩⟩
 case round=>
  obtain⟨i,dk,rfl,hi1,hi2,hs,HO⟩:=hrel;have HS:=Aj hs;clear hs;by_cases hiy:i<y
  ·have afq:(i:Int)< (y:Int):=by omega
   go_wp2;go_loopw [7] (fun vj wi=>∃(j:Nat) (dj:Array Int),vj= .int .i64 j∧x≤j∧j≤i∧Sv w b o d dj wi∧Kept (insInner ltInt x j dj=insInner ltInt x i dk)) (fun vj _=>(intOf vj).toNat)
   case atStart=>exact⟨i,dk,rfl,om,Nr _,HS.1,⟨rfl⟩⟩
   case round=>
    obtain⟨j,dj,rfl,hj1,hj2,hs,HI⟩:=hrel;have hf:=hs.iI;obtain⟨G,hG⟩:∃G:Nat→Int,∀t,G t=dj[t]!:=⟨fun t=>dj[t]!,fun _=>rfl⟩
    have hc:∀t,t<d.size→wr.cell? ⟨b,o+t,none⟩=some (.int .u64 (G t)):=fun t ht=>by rw[hG];exact hs.cell t ht
    have HG:=Aj hG;have HS2:=Aj hs;clear hs hG;have out:(j≤x∨ltInt dj[j]! dj[j-1]! =false)→insOuter ltInt x y (i+1) dj=insOuter ltInt x y (x+1) d:=fun h=>by rw[←HO.1,insOuter_go _ _ _ _ _ hiy,←HI.1,insInner_stop _ _ _ _ h]
    have OUT:=Aj out;clear out;by_cases qQ:x<j
    ·have afr:(x:Int)< (j:Int):=by omega
     by_cases hl:ltInt (G j) (G (j-1))=true
     ·go_wp2_with fail;go_quiet (first|(go_at_call 283;refine Ay (aD _ _ _)));go_wp2_with fail;go_region
      all_goals go_wp2
      go_roundw
      case rel=>
       refine⟨j-1,Sort.swp dj j (j-1),by congr 1;omega,om,om,?_,⟨?_⟩⟩
       ·rw[HG.1,HG.1];exact(HS2.1.drewN _).swp (i:=j) (j:=j-1) om om
       ·rw[←HI.1,insInner_go ltInt x j dj qQ (by rw[←HG.1,←HG.1];exact hl)]
      case measure=>simp[intOf];omega
     ·have hl:ltInt (G j) (G (j-1))=false:=by simpa using hl
      go_wp2_with fail;go_quiet (first|(go_at_call 283;refine Ay (aD _ _ _)));go_wp2;go_roundw
      case rel=>exact⟨i+1,dj,by go_num,om,om,HS2.1.drewN _,⟨OUT.1 (.inr (by rw[←HG.1,←HG.1];exact hl))⟩⟩
      case measure=>simp[intOf];omega
    ·have afr:¬(x:Int)< (j:Int):=by omega
     go_wp2_with fail;go_quiet (first|(go_at_call 283;refine Ay (aD _ _ _)));go_wp2;go_roundw
     case rel=>exact⟨i+1,dj,by go_num,om,om,HS2.1.drewN _,⟨OUT.1 (.inl om)⟩⟩
     case measure=>simp[intOf];omega
  ·have afq:¬(i:Int)< (y:Int):=by omega
   go_wp2;go_end0;refine⟨rfl,?_⟩;rw[Sort.insertionSort,←HO.1,insOuter_stop _ _ _ _ _ hiy];exact HS.1
theorem uz (b o c x y d w) (hH:Holds eU w b o d) (hw:b<w.heap.size) (hxy:x≤y) (hy:y≤d.size) (hsz:d.size<4611686018427387904):
  Calls prog 305 #[.slice (some ⟨b,o,none⟩) d.size c,.int .i64 x,.int .i64 y] w fun e w'=>e= .returned (.tuple #[])∧Sv w b o d (Sort.reverseRange d x y) w':=by
 go_enter func305,ntmps305;go_wp2;go_loopw [6,7] (fun vi vj wr=>∃(i j:Nat) (z:Int) (dk:Array Int),vi= .int .i64 i∧vj= .int .i64 z∧x≤i∧i≤y∧(z=j∧j<y∨¬(i:Int)<z∧¬i<j∧-1≤z∧z≤y)∧Sv w b o d dk wr∧Kept (reverseLoop i j dk=reverseLoop x (y-1) d)) (fun vi vj _=>((intOf vj)-(intOf vi)).toNat)
 case atStart=>exact⟨x,y-1,(y:Int)-1,d,rfl,rfl,Nr _,hxy,om,Sv.refl hH hw,⟨rfl⟩⟩
 case round=>
  obtain⟨i,j,z,dk,rfl,rfl,hi1,hi2,hz,hs,HO⟩:=hrel;have HS:=Aj hs;by_cases hij:(i:Int)<z
  ·obtain⟨rfl,hjy⟩:z=j∧j<y:=by omega
   have hf:=hs.iI;obtain⟨G,hG⟩:∃G:Nat→Int,∀t,G t=dk[t]!:=⟨fun t=>dk[t]!,fun _=>rfl⟩
   have hc:∀t,t<d.size→wr.cell? ⟨b,o+t,none⟩=some (.int .u64 (G t)):=fun t ht=>by rw[hG];exact hs.cell t ht
   have HG:=Aj hG;clear hs hG hz;go_wp2_with fail;go_region
   all_goals go_wp2
   go_roundw
   case rel=>
    refine⟨i+1,j-1,(j:Int)-1,Sort.swp dk i j,by go_num,rfl,om,om,om,?_,⟨?_⟩⟩
    ·rw[HG.1,HG.1];exact(HS.1.drewN _).swp (i:=i) (j:=j) om om
    ·rw[←HO.1,reverseLoop.eq_def i j dk,Ps0 om]
   case measure=>simp[intOf];omega
  ·clear hs;go_wp2;go_end0;refine⟨rfl,?_⟩;rw[Sort.reverseRange,←HO.1,reverseLoop,Ng om];exact HS.1
theorem uA (b o c l h f:Nat) (d n w) (hn:d.size=n) (hH:Holds eU w b o d) (hw:b<w.heap.size) (hl:l≤h) (hh:f+h≤n) (hsz:n<4611686018427387904):
  Calls prog 310 #[.slice (some ⟨b,o,none⟩) n c,.int .i64 l,.int .i64 h,.int .i64 f] w fun e w'=>e= .returned (.tuple #[])∧Sv w b o d (Sort.siftDown ltInt h f l d) w':=by
 subst hn;go_enter func310,ntmps310;go_wp2;go_loopw [8] (fun vr wr=>∃(r:Nat) (dk:Array Int),vr= .int .i64 r∧r≤h∧Sv w b o d dk wr∧Kept (Sort.siftDown ltInt h f r dk=Sort.siftDown ltInt h f l d)) (fun vr _=>h-(intOf vr).toNat)
 case atStart=>exact⟨l,d,rfl,hl,Sv.refl hH hw,⟨rfl⟩⟩
 case round=>
  obtain⟨r,dk,rfl,hr,hs,HO⟩:=hrel;have HS:=Aj hs;by_cases h0:h≤2*r+1
  ·have h0':(h:Int)≤2*(r:Int)+1:=by omega
   clear hs;go_wp2;go_end0;refine⟨rfl,?_⟩;rw[←HO.1,sd_end ltInt dk h0];exact HS.1
  ·have h0':¬(h:Int)≤2*(r:Int)+1:=by omega
   have hf:=hs.iI;obtain⟨G,hG⟩:∃G:Nat→Int,∀t,G t=dk[t]!:=⟨fun t=>dk[t]!,fun _=>rfl⟩
   have hc:∀t,t<d.size→wr.cell? ⟨b,o+t,none⟩=some (.int .u64 (G t)):=fun t ht=>by rw[hG];exact hs.cell t ht
   have HG:=Aj hG;clear hs hG;have key:∃q,r<q∧q<h∧(ltInt (G (f+r)) (G (f+q))=false→Sort.siftDown ltInt h f r dk=dk)∧(ltInt (G (f+r)) (G (f+q))=true→Sort.siftDown ltInt h f r dk=Sort.siftDown ltInt h f q (Sort.swp dk (f+r) (f+q)))∧
     ((q=2*r+2∧2*r+2<h∧ltInt (G (f+2*r+1)) (G (f+2*r+2))=true)∨(q=2*r+1∧2*r+2<h∧ltInt (G (f+2*r+1)) (G (f+2*r+2))=false)∨(q=2*r+1∧¬2*r+2<h)):=by
    simp only[HG.1];by_cases h1:2*r+2<h
    ·by_cases h2:ltInt dk[f+(2*r+1)]! dk[f+(2*r+2)]! =true
     ·exact⟨2*r+2,om,h1,fun h3=>sd_right_stop ltInt dk h1 h2 h3,fun h3=>sd_right_go ltInt dk h1 h2 h3,.inl ⟨rfl,h1,h2⟩⟩
     ·have h2:ltInt dk[f+(2*r+1)]! dk[f+(2*r+2)]! =false:=by simpa using h2
      exact⟨2*r+1,om,om,fun h3=>sd_left_stop ltInt dk om (fun _=>h2) h3,fun h3=>sd_left_go ltInt dk om (fun _=>h2) h3,.inr (.inl ⟨rfl,h1,h2⟩)⟩
    ·exact⟨2*r+1,om,om,fun h3=>sd_left_stop ltInt dk om (fun h=>absurd h h1) h3,fun h3=>sd_left_go ltInt dk om (fun h=>absurd h h1) h3,.inr (.inr ⟨rfl,h1⟩)⟩
   obtain⟨q,hq1,hq2,hqs,hqg,hq⟩:=key;have HQS:=Aj hqs;have HQG:=Aj hqg;clear hqs hqg;have hlt:ltInt (G (f+r)) (G (f+q))=false∨ltInt (G (f+r)) (G (f+q))=true:=by cases ltInt (G (f+r)) (G (f+q))<;>simp
   rcases hq with⟨hq,h1,h2⟩|⟨hq,h1,h2⟩|⟨hq,h1⟩
   have h1':2*(r:Int)+1+1< (h:Int):=om
   rotate_left
   have h1':2*(r:Int)+1+1< (h:Int):=om
   rotate_left
   have h1':decide (2*(r:Int)+1+1< (h:Int))=false:=AF om
   rotate_left
   all_goals
    go_wp2_with fail;go_quiet (first|(go_at_call 283;refine Ay (aD _ _ _)));go_wp2_with fail
    first
     |rw[show 2*(r:Int)+1+1=(q:Int)from om]
     |rw[show 2*(r:Int)+1=(q:Int)from om]
    have hc2:∀t,t<d.size→(wr.drewN nq).cell? ⟨b,o+t,none⟩=some (.int .u64 (G t)):=hc;have hf2:∀t,t<d.size→(wr.drewN nq).frozen? ⟨b,o+t,none⟩=false:=hf;have HS2:=Aj (HS.1.drewN nq);clear hc hf HS hq h1;generalize wr.drewN nq=w2 at*;rcases hlt with hlt|hlt
    ·go_quiet (first|(go_at_call 283;refine Ay (aD _ _ _)));go_wp2_with fail
     (try simp only[Exit.inBlock,Exit.then]);refine Bh (CJ rfl _ _ _) rfl ?_
     refine⟨rfl,?_⟩;rw[←HO.1,HQS.1 hlt];exact HS2.1.drewN _
    ·go_quiet (first|(go_at_call 283;refine Ay (aD _ _ _)));go_wp2_with fail;go_region
     all_goals go_wp2
     go_roundw
     case rel=>
      refine⟨q,Sort.swp dk (f+r) (f+q),rfl,om,?_,⟨?_⟩⟩
      ·rw[HG.1,HG.1];exact(HS2.1.drewN _).swp (i:=f+r) (j:=f+q) om om
      ·rw[←HO.1,HQG.1 hlt]
     case measure=>simp[intOf];omega
theorem JC (b o c x y d w) (hH:Holds eU w b o d) (hw:b<w.heap.size) (hxy:x≤y) (hy:y≤d.size) (hsz:d.size<4611686018427387904):
  Calls prog 302 #[.slice (some ⟨b,o,none⟩) d.size c,.int .i64 x,.int .i64 y] w fun e w'=>e= .returned (.tuple #[])∧Sv w b o d (Sort.heapSort ltInt d x y) w':=by
 have hst:=half_start hxy;obtain⟨L,hL⟩:∃L,y-x=L:=⟨y-x,rfl⟩
 have hLi:(y:Int)-(x:Int)=(L:Int):=om;have hxL:x+L≤d.size:=om;unfold Sort.heapSort;rw[hL]at hst⊢;rw[hLi]at hst;clear hL hxy hy;obtain⟨K,hK⟩:∃K,K=(L-1)/2+1:=⟨_,rfl⟩
 rw[←hK]at hst⊢;have hKL:K≤L+1:=om;clear hK;go_enter func302,ntmps302;go_wp2;go_loopw [9] (fun vi wr=>∃(k:Nat) (dk:Array Int),vi= .int .i64 ((k:Int)-1)∧k≤K∧Sv w b o d dk wr∧Kept (heapBuild ltInt L x k dk=heapBuild ltInt L x K d)) (fun vi _=>(intOf vi+1).toNat)
 case atStart=>exact⟨K,d,by first|rw[hst]|rfl,Nr _,Sv.refl hH hw,⟨rfl⟩⟩
 case round=>
  obtain⟨k,dk,hv,hk,hs,HO⟩:=hrel;obtain rfl|⟨m,rfl⟩:k=0∨∃m,k=m+1:=by cases k with|zero=>exact .inl rfl|succ m=>exact .inr ⟨m,rfl⟩
  ·obtain⟨z,hz,hz1⟩:∃z:Int,z<0∧((0:Nat):Int)-1=z:=⟨-1,om,rfl⟩
   rw[hz1]at hv;subst hv;clear hz1;have HB:=Aj (show heapBuild ltInt L x K d=dk from HO.1.symm);have HS:=Aj hs;clear hs HO hst;go_wp2;go_loopw [10] (fun vi wr=>∃(k:Nat) (dj:Array Int),vi= .int .i64 ((k:Int)-1)∧k≤L∧Sv w b o d dj wr∧Kept (heapPop ltInt x k dj=heapPop ltInt x L dk)) (fun vi _=>(intOf vi+1).toNat)
   case atStart=>exact⟨L,dk,rfl,Nr _,HS.1,⟨rfl⟩⟩
   case round=>
    obtain⟨k,dj,rfl,hk,hs,HP⟩:=hrel;have HS2:=Aj hs;obtain rfl|⟨m,rfl⟩:k=0∨∃m,k=m+1:=by cases k with|zero=>exact .inl rfl|succ m=>exact .inr ⟨m,rfl⟩
    ·clear hs;go_wp2;go_end0;refine⟨rfl,?_⟩;rw[HB.1,←HP.1];exact HS2.1
    ·have hf:=hs.iI;obtain⟨G,hG⟩:∃G:Nat→Int,∀t,G t=dj[t]!:=⟨fun t=>dj[t]!,fun _=>rfl⟩
     have hc:∀t,t<d.size→wr.cell? ⟨b,o+t,none⟩=some (.int .u64 (G t)):=fun t ht=>by rw[hG];exact hs.cell t ht
     have HG:=Aj hG;have hm1:((m+1:Nat):Int)-1=(m:Int):=om;clear hs hG;have SD:=Aj (fun(w1:World) (h1:Sv w b o d (Sort.swp dj x (x+m)) w1)=>uA b o c 0 m x (Sort.swp dj x (x+m)) d.size w1 h1.sz h1.holds.1 h1.holds.2 (bE _) om hsz);rcases l5 m with hm|hm
     ·subst hm;go_wp2_with fail;go_region;have H1:Sv w b o d (Sort.swp dj x (x+0)) (((wr.setCell ⟨b,o+x,none⟩ (.int .u64 (G (x+0)))).setCell ⟨b,o+(x+0),none⟩ (.int .u64 (G x))).drew):=by rw[HG.1,HG.1];exact(HS2.1.swp (i:=x) (j:=x+0) om om).drewN 1
      have H1:=Aj H1;clear hc hf;generalize (((wr.setCell ⟨b,o+x,none⟩ (.int .u64 (G (x+0)))).setCell ⟨b,o+(x+0),none⟩ (.int .u64 (G x))).drew)=w1 at*;have hz0:x+0=x:=rfl;have SD1:=Aj (SD.1 w1 H1.1);clear SD;go_wp2_with (go_at_call 310;refine SD1.1.mono ?_;rintro e w2 ⟨rfl,h2⟩;have H2:=Aj (H1.1.step h2);clear h2);go_roundw
      case rel=>
       exact⟨0,_,rfl,om,H2.1,⟨by rw[←HP.1];rfl⟩⟩
      case measure=>first|(simp[intOf];done)|(simp[intOf];omega)
     ·skip;go_wp2_with fail;go_region;have H1:Sv w b o d (Sort.swp dj x (x+m)) (((wr.setCell ⟨b,o+x,none⟩ (.int .u64 (G (x+m)))).setCell ⟨b,o+(x+m),none⟩ (.int .u64 (G x))).drew):=by rw[HG.1,HG.1];exact(HS2.1.swp (i:=x) (j:=x+m) om om).drewN 1
      have H1:=Aj H1;clear hc hf;generalize (((wr.setCell ⟨b,o+x,none⟩ (.int .u64 (G (x+m)))).setCell ⟨b,o+(x+m),none⟩ (.int .u64 (G x))).drew)=w1 at*;have SD1:=Aj (SD.1 w1 H1.1);clear SD;go_wp2_with (go_at_call 310;refine SD1.1.mono ?_;rintro e w2 ⟨rfl,h2⟩;have H2:=Aj (H1.1.step h2);clear h2);go_roundw
      case rel=>
       exact⟨m,_,rfl,om,H2.1,⟨by rw[←HP.1];rfl⟩⟩
      case measure=>first|(simp[intOf];done)|(simp[intOf];omega)
  ·subst hv;have SD:=Aj (uA b o c m L x dk d.size wr hs.sz hs.holds.1 hs.holds.2 om hxL hsz);have HS:=Aj hs;have hm1:((m+1:Nat):Int)-1=(m:Int):=om;clear hs;go_wp2_with (go_at_call 310;refine SD.1.mono ?_;rintro e w1 ⟨rfl,h1⟩;have H1:=Aj (HS.1.step h1);clear h1);go_roundw
   case rel=>exact⟨m,_,rfl,om,H1.1,⟨by rw[←HO.1,heapBuild]⟩⟩
   case measure=>first|(simp[intOf];done)|(simp[intOf];omega)
def Cn (w:World) (g s:Nat) (wr:World):Prop:=g=w.heap.size∧∃n,wr=(w.alloc (.cells #[.int .i64 (s:Int)] 3)).drewN n
theorem Cn.start (w):Cn w w.heap.size 0 (w.alloc (.cells #[.int .i64 0] 3)):=⟨rfl,0,rfl⟩
theorem Cn.drewN {w wr g s} (h:Cn w g s wr) (k):Cn w g s (wr.drewN k):=by
 obtain⟨hg,n,rfl⟩:=h;exact⟨hg,n+k,by simp[World.drewN,fE]⟩
theorem Cn.row {w wr g s} (h:Cn w g s wr):wr.heap[g]? =some (.cells #[.int .i64 (s:Int)] 3 (0,0)):=by
 obtain⟨rfl,n,rfl⟩:=h;exact Av w _
theorem Cn.k0 {w wr g s} (h:Cn w g s wr):wr.cell? ⟨g,0,none⟩=some (.int .i64 (s:Int)):=Co _ _ 0 _ _ _ h.row
theorem Cn.set {w wr g s} (h:Cn w g s wr) (t):Cn w g t (wr.setCell ⟨g,0,none⟩ (.int .i64 (t:Int))):=by
 obtain⟨rfl,n,rfl⟩:=h;refine⟨rfl,n,?_⟩;have e:∀v,(w.alloc (.cells #[.int .i64 (s:Int)] 3)).setCell ⟨w.heap.size,0,none⟩ v=w.alloc (.cells #[v] 3):=fun v=>by
  unfold World.setCell World.alloc
  congr 1
  apply Array.ext_getElem?;intro k;simp only[DI,Array.getElem?_push];by_cases hk:w.heap.size=k
  ·subst hk;simp
  ·simp[hk,show¬k=w.heap.size from om]
 show((w.alloc (.cells #[.int .i64 (s:Int)] 3)).setCell ⟨w.heap.size,0,none⟩ (.int .i64 (t:Int))).drewN n=_;rw[e]
theorem Cn.cell {w wr g s b o d} (h:Cn w g s wr) (hH:Holds eU w b o d) (hb:b<w.heap.size):∀t,t<d.size→wr.cell? ⟨b,o+t,none⟩=some (.int .u64 d[t]!):=fun t ht=>by
 obtain⟨rfl,n,rfl⟩:=h;exact(AB _ _ ⟨b,o+t,none⟩ hb).trans (hH t ht).1
theorem Cn.sv {w wr g s b o d} (h:Cn w g s wr) (hH:Holds eU w b o d) (hb:b<w.heap.size):Sv w b o d d wr:=by
 obtain⟨rfl,n,rfl⟩:=h;refine⟨hH,hb,rfl,(At.refl hH).same hH rfl hb ⟨n,#[.cells #[.int .i64 (s:Int)] 3],?_⟩⟩;rw[alloc_eq_grow];rfl
theorem xz {d a b s n} (ha:a<n) (hb:b<n):(Sort.order2 ltInt d a b s).1<n∧(Sort.order2 ltInt d a b s).2.1<n:=by
 unfold Sort.order2;split<;>exact⟨by assumption,by assumption⟩
theorem Gb (d a b s):(Sort.order2 ltInt d a b s).2.2≤s+1:=by unfold Sort.order2;split<;>simp
theorem uB (b o c x y g s n d w wr) (hn:d.size=n) (hH:Holds eU w b o d) (hw:b<w.heap.size) (hC:Cn w g s wr) (hx:x<n) (hy:y<n) (hsz:n<4611686018427387904) (hs:s≤1000):
  Calls prog 313 #[.slice (some ⟨b,o,none⟩) n c,.int .i64 x,.int .i64 y,.pointer (some ⟨g,0,none⟩)] wr fun e w'=>e= .returned (.tuple #[.int .i64 (Sort.order2 ltInt d x y s).1,.int .i64 (Sort.order2 ltInt d x y s).2.1])∧Cn w g (Sort.order2 ltInt d x y s).2.2 w':=by
 subst hn;obtain⟨G,hG⟩:∃G:Nat→Int,∀t,G t=d[t]!:=⟨fun t=>d[t]!,fun _=>rfl⟩
 have hc:∀t,t<d.size→wr.cell? ⟨b,o+t,none⟩=some (.int .u64 (G t)):=fun t ht=>by rw[hG];exact hC.cell hH hw t ht
 have k0:=Co _ _ 0 _ _ _ hC.row;have f0:=Fr _ _ 0 _ _ hC.row;have HC:=Aj hC;have ho:Kept (Sort.order2 ltInt d x y s=if ltInt (G y) (G x)then(y,x,s+1)else(x,y,s)):=⟨by rw[hG,hG];rfl⟩
 clear hC hG hH;by_cases hl:ltInt (G y) (G x)=true
 ·go_enter func313,ntmps313;go_wp2_with fail;go_quiet (first|(go_at_call 283;refine Ay (aD _ _ _)));go_wp2
  all_goals first|(exfalso;rename_i hx;rw[hl]at hx;exact Bool.noConfusion hx)|skip
  go_ret2;rw[ho.1,Ps0 hl];exact⟨rfl,(HC.1.drewN _).set (s+1)⟩
 ·have hl:ltInt (G y) (G x)=false:=by simpa using hl
  go_enter func313,ntmps313;go_wp2_with fail;go_quiet (first|(go_at_call 283;refine Ay (aD _ _ _)));go_wp2
  all_goals first|(exfalso;rename_i hx;rw[hl]at hx;exact Bool.noConfusion hx)|skip
  go_ret2;rw[ho.1,Ng (by simp[hl])];exact⟨rfl,HC.1.drewN _⟩
theorem uC (b o c x y z g s n d w wr) (hn:d.size=n) (hH:Holds eU w b o d) (hw:b<w.heap.size) (hC:Cn w g s wr) (hx:x<n) (hy:y<n) (hz:z<n) (hsz:n<4611686018427387904) (hs:s≤900):
  Calls prog 312 #[.slice (some ⟨b,o,none⟩) n c,.int .i64 x,.int .i64 y,.int .i64 z,.pointer (some ⟨g,0,none⟩)] wr fun e w'=>e= .returned (.int .i64 (Sort.median ltInt d x y z s).1)∧Cn w g (Sort.median ltInt d x y z s).2 w':=by
 have h1:=uB b o c x y g s n d w wr hn hH hw hC hx hy hsz om;have⟨l1,l2⟩:=xz (d:=d) (s:=s) hx hy;have l3:=Gb d x y s;have hm:Sort.median ltInt d x y z s=(let r1:=Sort.order2 ltInt d x y s;let r2:=Sort.order2 ltInt d r1.2.1 z r1.2.2;let r3:=Sort.order2 ltInt d r1.1 r2.1 r2.2.2;(r3.2.1,r3.2.2)):=rfl;rw[hm];generalize Sort.order2 ltInt d x y s=R1 at*;obtain⟨p1,q1,s1⟩:=R1;simp only[]at h1 l1 l2 l3⊢;have h2:=fun(w1:World) (h:Cn w g s1 w1)=>uB b o c q1 z g s1 n d w w1 hn hH hw h l2 hz hsz om
 have⟨m1,m2⟩:=xz (d:=d) (s:=s1) l2 hz;have m3:=Gb d q1 z s1;generalize Sort.order2 ltInt d q1 z s1=R2 at*;obtain⟨p2,q2,s2⟩:=R2;simp only[]at h2 m1 m2 m3⊢;have h3:=fun(w1:World) (h:Cn w g s2 w1)=>uB b o c p1 p2 g s2 n d w w1 hn hH hw h l1 m1 hsz om
 generalize Sort.order2 ltInt d p1 p2 s2=R3 at*;obtain⟨p3,q3,s3⟩:=R3;simp only[]at h3⊢;have H1:=Aj h1;have H2:=Aj h2;have H3:=Aj h3;clear h1 h2 h3 hm hC hH hn;go_enter func312,ntmps312;go_wp2_with (first
  |(go_at_call 313;refine(H3.1 w2 C2.1).mono ?_;rintro e w3 ⟨rfl,c3⟩;have C3:=Aj c3;clear c3)
  |(go_at_call 313;refine(H2.1 w1 C1.1).mono ?_;rintro e w2 ⟨rfl,c2⟩;have C2:=Aj c2;clear c2)
  |(go_at_call 313;refine H1.1.mono ?_;rintro e w1 ⟨rfl,c1⟩;have C1:=Aj c1;clear c1))
 go_ret;exact⟨rfl,C3.1⟩
theorem kZ (b o c x g s n:Nat) (d w wr) (hn:d.size=n) (hH:Holds eU w b o d) (hw:b<w.heap.size) (hC:Cn w g s wr) (h0:1≤x) (hx:x+1<n) (hsz:n<4611686018427387904) (hs:s≤900):
  Calls prog 311 #[.slice (some ⟨b,o,none⟩) n c,.int .i64 x,.pointer (some ⟨g,0,none⟩)] wr fun e w'=>e= .returned (.int .i64 (Sort.medianAdjacent ltInt d x s).1)∧Cn w g (Sort.medianAdjacent ltInt d x s).2 w':=by
 have h1:=uC b o c (x-1) x (x+1) g s n d w wr hn hH hw hC om om hx hsz hs;have e1:((x-1:Nat):Int)=(x:Int)-1:=om;have e2:((x+1:Nat):Int)=(x:Int)+1:=om;rw[e1,e2]at h1;unfold Sort.medianAdjacent;have H1:=Aj h1;clear h1 hC hH hn e1 e2;go_enter func311,ntmps311;go_wp2_with (go_at_call 312;refine H1.1.mono ?_;rintro e w1 ⟨rfl,c1⟩;have C1:=Aj c1;clear c1);go_ret;exact⟨rfl,C1.1⟩
theorem JD {d a b c s n} (ha:a<n) (hb:b<n) (hc:c<n):(Sort.median ltInt d a b c s).1<n:=by
 unfold Sort.median;simp only[];exact(xz (xz ha hb).1 (xz (xz ha hb).2 hc).1).2
theorem uD (d a b c s):(Sort.median ltInt d a b c s).2≤s+3:=by
 unfold Sort.median;simp only[];have h1:=Gb d a b s;have h2:=Gb d (Sort.order2 ltInt d a b s).2.1 c (Sort.order2 ltInt d a b s).2.2;have h3:=Gb d (Sort.order2 ltInt d a b s).1 (Sort.order2 ltInt d (Sort.order2 ltInt d a b s).2.1 c (Sort.order2 ltInt d a b s).2.2).1 (Sort.order2 ltInt d (Sort.order2 ltInt d a b s).2.1 c (Sort.order2 ltInt d a b s).2.2).2.2;omega
theorem vY (b o c x y n d w) (hn:d.size=n) (hH:Holds eU w b o d) (hw:b<w.heap.size) (hxy:x<y) (hy:y≤n) (hsz:n<4611686018427387904):
  Calls prog 304 #[.slice (some ⟨b,o,none⟩) n c,.int .i64 x,.int .i64 y] w fun e w'=>e= .returned (.tuple #[.int .i64 (Sort.choosePivot ltInt d x y).1,.int .i64 (hintCode (Sort.choosePivot ltInt d x y).2)])∧Sv w b o d d w':=by
 obtain⟨L,hL⟩:∃L,y-x=L:=⟨y-x,rfl⟩
 have hLi:(y:Int)-(x:Int)=(L:Int):=om;have hxL:x+L≤n:=om;have hL1:1≤L:=om;obtain⟨i,hi⟩:∃i,i=x+L/4*1:=⟨_,rfl⟩
 obtain⟨j,hj⟩:∃j,j=x+L/4*2:=⟨_,rfl⟩
 obtain⟨k,hk⟩:∃k,k=x+L/4*3:=⟨_,rfl⟩
 obtain⟨R,hR⟩:∃R:Nat×Nat,R=if L≥8 then(if L≥50 then Sort.median ltInt d (Sort.medianAdjacent ltInt d i 0).1 (Sort.medianAdjacent ltInt d j (Sort.medianAdjacent ltInt d i 0).2).1 (Sort.medianAdjacent ltInt d k (Sort.medianAdjacent ltInt d j (Sort.medianAdjacent ltInt d i 0).2).2).1 (Sort.medianAdjacent ltInt d k (Sort.medianAdjacent ltInt d j (Sort.medianAdjacent ltInt d i 0).2).2).2 else Sort.median ltInt d i j k 0)else(j,0):=⟨_,rfl⟩
 have hcp:Sort.choosePivot ltInt d x y=(R.1,if R.2=0 then .increasing else if R.2=12 then .decreasing else .unknown):=by
  rw[hR,hi,hj,hk,←hL];rfl
 rw[hcp];have hin:i<n:=om;have hjn:j<n:=om;have hkn:k<n:=om;have hC0:=Cn.start w;obtain⟨g,hg⟩:∃g,g=w.heap.size:=⟨_,rfl⟩
 have hi1:(x:Int)+(L:Int)/4=(i:Int):=om;have hj1:(x:Int)+(L:Int)/4*2=(j:Int):=om;have hk1:(x:Int)+(L:Int)/4*3=(k:Int):=om;clear hcp hL;by_cases h8:L≥8
 ·have h8':(8:Int)≤(L:Int):=by omega
  rw[Ps0 h8]at hR;by_cases h50:L≥50
  ·have Zt:(50:Int)≤(L:Int):=by omega
   rw[Ps0 h50]at hR;have A1:=kZ b o c i g 0 n d w _ hn hH hw (hg▸hC0) om om hsz om;have a1:(Sort.medianAdjacent ltInt d i 0).1<n:=JD om om om;have b1:(Sort.medianAdjacent ltInt d i 0).2≤0+3:=uD _ _ _ _ _;generalize Sort.medianAdjacent ltInt d i 0=R1 at*;obtain⟨i2,s1⟩:=R1;simp only[]at A1 a1 b1 hR;have A2:=fun(w1:World) (h:Cn w g s1 w1)=>kZ b o c j g s1 n d w w1 hn hH hw h om om hsz om
   have a2:(Sort.medianAdjacent ltInt d j s1).1<n:=JD om om om;have b2:(Sort.medianAdjacent ltInt d j s1).2≤s1+3:=uD _ _ _ _ _;generalize Sort.medianAdjacent ltInt d j s1=R2 at*;obtain⟨j2,s2⟩:=R2;simp only[]at A2 a2 b2 hR;have A3:=fun(w1:World) (h:Cn w g s2 w1)=>kZ b o c k g s2 n d w w1 hn hH hw h om om hsz om
   have a3:(Sort.medianAdjacent ltInt d k s2).1<n:=JD om om om;have b3:(Sort.medianAdjacent ltInt d k s2).2≤s2+3:=uD _ _ _ _ _;generalize Sort.medianAdjacent ltInt d k s2=R3 at*;obtain⟨k2,s3⟩:=R3;simp only[]at A3 a3 b3 hR;have A4:=fun(w1:World) (h:Cn w g s3 w1)=>uC b o c i2 j2 k2 g s3 n d w w1 hn hH hw h a1 a2 a3 hsz om
   have b4:=uD d i2 j2 k2 s3;rw[←hR]at A4 b4;obtain⟨m,s⟩:=R;simp only[]at A4 b4⊢;have FIN:=Aj (fun(w1:World) (h:Cn w g s w1)=>h.sv hH hw);have H1:=Aj A1;have H2:=Aj A2;have H3:=Aj A3;have H4:=Aj A4;subst hg;clear A1 A2 A3 A4 hn hH hw hR hC0 a1 a2 a3 hin hjn hkn hi hj hk;have hss:s=0∨s=12∨(s≠0∧s≠12):=om;rcases hss with rfl|rfl|⟨hs1,hs2⟩
   all_goals
    go_enter func304,ntmps304;go_wp2_with (first
     |(go_at_call 312;refine(H4.1 w3 C3.1).mono ?_;rintro e w4 ⟨rfl,c4⟩;have C4:=Aj c4;have k0:=c4.k0;clear c4)
     |(go_at_call 311;refine(H3.1 w2 C2.1).mono ?_;rintro e w3 ⟨rfl,c3⟩;have C3:=Aj c3;clear c3)
     |(go_at_call 311;refine(H2.1 w1 C1.1).mono ?_;rintro e w2 ⟨rfl,c2⟩;have C2:=Aj c2;clear c2)
     |(go_at_call 311;refine H1.1.mono ?_;rintro e w1 ⟨rfl,c1⟩;have C1:=Aj c1;clear c1))
    all_goals (go_ret2;refine⟨?_,FIN.1 _ C4.1⟩;first|rfl|simp[hintCode,hs1,hs2])
  ·have Zt:¬(50:Int)≤(L:Int):=by omega
   rw[Ng h50]at hR;have A4:=uC b o c i j k g 0 n d w _ hn hH hw (hg▸hC0) hin hjn hkn hsz om;have b4:=uD d i j k 0;rw[←hR]at A4 b4;obtain⟨m,s⟩:=R;simp only[]at A4 b4⊢;have FIN:=Aj (fun(w1:World) (h:Cn w g s w1)=>h.sv hH hw);have H4:=Aj A4;subst hg;clear A4 hn hH hw hR hC0 hin hjn hkn hi hj hk;have hss:s=0∨s=12∨(s≠0∧s≠12):=om;rcases hss with rfl|rfl|⟨hs1,hs2⟩
   all_goals
    go_enter func304,ntmps304;go_wp2_with (go_at_call 312;refine H4.1.mono ?_;rintro e w4 ⟨rfl,c4⟩;have C4:=Aj c4;have k0:=c4.k0;clear c4)
    all_goals (go_ret2;refine⟨?_,FIN.1 _ C4.1⟩;first|rfl|simp[hintCode,hs1,hs2])
 ·have h8':¬(8:Int)≤(L:Int):=by omega
  rw[Ng h8]at hR;subst hR;have FIN:=Aj (hC0.sv hH hw);clear hC0 hH hn hw hi hj hk;go_enter func304,ntmps304;go_wp2;go_ret2;exact⟨rfl,FIN.1⟩
theorem zo (b o c x y n d w) (hn:d.size=n) (hH:Holds eU w b o d) (hw:b<w.heap.size) (hxy:x<y) (hy:y≤n) (hsz:n<4611686018427387904):
  Calls prog 306 #[.slice (some ⟨b,o,none⟩) n c,.int .i64 x,.int .i64 y] w fun e w'=>e= .returned (.bool (Sort.partialInsertionSort ltInt d x y).2)∧Sv w b o d (Sort.partialInsertionSort ltInt d x y).1 w':=by
 subst hn;unfold Sort.partialInsertionSort;obtain⟨P,hP⟩:∃P,partialIns ltInt x y 5 (x+1) d=P:=⟨_,rfl⟩
 rw[hP];have HP0:=Aj hP;have hL:Kept ((y:Int)-(x:Int)=((y-x:Nat):Int)):=⟨om⟩
 clear hP;go_enter func306,ntmps306;go_wp2;go_loopw [7,8] (fun vi vs wr=>∃(i s:Nat) (dk:Array Int),vi= .int .i64 i∧vs= .int .i64 s∧x<i∧i≤y∧s≤5∧Sv w b o d dk wr∧Kept (partialIns ltInt x y (5-s) i dk=P)) (fun _ vs _=>5-(intOf vs).toNat)
 case atStart=>exact⟨x+1,0,d,by go_num,rfl,om,om,om,Sv.refl hH hw,HP0⟩
 case round=>
  obtain⟨i,s,dk,rfl,rfl,hi1,hi2,hs5,hs,HO⟩:=hrel;have HS:=Aj hs;clear hs;by_cases h5:s<5
  ·have h5':(s:Int)<5:=by omega
   go_upto_block 2 with fail;go_cut [7]from 13 (fun v wc=>∃k:Nat,v= .int .i64 (k:Int)∧i≤k∧k≤y∧Sv w b o d dk wc∧Kept (scanSorted ltInt dk y i=k))
   case first=>
    go_wp2;go_loopw [7] (fun vi wr=>∃k:Nat,vi= .int .i64 (k:Int)∧i≤k∧k≤y∧Sv w b o d dk wr∧Kept (scanSorted ltInt dk y k=scanSorted ltInt dk y i)) (fun vi _=>y-(intOf vi).toNat)
    case atStart=>exact⟨i,rfl,Nr _,hi2,HS.1,⟨rfl⟩⟩
    case round=>
     obtain⟨k,rfl,hk1,hk2,hs,HK⟩:=hrel;have hf:=hs.iI;obtain⟨G,hG⟩:∃G:Nat→Int,∀t,G t=dk[t]!:=⟨fun t=>dk[t]!,fun _=>rfl⟩
     have hc:∀t,t<d.size→wr.cell? ⟨b,o+t,none⟩=some (.int .u64 (G t)):=fun t ht=>by rw[hG];exact hs.cell t ht
     have HG:=Aj hG;have HS2:=Aj hs;clear hs hG;by_cases Zu:k<y
     ·have Zv:(k:Int)< (y:Int):=by omega
      have hl:ltInt (G k) (G (k-1))=false∨ltInt (G k) (G (k-1))=true:=by cases ltInt (G k) (G (k-1))<;>simp
      rcases hl with hl|hl
      ·go_wp2_with fail;go_quiet (first|(go_at_call 283;refine Ay (aD _ _ _)));go_wp2;go_roundw
       case rel=>exact⟨k+1,by go_num,om,om,HS2.1.drewN _,⟨by rw[←HK.1,scanSorted_go ltInt dk y k Zu (by rw[←HG.1,←HG.1];exact hl)]⟩⟩
       case measure=>simp[intOf];omega
      ·go_wp2_with fail;go_quiet (first|(go_at_call 283;refine Ay (aD _ _ _)));go_wp2;go_meet;exact⟨k,rfl,hk1,hk2,HS2.1.drewN _,⟨by rw[←HK.1,scanSorted_stop ltInt dk y k (.inr (by rw[←HG.1,←HG.1];exact hl))]⟩⟩
     ·have Zv:decide ((k:Int)< (y:Int))=false:=AF om;go_wp2_with fail;go_quiet (first|(go_at_call 283;refine Ay (aD _ _ _)));go_wp2;go_meet;exact⟨k,rfl,hk1,hk2,HS2.1.drewN _,⟨by rw[←HK.1,scanSorted_stop ltInt dk y k (.inl Zu)]⟩⟩
   case rest=>
    obtain⟨k,rfl,hk1,hk2,hs,HK⟩:=hcut;clear HS;by_cases Zu:k=y
    ·have hp:Kept (P=(dk,true)):=⟨by rw[←HO.1,pi_true ltInt x y s i dk h5 (by rw[HK.1,Zu])]⟩
     subst Zu;have HS:=Aj hs;clear hs;go_wp2;go_ret;rw[hp.1];exact⟨rfl,HS.1⟩
    ·by_cases h50:y-x<50
     ·have hp:Kept (P=(dk,false)):=⟨by rw[←HO.1,pi_short ltInt x y s i dk h5 (by rw[HK.1];exact Zu) h50]⟩
      have Zt:(y:Int)-(x:Int)<50:=om;have Zv:¬((k:Int)=(y:Int)):=om;have HS:=Aj hs;clear hs;go_wp2;go_ret;rw[hp.1];exact⟨rfl,HS.1⟩
     ·have Zt:¬((y:Int)-(x:Int)<50):=by omega
      have Zv:¬((k:Int)=(y:Int)):=om;have HP:=Aj (pi_go ltInt x y s i k dk h5 HK.1 Zu h50);have HS:=Aj hs;have hf:=hs.iI;obtain⟨G,hG⟩:∃G:Nat→Int,∀t,G t=dk[t]!:=⟨fun t=>dk[t]!,fun _=>rfl⟩
      have hc:∀t,t<d.size→wc.cell? ⟨b,o+t,none⟩=some (.int .u64 (G t)):=fun t ht=>by rw[hG];exact hs.cell t ht
      have HG:=Aj hG;clear hs hG;go_upto_if 61 with(first|go_region|fail)
      have H1:Sv w b o d (Sort.swp dk k (k-1)) (((wc.setCell ⟨b,o+k,none⟩ (.int .u64 (G (k-1)))).setCell ⟨b,o+(k-1),none⟩ (.int .u64 (G k))).drew):=by rw[HG.1,HG.1];exact(HS.1.swp (i:=k) (j:=k-1) om om).drewN 1
      have HS:=Aj H1;clear hc hf H1;generalize (((wc.setCell ⟨b,o+k,none⟩ (.int .u64 (G (k-1)))).setCell ⟨b,o+(k-1),none⟩ (.int .u64 (G k))).drew)=w1 at*;clear HG;generalize Sort.swp dk k (k-1)=d1 at*;go_cut [9]from 13 (fun _ wc=>Sv w b o d (fixDown ltInt x k d1) wc)
      case first=>
       by_cases hk:k-x≥2
       ·have hk':(2:Int)≤(k:Int)-(x:Int):=by omega
        have HFD:=Aj (show fixDown ltInt x k d1=Sort.shiftDown ltInt (k-1) d1 by rw[fixDown,Ps0 hk]);go_wp2;go_loopw [9] (fun vj wr=>∃(j:Nat) (dj:Array Int),vj= .int .i64 (j:Int)∧j≤k-1∧Sv w b o d dj wr∧Kept (Sort.shiftDown ltInt j dj=Sort.shiftDown ltInt (k-1) d1)) (fun vj _=>(intOf vj).toNat)
        case atStart=>exact⟨k-1,d1,by congr 1;omega,Nr _,HS.1,⟨rfl⟩⟩
        case round=>
         obtain⟨j,dj,rfl,hj,hs,HJ⟩:=hrel;have HS2:=Aj hs;by_cases hj0:j=0
         ·subst hj0;clear hs;go_wp2;go_meet
          case rel=>rw[HFD.1,←HJ.1];exact HS2.1
         ·have hj1:(1:Int)≤(j:Int):=by omega
          have hf:=hs.iI;obtain⟨G,hG⟩:∃G:Nat→Int,∀t,G t=dj[t]!:=⟨fun t=>dj[t]!,fun _=>rfl⟩
          have hc:∀t,t<d.size→wr.cell? ⟨b,o+t,none⟩=some (.int .u64 (G t)):=fun t ht=>by rw[hG];exact hs.cell t ht
          have HG:=Aj hG;clear hs hG;have hl:ltInt (G j) (G (j-1))=false∨ltInt (G j) (G (j-1))=true:=by cases ltInt (G j) (G (j-1))<;>simp
          rcases hl with hl|hl
          ·go_wp2_with fail;go_quiet (first|(go_at_call 283;refine Ay (aD _ _ _)));go_wp2;go_meet
           case rel=>rw[HFD.1,←HJ.1,shiftDown_stop ltInt j dj (.inr (by rw[←HG.1,←HG.1];exact hl))];exact HS2.1.drewN _
          ·go_wp2_with fail;go_quiet (first|(go_at_call 283;refine Ay (aD _ _ _)));go_wp2_with fail;go_region
           all_goals go_wp2
           go_roundw
           case rel=>
            refine⟨j-1,Sort.swp dj j (j-1),by congr 1;omega,om,?_,⟨?_⟩⟩
            ·rw[HG.1,HG.1];exact(HS2.1.drewN _).swp (i:=j) (j:=j-1) om om
            ·rw[←HJ.1,shiftDown_go ltInt j dj om (by rw[←HG.1,←HG.1];exact hl)]
           case measure=>simp[intOf];omega
       ·have hk':¬(2:Int)≤(k:Int)-(x:Int):=by omega
        go_wp2;go_meet
        case rel=>rw[show fixDown ltInt x k d1=d1 by rw[fixDown,Ng hk]];exact HS.1
      case rest=>
       have HS:=Aj hcut;clear hcut;generalize fixDown ltInt x k d1=d2 at*;by_cases hk:y-k≥2
       ·have hk':(2:Int)≤(y:Int)-(k:Int):=by omega
        rw[show fixUp ltInt y k d2=Sort.shiftUp ltInt y (k+1) d2 by rw[fixUp,Ps0 hk]]at HP;go_wp2;go_loopw [10] (fun vj wr=>∃(j:Nat) (dj:Array Int),vj= .int .i64 (j:Int)∧k+1≤j∧j≤y∧Sv w b o d dj wr∧Kept (Sort.shiftUp ltInt y j dj=Sort.shiftUp ltInt y (k+1) d2)) (fun vj _=>y-(intOf vj).toNat)
        case atStart=>exact⟨k+1,d2,by go_num,om,om,HS.1,⟨rfl⟩⟩
        case round=>
         obtain⟨j,dj,rfl,hj,hj2,hs,HJ⟩:=hrel;have HS2:=Aj hs;by_cases hjy:j<y
         ·have hj1:(j:Int)< (y:Int):=by omega
          have hf:=hs.iI;obtain⟨G,hG⟩:∃G:Nat→Int,∀t,G t=dj[t]!:=⟨fun t=>dj[t]!,fun _=>rfl⟩
          have hc:∀t,t<d.size→wr.cell? ⟨b,o+t,none⟩=some (.int .u64 (G t)):=fun t ht=>by rw[hG];exact hs.cell t ht
          have HG:=Aj hG;clear hs hG;have hl:ltInt (G j) (G (j-1))=false∨ltInt (G j) (G (j-1))=true:=by cases ltInt (G j) (G (j-1))<;>simp
          rcases hl with hl|hl
          ·go_wp2_with fail;go_quiet (first|(go_at_call 283;refine Ay (aD _ _ _)));go_wp2;go_roundw
           case rel=>
            refine⟨k,s+1,dj,rfl,by go_num,om,om,om,HS2.1.drewN _,⟨?_⟩⟩;rw[←HO.1,HP.1,←HJ.1,shiftUp_stop ltInt y j dj (.inr (by rw[←HG.1,←HG.1];exact hl))]
           case measure=>simp[intOf];omega
          ·go_wp2_with fail;go_quiet (first|(go_at_call 283;refine Ay (aD _ _ _)));go_wp2_with fail;go_region
           all_goals go_wp2
           go_roundw
           case rel=>
            refine⟨j+1,Sort.swp dj j (j-1),by go_num,om,om,?_,⟨?_⟩⟩
            ·rw[HG.1,HG.1];exact(HS2.1.drewN _).swp (i:=j) (j:=j-1) om om
            ·rw[←HJ.1,shiftUp_go ltInt y j dj hjy (by rw[←HG.1,←HG.1];exact hl)]
           case measure=>simp[intOf];omega
         ·have hj1:¬(j:Int)< (y:Int):=by omega
          clear hs;go_wp2;go_roundw
          case rel=>
           refine⟨k,s+1,dj,rfl,by go_num,om,om,om,HS2.1,⟨?_⟩⟩;rw[←HO.1,HP.1,←HJ.1,shiftUp_stop ltInt y j dj (.inl hjy)]
          case measure=>simp[intOf];omega
       ·have hk':¬(2:Int)≤(y:Int)-(k:Int):=by omega
        rw[show fixUp ltInt y k d2=d2 by rw[fixUp,Ng hk]]at HP;go_wp2;go_roundw
        case rel=>exact⟨k,s+1,d2,rfl,by go_num,om,om,om,HS.1,⟨by rw[←HO.1,HP.1]⟩⟩
        case measure=>simp[intOf];omega
  ·have h5':¬(s:Int)<5:=by omega
   obtain rfl:s=5:=om;have hp:Kept (P=(dk,false)):=⟨by rw[←HO.1];rfl⟩
   go_wp2;go_ret;rw[hp.1];exact⟨rfl,HS.1⟩
end Go.Proofs.YtjcpmfphnodaaaaGreatDoor
