/- Part 22. -/
import Derived.Test.YtjcpmfphnodaaaaGreatDoorZTAU
import Derived.Sort.WalkA6
import Derived.Sort.WalkC4
namespace Go.Proofs.YtjcpmfphnodaaaaGreatDoor
set_option maxRecDepth 100000
set_option maxHeartbeats 0
open _root_.Go.Proofs.Tryz
open Go.RowKit Go.Sort
theorem zt (b o c x y n) (d) (w) (hn:d.size=n) (hH:Holds eU w b o d) (hw:b<w.heap.size) (hxy:x<y) (hy:y≤n) (hsz:n<4611686018427387904):
  Calls prog 306 #[.slice (some ⟨b,o,none⟩) n c,.int .i64 x,.int .i64 y] w fun e w'=>e= .returned (.bool (Sort.partialInsertionSort ltInt d x y).2)∧Sv w b o d (Sort.partialInsertionSort ltInt d x y).1 w':=by
 subst hn;unfold Sort.partialInsertionSort;obtain⟨P,hP⟩:∃P,partialIns ltInt x y 5 (x+1) d=P:=⟨_,rfl⟩
 rw[hP];have ZX:=Aj hP;have hL:Kept ((y:Int)-(x:Int)=((y-x:Nat):Int)):=⟨om⟩
 clear hP;go_enter func306,ntmps306;go_wp2;go_loopw [7,8] (fun vi vs wr=>∃(i s:Nat) (dk:Array Int),vi= .int .i64 i∧vs= .int .i64 s∧x<i∧i≤y∧s≤5∧Sv w b o d dk wr∧Kept (partialIns ltInt x y (5-s) i dk=P)) (fun _ vs _=>5-(intOf vs).toNat)
 case atStart=>exact⟨x+1,0,d,by go_num,rfl,om,om,om,Sv.refl hH hw,ZX⟩
 case round=>
  obtain⟨i,s,dk,rfl,rfl,hi1,hi2,hs5,hs,HO⟩:=hrel;have HS:=Aj hs;clear hs;by_cases h5:s<5
  ·have h5':(s:Int)<5:=by omega
   go_upto_block 2 with fail;go_cut [7]from 13 (fun v wc=>∃k:Nat,v= .int .i64 (k:Int)∧i≤k∧k≤y∧Sv w b o d dk wc∧Kept (scanSorted ltInt dk y i=k))
   case first=>
    go_wp2;go_loopw [7] (fun vi wr=>∃k:Nat,vi= .int .i64 (k:Int)∧i≤k∧k≤y∧Sv w b o d dk wr∧Kept (scanSorted ltInt dk y k=scanSorted ltInt dk y i)) (fun vi _=>y-(intOf vi).toNat)
    case atStart=>exact⟨i,rfl,Nr _,hi2,HS.1,⟨rfl⟩⟩
    case round=>
     obtain⟨k,rfl,hk1,hk2,hs,HK⟩:=hrel;have hf:=hs.dQ;obtain⟨G,hG⟩:∃G:Nat→Int,∀t,G t=dk[t]!:=⟨fun t=>dk[t]!,fun _=>rfl⟩
     have hc:∀t,t<d.size→wr.cell? ⟨b,o+t,none⟩=some (.int .u64 (G t)):=fun t ht=>by rw[hG];exact hs.cell t ht
     have HG:=Aj hG;have HS2:=Aj hs;clear hs hG;by_cases Yu:k<y
     ·have Yv:(k:Int)< (y:Int):=by omega
      have hl:ltInt (G k) (G (k-1))=false∨ltInt (G k) (G (k-1))=true:=by cases ltInt (G k) (G (k-1))<;>simp
      rcases hl with hl|hl
      ·go_wp2_with fail;go_quiet (first|(go_at_call 283;refine Calls.quiet_of_same (au _ _ _)));go_wp2;go_roundw
       case rel=>exact⟨k+1,by go_num,om,om,HS2.1.drewN _,⟨by rw[←HK.1,scanSorted_go ltInt dk y k Yu (by rw[←HG.1,←HG.1];exact hl)]⟩⟩
       case measure=>simp[intOf];omega
      ·go_wp2_with fail;go_quiet (first|(go_at_call 283;refine Calls.quiet_of_same (au _ _ _)));go_wp2;go_meet;exact⟨k,rfl,hk1,hk2,HS2.1.drewN _,⟨by rw[←HK.1,scanSorted_stop ltInt dk y k (.inr (by rw[←HG.1,←HG.1];exact hl))]⟩⟩
     ·have Yv:decide ((k:Int)< (y:Int))=false:=Az om;go_wp2_with fail;go_quiet (first|(go_at_call 283;refine Calls.quiet_of_same (au _ _ _)));go_wp2;go_meet;exact⟨k,rfl,hk1,hk2,HS2.1.drewN _,⟨by rw[←HK.1,scanSorted_stop ltInt dk y k (.inl Yu)]⟩⟩
   case rest=>
    obtain⟨k,rfl,hk1,hk2,hs,HK⟩:=hcut;clear HS;by_cases Yu:k=y
    ·have hp:Kept (P=(dk,true)):=⟨by rw[←HO.1,pi_true ltInt x y s i dk h5 (by rw[HK.1,Yu])]⟩
     subst Yu;have HS:=Aj hs;clear hs;go_wp2;go_ret;rw[hp.1];exact⟨rfl,HS.1⟩
    ·by_cases h50:y-x<50
     ·have hp:Kept (P=(dk,false)):=⟨by rw[←HO.1,pi_short ltInt x y s i dk h5 (by rw[HK.1];exact Yu) h50]⟩
      have Yt:(y:Int)-(x:Int)<50:=om;have Yv:¬((k:Int)=(y:Int)):=om;have HS:=Aj hs;clear hs;go_wp2;go_ret;rw[hp.1];exact⟨rfl,HS.1⟩
     ·have Yt:¬((y:Int)-(x:Int)<50):=by omega
      have Yv:¬((k:Int)=(y:Int)):=om;have HP:=Aj (pi_go ltInt x y s i k dk h5 HK.1 Yu h50);have HS:=Aj hs;have hf:=hs.dQ;obtain⟨G,hG⟩:∃G:Nat→Int,∀t,G t=dk[t]!:=⟨fun t=>dk[t]!,fun _=>rfl⟩
      have hc:∀t,t<d.size→wc.cell? ⟨b,o+t,none⟩=some (.int .u64 (G t)):=fun t ht=>by rw[hG];exact hs.cell t ht
      have HG:=Aj hG;clear hs hG;go_upto_if 61 with(first|go_region|fail)
      have H1:Sv w b o d (Sort.swp dk k (k-1)) (((wc.setCell ⟨b,o+k,none⟩ (.int .u64 (G (k-1)))).setCell ⟨b,o+(k-1),none⟩ (.int .u64 (G k))).drew):=by rw[HG.1,HG.1];exact(HS.1.swp (i:=k) (j:=k-1) om om).drewN 1
      have HS:=Aj H1;clear hc hf H1;generalize (((wc.setCell ⟨b,o+k,none⟩ (.int .u64 (G (k-1)))).setCell ⟨b,o+(k-1),none⟩ (.int .u64 (G k))).drew)=w1 at*;clear HG;generalize Sort.swp dk k (k-1)=d1 at*;go_cut [9]from 13 (fun _ wc=>Sv w b o d (fixDown ltInt x k d1) wc)
      case first=>
       by_cases hk:k-x≥2
       ·have hk':(2:Int)≤(k:Int)-(x:Int):=by omega
        have HFD:=Aj (show fixDown ltInt x k d1=Sort.shiftDown ltInt (k-1) d1 by rw[fixDown,Ps0 hk]);go_wp2;go_loopw [9] (fun vj wr=>∃(j:Nat) (dj:Array Int),vj= .int .i64 (j:Int)∧j≤k-1∧Sv w b o d dj wr∧Kept (Sort.shiftDown ltInt j dj=Sort.shiftDown ltInt (k-1) d1)) (fun vj _=>(intOf vj).toNat)
        case atStart=>exact⟨k-1,d1,by congr 1;omega,Nr _,HS.1,⟨rfl⟩⟩
        case round=>
         obtain⟨j,dj,rfl,hj,hs,HJ⟩:=hrel;have HS2:=Aj hs;by_cases hj0:j=0
         ·subst hj0;clear hs;go_wp2;go_meet
          case rel=>rw[HFD.1,←HJ.1];exact HS2.1
         ·have hj1:(1:Int)≤(j:Int):=by omega
          have hf:=hs.dQ;obtain⟨G,hG⟩:∃G:Nat→Int,∀t,G t=dj[t]!:=⟨fun t=>dj[t]!,fun _=>rfl⟩
          have hc:∀t,t<d.size→wr.cell? ⟨b,o+t,none⟩=some (.int .u64 (G t)):=fun t ht=>by rw[hG];exact hs.cell t ht
          have HG:=Aj hG;clear hs hG;have hl:ltInt (G j) (G (j-1))=false∨ltInt (G j) (G (j-1))=true:=by cases ltInt (G j) (G (j-1))<;>simp
          rcases hl with hl|hl
          ·go_wp2_with fail;go_quiet (first|(go_at_call 283;refine Calls.quiet_of_same (au _ _ _)));go_wp2;go_meet
           case rel=>rw[HFD.1,←HJ.1,shiftDown_stop ltInt j dj (.inr (by rw[←HG.1,←HG.1];exact hl))];exact HS2.1.drewN _
          ·go_wp2_with fail;go_quiet (first|(go_at_call 283;refine Calls.quiet_of_same (au _ _ _)));go_wp2_with fail;go_region
           all_goals go_wp2
           go_roundw
           case rel=>
            refine⟨j-1,Sort.swp dj j (j-1),by congr 1;omega,om,?_,⟨?_⟩⟩
            ·rw[HG.1,HG.1];exact(HS2.1.drewN _).swp (i:=j) (j:=j-1) om om
            ·rw[←HJ.1,shiftDown_go ltInt j dj om (by rw[←HG.1,←HG.1];exact hl)]
           case measure=>simp[intOf];omega
       ·have hk':¬(2:Int)≤(k:Int)-(x:Int):=by omega
        go_wp2;go_meet
        case rel=>rw[show fixDown ltInt x k d1=d1 by rw[fixDown,Ng hk]];exact HS.1
      case rest=>
       have HS:=Aj hcut;clear hcut;generalize fixDown ltInt x k d1=d2 at*;by_cases hk:y-k≥2
       ·have hk':(2:Int)≤(y:Int)-(k:Int):=by omega
        rw[show fixUp ltInt y k d2=Sort.shiftUp ltInt y (k+1) d2 by rw[fixUp,Ps0 hk]]at HP;go_wp2;go_loopw [10] (fun vj wr=>∃(j:Nat) (dj:Array Int),vj= .int .i64 (j:Int)∧k+1≤j∧j≤y∧Sv w b o d dj wr∧Kept (Sort.shiftUp ltInt y j dj=Sort.shiftUp ltInt y (k+1) d2)) (fun vj _=>y-(intOf vj).toNat)
        case atStart=>exact⟨k+1,d2,by go_num,om,om,HS.1,⟨rfl⟩⟩
        case round=>
         obtain⟨j,dj,rfl,hj,hj2,hs,HJ⟩:=hrel;have HS2:=Aj hs;by_cases hjy:j<y
         ·have hj1:(j:Int)< (y:Int):=by omega
          have hf:=hs.dQ;obtain⟨G,hG⟩:∃G:Nat→Int,∀t,G t=dj[t]!:=⟨fun t=>dj[t]!,fun _=>rfl⟩
          have hc:∀t,t<d.size→wr.cell? ⟨b,o+t,none⟩=some (.int .u64 (G t)):=fun t ht=>by rw[hG];exact hs.cell t ht
          have HG:=Aj hG;clear hs hG;have hl:ltInt (G j) (G (j-1))=false∨ltInt (G j) (G (j-1))=true:=by cases ltInt (G j) (G (j-1))<;>simp
          rcases hl with hl|hl
          ·go_wp2_with fail;go_quiet (first|(go_at_call 283;refine Calls.quiet_of_same (au _ _ _)));go_wp2;go_roundw
           case rel=>
            refine⟨k,s+1,dj,rfl,by go_num,om,om,om,HS2.1.drewN _,⟨?_⟩⟩;rw[←HO.1,HP.1,←HJ.1,shiftUp_stop ltInt y j dj (.inr (by rw[←HG.1,←HG.1];exact hl))]
           case measure=>simp[intOf];omega
          ·go_wp2_with fail;go_quiet (first|(go_at_call 283;refine Calls.quiet_of_same (au _ _ _)));go_wp2_with fail;go_region
           all_goals go_wp2
           go_roundw
           case rel=>
            refine⟨j+1,Sort.swp dj j (j-1),by go_num,om,om,?_,⟨?_⟩⟩
            ·rw[HG.1,HG.1];exact(HS2.1.drewN _).swp (i:=j) (j:=j-1) om om
            ·rw[←HJ.1,shiftUp_go ltInt y j dj hjy (by rw[←HG.1,←HG.1];exact hl)]
           case measure=>simp[intOf];omega
         ·have hj1:¬(j:Int)< (y:Int):=by omega
          clear hs;go_wp2;go_roundw
          case rel=>
           refine⟨k,s+1,dj,rfl,by go_num,om,om,om,HS2.1,⟨?_⟩⟩;rw[←HO.1,HP.1,←HJ.1,shiftUp_stop ltInt y j dj (.inl hjy)]
          case measure=>simp[intOf];omega
       ·have hk':¬(2:Int)≤(y:Int)-(k:Int):=by omega
        rw[show fixUp ltInt y k d2=d2 by rw[fixUp,Ng hk]]at HP;go_wp2;go_roundw
        case rel=>exact⟨k,s+1,d2,rfl,by go_num,om,om,om,HS.1,⟨by rw[←HO.1,HP.1]⟩⟩
        case measure=>simp[intOf];omega
  ·have h5':¬(s:Int)<5:=by omega
   obtain rfl:s=5:=om;have hp:Kept (P=(dk,false)):=⟨by rw[←HO.1];rfl⟩
   go_wp2;go_ret;rw[hp.1];exact⟨rfl,HS.1⟩
theorem qb (b o c x y p n) (d) (w) (hn:d.size=n) (hH:Holds eU w b o d) (hw:b<w.heap.size) (hxp:x≤p) (hpy:p<y) (hy:y≤n) (hsz:n<4611686018427387904):
  Calls prog 307 #[.slice (some ⟨b,o,none⟩) n c,.int .i64 x,.int .i64 y,.int .i64 p] w fun e w'=>e= .returned (.int .i64 (Sort.partitionEqual ltInt d x y p).1)∧Sv w b o d (Sort.partitionEqual ltInt d x y p).2 w':=by
 subst hn;unfold Sort.partitionEqual;obtain⟨P,hP⟩:∃P,partEqLoop ltInt x (x+1) (y-1) (Sort.swp d x p)=P:=⟨_,rfl⟩
 rw[hP];have ZX:=Aj hP;have HS:=Aj (Sv.refl hH hw);obtain⟨G,hG⟩:∃G:Nat→Int,∀t,G t=d[t]!:=⟨fun t=>d[t]!,fun _=>rfl⟩
 have hc:∀t,t<d.size→w.cell? ⟨b,o+t,none⟩=some (.int .u64 (G t)):=fun t ht=>by rw[hG];exact HS.1.cell t ht
 have hf:=HS.1.dQ;have HG:=Aj hG;have HF:=Aj (show Sv w b o d (Sort.swp d x p) (((w.setCell ⟨b,o+x,none⟩ (.int .u64 (G p))).setCell ⟨b,o+p,none⟩ (.int .u64 (G x))).drew)from by rw[hG,hG];exact(HS.1.swp (i:=x) (j:=p) om om).drewN 1);clear hP hG hH HS;go_enter func307,ntmps307;rcases DF hxp with hxp|rfl
 all_goals
  go_wp2_with fail;go_region;go_wp2;clear hc hf;go_loopw [9,10] (fun vi vj wr=>∃(i j:Nat) (dk:Array Int),vi= .int .i64 (i:Int)∧vj= .int .i64 (j:Int)∧x<i∧i≤j+1∧j<y∧Sv w b o d dk wr∧Kept (partEqLoop ltInt x i j dk=P)) (fun vi vj _=>(intOf vj+1-intOf vi).toNat)
  case atStart=>exact⟨x+1,y-1,_,by go_num,by congr 1;omega,om,om,om,HF.1,ZX⟩
  case round=>
   obtain⟨i,j,dk,rfl,rfl,hi1,hij,hj1,hs,HO⟩:=hrel;have HS:=Aj hs;clear hs HF;go_upto_block 2 with fail;go_cut [9]from 29 to 82 (fun v wc=>∃k:Nat,v= .int .i64 (k:Int)∧i≤k∧k≤j+1∧Sv w b o d dk wc∧Kept (k=scanUp (fun z=>!ltInt dk[x]! z) dk j i))
   case first=>
    go_wp2;go_loopw [9] (fun vi wr=>∃k:Nat,vi= .int .i64 (k:Int)∧i≤k∧k≤j+1∧Sv w b o d dk wr∧Kept (scanUp (fun z=>!ltInt dk[x]! z) dk j k=scanUp (fun z=>!ltInt dk[x]! z) dk j i)) (fun vi _=>j+1-(intOf vi).toNat)
    case atStart=>exact⟨i,rfl,Nr _,om,HS.1,⟨rfl⟩⟩
    case round=>
     obtain⟨k,rfl,hk1,hk2,hs,HK⟩:=hrel;have hf:=hs.dQ;obtain⟨G,hG⟩:∃G:Nat→Int,∀t,G t=dk[t]!:=⟨fun t=>dk[t]!,fun _=>rfl⟩
     have hc:∀t,t<d.size→wr.cell? ⟨b,o+t,none⟩=some (.int .u64 (G t)):=fun t ht=>by rw[hG];exact hs.cell t ht
     have HG:=Aj hG;have HS2:=Aj hs;clear hs hG;by_cases hkj:k≤j
     ·have jS:(k:Int)≤(j:Int):=by omega
      have hl:ltInt (G x) (G k)=false∨ltInt (G x) (G k)=true:=by cases ltInt (G x) (G k)<;>simp
      rcases hl with hl|hl
      ·go_wp2_with fail;go_quiet (first|(go_at_call 283;refine Calls.quiet_of_same (au _ _ _)));go_wp2;go_roundw
       case rel=>exact⟨k+1,by go_num,om,om,HS2.1.drewN _,⟨by rw[←HK.1,scanUp_go _ dk j k hkj (by simp only[←HG.1];simp[hl])]⟩⟩
       case measure=>simp[intOf];omega
      ·go_wp2_with fail;go_quiet (first|(go_at_call 283;refine Calls.quiet_of_same (au _ _ _)));go_wp2;go_meet;exact⟨k,rfl,hk1,hk2,HS2.1.drewN _,⟨by rw[←HK.1,scanUp_end _ dk j k (.inr (by simp only[←HG.1];simp[hl]))]⟩⟩
     ·have jS:decide ((k:Int)≤(j:Int))=false:=Az om;go_wp2_with fail;go_quiet (first|(go_at_call 283;refine Calls.quiet_of_same (au _ _ _)));go_wp2;go_meet;exact⟨k,rfl,hk1,hk2,HS2.1.drewN _,⟨by rw[←HK.1,scanUp_end _ dk j k (.inl hkj)]⟩⟩
   case rest=>
    obtain⟨k,rfl,hk1,hk2,hs,HK⟩:=hcut;have HS:=Aj hs;clear hs;go_upto_block 4 with fail;go_cut [10]from 29 to 82 (fun v wc=>∃m:Nat,v= .int .i64 (m:Int)∧k≤m+1∧m≤j∧Sv w b o d dk wc∧Kept (m=scanDown (fun z=>ltInt dk[x]! z) dk k j))
    case first=>
     go_wp2;go_loopw [10] (fun vi wr=>∃m:Nat,vi= .int .i64 (m:Int)∧k≤m+1∧m≤j∧Sv w b o d dk wr∧Kept (scanDown (fun z=>ltInt dk[x]! z) dk k m=scanDown (fun z=>ltInt dk[x]! z) dk k j)) (fun vi _=>(intOf vi).toNat)
     case atStart=>exact⟨j,rfl,om,Nr _,HS.1,⟨rfl⟩⟩
     case round=>
      obtain⟨m,rfl,hm1,hm2,hs,HM⟩:=hrel;have hf:=hs.dQ;obtain⟨G,hG⟩:∃G:Nat→Int,∀t,G t=dk[t]!:=⟨fun t=>dk[t]!,fun _=>rfl⟩
      have hc:∀t,t<d.size→wr.cell? ⟨b,o+t,none⟩=some (.int .u64 (G t)):=fun t ht=>by rw[hG];exact hs.cell t ht
      have HG:=Aj hG;have HS2:=Aj hs;clear hs hG;by_cases hkj:k≤m
      ·have jS:(k:Int)≤(m:Int):=by omega
       have hl:ltInt (G x) (G m)=false∨ltInt (G x) (G m)=true:=by cases ltInt (G x) (G m)<;>simp
       rcases hl with hl|hl
       ·go_wp2_with fail;go_quiet (first|(go_at_call 283;refine Calls.quiet_of_same (au _ _ _)));go_wp2;go_meet;exact⟨m,rfl,hm1,hm2,HS2.1.drewN _,⟨by rw[←HM.1,scanDown_end _ dk k m (.inr (by simp only[←HG.1];simp[hl]))]⟩⟩
       ·go_wp2_with fail;go_quiet (first|(go_at_call 283;refine Calls.quiet_of_same (au _ _ _)));go_wp2;go_roundw
        case rel=>exact⟨m-1,by congr 1;omega,om,om,HS2.1.drewN _,⟨by rw[←HM.1,scanDown_go _ dk k m hkj om (by simp only[←HG.1];simp[hl])]⟩⟩
        case measure=>simp[intOf];omega
      ·have jS:decide ((k:Int)≤(m:Int))=false:=Az om;go_wp2_with fail;go_quiet (first|(go_at_call 283;refine Calls.quiet_of_same (au _ _ _)));go_wp2;go_meet;exact⟨m,rfl,hm1,hm2,HS2.1.drewN _,⟨by rw[←HM.1,scanDown_end _ dk k m (.inl hkj)]⟩⟩
    case rest=>
     obtain⟨m,rfl,hm1,hm2,hs,HM⟩:=hcut;have HS:=Aj hs;by_cases hmk:m<k
     ·have hmk':(m:Int)< (k:Int):=by omega
      have hp:=Aj (partEq_break ltInt x i j dk HK.1 HM.1 hmk);clear hs;go_wp2;go_ret;rw[←HO.1,hp.1];exact⟨rfl,HS.1⟩
     ·have hmk':¬(m:Int)< (k:Int):=by omega
      have hp:=Aj (partEq_go ltInt x i j dk HK.1 HM.1 om);have hlt:=scans_lt ltInt x i j dk om HK.1 HM.1 om;have hf:=hs.dQ;obtain⟨G,hG⟩:∃G:Nat→Int,∀t,G t=dk[t]!:=⟨fun t=>dk[t]!,fun _=>rfl⟩
      have hc:∀t,t<d.size→wc.cell? ⟨b,o+t,none⟩=some (.int .u64 (G t)):=fun t ht=>by rw[hG];exact hs.cell t ht
      have HG:=Aj hG;clear hs hG;go_wp2_with fail;go_region
      all_goals go_wp2
      go_roundw
      case rel=>
       refine⟨k+1,m-1,Sort.swp dk k m,by go_num,by congr 1;omega,om,om,om,?_,⟨by rw[←HO.1,hp.1]⟩⟩;rw[HG.1,HG.1];exact(HS.1.drewN _).swp (i:=k) (j:=m) om om
      case measure=>simp[intOf];omega
theorem Fw (b o c x y p n) (d) (w) (hn:d.size=n) (hH:Holds eU w b o d) (hw:b<w.heap.size) (hxp:x≤p) (hpy:p<y) (hy:y≤n) (hsz:n<4611686018427387904):
  Calls prog 308 #[.slice (some ⟨b,o,none⟩) n c,.int .i64 x,.int .i64 y,.int .i64 p] w fun e w'=>e= .returned (.tuple #[.int .i64 (Sort.partition ltInt d x y p).1,.bool (Sort.partition ltInt d x y p).2.1])∧Sv w b o d (Sort.partition ltInt d x y p).2.2 w':=by
 subst hn;have HS:=Aj (Sv.refl hH hw);obtain⟨G,hG⟩:∃G:Nat→Int,∀t,G t=d[t]!:=⟨fun t=>d[t]!,fun _=>rfl⟩
 have hc:∀t,t<d.size→w.cell? ⟨b,o+t,none⟩=some (.int .u64 (G t)):=fun t ht=>by rw[hG];exact HS.1.cell t ht
 have hf:=HS.1.dQ;have HF:=Aj (show Sv w b o d (Sort.swp d x p) (((w.setCell ⟨b,o+x,none⟩ (.int .u64 (G p))).setCell ⟨b,o+p,none⟩ (.int .u64 (G x))).drew)from by rw[hG,hG];exact(HS.1.swp (i:=x) (j:=p) om om).drewN 1);clear hG hH HS;obtain⟨P,hP⟩:∃P,Sort.partition ltInt d x y p=P:=⟨_,rfl⟩
 rw[hP];obtain⟨i,hi⟩:∃i,i=x+1:=⟨_,rfl⟩
 obtain⟨j,hj⟩:∃j,j=y-1:=⟨_,rfl⟩
 have hi0:(x:Int)+1=(i:Int):=om;have hj0:(y:Int)-1=(j:Int):=om;have hi1:x<i:=om;have hij:i≤j+1:=om;have hj1:j<y:=om;have HP:=Aj hP;have HI:=Aj hi;have HJ:=Aj hj;clear hP hi hj;go_enter func308,ntmps308;rcases DF hxp with hxp|rfl
 ·go_wp2_with fail;go_region;clear hc hf;generalize hdk:Sort.swp d x p=dk at*;have hdk:=hdk.symm;have HS:=HF;go_upto_block 0 with fail;go_cut [10]from 30 (fun v wc=>∃k:Nat,v= .int .i64 (k:Int)∧i≤k∧k≤j+1∧Sv w b o d dk wc∧Kept (k=scanUp (fun z=>ltInt z dk[x]!) dk j i))
  case first=>
   go_wp2;go_loopw [10] (fun vi wr=>∃k:Nat,vi= .int .i64 (k:Int)∧i≤k∧k≤j+1∧Sv w b o d dk wr∧Kept (scanUp (fun z=>ltInt z dk[x]!) dk j k=scanUp (fun z=>ltInt z dk[x]!) dk j i)) (fun vi _=>j+1-(intOf vi).toNat)
   case atStart=>exact⟨i,rfl,Nr _,om,HS.1,⟨rfl⟩⟩
   case round=>
    obtain⟨k,rfl,hk1,hk2,hs,HK⟩:=hrel;have hf:=hs.dQ;obtain⟨G,hG⟩:∃G:Nat→Int,∀t,G t=dk[t]!:=⟨fun t=>dk[t]!,fun _=>rfl⟩
    have hc:∀t,t<d.size→wr.cell? ⟨b,o+t,none⟩=some (.int .u64 (G t)):=fun t ht=>by rw[hG];exact hs.cell t ht
    have HG:=Aj hG;have HS2:=Aj hs;clear hs hG;by_cases hkj:k≤j
    ·have jS:(k:Int)≤(j:Int):=by omega
     have hl:ltInt (G k) (G x)=false∨ltInt (G k) (G x)=true:=by cases ltInt (G k) (G x)<;>simp
     rcases hl with hl|hl
     ·go_wp2_with fail;go_quiet (first|(go_at_call 283;refine Calls.quiet_of_same (au _ _ _)));go_wp2;go_meet;exact⟨k,rfl,hk1,hk2,HS2.1.drewN _,⟨by rw[←HK.1,scanUp_end _ dk j k (.inr (by simp only[←HG.1];simp[hl]))]⟩⟩
     ·go_wp2_with fail;go_quiet (first|(go_at_call 283;refine Calls.quiet_of_same (au _ _ _)));go_wp2;go_roundw
      case rel=>exact⟨k+1,by go_num,om,om,HS2.1.drewN _,⟨by rw[←HK.1,scanUp_go _ dk j k hkj (by simp only[←HG.1];simp[hl])]⟩⟩
      case measure=>simp[intOf];omega
    ·have jS:decide ((k:Int)≤(j:Int))=false:=Az om;go_wp2_with fail;go_quiet (first|(go_at_call 283;refine Calls.quiet_of_same (au _ _ _)));go_wp2;go_meet;exact⟨k,rfl,hk1,hk2,HS2.1.drewN _,⟨by rw[←HK.1,scanUp_end _ dk j k (.inl hkj)]⟩⟩
  case rest=>
   obtain⟨k,rfl,hk1,hk2,hs,HK⟩:=hcut;have HS:=Aj hs;clear hs;go_upto_block 2 with fail;go_cut [11]from 30 (fun v wc=>∃m:Nat,v= .int .i64 (m:Int)∧k≤m+1∧m≤j∧Sv w b o d dk wc∧Kept (m=scanDown (fun z=>!ltInt z dk[x]!) dk k j))
   case first=>
    go_wp2;go_loopw [11] (fun vi wr=>∃m:Nat,vi= .int .i64 (m:Int)∧k≤m+1∧m≤j∧Sv w b o d dk wr∧Kept (scanDown (fun z=>!ltInt z dk[x]!) dk k m=scanDown (fun z=>!ltInt z dk[x]!) dk k j)) (fun vi _=>(intOf vi).toNat)
    case atStart=>exact⟨j,rfl,om,Nr _,HS.1,⟨rfl⟩⟩
    case round=>
     obtain⟨m,rfl,hm1,hm2,hs,HM⟩:=hrel;have hf:=hs.dQ;obtain⟨G,hG⟩:∃G:Nat→Int,∀t,G t=dk[t]!:=⟨fun t=>dk[t]!,fun _=>rfl⟩
     have hc:∀t,t<d.size→wr.cell? ⟨b,o+t,none⟩=some (.int .u64 (G t)):=fun t ht=>by rw[hG];exact hs.cell t ht
     have HG:=Aj hG;have HS2:=Aj hs;clear hs hG;by_cases hkj:k≤m
     ·have jS:(k:Int)≤(m:Int):=by omega
      have hl:ltInt (G m) (G x)=false∨ltInt (G m) (G x)=true:=by cases ltInt (G m) (G x)<;>simp
      rcases hl with hl|hl
      ·go_wp2_with fail;go_quiet (first|(go_at_call 283;refine Calls.quiet_of_same (au _ _ _)));go_wp2;go_roundw
       case rel=>exact⟨m-1,by congr 1;omega,om,om,HS2.1.drewN _,⟨by rw[←HM.1,scanDown_go _ dk k m hkj om (by simp only[←HG.1];simp[hl])]⟩⟩
       case measure=>simp[intOf];omega
      ·go_wp2_with fail;go_quiet (first|(go_at_call 283;refine Calls.quiet_of_same (au _ _ _)));go_wp2;go_meet;exact⟨m,rfl,hm1,hm2,HS2.1.drewN _,⟨by rw[←HM.1,scanDown_end _ dk k m (.inr (by simp only[←HG.1];simp[hl]))]⟩⟩
     ·have jS:decide ((k:Int)≤(m:Int))=false:=Az om;go_wp2_with fail;go_quiet (first|(go_at_call 283;refine Calls.quiet_of_same (au _ _ _)));go_wp2;go_meet;exact⟨m,rfl,hm1,hm2,HS2.1.drewN _,⟨by rw[←HM.1,scanDown_end _ dk k m (.inl hkj)]⟩⟩
   case rest=>
    obtain⟨m,rfl,hm1,hm2,hs,HM⟩:=hcut;have HS:=Aj hs;by_cases hmk:m<k
    ·have hmk':(m:Int)< (k:Int):=by omega
     have hp:=Aj (part_first_break ltInt d x y p HI.1 HJ.1 hdk HK.1 HM.1 hmk);have hf:=hs.dQ;have MO:=Aj (hs.swp (i:=m) (j:=x) om om);obtain⟨G,hG⟩:∃G:Nat→Int,∀t,G t=dk[t]!:=⟨fun t=>dk[t]!,fun _=>rfl⟩
     have hc:∀t,t<d.size→wc.cell? ⟨b,o+t,none⟩=some (.int .u64 (G t)):=fun t ht=>by rw[hG];exact hs.cell t ht
     have HG:=Aj hG;clear hs hG;rcases(show x<m∨m=x from om)with hxm|rfl
     all_goals
      go_wp2_with fail;go_region
      all_goals go_wp2
      go_ret2;rw[←HP.1,hp.1];refine⟨rfl,?_⟩;simp only[HG.1];exact MO.1.drewN 1
    ·have hmk':¬(m:Int)< (k:Int):=by omega
     have hp:=part_first_go ltInt d x y p HI.1 HJ.1 hdk HK.1 HM.1 om;have hlt:=part_scans_lt ltInt x i j dk om HK.1 HM.1 om;obtain⟨Q,hQ⟩:∃Q,partLoop ltInt x (k+1) (m-1) (Sort.swp dk k m)=Q:=⟨_,rfl⟩
     rw[hQ]at hp;have HPT:=Aj hp;have hf:=hs.dQ;obtain⟨G,hG⟩:∃G:Nat→Int,∀t,G t=dk[t]!:=⟨fun t=>dk[t]!,fun _=>rfl⟩
     have hc:∀t,t<d.size→wc.cell? ⟨b,o+t,none⟩=some (.int .u64 (G t)):=fun t ht=>by rw[hG];exact hs.cell t ht
     have HG:=Aj hG;have MO:=Aj (show Sv w b o d (Sort.swp dk k m) (((wc.setCell ⟨b,o+k,none⟩ (.int .u64 (G m))).setCell ⟨b,o+m,none⟩ (.int .u64 (G k))).drew)from by rw[hG,hG];exact(hs.swp (i:=k) (j:=m) om om).drewN 1);clear hs hG hp;go_wp2_with fail;go_region;go_wp2;clear hc hf;generalize hd2:Sort.swp dk k m=d2 at*;go_loopw [10,11] (fun vi vj wr=>∃(i j:Nat) (dk:Array Int),vi= .int .i64 (i:Int)∧vj= .int .i64 (j:Int)∧x<i∧i≤j+1∧j<y∧Sv w b o d dk wr∧Kept (partLoop ltInt x i j dk=Q)) (fun vi vj _=>(intOf vj+1-intOf vi).toNat)
     case atStart=>exact⟨k+1,m-1,_,by go_num,by congr 1;omega,om,om,om,MO.1,⟨hQ⟩⟩
     case round=>
      clear hdk hQ hd2 MO HK HM hi1 hij hj1 hk1 hk2 hm1 hm2 hmk hmk' hlt;obtain⟨i,j,dk,rfl,rfl,hi1,hij,hj1,hs,HO⟩:=hrel;have HS:=Aj hs;clear hs;go_upto_block 6 with fail;go_cut [10]from 99 to 152 (fun v wc=>∃k:Nat,v= .int .i64 (k:Int)∧i≤k∧k≤j+1∧Sv w b o d dk wc∧Kept (k=scanUp (fun z=>ltInt z dk[x]!) dk j i))
      case first=>
       go_wp2;go_loopw [10] (fun vi wr=>∃k:Nat,vi= .int .i64 (k:Int)∧i≤k∧k≤j+1∧Sv w b o d dk wr∧Kept (scanUp (fun z=>ltInt z dk[x]!) dk j k=scanUp (fun z=>ltInt z dk[x]!) dk j i)) (fun vi _=>j+1-(intOf vi).toNat)
       case atStart=>exact⟨i,rfl,Nr _,om,HS.1,⟨rfl⟩⟩
       case round=>
        obtain⟨k,rfl,hk1,hk2,hs,HK⟩:=hrel;have hf:=hs.dQ;obtain⟨G,hG⟩:∃G:Nat→Int,∀t,G t=dk[t]!:=⟨fun t=>dk[t]!,fun _=>rfl⟩
        have hc:∀t,t<d.size→wr.cell? ⟨b,o+t,none⟩=some (.int .u64 (G t)):=fun t ht=>by rw[hG];exact hs.cell t ht
        have HG:=Aj hG;have HS2:=Aj hs;clear hs hG;by_cases hkj:k≤j
        ·have jS:(k:Int)≤(j:Int):=by omega
         have hl:ltInt (G k) (G x)=false∨ltInt (G k) (G x)=true:=by cases ltInt (G k) (G x)<;>simp
         rcases hl with hl|hl
         ·go_wp2_with fail;go_quiet (first|(go_at_call 283;refine Calls.quiet_of_same (au _ _ _)));go_wp2;go_meet;exact⟨k,rfl,hk1,hk2,HS2.1.drewN _,⟨by rw[←HK.1,scanUp_end _ dk j k (.inr (by simp only[←HG.1];simp[hl]))]⟩⟩
         ·go_wp2_with fail;go_quiet (first|(go_at_call 283;refine Calls.quiet_of_same (au _ _ _)));go_wp2;go_roundw
          case rel=>exact⟨k+1,by go_num,om,om,HS2.1.drewN _,⟨by rw[←HK.1,scanUp_go _ dk j k hkj (by simp only[←HG.1];simp[hl])]⟩⟩
          case measure=>simp[intOf];omega
        ·have jS:decide ((k:Int)≤(j:Int))=false:=Az om;go_wp2_with fail;go_quiet (first|(go_at_call 283;refine Calls.quiet_of_same (au _ _ _)));go_wp2;go_meet;exact⟨k,rfl,hk1,hk2,HS2.1.drewN _,⟨by rw[←HK.1,scanUp_end _ dk j k (.inl hkj)]⟩⟩
      case rest=>
       obtain⟨k,rfl,hk1,hk2,hs,HK⟩:=hcut;have HS:=Aj hs;clear hs;go_upto_block 8 with fail;go_cut [11]from 99 to 152 (fun v wc=>∃m:Nat,v= .int .i64 (m:Int)∧k≤m+1∧m≤j∧Sv w b o d dk wc∧Kept (m=scanDown (fun z=>!ltInt z dk[x]!) dk k j))
       case first=>
        go_wp2;go_loopw [11] (fun vi wr=>∃m:Nat,vi= .int .i64 (m:Int)∧k≤m+1∧m≤j∧Sv w b o d dk wr∧Kept (scanDown (fun z=>!ltInt z dk[x]!) dk k m=scanDown (fun z=>!ltInt z dk[x]!) dk k j)) (fun vi _=>(intOf vi).toNat)
        case atStart=>exact⟨j,rfl,om,Nr _,HS.1,⟨rfl⟩⟩
        case round=>
         obtain⟨m,rfl,hm1,hm2,hs,HM⟩:=hrel;have hf:=hs.dQ;obtain⟨G,hG⟩:∃G:Nat→Int,∀t,G t=dk[t]!:=⟨fun t=>dk[t]!,fun _=>rfl⟩
         have hc:∀t,t<d.size→wr.cell? ⟨b,o+t,none⟩=some (.int .u64 (G t)):=fun t ht=>by rw[hG];exact hs.cell t ht
         have HG:=Aj hG;have HS2:=Aj hs;clear hs hG;by_cases hkj:k≤m
         ·have jS:(k:Int)≤(m:Int):=by omega
          have hl:ltInt (G m) (G x)=false∨ltInt (G m) (G x)=true:=by cases ltInt (G m) (G x)<;>simp
          rcases hl with hl|hl
          ·go_wp2_with fail;go_quiet (first|(go_at_call 283;refine Calls.quiet_of_same (au _ _ _)));go_wp2;go_roundw
           case rel=>exact⟨m-1,by congr 1;omega,om,om,HS2.1.drewN _,⟨by rw[←HM.1,scanDown_go _ dk k m hkj om (by simp only[←HG.1];simp[hl])]⟩⟩
           case measure=>simp[intOf];omega
          ·go_wp2_with fail;go_quiet (first|(go_at_call 283;refine Calls.quiet_of_same (au _ _ _)));go_wp2;go_meet;exact⟨m,rfl,hm1,hm2,HS2.1.drewN _,⟨by rw[←HM.1,scanDown_end _ dk k m (.inr (by simp only[←HG.1];simp[hl]))]⟩⟩
         ·have jS:decide ((k:Int)≤(m:Int))=false:=Az om;go_wp2_with fail;go_quiet (first|(go_at_call 283;refine Calls.quiet_of_same (au _ _ _)));go_wp2;go_meet;exact⟨m,rfl,hm1,hm2,HS2.1.drewN _,⟨by rw[←HM.1,scanDown_end _ dk k m (.inl hkj)]⟩⟩
       case rest=>
        obtain⟨m,rfl,hm1,hm2,hs,HM⟩:=hcut;have HS:=Aj hs;by_cases hmk:m<k
        ·have hmk':(m:Int)< (k:Int):=by omega
         have hp:=Aj (part_break ltInt x i j dk HK.1 HM.1 hmk);have hf:=hs.dQ;have MO:=Aj (hs.swp (i:=m) (j:=x) om om);obtain⟨G,hG⟩:∃G:Nat→Int,∀t,G t=dk[t]!:=⟨fun t=>dk[t]!,fun _=>rfl⟩
         have hc:∀t,t<d.size→wc.cell? ⟨b,o+t,none⟩=some (.int .u64 (G t)):=fun t ht=>by rw[hG];exact hs.cell t ht
         have HG:=Aj hG;clear hs hG;rcases(show x<m∨m=x from om)with hxm|rfl
         all_goals
          go_wp2_with fail;go_region
          all_goals go_wp2
          go_ret2;rw[←HP.1,HPT.1,←HO.1,hp.1];refine⟨rfl,?_⟩;simp only[HG.1];exact MO.1.drewN 1
        ·have hmk':¬(m:Int)< (k:Int):=by omega
         have hp:=Aj (part_go ltInt x i j dk HK.1 HM.1 om);have hlt:=part_scans_lt ltInt x i j dk om HK.1 HM.1 om;have hf:=hs.dQ;obtain⟨G,hG⟩:∃G:Nat→Int,∀t,G t=dk[t]!:=⟨fun t=>dk[t]!,fun _=>rfl⟩
         have hc:∀t,t<d.size→wc.cell? ⟨b,o+t,none⟩=some (.int .u64 (G t)):=fun t ht=>by rw[hG];exact hs.cell t ht
         have HG:=Aj hG;clear hs hG;go_wp2_with fail;go_region
         all_goals go_wp2
         go_roundw
         case rel=>
          refine⟨k+1,m-1,Sort.swp dk k m,by go_num,by congr 1;omega,om,om,om,?_,⟨by rw[←HO.1,hp.1]⟩⟩;rw[HG.1,HG.1];exact(HS.1.drewN _).swp (i:=k) (j:=m) om om
         case measure=>simp[intOf];omega
 ·go_wp2_with fail;go_region;clear hc hf;generalize hdk:Sort.swp d x x=dk at*;have hdk:=hdk.symm;have HS:=HF;go_upto_block 0 with fail;go_cut [10]from 30 (fun v wc=>∃k:Nat,v= .int .i64 (k:Int)∧i≤k∧k≤j+1∧Sv w b o d dk wc∧Kept (k=scanUp (fun z=>ltInt z dk[x]!) dk j i))
  case first=>
   go_wp2;go_loopw [10] (fun vi wr=>∃k:Nat,vi= .int .i64 (k:Int)∧i≤k∧k≤j+1∧Sv w b o d dk wr∧Kept (scanUp (fun z=>ltInt z dk[x]!) dk j k=scanUp (fun z=>ltInt z dk[x]!) dk j i)) (fun vi _=>j+1-(intOf vi).toNat)
   case atStart=>exact⟨i,rfl,Nr _,om,HS.1,⟨rfl⟩⟩
   case round=>
    obtain⟨k,rfl,hk1,hk2,hs,HK⟩:=hrel;have hf:=hs.dQ;obtain⟨G,hG⟩:∃G:Nat→Int,∀t,G t=dk[t]!:=⟨fun t=>dk[t]!,fun _=>rfl⟩
    have hc:∀t,t<d.size→wr.cell? ⟨b,o+t,none⟩=some (.int .u64 (G t)):=fun t ht=>by rw[hG];exact hs.cell t ht
    have HG:=Aj hG;have HS2:=Aj hs;clear hs hG;by_cases hkj:k≤j
    ·have jS:(k:Int)≤(j:Int):=by omega
     have hl:ltInt (G k) (G x)=false∨ltInt (G k) (G x)=true:=by cases ltInt (G k) (G x)<;>simp
     rcases hl with hl|hl
     ·go_wp2_with fail;go_quiet (first|(go_at_call 283;refine Calls.quiet_of_same (au _ _ _)));go_wp2;go_meet;exact⟨k,rfl,hk1,hk2,HS2.1.drewN _,⟨by rw[←HK.1,scanUp_end _ dk j k (.inr (by simp only[←HG.1];simp[hl]))]⟩⟩
     ·go_wp2_with fail;go_quiet (first|(go_at_call 283;refine Calls.quiet_of_same (au _ _ _)));go_wp2;go_roundw
      case rel=>exact⟨k+1,by go_num,om,om,HS2.1.drewN _,⟨by rw[←HK.1,scanUp_go _ dk j k hkj (by simp only[←HG.1];simp[hl])]⟩⟩
      case measure=>simp[intOf];omega
    ·have jS:decide ((k:Int)≤(j:Int))=false:=Az om;go_wp2_with fail;go_quiet (first|(go_at_call 283;refine Calls.quiet_of_same (au _ _ _)));go_wp2;go_meet;exact⟨k,rfl,hk1,hk2,HS2.1.drewN _,⟨by rw[←HK.1,scanUp_end _ dk j k (.inl hkj)]⟩⟩
  case rest=>
   obtain⟨k,rfl,hk1,hk2,hs,HK⟩:=hcut;have HS:=Aj hs;clear hs;go_upto_block 2 with fail;go_cut [11]from 30 (fun v wc=>∃m:Nat,v= .int .i64 (m:Int)∧k≤m+1∧m≤j∧Sv w b o d dk wc∧Kept (m=scanDown (fun z=>!ltInt z dk[x]!) dk k j))
   case first=>
    go_wp2;go_loopw [11] (fun vi wr=>∃m:Nat,vi= .int .i64 (m:Int)∧k≤m+1∧m≤j∧Sv w b o d dk wr∧Kept (scanDown (fun z=>!ltInt z dk[x]!) dk k m=scanDown (fun z=>!ltInt z dk[x]!) dk k j)) (fun vi _=>(intOf vi).toNat)
    case atStart=>exact⟨j,rfl,om,Nr _,HS.1,⟨rfl⟩⟩
    case round=>
     obtain⟨m,rfl,hm1,hm2,hs,HM⟩:=hrel;have hf:=hs.dQ;obtain⟨G,hG⟩:∃G:Nat→Int,∀t,G t=dk[t]!:=⟨fun t=>dk[t]!,fun _=>rfl⟩
     have hc:∀t,t<d.size→wr.cell? ⟨b,o+t,none⟩=some (.int .u64 (G t)):=fun t ht=>by rw[hG];exact hs.cell t ht
     have HG:=Aj hG;have HS2:=Aj hs;clear hs hG;by_cases hkj:k≤m
     ·have jS:(k:Int)≤(m:Int):=by omega
      have hl:ltInt (G m) (G x)=false∨ltInt (G m) (G x)=true:=by cases ltInt (G m) (G x)<;>simp
      rcases hl with hl|hl
      ·go_wp2_with fail;go_quiet (first|(go_at_call 283;refine Calls.quiet_of_same (au _ _ _)));go_wp2;go_roundw
       case rel=>exact⟨m-1,by congr 1;omega,om,om,HS2.1.drewN _,⟨by rw[←HM.1,scanDown_go _ dk k m hkj om (by simp only[←HG.1];simp[hl])]⟩⟩
       case measure=>simp[intOf];omega
      ·go_wp2_with fail;go_quiet (first|(go_at_call 283;refine Calls.quiet_of_same (au _ _ _)));go_wp2;go_meet;exact⟨m,rfl,hm1,hm2,HS2.1.drewN _,⟨by rw[←HM.1,scanDown_end _ dk k m (.inr (by simp only[←HG.1];simp[hl]))]⟩⟩
     ·have jS:decide ((k:Int)≤(m:Int))=false:=Az om;go_wp2_with fail;go_quiet (first|(go_at_call 283;refine Calls.quiet_of_same (au _ _ _)));go_wp2;go_meet;exact⟨m,rfl,hm1,hm2,HS2.1.drewN _,⟨by rw[←HM.1,scanDown_end _ dk k m (.inl hkj)]⟩⟩
   case rest=>
    obtain⟨m,rfl,hm1,hm2,hs,HM⟩:=hcut;have HS:=Aj hs;by_cases hmk:m<k
    ·have hmk':(m:Int)< (k:Int):=by omega
     have hp:=Aj (part_first_break ltInt d x y x HI.1 HJ.1 hdk HK.1 HM.1 hmk);have hf:=hs.dQ;have MO:=Aj (hs.swp (i:=m) (j:=x) om om);obtain⟨G,hG⟩:∃G:Nat→Int,∀t,G t=dk[t]!:=⟨fun t=>dk[t]!,fun _=>rfl⟩
     have hc:∀t,t<d.size→wc.cell? ⟨b,o+t,none⟩=some (.int .u64 (G t)):=fun t ht=>by rw[hG];exact hs.cell t ht
     have HG:=Aj hG;clear hs hG;rcases(show x<m∨m=x from om)with hxm|rfl
     all_goals
      go_wp2_with fail;go_region
      all_goals go_wp2
      go_ret2;rw[←HP.1,hp.1];refine⟨rfl,?_⟩;simp only[HG.1];exact MO.1.drewN 1
    ·have hmk':¬(m:Int)< (k:Int):=by omega
     have hp:=part_first_go ltInt d x y x HI.1 HJ.1 hdk HK.1 HM.1 om;have hlt:=part_scans_lt ltInt x i j dk om HK.1 HM.1 om;obtain⟨Q,hQ⟩:∃Q,partLoop ltInt x (k+1) (m-1) (Sort.swp dk k m)=Q:=⟨_,rfl⟩
     rw[hQ]at hp;have HPT:=Aj hp;have hf:=hs.dQ;obtain⟨G,hG⟩:∃G:Nat→Int,∀t,G t=dk[t]!:=⟨fun t=>dk[t]!,fun _=>rfl⟩
     have hc:∀t,t<d.size→wc.cell? ⟨b,o+t,none⟩=some (.int .u64 (G t)):=fun t ht=>by rw[hG];exact hs.cell t ht
     have HG:=Aj hG;have MO:=Aj (show Sv w b o d (Sort.swp dk k m) (((wc.setCell ⟨b,o+k,none⟩ (.int .u64 (G m))).setCell ⟨b,o+m,none⟩ (.int .u64 (G k))).drew)from by rw[hG,hG];exact(hs.swp (i:=k) (j:=m) om om).drewN 1);clear hs hG hp;go_wp2_with fail;go_region;go_wp2;clear hc hf;generalize hd2:Sort.swp dk k m=d2 at*;go_loopw [10,11] (fun vi vj wr=>∃(i j:Nat) (dk:Array Int),vi= .int .i64 (i:Int)∧vj= .int .i64 (j:Int)∧x<i∧i≤j+1∧j<y∧Sv w b o d dk wr∧Kept (partLoop ltInt x i j dk=Q)) (fun vi vj _=>(intOf vj+1-intOf vi).toNat)
     case atStart=>exact⟨k+1,m-1,_,by go_num,by congr 1;omega,om,om,om,MO.1,⟨hQ⟩⟩
     case round=>
      clear hdk hQ hd2 MO HK HM hi1 hij hj1 hk1 hk2 hm1 hm2 hmk hmk' hlt;obtain⟨i,j,dk,rfl,rfl,hi1,hij,hj1,hs,HO⟩:=hrel;have HS:=Aj hs;clear hs;go_upto_block 6 with fail;go_cut [10]from 99 to 152 (fun v wc=>∃k:Nat,v= .int .i64 (k:Int)∧i≤k∧k≤j+1∧Sv w b o d dk wc∧Kept (k=scanUp (fun z=>ltInt z dk[x]!) dk j i))
      case first=>
       go_wp2;go_loopw [10] (fun vi wr=>∃k:Nat,vi= .int .i64 (k:Int)∧i≤k∧k≤j+1∧Sv w b o d dk wr∧Kept (scanUp (fun z=>ltInt z dk[x]!) dk j k=scanUp (fun z=>ltInt z dk[x]!) dk j i)) (fun vi _=>j+1-(intOf vi).toNat)
       case atStart=>exact⟨i,rfl,Nr _,om,HS.1,⟨rfl⟩⟩
       case round=>
        obtain⟨k,rfl,hk1,hk2,hs,HK⟩:=hrel;have hf:=hs.dQ;obtain⟨G,hG⟩:∃G:Nat→Int,∀t,G t=dk[t]!:=⟨fun t=>dk[t]!,fun _=>rfl⟩
        have hc:∀t,t<d.size→wr.cell? ⟨b,o+t,none⟩=some (.int .u64 (G t)):=fun t ht=>by rw[hG];exact hs.cell t ht
        have HG:=Aj hG;have HS2:=Aj hs;clear hs hG;by_cases hkj:k≤j
        ·have jS:(k:Int)≤(j:Int):=by omega
         have hl:ltInt (G k) (G x)=false∨ltInt (G k) (G x)=true:=by cases ltInt (G k) (G x)<;>simp
         rcases hl with hl|hl
         ·go_wp2_with fail;go_quiet (first|(go_at_call 283;refine Calls.quiet_of_same (au _ _ _)));go_wp2;go_meet;exact⟨k,rfl,hk1,hk2,HS2.1.drewN _,⟨by rw[←HK.1,scanUp_end _ dk j k (.inr (by simp only[←HG.1];simp[hl]))]⟩⟩
         ·go_wp2_with fail;go_quiet (first|(go_at_call 283;refine Calls.quiet_of_same (au _ _ _)));go_wp2;go_roundw
          case rel=>exact⟨k+1,by go_num,om,om,HS2.1.drewN _,⟨by rw[←HK.1,scanUp_go _ dk j k hkj (by simp only[←HG.1];simp[hl])]⟩⟩
          case measure=>simp[intOf];omega
        ·have jS:decide ((k:Int)≤(j:Int))=false:=Az om;go_wp2_with fail;go_quiet (first|(go_at_call 283;refine Calls.quiet_of_same (au _ _ _)));go_wp2;go_meet;exact⟨k,rfl,hk1,hk2,HS2.1.drewN _,⟨by rw[←HK.1,scanUp_end _ dk j k (.inl hkj)]⟩⟩
      case rest=>
       obtain⟨k,rfl,hk1,hk2,hs,HK⟩:=hcut;have HS:=Aj hs;clear hs;go_upto_block 8 with fail;go_cut [11]from 99 to 152 (fun v wc=>∃m:Nat,v= .int .i64 (m:Int)∧k≤m+1∧m≤j∧Sv w b o d dk wc∧Kept (m=scanDown (fun z=>!ltInt z dk[x]!) dk k j))
       case first=>
        go_wp2;go_loopw [11] (fun vi wr=>∃m:Nat,vi= .int .i64 (m:Int)∧k≤m+1∧m≤j∧Sv w b o d dk wr∧Kept (scanDown (fun z=>!ltInt z dk[x]!) dk k m=scanDown (fun z=>!ltInt z dk[x]!) dk k j)) (fun vi _=>(intOf vi).toNat)
        case atStart=>exact⟨j,rfl,om,Nr _,HS.1,⟨rfl⟩⟩
        case round=>
         obtain⟨m,rfl,hm1,hm2,hs,HM⟩:=hrel;have hf:=hs.dQ;obtain⟨G,hG⟩:∃G:Nat→Int,∀t,G t=dk[t]!:=⟨fun t=>dk[t]!,fun _=>rfl⟩
         have hc:∀t,t<d.size→wr.cell? ⟨b,o+t,none⟩=some (.int .u64 (G t)):=fun t ht=>by rw[hG];exact hs.cell t ht
         have HG:=Aj hG;have HS2:=Aj hs;clear hs hG;by_cases hkj:k≤m
         ·have jS:(k:Int)≤(m:Int):=by omega
          have hl:ltInt (G m) (G x)=false∨ltInt (G m) (G x)=true:=by cases ltInt (G m) (G x)<;>simp
          rcases hl with hl|hl
          ·go_wp2_with fail;go_quiet (first|(go_at_call 283;refine Calls.quiet_of_same (au _ _ _)));go_wp2;go_roundw
           case rel=>exact⟨m-1,by congr 1;omega,om,om,HS2.1.drewN _,⟨by rw[←HM.1,scanDown_go _ dk k m hkj om (by simp only[←HG.1];simp[hl])]⟩⟩
           case measure=>simp[intOf];omega
          ·go_wp2_with fail;go_quiet (first|(go_at_call 283;refine Calls.quiet_of_same (au _ _ _)));go_wp2;go_meet;exact⟨m,rfl,hm1,hm2,HS2.1.drewN _,⟨by rw[←HM.1,scanDown_end _ dk k m (.inr (by simp only[←HG.1];simp[hl]))]⟩⟩
         ·have jS:decide ((k:Int)≤(m:Int))=false:=Az om;go_wp2_with fail;go_quiet (first|(go_at_call 283;refine Calls.quiet_of_same (au _ _ _)));go_wp2;go_meet;exact⟨m,rfl,hm1,hm2,HS2.1.drewN _,⟨by rw[←HM.1,scanDown_end _ dk k m (.inl hkj)]⟩⟩
       case rest=>
        obtain⟨m,rfl,hm1,hm2,hs,HM⟩:=hcut;have HS:=Aj hs;by_cases hmk:m<k
        ·have hmk':(m:Int)< (k:Int):=by omega
         have hp:=Aj (part_break ltInt x i j dk HK.1 HM.1 hmk);have hf:=hs.dQ;have MO:=Aj (hs.swp (i:=m) (j:=x) om om);obtain⟨G,hG⟩:∃G:Nat→Int,∀t,G t=dk[t]!:=⟨fun t=>dk[t]!,fun _=>rfl⟩
         have hc:∀t,t<d.size→wc.cell? ⟨b,o+t,none⟩=some (.int .u64 (G t)):=fun t ht=>by rw[hG];exact hs.cell t ht
         have HG:=Aj hG;clear hs hG;rcases(show x<m∨m=x from om)with hxm|rfl
         all_goals
          go_wp2_with fail;go_region
          all_goals go_wp2
          go_ret2;rw[←HP.1,HPT.1,←HO.1,hp.1];refine⟨rfl,?_⟩;simp only[HG.1];exact MO.1.drewN 1
        ·have hmk':¬(m:Int)< (k:Int):=by omega
         have hp:=Aj (part_go ltInt x i j dk HK.1 HM.1 om);have hlt:=part_scans_lt ltInt x i j dk om HK.1 HM.1 om;have hf:=hs.dQ;obtain⟨G,hG⟩:∃G:Nat→Int,∀t,G t=dk[t]!:=⟨fun t=>dk[t]!,fun _=>rfl⟩
         have hc:∀t,t<d.size→wc.cell? ⟨b,o+t,none⟩=some (.int .u64 (G t)):=fun t ht=>by rw[hG];exact hs.cell t ht
         have HG:=Aj hG;clear hs hG;go_wp2_with fail;go_region
         all_goals go_wp2
         go_roundw
         case rel=>
          refine⟨k+1,m-1,Sort.swp dk k m,by go_num,by congr 1;omega,om,om,om,?_,⟨by rw[←HO.1,hp.1]⟩⟩;rw[HG.1,HG.1];exact(HS.1.drewN _).swp (i:=k) (j:=m) om om
         case measure=>simp[intOf];omega
end Go.Proofs.YtjcpmfphnodaaaaGreatDoor
