/- Part 13. -/
import Derived.Test.YtongopommlghgaaGreatDoorZJAL
namespace Go.Proofs.YtongopommlghgaaGreatDoor
set_option maxRecDepth 100000
set_option maxHeartbeats 0
open _root_.Go.Proofs.Tryz
open Go.RowKit
section
open Go.Sort
theorem qa (b o c x y p n d w) (hn:d.size=n) (hH:Holds eU w b o d) (hw:b<w.heap.size) (hxp:x≤p) (hpy:p<y) (hy:y≤n) (hsz:n<4611686018427387904):
  Calls prog 307 #[.slice (some ⟨b,o,none⟩) n c,.int .i64 x,.int .i64 y,.int .i64 p] w fun e w'=>e= .returned (.int .i64 (Sort.partitionEqual ltInt d x y p).1)∧Sv w b o d (Sort.partitionEqual ltInt d x y p).2 w':=by
 subst hn;unfold Sort.partitionEqual;obtain⟨P,hP⟩:∃P,partEqLoop ltInt x (x+1) (y-1) (Sort.swp d x p)=P:=⟨_,rfl⟩
 rw[hP];have HP0:=Al hP;have HS:=Al (Sv.refl hH hw);obtain⟨G,hG⟩:∃G:Nat→Int,∀t,G t=d[t]!:=⟨fun t=>d[t]!,fun _=>rfl⟩
 have hc:∀t,t<d.size→w.cell? ⟨b,o+t,none⟩=some (.int .u64 (G t)):=fun t ht=>by rw[hG];exact HS.1.cell t ht
 have hf:=HS.1.iN;have HG:=Al hG;have HF:=Al (show Sv w b o d (Sort.swp d x p) (((w.setCell ⟨b,o+x,none⟩ (.int .u64 (G p))).setCell ⟨b,o+p,none⟩ (.int .u64 (G x))).drew)from by rw[hG,hG];exact(HS.1.swp (i:=x) (j:=p) om om).drewN 1);clear hP hG hH HS;go_enter func307,ntmps307;rcases Nat.lt_or_eq_of_le hxp with hxp|rfl
 all_goals
  go_wp2_with fail;go_region;go_wp2;clear hc hf;go_loopw [9,10] (fun vi vj wr=>∃(i j:Nat) (dk:Array Int),vi= .int .i64 (i:Int)∧vj= .int .i64 (j:Int)∧x<i∧i≤j+1∧j<y∧Sv w b o d dk wr∧Kept (partEqLoop ltInt x i j dk=P)) (fun vi vj _=>(intOf vj+1-intOf vi).toNat)
  case atStart=>exact⟨x+1,y-1,_,by go_num,by congr 1;omega,om,om,om,HF.1,HP0⟩
  case round=>
   obtain⟨i,j,dk,rfl,rfl,hi1,hij,hj1,hs,HO⟩:=hrel;have HS:=Al hs;clear hs HF;go_upto_block 2 with fail;go_cut [9]from 29 to 82 (fun v wc=>∃k:Nat,v= .int .i64 (k:Int)∧i≤k∧k≤j+1∧Sv w b o d dk wc∧Kept (k=scanUp (fun z=>!ltInt dk[x]! z) dk j i))
   case first=>
    go_wp2;go_loopw [9] (fun vi wr=>∃k:Nat,vi= .int .i64 (k:Int)∧i≤k∧k≤j+1∧Sv w b o d dk wr∧Kept (scanUp (fun z=>!ltInt dk[x]! z) dk j k=scanUp (fun z=>!ltInt dk[x]! z) dk j i)) (fun vi _=>j+1-(intOf vi).toNat)
    case atStart=>exact⟨i,rfl,Nr _,om,HS.1,⟨rfl⟩⟩
    case round=>
     obtain⟨k,rfl,hk1,hk2,hs,HK⟩:=hrel;have hf:=hs.iN;obtain⟨G,hG⟩:∃G:Nat→Int,∀t,G t=dk[t]!:=⟨fun t=>dk[t]!,fun _=>rfl⟩
     have hc:∀t,t<d.size→wr.cell? ⟨b,o+t,none⟩=some (.int .u64 (G t)):=fun t ht=>by rw[hG];exact hs.cell t ht
     have HG:=Al hG;have HS2:=Al hs;clear hs hG;by_cases hkj:k≤j
     ·have uI:(k:Int)≤(j:Int):=by omega
      have hl:ltInt (G x) (G k)=false∨ltInt (G x) (G k)=true:=by cases ltInt (G x) (G k)<;>simp
      rcases hl with hl|hl
      ·go_wp2_with fail;go_quiet (first|(go_at_call 283;refine Az (aB _ _ _)));go_wp2;go_roundw
       case rel=>exact⟨k+1,by go_num,om,om,HS2.1.drewN _,⟨by rw[←HK.1,scanUp_go _ dk j k hkj (by simp only[←HG.1];simp[hl])]⟩⟩
       case measure=>simp[intOf];omega
      ·go_wp2_with fail;go_quiet (first|(go_at_call 283;refine Az (aB _ _ _)));go_wp2;go_meet;exact⟨k,rfl,hk1,hk2,HS2.1.drewN _,⟨by rw[←HK.1,scanUp_end _ dk j k (.inr (by simp only[←HG.1];simp[hl]))]⟩⟩
     ·have uI:decide ((k:Int)≤(j:Int))=false:=AA om;go_wp2_with fail;go_quiet (first|(go_at_call 283;refine Az (aB _ _ _)));go_wp2;go_meet;exact⟨k,rfl,hk1,hk2,HS2.1.drewN _,⟨by rw[←HK.1,scanUp_end _ dk j k (.inl hkj)]⟩⟩
   case rest=>
    obtain⟨k,rfl,hk1,hk2,hs,HK⟩:=hcut;have HS:=Al hs;clear hs;go_upto_block 4 with fail;go_cut [10]from 29 to 82 (fun v wc=>∃m:Nat,v= .int .i64 (m:Int)∧k≤m+1∧m≤j∧Sv w b o d dk wc∧Kept (m=scanDown (fun z=>ltInt dk[x]! z) dk k j))
    case first=>
     go_wp2;go_loopw [10] (fun vi wr=>∃m:Nat,vi= .int .i64 (m:Int)∧k≤m+1∧m≤j∧Sv w b o d dk wr∧Kept (scanDown (fun z=>ltInt dk[x]! z) dk k m=scanDown (fun z=>ltInt dk[x]! z) dk k j)) (fun vi _=>(intOf vi).toNat)
     case atStart=>exact⟨j,rfl,om,Nr _,HS.1,⟨rfl⟩⟩
     case round=>
      obtain⟨m,rfl,hm1,hm2,hs,HM⟩:=hrel;have hf:=hs.iN;obtain⟨G,hG⟩:∃G:Nat→Int,∀t,G t=dk[t]!:=⟨fun t=>dk[t]!,fun _=>rfl⟩
      have hc:∀t,t<d.size→wr.cell? ⟨b,o+t,none⟩=some (.int .u64 (G t)):=fun t ht=>by rw[hG];exact hs.cell t ht
      have HG:=Al hG;have HS2:=Al hs;clear hs hG;by_cases hkj:k≤m
      ·have uI:(k:Int)≤(m:Int):=by omega
       have hl:ltInt (G x) (G m)=false∨ltInt (G x) (G m)=true:=by cases ltInt (G x) (G m)<;>simp
       rcases hl with hl|hl
       ·go_wp2_with fail;go_quiet (first|(go_at_call 283;refine Az (aB _ _ _)));go_wp2;go_meet;exact⟨m,rfl,hm1,hm2,HS2.1.drewN _,⟨by rw[←HM.1,scanDown_end _ dk k m (.inr (by simp only[←HG.1];simp[hl]))]⟩⟩
       ·go_wp2_with fail;go_quiet (first|(go_at_call 283;refine Az (aB _ _ _)));go_wp2;go_roundw
        case rel=>exact⟨m-1,by congr 1;omega,om,om,HS2.1.drewN _,⟨by rw[←HM.1,scanDown_go _ dk k m hkj om (by simp only[←HG.1];simp[hl])]⟩⟩
        case measure=>simp[intOf];omega
      ·have uI:decide ((k:Int)≤(m:Int))=false:=AA om;go_wp2_with fail;go_quiet (first|(go_at_call 283;refine Az (aB _ _ _)));go_wp2;go_meet;exact⟨m,rfl,hm1,hm2,HS2.1.drewN _,⟨by rw[←HM.1,scanDown_end _ dk k m (.inl hkj)]⟩⟩
    case rest=>
     obtain⟨m,rfl,hm1,hm2,hs,HM⟩:=hcut;have HS:=Al hs;by_cases hmk:m<k
     ·have hmk':(m:Int)< (k:Int):=by omega
      have hp:=Al (partEq_break ltInt x i j dk HK.1 HM.1 hmk);clear hs;go_wp2;go_ret;rw[←HO.1,hp.1];exact⟨rfl,HS.1⟩
     ·have hmk':¬(m:Int)< (k:Int):=by omega
      have hp:=Al (partEq_go ltInt x i j dk HK.1 HM.1 om);have hlt:=scans_lt ltInt x i j dk om HK.1 HM.1 om;have hf:=hs.iN;obtain⟨G,hG⟩:∃G:Nat→Int,∀t,G t=dk[t]!:=⟨fun t=>dk[t]!,fun _=>rfl⟩
      have hc:∀t,t<d.size→wc.cell? ⟨b,o+t,none⟩=some (.int .u64 (G t)):=fun t ht=>by rw[hG];exact hs.cell t ht
      have HG:=Al hG;clear hs hG;go_wp2_with fail;go_region
      all_goals go_wp2
      go_roundw
      case rel=>
       refine⟨k+1,m-1,Sort.swp dk k m,by go_num,by congr 1;omega,om,om,om,?_,⟨by rw[←HO.1,hp.1]⟩⟩;rw[HG.1,HG.1];exact(HS.1.drewN _).swp (i:=k) (j:=m) om om
      case measure=>simp[intOf];omega
theorem Gy (b o c x y p n d w) (hn:d.size=n) (hH:Holds eU w b o d) (hw:b<w.heap.size) (hxp:x≤p) (hpy:p<y) (hy:y≤n) (hsz:n<4611686018427387904):
  Calls prog 308 #[.slice (some ⟨b,o,none⟩) n c,.int .i64 x,.int .i64 y,.int .i64 p] w fun e w'=>e= .returned (.tuple #[.int .i64 (Sort.partition ltInt d x y p).1,.bool (Sort.partition ltInt d x y p).2.1])∧Sv w b o d (Sort.partition ltInt d x y p).2.2 w':=by
 subst hn;have HS:=Al (Sv.refl hH hw);obtain⟨G,hG⟩:∃G:Nat→Int,∀t,G t=d[t]!:=⟨fun t=>d[t]!,fun _=>rfl⟩
 have hc:∀t,t<d.size→w.cell? ⟨b,o+t,none⟩=some (.int .u64 (G t)):=fun t ht=>by rw[hG];exact HS.1.cell t ht
 have hf:=HS.1.iN;have HF:=Al (show Sv w b o d (Sort.swp d x p) (((w.setCell ⟨b,o+x,none⟩ (.int .u64 (G p))).setCell ⟨b,o+p,none⟩ (.int .u64 (G x))).drew)from by rw[hG,hG];exact(HS.1.swp (i:=x) (j:=p) om om).drewN 1);clear hG hH HS;obtain⟨P,hP⟩:∃P,Sort.partition ltInt d x y p=P:=⟨_,rfl⟩
 rw[hP];obtain⟨i,hi⟩:∃i,i=x+1:=⟨_,rfl⟩
 obtain⟨j,hj⟩:∃j,j=y-1:=⟨_,rfl⟩
 have hi0:(x:Int)+1=(i:Int):=om;have hj0:(y:Int)-1=(j:Int):=om;have hi1:x<i:=om;have hij:i≤j+1:=om;have hj1:j<y:=om;have HP:=Al hP;have HI:=Al hi;have HJ:=Al hj;clear hP hi hj;obtain⟨dk,hdk⟩:∃dk,dk=Sort.swp d x p:=⟨_,rfl⟩
 rw[←hdk]at HF;have HDK:=Al hdk;clear hdk;go_enter func308,ntmps308;rcases Nat.lt_or_eq_of_le hxp with hxp|rfl
 all_goals
  go_wp2_with fail;go_region;clear hc hf;have hdk:=HDK.1;have HS:=HF;go_upto_block 0 with fail;go_cut [10]from 30 (fun v wc=>∃k:Nat,v= .int .i64 (k:Int)∧i≤k∧k≤j+1∧Sv w b o d dk wc∧Kept (k=scanUp (fun z=>ltInt z dk[x]!) dk j i))
  case first=>
   go_wp2;go_loopw [10] (fun vi wr=>∃k:Nat,vi= .int .i64 (k:Int)∧i≤k∧k≤j+1∧Sv w b o d dk wr∧Kept (scanUp (fun z=>ltInt z dk[x]!) dk j k=scanUp (fun z=>ltInt z dk[x]!) dk j i)) (fun vi _=>j+1-(intOf vi).toNat)
   case atStart=>exact⟨i,rfl,Nr _,om,HS.1,⟨rfl⟩⟩
   case round=>
    obtain⟨k,rfl,hk1,hk2,hs,HK⟩:=hrel;have hf:=hs.iN;obtain⟨G,hG⟩:∃G:Nat→Int,∀t,G t=dk[t]!:=⟨fun t=>dk[t]!,fun _=>rfl⟩
    have hc:∀t,t<d.size→wr.cell? ⟨b,o+t,none⟩=some (.int .u64 (G t)):=fun t ht=>by rw[hG];exact hs.cell t ht
    have HG:=Al hG;have HS2:=Al hs;clear hs hG;by_cases hkj:k≤j
    ·have uI:(k:Int)≤(j:Int):=by omega
     have hl:ltInt (G k) (G x)=false∨ltInt (G k) (G x)=true:=by cases ltInt (G k) (G x)<;>simp
     rcases hl with hl|hl
     ·go_wp2_with fail;go_quiet (first|(go_at_call 283;refine Az (aB _ _ _)));go_wp2;go_meet;exact⟨k,rfl,hk1,hk2,HS2.1.drewN _,⟨by rw[←HK.1,scanUp_end _ dk j k (.inr (by simp only[←HG.1];simp[hl]))]⟩⟩
     ·go_wp2_with fail;go_quiet (first|(go_at_call 283;refine Az (aB _ _ _)));go_wp2;go_roundw
      case rel=>exact⟨k+1,by go_num,om,om,HS2.1.drewN _,⟨by rw[←HK.1,scanUp_go _ dk j k hkj (by simp only[←HG.1];simp[hl])]⟩⟩
      case measure=>simp[intOf];omega
    ·have uI:decide ((k:Int)≤(j:Int))=false:=AA om;go_wp2_with fail;go_quiet (first|(go_at_call 283;refine Az (aB _ _ _)));go_wp2;go_meet;exact⟨k,rfl,hk1,hk2,HS2.1.drewN _,⟨by rw[←HK.1,scanUp_end _ dk j k (.inl hkj)]⟩⟩
  case rest=>
   obtain⟨k,rfl,hk1,hk2,hs,HK⟩:=hcut;have HS:=Al hs;clear hs;go_upto_block 2 with fail;go_cut [11]from 30 (fun v wc=>∃m:Nat,v= .int .i64 (m:Int)∧k≤m+1∧m≤j∧Sv w b o d dk wc∧Kept (m=scanDown (fun z=>!ltInt z dk[x]!) dk k j))
   case first=>
    go_wp2;go_loopw [11] (fun vi wr=>∃m:Nat,vi= .int .i64 (m:Int)∧k≤m+1∧m≤j∧Sv w b o d dk wr∧Kept (scanDown (fun z=>!ltInt z dk[x]!) dk k m=scanDown (fun z=>!ltInt z dk[x]!) dk k j)) (fun vi _=>(intOf vi).toNat)
    case atStart=>exact⟨j,rfl,om,Nr _,HS.1,⟨rfl⟩⟩
    case round=>
     obtain⟨m,rfl,hm1,hm2,hs,HM⟩:=hrel;have hf:=hs.iN;obtain⟨G,hG⟩:∃G:Nat→Int,∀t,G t=dk[t]!:=⟨fun t=>dk[t]!,fun _=>rfl⟩
     have hc:∀t,t<d.size→wr.cell? ⟨b,o+t,none⟩=some (.int .u64 (G t)):=fun t ht=>by rw[hG];exact hs.cell t ht
     have HG:=Al hG;have HS2:=Al hs;clear hs hG;by_cases hkj:k≤m
     ·have uI:(k:Int)≤(m:Int):=by omega
      have hl:ltInt (G m) (G x)=false∨ltInt (G m) (G x)=true:=by cases ltInt (G m) (G x)<;>simp
      rcases hl with hl|hl
      ·go_wp2_with fail;go_quiet (first|(go_at_call 283;refine Az (aB _ _ _)));go_wp2;go_roundw
       case rel=>exact⟨m-1,by congr 1;omega,om,om,HS2.1.drewN _,⟨by rw[←HM.1,scanDown_go _ dk k m hkj om (by simp only[←HG.1];simp[hl])]⟩⟩
       case measure=>simp[intOf];omega
      ·go_wp2_with fail;go_quiet (first|(go_at_call 283;refine Az (aB _ _ _)));go_wp2;go_meet;exact⟨m,rfl,hm1,hm2,HS2.1.drewN _,⟨by rw[←HM.1,scanDown_end _ dk k m (.inr (by simp only[←HG.1];simp[hl]))]⟩⟩
     ·have uI:decide ((k:Int)≤(m:Int))=false:=AA om;go_wp2_with fail;go_quiet (first|(go_at_call 283;refine Az (aB _ _ _)));go_wp2;go_meet;exact⟨m,rfl,hm1,hm2,HS2.1.drewN _,⟨by rw[←HM.1,scanDown_end _ dk k m (.inl hkj)]⟩⟩
   case rest=>
    obtain⟨m,rfl,hm1,hm2,hs,HM⟩:=hcut;have HS:=Al hs;by_cases hmk:m<k
    ·have hmk':(m:Int)< (k:Int):=by omega
     have hp:=Al (part_first_break ltInt d x y _ HI.1 HJ.1 hdk HK.1 HM.1 hmk);have hf:=hs.iN;have HSW:=Al (hs.swp (i:=m) (j:=x) om om);obtain⟨G,hG⟩:∃G:Nat→Int,∀t,G t=dk[t]!:=⟨fun t=>dk[t]!,fun _=>rfl⟩
     have hc:∀t,t<d.size→wc.cell? ⟨b,o+t,none⟩=some (.int .u64 (G t)):=fun t ht=>by rw[hG];exact hs.cell t ht
     have HG:=Al hG;clear hs hG;rcases(show x<m∨m=x from om)with hxm|rfl
     all_goals
      go_wp2_with fail;go_region
      all_goals go_wp2
      go_ret2;rw[←HP.1,hp.1];refine⟨rfl,?_⟩;simp only[HG.1];exact HSW.1.drewN 1
    ·have hmk':¬(m:Int)< (k:Int):=by omega
     have hp:=part_first_go ltInt d x y _ HI.1 HJ.1 hdk HK.1 HM.1 om;have hlt:=part_scans_lt ltInt x i j dk om HK.1 HM.1 om;obtain⟨Q,hQ⟩:∃Q,partLoop ltInt x (k+1) (m-1) (Sort.swp dk k m)=Q:=⟨_,rfl⟩
     rw[hQ]at hp;have HPT:=Al hp;have hf:=hs.iN;obtain⟨G,hG⟩:∃G:Nat→Int,∀t,G t=dk[t]!:=⟨fun t=>dk[t]!,fun _=>rfl⟩
     have hc:∀t,t<d.size→wc.cell? ⟨b,o+t,none⟩=some (.int .u64 (G t)):=fun t ht=>by rw[hG];exact hs.cell t ht
     have HG:=Al hG;have HSW:=Al (show Sv w b o d (Sort.swp dk k m) (((wc.setCell ⟨b,o+k,none⟩ (.int .u64 (G m))).setCell ⟨b,o+m,none⟩ (.int .u64 (G k))).drew)from by rw[hG,hG];exact(hs.swp (i:=k) (j:=m) om om).drewN 1);clear hs hG hp;go_wp2_with fail;go_region;go_wp2;clear hc hf;generalize hd2:Sort.swp dk k m=d2 at*;go_loopw [10,11] (fun vi vj wr=>∃(i j:Nat) (dk:Array Int),vi= .int .i64 (i:Int)∧vj= .int .i64 (j:Int)∧x<i∧i≤j+1∧j<y∧Sv w b o d dk wr∧Kept (partLoop ltInt x i j dk=Q)) (fun vi vj _=>(intOf vj+1-intOf vi).toNat)
     case atStart=>exact⟨k+1,m-1,_,by go_num,by congr 1;omega,om,om,om,HSW.1,⟨hQ⟩⟩
     case round=>
      clear hdk hQ hd2 HSW HK HM hi1 hij hj1 hk1 hk2 hm1 hm2 hmk hmk' hlt;obtain⟨i,j,dk,rfl,rfl,hi1,hij,hj1,hs,HO⟩:=hrel;have HS:=Al hs;clear hs;go_upto_block 6 with fail;go_cut [10]from 99 to 152 (fun v wc=>∃k:Nat,v= .int .i64 (k:Int)∧i≤k∧k≤j+1∧Sv w b o d dk wc∧Kept (k=scanUp (fun z=>ltInt z dk[x]!) dk j i))
      case first=>
       go_wp2;go_loopw [10] (fun vi wr=>∃k:Nat,vi= .int .i64 (k:Int)∧i≤k∧k≤j+1∧Sv w b o d dk wr∧Kept (scanUp (fun z=>ltInt z dk[x]!) dk j k=scanUp (fun z=>ltInt z dk[x]!) dk j i)) (fun vi _=>j+1-(intOf vi).toNat)
       case atStart=>exact⟨i,rfl,Nr _,om,HS.1,⟨rfl⟩⟩
       case round=>
        obtain⟨k,rfl,hk1,hk2,hs,HK⟩:=hrel;have hf:=hs.iN;obtain⟨G,hG⟩:∃G:Nat→Int,∀t,G t=dk[t]!:=⟨fun t=>dk[t]!,fun _=>rfl⟩
        have hc:∀t,t<d.size→wr.cell? ⟨b,o+t,none⟩=some (.int .u64 (G t)):=fun t ht=>by rw[hG];exact hs.cell t ht
        have HG:=Al hG;have HS2:=Al hs;clear hs hG;by_cases hkj:k≤j
        ·have uI:(k:Int)≤(j:Int):=by omega
         have hl:ltInt (G k) (G x)=false∨ltInt (G k) (G x)=true:=by cases ltInt (G k) (G x)<;>simp
         rcases hl with hl|hl
         ·go_wp2_with fail;go_quiet (first|(go_at_call 283;refine Az (aB _ _ _)));go_wp2;go_meet;exact⟨k,rfl,hk1,hk2,HS2.1.drewN _,⟨by rw[←HK.1,scanUp_end _ dk j k (.inr (by simp only[←HG.1];simp[hl]))]⟩⟩
         ·go_wp2_with fail;go_quiet (first|(go_at_call 283;refine Az (aB _ _ _)));go_wp2;go_roundw
          case rel=>exact⟨k+1,by go_num,om,om,HS2.1.drewN _,⟨by rw[←HK.1,scanUp_go _ dk j k hkj (by simp only[←HG.1];simp[hl])]⟩⟩
          case measure=>simp[intOf];omega
        ·have uI:decide ((k:Int)≤(j:Int))=false:=AA om;go_wp2_with fail;go_quiet (first|(go_at_call 283;refine Az (aB _ _ _)));go_wp2;go_meet;exact⟨k,rfl,hk1,hk2,HS2.1.drewN _,⟨by rw[←HK.1,scanUp_end _ dk j k (.inl hkj)]⟩⟩
      case rest=>
       obtain⟨k,rfl,hk1,hk2,hs,HK⟩:=hcut;have HS:=Al hs;clear hs;go_upto_block 8 with fail;go_cut [11]from 99 to 152 (fun v wc=>∃m:Nat,v= .int .i64 (m:Int)∧k≤m+1∧m≤j∧Sv w b o d dk wc∧Kept (m=scanDown (fun z=>!ltInt z dk[x]!) dk k j))
       case first=>
        go_wp2;go_loopw [11] (fun vi wr=>∃m:Nat,vi= .int .i64 (m:Int)∧k≤m+1∧m≤j∧Sv w b o d dk wr∧Kept (scanDown (fun z=>!ltInt z dk[x]!) dk k m=scanDown (fun z=>!ltInt z dk[x]!) dk k j)) (fun vi _=>(intOf vi).toNat)
        case atStart=>exact⟨j,rfl,om,Nr _,HS.1,⟨rfl⟩⟩
        case round=>
         obtain⟨m,rfl,hm1,hm2,hs,HM⟩:=hrel;have hf:=hs.iN;obtain⟨G,hG⟩:∃G:Nat→Int,∀t,G t=dk[t]!:=⟨fun t=>dk[t]!,fun _=>rfl⟩
         have hc:∀t,t<d.size→wr.cell? ⟨b,o+t,none⟩=some (.int .u64 (G t)):=fun t ht=>by rw[hG];exact hs.cell t ht
         have HG:=Al hG;have HS2:=Al hs;clear hs hG;by_cases hkj:k≤m
         ·have uI:(k:Int)≤(m:Int):=by omega
          have hl:ltInt (G m) (G x)=false∨ltInt (G m) (G x)=true:=by cases ltInt (G m) (G x)<;>simp
          rcases hl with hl|hl
          ·go_wp2_with fail;go_quiet (first|(go_at_call 283;refine Az (aB _ _ _)));go_wp2;go_roundw
           case rel=>exact⟨m-1,by congr 1;omega,om,om,HS2.1.drewN _,⟨by rw[←HM.1,scanDown_go _ dk k m hkj om (by simp only[←HG.1];simp[hl])]⟩⟩
           case measure=>simp[intOf];omega
          ·go_wp2_with fail;go_quiet (first|(go_at_call 283;refine Az (aB _ _ _)));go_wp2;go_meet;exact⟨m,rfl,hm1,hm2,HS2.1.drewN _,⟨by rw[←HM.1,scanDown_end _ dk k m (.inr (by simp only[←HG.1];simp[hl]))]⟩⟩
         ·have uI:decide ((k:Int)≤(m:Int))=false:=AA om;go_wp2_with fail;go_quiet (first|(go_at_call 283;refine Az (aB _ _ _)));go_wp2;go_meet;exact⟨m,rfl,hm1,hm2,HS2.1.drewN _,⟨by rw[←HM.1,scanDown_end _ dk k m (.inl hkj)]⟩⟩
       case rest=>
        obtain⟨m,rfl,hm1,hm2,hs,HM⟩:=hcut;have HS:=Al hs;by_cases hmk:m<k
        ·have hmk':(m:Int)< (k:Int):=by omega
         have hp:=Al (part_break ltInt x i j dk HK.1 HM.1 hmk);have hf:=hs.iN;have HSW:=Al (hs.swp (i:=m) (j:=x) om om);obtain⟨G,hG⟩:∃G:Nat→Int,∀t,G t=dk[t]!:=⟨fun t=>dk[t]!,fun _=>rfl⟩
         have hc:∀t,t<d.size→wc.cell? ⟨b,o+t,none⟩=some (.int .u64 (G t)):=fun t ht=>by rw[hG];exact hs.cell t ht
         have HG:=Al hG;clear hs hG;rcases(show x<m∨m=x from om)with hxm|rfl
         all_goals
          go_wp2_with fail;go_region
          all_goals go_wp2
          go_ret2;rw[←HP.1,HPT.1,←HO.1,hp.1];refine⟨rfl,?_⟩;simp only[HG.1];exact HSW.1.drewN 1
        ·have hmk':¬(m:Int)< (k:Int):=by omega
         have hp:=Al (part_go ltInt x i j dk HK.1 HM.1 om);have hlt:=part_scans_lt ltInt x i j dk om HK.1 HM.1 om;have hf:=hs.iN;obtain⟨G,hG⟩:∃G:Nat→Int,∀t,G t=dk[t]!:=⟨fun t=>dk[t]!,fun _=>rfl⟩
         have hc:∀t,t<d.size→wc.cell? ⟨b,o+t,none⟩=some (.int .u64 (G t)):=fun t ht=>by rw[hG];exact hs.cell t ht
         have HG:=Al hG;clear hs hG;go_wp2_with fail;go_region
         all_goals go_wp2
         go_roundw
         case rel=>
          refine⟨k+1,m-1,Sort.swp dk k m,by go_num,by congr 1;omega,om,om,om,?_,⟨by rw[←HO.1,hp.1]⟩⟩;rw[HG.1,HG.1];exact(HS.1.drewN _).swp (i:=k) (j:=m) om om
         case measure=>simp[intOf];omega
end
section
open Go.Shelf
theorem uJ (a b:Nat) (ha:a<256) (hb:b<256):bits .or .u8 (a:Int) (b:Int)=((a|||b:Nat):Int):=by
 have hx:a|||b<2^8:=Nat.or_lt_two_pow om om
 have h1:(BitVec.ofInt 8 (a:Int)).toNat=a:=by
  rw[BitVec.ofInt_natCast,BitVec.toNat_ofNat];exact kG om
 have h2:(BitVec.ofInt 8 (b:Int)).toNat=b:=by
  rw[BitVec.ofInt_natCast,BitVec.toNat_ofNat];exact kG om
 show IntKind.u8.wrap ((BitVec.ofInt 8 (a:Int)|||BitVec.ofInt 8 (b:Int)).toNat:Int)=_;rw[BitVec.toNat_or,h1,h2,IntKind.wrap_u8];omega
theorem Sq (b:Bool) (j) (h:j≤7):b.toNat<<<j<256:=by
 rw[Cc];have h1:b.toNat≤1:=by cases b<;>simp
 have h2:2^j≤2^7:=kF Ai h;have:=Nat.mul_le_mul h1 h2;omega
theorem Wy (x m j old:Nat) (hx:x<18446744073709551616) (ho:old<256) (hj:j≤7):
  bits .or .u8 (old:Int) (bits .and .u64 ((x:Int)/2^m) 1%256*2^j%256)=((old|||((x.testBit m).toNat<<<j):Nat):Int):=by
 have e1:(x:Int)/2^m=((x/2^m:Nat):Int):=Ah;have hd:x/2^m<18446744073709551616:=El (Nat.div_le_self _ _) hx;have e2:bits .and .u64 ((x/2^m:Nat):Int) 1=(((x.testBit m).toNat:Nat):Int):=by
  rw[DJ];generalize x/2^m=q at*;rw[and_one_u64 _ om om];rcases CZ q with h|h
  ·simp[h];omega
  ·simp[h];omega
 have hs:=Sq (x.testBit m) j hj;rw[e1,e2];have e3:(((x.testBit m).toNat:Nat):Int)%256*2^j%256=(((x.testBit m).toNat<<<j:Nat):Int):=by
  rw[Cc]at hs⊢;have h1:(x.testBit m).toNat≤1:=by cases x.testBit m<;>simp
  have h4:(((x.testBit m).toNat:Nat):Int)%256=(((x.testBit m).toNat:Nat):Int):=om;rw[h4,show(2:Int)^j=((2^j:Nat):Int)from Ah,←Int.natCast_mul];omega
 rw[e3,uJ _ _ ho hs]
def acP (w:World) (k:Nat):Prop:=∀cs fr,w.heap[k]?≠some (.cells cs 5 fr)
structure Wk (base p:Nat) (w w':World):Prop where
 aX:Below base w w'
 rest:∀k,k<w.heap.size→k≠p→acP w k→w'.heap[k]? =w.heap[k]?
theorem Wk.refl (base p w):Wk base p w w:=⟨Ae _ _,fun _ _ _ _=>rfl⟩
theorem Wk.trans {base p w w1 w2} (h:Wk base p w w1) (g:Wk base p w1 w2):Wk base p w w2:=
 ⟨h.aX.trans g.aX,fun k hk hp hb=>by
  have e:=h.rest k hk hp hb;refine(g.rest k (jE hk h.aX.size) hp ?_).trans e;intro cs fr;rw[e];exact hb cs fr⟩
theorem Wk.alloc {base p w w1} (h:Wk base p w w1) (o) (hb:base≤w1.heap.size):Wk base p w (w1.alloc o):=
 ⟨h.aX.alloc hb o,fun k hk hp hn=>(Ay _ _ _ (jE hk h.aX.size)).trans (h.rest k hk hp hn)⟩
theorem av (w:World) (a v):w.grownBy (w.setCell a v) (some a.block):=
 ⟨rfl,rfl,rfl,Ah,fun k _ hne=>AQ w a v k (fun e=>hne (by rw[e]))⟩
theorem Wk.set {base p} (w k v) (hb:base≤p) (hp:p<w.heap.size):Wk base p w (w.setCell ⟨p,k,none⟩ v):=
 ⟨(Ae _ _).grown (av w ⟨p,k,none⟩ v) om (fun r e=>by cases e;exact hb),fun j hj hp _=>(av w ⟨p,k,none⟩ v).block j hj (fun e=>hp (by cases e;rfl))⟩
theorem Wk.drew {base p w w1} (h:Wk base p w w1):Wk base p w w1.drew:=⟨⟨h.aX.os,h.aX.tape,h.aX.output,h.aX.size,h.aX.block⟩,h.rest⟩
theorem Wk.row {base p w w1 A n c l} (ho:ah w base A n c l) (hg:w.grownBy w1 (ab A)) (hb:base≤w.heap.size):Wk base p w w1:=
 ⟨(Ae _ _).grown hg hb (fun r e=>(ae ho r e).1),fun j hj _ hn=>hg.block j hj (fun e=>by
  rcases ho.2 with⟨hv,_⟩|⟨g,cap,cur,hv,_,hgb,_⟩
  ·injection hv with hv1;rw[hv1]at e;cases e
  ·injection hv with hv1
   rw[hv1]at e;obtain rfl:j=g:=by simpa[ab]using e
   exact hn _ _ hgb)⟩
theorem oH {w base n c g A l} (h:ah w base A n c l) {cs t fr} (hg:w.heap[g]? =some (.cells cs t fr)) (ht:t≠5):some g≠ab A:=by
 rcases h.2 with⟨hv,_⟩|⟨g2,cap,cur,hv,_,hgb,_⟩
 ·injection hv with hv1;rw[hv1];exact fun e=>by cases e
 ·injection hv with hv1
  rw[hv1];intro e;obtain rfl:g=g2:=by simpa[ab]using e
  rw[hg]at hgb;simp only[gU,DY]at hgb;exact ht hgb.2.1
def fG (w:World) (base p:Nat) (bs:List Bool):Prop:=
 ∃A n c L,w.heap[p]? =some (.cells #[.slice A n c,.int .i64 (bs.length:Int)] 350 (0,0))∧ah w base A n c L∧Bt.Wr L bs∧base≤p
theorem fG.lt {w base p bs} (h:fG w base p bs):p<w.heap.size∧base≤p:=by
 obtain⟨A,n,c,L,h1,-,-,h2⟩:=h;exact⟨(Ge.1 h1).1,h2⟩
theorem cB (base p x n:Nat) (bs w) (h:fG w base p bs) (hx:x<18446744073709551616) (hn:n≤64) (hl:bs.length≤1000000000):
  Calls prog 191 #[.pointer (some ⟨p,0,none⟩),.int .u64 (x:Int),.int .i64 (n:Int)] w fun e w'=>e= .returned (.int .i64 0)∧fG w' base p (bs++Bt.bw n x)∧Wk base p w w':=by
 have H:=Al h;have Hx:=Al hx;have hpl:=h.lt;clear h hx;have hn0:¬(n:Int)<0:=om;have hn1:¬(64:Int)< (n:Int):=om;go_enter func191,ntmps191;go_wp2;go_loopw [19] (fun i wr=>∃k:Nat,k≤n∧i= .int .i64 k∧fG wr base p (bs++(Bt.bw n x).take k)∧Wk base p w wr) (fun i _=>n-(intOf i).toNat)
 case atStart=>exact⟨0,om,rfl,by simpa using H.1,Wk.refl _ _ _⟩
 case round=>
  obtain⟨k,hk,rfl,hW,hK⟩:=hrel;have HK:=Al hK;clear hK;by_cases hlt:k<n
  ·have hlt':(k:Int)< (n:Int):=by omega
   obtain⟨A,m,c,L,h1,ho,hwr,hb⟩:=hW;have hlen:(bs++(Bt.bw n x).take k).length=bs.length+k:=by rw[La,jD,Bt.aj];omega
   rw[hlen]at h1;obtain⟨at_,hat⟩:∃at_,at_=bs.length+k:=⟨_,rfl⟩
   rw[←hat]at h1 hlen;have acQ:(at_:Int)≤2000000000:=om;have HL:=Al hlen;clear hat hlen;have c0:=Co _ _ 0 _ _ _ h1;have c1:=Co _ _ 1 _ _ _ h1;have f0:=Fr _ _ 0 _ _ h1;have f1:=Fr _ _ 1 _ _ h1;have hm1:m≤300000000:=by have h1:=ho.len;have h2:=hwr.len;rw[HL.1]at h2;omega
   go_upto_if 28 with(fail)
   go_cut [] (fun wx=>∃A2 m2 c2 L2,wx.heap[p]? =some (.cells #[.slice A2 m2 c2,.int .i64 (at_:Int)] 350 (0,0))∧ah wx base A2 m2 c2 L2∧L2=(if at_%8=0 then L++[0]else L)∧Wk base p w wx)
   case first=>
    by_cases h8:at_%8=0
    ·have h8':((at_:Int)%8==0)=true:=by simp;omega
     have HO:=Al (show ah (wr.alloc (.cells #[.int .u8 0] 5)) base A m c L from Oa ho _);have HR:=Al (show aY (wr.alloc (.cells #[.int .u8 0] 5)) (wr.heap.size+1) (some ⟨wr.heap.size,0,none⟩) 1 1 [0]from aY.one wr 0);have hbs:base≤(wr.alloc (.cells #[.int .u8 0] 5)).heap.size:=by simp;have:=HK.1.aX.size;omega
     have H1:=Al (show(wr.alloc (.cells #[.int .u8 0] 5)).heap[p]? =_ from(Ay _ _ _ (Ge.1 h1).1).trans h1);have hpz:p< (wr.alloc (.cells #[.int .u8 0] 5)).heap.size:=(Ge.1 H1.1).1;have hne:some p≠ab A:=oH HO.1 H1.1 Ai;have H8:=Al h8;clear ho h1 h8;go_wp2_with (at_builtin;refine eB rfl (.tmp 34) (.tmp 35) rfl base A m c L rfl HO.1 _ _ _ _ _ rfl HR.1 om hbs ?_;intro A4 c4 w5 au af bT;have O4:=Al au;have G4:=Al af;have e5:=(af.block p hpz hne).trans H1.1;have c5:=Co _ _ 0 _ _ _ e5;have f5:=Fr _ _ 0 _ _ e5;have E5:=Al e5;clear au af e5);go_meet;have hz:=HK.1.aX.size;refine⟨A4,m+1,c4,L++[0],?_,?_,by rw[Ps0 H8.1],?_⟩
     ·rw[Ag w5 p 0 _ _ _ E5.1];rfl
     ·exact O4.1.apart (av w5 ⟨p,0,none⟩ _) (fun r e=>by cases e;exact .inl (fun e2=>oH O4.1 E5.1 Ai e2.symm))
     ·exact(((HK.1.alloc _ om).trans (Wk.row HO.1 G4.1 hbs))).trans (Wk.set w5 0 _ hb (Ge.1 E5.1).1)
    ·have h8':((at_:Int)%8==0)=false:=by simp;omega
     go_wp2;go_meet;exact⟨A,m,c,L,h1,ho,by rw[Ng h8],HK.1⟩
   case rest=>
    obtain⟨A2,m2,c2,L2,g1,go2,hL2,K2⟩:=hcut;clear c0 c1 f0 f1;have hpush:=fun y=>hwr.push ((Bt.bw n x).getD k false) (y:=y) (L2:=L2) (by rw[HL.1];exact hL2)
    simp only[HL.1]at hpush;have uK:at_/8<L2.length:=by
     have h2:=hwr.len;rw[HL.1]at h2;rw[hL2];split
     ·simp;omega
     ·omega
    have hm2:=go2.len;obtain⟨g,rfl,hg1,hg2⟩:=go2.pos om;have c0:wc.cell? ⟨p,0,none⟩=some (.slice (some ⟨g,0,none⟩) m2 c2):=Co _ _ 0 _ _ _ g1;have c1:wc.cell? ⟨p,1,none⟩=some (.int .i64 (at_:Int)):=Co _ _ 1 _ _ _ g1;have f1:=Fr _ _ 1 _ _ g1;obtain⟨cg,fg⟩:=go2.at_ uK;have wB:¬g=p:=fun e=>oH go2 g1 Ai (by rw[e];rfl)
    have hi1:(at_:Int)/8< (m2:Int):=om;have hi0:(0:Int)≤(at_:Int)/8:=om;have hi2:((at_:Int)/8).toNat=at_/8:=om;have G1:=Al g1;have GO:=Al go2;have H2:=Al hL2;have HM:=Al hm2;have HP:=Al hpush;obtain⟨old,hold⟩:∃old,old=L2[at_/8].toNat:=⟨_,rfl⟩
    rw[←hold]at cg;have HOLD:Kept (old=(L2.getD (at_/8) 0).toNat):=⟨by rw[hold,jN,kC uK];rfl⟩
    have HL2:=Al uK;have H1:=Al h1;clear g1 go2 hL2 hm2 hpush hm1 h1 ho hold uK hg1 hg2;have w1:IntKind.i64.wrap ((at_:Int)/8)=(at_:Int)/8:=by rw[AZ];omega
    have w2:IntKind.i64.wrap ((n:Int)-1)=(n:Int)-1:=by rw[AZ];omega
    have w3:IntKind.i64.wrap ((n:Int)-1-(k:Int))=(n:Int)-1-(k:Int):=by rw[AZ];omega
    have w4:(at_:Int).tmod 8=(at_:Int)%8:=Int.tmod_eq_emod_of_nonneg om;have w6:(7-(at_:Int)%8).toNat=7-at_%8:=om;have w7:¬7-(at_:Int)%8<0:=om;have w5:IntKind.i64.wrap (7-(at_:Int)%8)=7-(at_:Int)%8:=by rw[AZ];omega
    go_upto_region 10 with(fail)
    refine Du 31 kr kr ?_;simp only[Cb,Eg,BP,Ct]
    repeat still_step
    refine wpStill_nil ?_
    change wpList _ _ _ _ _ wc.drew
    go_wp2;go_roundw
    case rel=>
     have hold:old<256:=by rw[HOLD.1];exact UInt8.toNat_lt _
     rw[Wy x (n-1-k) (7-at_%8) old Hx.1 hold om];have hkb:(Bt.bw n x).getD k false=x.testBit (n-1-k):=by
      have hk':k< (Bt.bw n x).length:=by rw[Bt.aj];exact hlt
      rw[jN,kC hk',Bt.Jk];rfl
     have hy:(UInt8.ofNat (old|||((x.testBit (n-1-k)).toNat<<< (7-at_%8)))).toNat=old|||((x.testBit (n-1-k)).toNat<<< (7-at_%8)):=by
      rw[DR];exact kG (Nat.or_lt_two_pow (n:=8) hold (Sq _ _ om))
     obtain⟨-,hw2⟩:=HP.1 (UInt8.ofNat (old|||((x.testBit (n-1-k)).toNat<<< (7-at_%8)))) (by rw[hkb,←HOLD.1];exact hy);rw[←hy];generalize UInt8.ofNat (old|||((x.testBit (n-1-k)).toNat<<< (7-at_%8)))=y at*;have gs:=av wc ⟨g,at_/8,none⟩ (.int .u8 (y.toNat:Int));have hpz:=(Ge.1 G1.1).1;have e1:(wc.setCell ⟨g,at_/8,none⟩ (.int .u8 (y.toNat:Int))).heap[p]? =_:=(gs.block p hpz (fun e=>wB (by cases e;rfl))).trans G1.1;have o1:=GO.1.set (at_/8) y;have hK2:=K2.trans (Wk.row GO.1 gs (by have:=K2.aX.size;omega));refine⟨k+1,om,by go_num,⟨some ⟨g,0,none⟩,m2,c2,L2.set (at_/8) y,?_,?_,?_,hb⟩,(hK2.trans (Wk.set _ 1 _ hb (Ge.1 e1).1)).drew⟩
     ·have hl3:(bs++(Bt.bw n x).take (k+1)).length=at_+1:=by
       have:=HL.1;simp only[La,jD,Bt.aj]at this⊢;omega
      rw[hl3];show((wc.setCell ⟨g,at_/8,none⟩ (.int .u8 (y.toNat:Int))).setCell ⟨p,1,none⟩ (.int .i64 ((at_:Int)+1))).heap[p]? =_;rw[Ag _ p 1 _ _ _ e1];rfl
     ·have o2:=ah.apart (row:=some p) o1 (av _ ⟨p,1,none⟩ (.int .i64 ((at_:Int)+1))) (fun r e=>by cases e;exact .inl (fun e2=>oH o1 e1 Ai e2.symm));exact o2
     ·rw[Af]at hw2;have:(Bt.bw n x).take (k+1)=(Bt.bw n x).take k++[(Bt.bw n x).getD k false]:=by
       have hk':k< (Bt.bw n x).length:=by rw[Bt.aj];exact hlt
       rw[Ts hk',jN,kC hk'];rfl
      rw[this];exact hw2
    case measure=>simp[intOf];omega
  ·obtain rfl:k=n:=by omega
   have hW':fG wr base p (bs++Bt.bw k x):=by rwa[jc (by rw[Bt.aj];omega)]at hW
   go_wp2;go_ret;exact⟨rfl,hW',HK.1⟩
end
section
open Go.Sort Go.Shelf
section
variable {w wr w2:World} {b o:Nat} {d0 d d':Array Int}
theorem Sv.alloc (h:Sv w b o d0 d wr) (ob):Sv w b o d0 d (wr.alloc ob):=by
 obtain⟨n,os,hw⟩:=h.at_;exact⟨h.h0,h.lt,h.sz,n,os++ #[ob],by rw[hw,alloc_eq_grow,grow_grow]⟩
theorem Sv.fresh (h:Sv w b o d0 d wr) {g} (hg:w.heap.size≤g) (k v):Sv w b o d0 d (wr.setCell ⟨g,k,none⟩ v):=by
 obtain⟨n,os,hw⟩:=h.at_;refine⟨h.h0,h.lt,h.sz,n,os.modify (g-w.heap.size) (onCells (·.setIfInBounds k v)),?_⟩;rw[hw,setCell_eq,mapBlock_grow_new _ _ _ _ (by simpa using hg)];simp
end
theorem aae (g X) (hX:X<18446744073709551616) (w) (hc:w.cell? ⟨g,0,none⟩=some (.int .u64 X)) (hf:w.frozen? ⟨g,0,none⟩=false):
  Calls prog 267 #[.pointer (some ⟨g,0,none⟩)] w fun e w'=>e= .returned (.int .u64 (xorNextN X:Nat))∧w'=(w.setCell ⟨g,0,none⟩ (.int .u64 (xorNextN X:Nat))).drewN 3:=
 AnyF.xorshift_Next {Tryz.sortL with} g 0 X hX w hc hf
theorem aaf (n:Nat) (hn:n<4611686018427387904) (w):
  Calls prog 266 #[.int .i64 n] w fun e w'=>e= .returned (.int .u64 ((1<<<bitsLen n:Nat):Int))∧w'=w:=
 AnyF.nextPowerOfTwo {Tryz.sortL with} n hn w
theorem Sr (n:Nat) (hn:n<18446744073709551616) (w):
  Calls prog 185 #[.int .u64 (n:Int)] w fun e w'=>e= .returned (.int .i64 (bitsLen n:Nat))∧w'=w:=by
 have h:=Any.bits_Len (P:=prog) (ρ:=Tryz.sortS_ren) {Tryz.sortS with} (n:Int) w om om;rw[lZ,bitLen_eq _ hn]at h;exact h
theorem ry (b o c x y n d w) (hn:d.size=n) (hH:Holds eU w b o d) (hw:b<w.heap.size) (hxy:x≤y) (hy:y≤n) (hsz:n<4611686018427387904):
  Calls prog 303 #[.slice (some ⟨b,o,none⟩) n c,.int .i64 x,.int .i64 y] w fun e w'=>e= .returned (.tuple #[])∧Sv w b o d (Sort.breakPatterns d x y) w':=by
 subst hn;obtain⟨L,hL⟩:∃L,y=x+L:=⟨y-x,om⟩
 have hLi:(y:Int)-(x:Int)=(L:Int):=om;have hxL:x+L≤d.size:=om;by_cases h8:8≤L
 ·have h8':(8:Int)≤(L:Int):=by omega
  have hbp:Sort.breakPatterns d x y=bpRest x L (1<<<bitsLen L) (x+L/4*2-1) 3 0 (UInt64.ofNat L,d):=by rw[hL];exact breakPatterns_eq d x L h8
  rw[hbp];clear hbp;obtain⟨M,hM⟩:∃M:Nat,M=1<<<bitsLen L:=⟨_,rfl⟩
  have hM1:1≤M:=by rw[hM,Nat.one_shiftLeft];exact Nat.two_pow_pos _
  have hM2:M≤2*L:=by rw[hM,Nat.one_shiftLeft];exact two_pow_bitsLen_le om
  have NP:=Al (aaf L om);rw[←hM]at NP⊢;have hS0:Sv w b o d d (w.alloc (.cells #[.int .u64 (L:Int)] 388)):=(Sv.refl hH hw).alloc _;have hl0:(UInt64.ofNat L).toNat=L:=by simp;omega
  have hR0:(w.alloc (.cells #[.int .u64 (L:Int)] 388)).heap[w.heap.size]? =some (.cells #[.int .u64 (((UInt64.ofNat L).toNat:Nat):Int)] 388 (0,0)):=by rw[hl0];exact Aw w _
  have S0:=Al hS0;have R0:=Al hR0;obtain⟨I0,hI0⟩:∃I0,I0=x+L/4*2-1:=⟨_,rfl⟩
  have hI1:(x:Int)+(L:Int)/4*2-1=(I0:Int):=om;have hI2:(x:Int)+(L:Int)/4*2+1=(I0:Int)+2:=om;have hI3:x≤I0:=om;have hI4:I0+2<x+L:=om;rw[←hI0];clear hM hI0 hS0 hR0 hl0 hL hH;go_enter func303,ntmps303;go_wp2_with (go_at_call 266;refine(NP.1 _).mono ?_;rintro e w' ⟨rfl,rfl⟩);go_loopw [9] (fun vi wr=>∃(t:Nat) (r:UInt64) (dk:Array Int),vi= .int .i64 ((I0+t:Nat):Int)∧t≤3∧Sv w b o d dk wr∧Kept (wr.heap[w.heap.size]? =some (.cells #[.int .u64 (r.toNat:Int)] 388 (0,0)))∧
   Kept (bpRest x L M I0 (3-t) t (r,dk)=bpRest x L M I0 3 0 (UInt64.ofNat L,d))) (fun vi _=>I0+4-(intOf vi).toNat)
  case atStart=>exact⟨0,UInt64.ofNat L,d,rfl,om,S0.1,R0,⟨rfl⟩⟩
  case round=>
   obtain⟨t,r,dk,rfl,ht,hs,HR,HO⟩:=hrel;clear S0 R0;by_cases ht3:t=3
   ·subst ht3;have hg:¬(((I0+3:Nat):Int)≤(I0:Int)+2):=om;have HS:=Al hs;clear hs;go_wp2;go_end0;refine⟨rfl,?_⟩;rw[←HO.1];exact HS.1
   ·have hg:(((I0+t:Nat):Int)≤(I0:Int)+2):=by omega
    have hgs:w.heap.size≠b:=om;obtain⟨i,hi⟩:∃i,i=I0+t:=⟨_,rfl⟩
    obtain⟨R,hRr⟩:∃R:Nat,R=r.toNat:=⟨_,rfl⟩
    have lR:R<18446744073709551616:=by rw[hRr];exact r.toNat_lt
    obtain⟨R',hR'⟩:∃R':Nat,R'=xorNextN R:=⟨_,rfl⟩
    have lR':R'<18446744073709551616:=by rw[hR'];exact xorNextN_lt R lR
    obtain⟨O,hO⟩:∃O:Nat,O=R'&&& (M-1):=⟨_,rfl⟩
    have lO:O≤M-1:=by rw[hO];exact Nat.and_le_right
    have eAnd:bits .and .u64 (R':Int) ((M:Int)-1)=(O:Int):=by
     rw[show((M:Int)-1)=((M-1:Nat):Int)from om,bits_and_u64_nat _ _ lR' om,hO]
    have hrow:=HR.1;rw[←hRr]at hrow;have k0:=Co _ _ 0 _ _ _ hrow;have f0:=Fr _ _ 0 _ _ hrow;have HN:=Al (aae w.heap.size R lR wr k0 f0);rw[←hR']at HN;have hrx:R'=(xorNext r).toNat:=by rw[hR',hRr,xorNext_toNat]
    obtain⟨G,hG⟩:∃G:Nat→Int,∀t,G t=dk[t]!:=⟨fun t=>dk[t]!,fun _=>rfl⟩
    have hs1:=(hs.fresh Aj 0 (.int .u64 (R':Int))).drewN 3;have Su:((wr.setCell ⟨w.heap.size,0,none⟩ (.int .u64 (R':Int))).drewN 3).heap[w.heap.size]? =some (.cells #[.int .u64 (((xorNext r).toNat:Nat):Int)] 388 (0,0)):=by
     rw[←hrx];exact Ag _ _ _ _ _ _ hrow
    have hf:∀t,t<d.size→((wr.setCell ⟨w.heap.size,0,none⟩ (.int .u64 (R':Int))).drewN 3).frozen? ⟨b,o+t,none⟩=false:=hs1.iN;have hc:∀t,t<d.size→((wr.setCell ⟨w.heap.size,0,none⟩ (.int .u64 (R':Int))).drewN 3).cell? ⟨b,o+t,none⟩=some (.int .u64 (G t)):=fun t ht=>by rw[hG];exact hs1.cell t ht
    obtain⟨W1,hW1⟩:∃W1,W1=(wr.setCell ⟨w.heap.size,0,none⟩ (.int .u64 (R':Int))).drewN 3:=⟨_,rfl⟩
    rw[←hW1]at hs1 Su hf hc HN;have Ob:=Al hs1;have HR1:=Al Su;have HG:=Al hG;have HX:=Al hrx;have HOO:=Al hO;rw[←hi];have HI:=Al hi;have hii:(i:Int)=((I0+t:Nat):Int):=om;rw[←hii]at hg;have hi5:x≤i∧i<x+L:=om;clear hs hs1 hrow Su hG hW1 hrx hO hR' hRr k0 f0 hi hii HR;obtain⟨P,hP⟩:∃P,P=if O≥L then O-L else O:=⟨_,rfl⟩
    have hPL:P<L:=by rw[hP];split<;>omega
    have HST:=Al (fun h3:t<3=>bp_step x L M I0 t r dk P h3 (by rw[←HX.1,←HOO.1,hP]));have hcs:(L≤O∧P=O-L)∨(¬L≤O∧P=O):=by rw[hP];split<;>omega
    clear hP;have ha:i=x+P∨i≠x+P:=Decidable.em _;rcases hcs with⟨hLO,hPO⟩|⟨hLO,hPO⟩
    all_goals
     have alf:decide ((L:Int)≤(O:Int))=decide (L≤O):=Ah;have aga:(if L≤O then(O:Int)-(L:Int)else(O:Int))=(P:Int):=by split<;>omega
     simp only[hLO,if_true,Dv]at aga;clear hPO;rcases ha with ha|ha
     all_goals
      go_wp2_with (go_at_call 267;refine HN.1.mono ?_;rintro e w' ⟨rfl,rfl⟩);have HS2:=Al ((Ob.1.swp (i:=i) (j:=x+P) om om).drewN 1);have HR2:=Al (((av _ ⟨b,o+(x+P),none⟩ (.int .u64 dk[i]!)).block _ (Ge.1 (((av _ ⟨b,o+i,none⟩ (.int .u64 dk[x+P]!)).block _ (Ge.1 HR1.1).1 (fun e=>hgs (Oj e))).trans HR1.1)).1 (fun e=>hgs (Oj e))).trans (((av _ ⟨b,o+i,none⟩ (.int .u64 dk[x+P]!)).block _ (Ge.1 HR1.1).1 (fun e=>hgs (Oj e))).trans HR1.1));have hm:Kept (i=I0+t∧t<3):=⟨HI.1,om⟩
      go_region
      all_goals go_wp2
      go_roundw
      case rel=>
       refine⟨t+1,xorNext r,Sort.swp dk i (x+P),?_,om,?_,⟨?_⟩,⟨?_⟩⟩
       ·have:=hm.1.1;congr 1;omega
       ·(try rw[←ha]);simp only[HG.1];(first|exact HS2.1|(rw[ha]at HS2;exact HS2.1)|(rw[←ha]at HS2;exact HS2.1))
       ·(try rw[←ha]);simp only[HG.1];(first|exact HR2.1|(rw[ha]at HR2;exact HR2.1)|(rw[←ha]at HR2;exact HR2.1))
       ·rw[←HO.1,HST.1 hm.1.2,hm.1.1]
      case measure=>have:=hm.1.1;simp[intOf];omega
 ·have h8':¬(8:Int)≤(L:Int):=by omega
  have hv:Sort.breakPatterns d x y=d:=by rw[hL];unfold Sort.breakPatterns;simp only[Nat.add_sub_cancel_left];rw[Ng h8]
  rw[hv];have HS:=Al (Sv.refl hH hw);clear hH hv hL;go_enter func303,ntmps303;go_wp2;go_end0;exact⟨rfl,HS.1⟩
end
section
open Go.Sort Go.Shelf
theorem Sv.re {w wr b o d0 d d1} (h:Sv w b o d0 d wr) (e:d=d1):Sv w b o d0 d1 wr:=e▸h
theorem Oc:∀(N b o c x y lim n:Nat) (d) (w),y-x<N→d.size=n→Holds eU w b o d→b<w.heap.size→x≤y→y≤n→n<4611686018427387904→lim<4611686018427387904→Sort.Below ltInt x y d→
  Calls prog 296 #[.slice (some ⟨b,o,none⟩) n c,.int .i64 x,.int .i64 y,.int .i64 lim] w fun e w'=>e= .returned (.tuple #[])∧Sv w b o d (Sort.pdq ltInt d x y lim true true) w':=by
 intro N
 induction N with
 |zero=>intro _ _ _ _ _ _ _ _ _ h;exact absurd h (Nat.not_lt_zero _)
 |succ N ih=>
  intro b o c x0 y0 aag n d w hN hn hH hw agb hy0 hsz aiz hB0;subst hn;have IH:=Al ih;have S0:=Al (Sv.refl hH hw);clear ih hH;obtain⟨P,hP⟩:∃P,Sort.pdq ltInt d x0 y0 aag true true=P:=⟨_,rfl⟩
  rw[hP];have HP0:=Al hP;clear hP;go_enter func296,ntmps296;go_wp2;go_loopw [1,2,3,8,9] (fun v1 v2 v3 v8 v9 wr=>∃(x y lim:Nat) (wb wp:Bool) (dk:Array Int),v1= .int .i64 (x:Int)∧v2= .int .i64 (y:Int)∧v3= .int .i64 (lim:Int)∧v8= .bool wb∧v9= .bool wp∧x≤y∧y≤d.size∧y-x≤y0-x0∧lim≤aag∧Sort.Below ltInt x y dk∧Sv w b o d dk wr∧Kept (Sort.pdq ltInt dk x y lim wb wp=P)) (fun v1 v2 _ _ _ _=>(intOf v2-intOf v1).toNat)
  case atStart=>exact⟨x0,y0,aag,true,true,d,rfl,rfl,rfl,rfl,rfl,agb,hy0,Nr _,Nr _,hB0,S0.1,HP0⟩
  case round=>
   clear S0 HP0 hB0;obtain⟨x,y,lim,wb,wp,dk,rfl,rfl,rfl,rfl,rfl,hxy,hy,hkN,hlim,hBel,hs,HO⟩:=hrel;have HS:=Al hs;have hsz2:=hs.sz;by_cases h12:y-x≤12
   ·have h12z:(y:Int)-(x:Int)≤12:=by omega
    have hc:=Al (ru b o c x y dk wr hs.holds.1 hs.holds.2 hxy om om);rw[hsz2]at hc;have hp:=Al (show P=Sort.insertionSort ltInt dk x y by rw[←HO.1,pdq_small h12]);clear hs hBel hsz2;go_wp2_with (go_at_call 301;refine hc.1.mono ?_;rintro e w1 ⟨rfl,h1⟩;have H1:=Al h1;clear h1)
    (try simp only[Exit.inBlock,Exit.then]);refine Bg (Cm rfl _ _ _) rfl ?_
    exact⟨rfl,(HS.1.step H1.1).re hp.1.symm⟩
   ·have h12z:¬((y:Int)-(x:Int)≤12):=by omega
    by_cases hl0:lim=0
    ·subst hl0;have hc:=Al (JS b o c x y dk wr hs.holds.1 hs.holds.2 hxy om om);rw[hsz2]at hc;have hp:=Al (show P=Sort.heapSort ltInt dk x y by rw[←HO.1,pdq_heap h12 rfl]);clear hs hBel hsz2;go_wp2_with (go_at_call 302;refine hc.1.mono ?_;rintro e w1 ⟨rfl,h1⟩;have H1:=Al h1;clear h1)
     (try simp only[Exit.inBlock,Exit.then]);refine Bg (Cm rfl _ _ _) rfl ?_
     exact⟨rfl,(HS.1.step H1.1).re hp.1.symm⟩
    ·have hl0z:¬((lim:Int)=0):=by omega
     obtain⟨s1,B1,hc1,s2,B2,hpv,s3,B3⟩:=rd_facts (limit:=lim) (wb:=wb) (wp:=wp) swo_ltInt partialInsertionSort_holds reverseRange_holds (show x<y from om) (show y≤dk.size from om) hBel;have hrl:=rd_lim_le (lt:=ltInt) (d:=dk) (a:=x) (b:=y) (limit:=lim) (wb:=wb) (wp:=wp);have acR:=Al (pdq_done (lt:=ltInt) (d:=dk) (wb:=wb) (wp:=wp) h12 hl0);have HEq:=Al (pdq_eq (lt:=ltInt) (d:=dk) (wb:=wb) (wp:=wp) h12 hl0);have acS:=Al (pdq_left (lt:=ltInt) (d:=dk) (wb:=wb) (wp:=wp) h12 hl0);have aah:=Al (pdq_right (lt:=ltInt) (d:=dk) (wb:=wb) (wp:=wp) h12 hl0);have RC:=Al (rd_c (lt:=ltInt) (d:=dk) (a:=x) (b:=y) (limit:=lim) (wb:=wb) (wp:=wp));have RD:=Al (rd_dec (lt:=ltInt) (d:=dk) (a:=x) (b:=y) (limit:=lim) (wb:=wb) (wp:=wp));have RN:=Al (rd_not (lt:=ltInt) (d:=dk) (a:=x) (b:=y) (limit:=lim) (wb:=wb) (wp:=wp));have RY:=Al (rd_pi_yes (lt:=ltInt) (d:=dk) (a:=x) (b:=y) (limit:=lim) (wb:=wb) (wp:=wp));have RO:=Al (rd_pi_no (lt:=ltInt) (d:=dk) (a:=x) (b:=y) (limit:=lim) (wb:=wb) (wp:=wp));have R1:(wb=false→(rd ltInt dk x y lim wb wp).d1=Sort.breakPatterns dk x y∧(rd ltInt dk x y lim wb wp).lim=lim-1)∧(wb=true→(rd ltInt dk x y lim wb wp).d1=dk∧(rd ltInt dk x y lim wb wp).lim=lim):=⟨fun h=>by subst h;exact rd_false,fun h=>by subst h;exact rd_true⟩
     generalize rd ltInt dk x y lim wb wp=R at*;have hz1:R.d1.size=d.size:=s1.trans hsz2;have hz2:R.d2.size=d.size:=s2.trans hsz2;have hz3:R.pi.1.size=d.size:=s3.trans hsz2;have HR1:=Al R1;have KB1:=Al B1;have UE:=Al B2;have KB3:=Al B3;clear R1 B1 B2 B3 s1 s2 s3 hBel hs;go_upto_if 35 with fail;go_cut [3]from 19 (fun v wc=>v= .int .i64 (R.lim:Int)∧Sv w b o d R.d1 wc)
     case first=>
      cases wb
      ·have hc:=Al (ry b o c x y d.size dk wr hsz2 HS.1.holds.1 HS.1.holds.2 hxy om hsz);have hr:=Al (HR1.1.1 rfl);go_wp2_with (go_at_call 303;refine hc.1.mono ?_;rintro e w1 ⟨rfl,h1⟩;have H1:=Al h1;clear h1);go_meet
       case rel=>exact⟨by rw[hr.1.2];congr 1;omega,(HS.1.step H1.1).re hr.1.1.symm⟩
      ·have hr:=Al (HR1.1.2 rfl);go_wp2_with fail;go_meet
       case rel=>exact⟨by rw[hr.1.2],HS.1.re hr.1.1.symm⟩
     case rest=>
      obtain⟨rfl,hs⟩:=hcut;clear HS;have HS:=Al hs;have hc:=Al (wu b o c x y d.size R.d1 wc hz1 hs.holds.1 hs.holds.2 om hy hsz);rw[←RC.1]at hc;clear hs;go_upto_if 50 with(go_at_call 304;refine hc.1.mono ?_;rintro e w1 ⟨rfl,h1⟩;have H1:=Al (HS.1.step h1);clear h1)
      clear HS hc;go_cut [11,12]from 19 (fun v11 v12 wc=>v11= .int .i64 (R.pivot:Int)∧v12= .int .i64 (hintCode R.hint)∧Sv w b o d R.d2 wc)
      case first=>
       by_cases hh:R.c.2= .decreasing
       ·have hcode:hintCode R.c.2=2:=by rw[hh];rfl
        have hr:=Al (RD.1 hh);have hc:=Al (uD b o c x y R.d1 w1 H1.1.holds.1 H1.1.holds.2 hxy om om);rw[hz1]at hc;go_wp2_with (go_at_call 305;refine hc.1.mono ?_;rintro e w2 ⟨rfl,h2⟩;have H2:=Al (H1.1.step h2);clear h2);go_meet
        case rel=>exact⟨by rw[hr.1.2.1];congr 1;omega,by rw[hr.1.2.2];rfl,H2.1.re hr.1.1.symm⟩
       ·have hcode:¬hintCode R.c.2=2:=fun h=>hh (hintCode_two h)
        have hr:=Al (RN.1 hh);go_wp2_with fail;go_meet
        case rel=>exact⟨by rw[hr.1.2.1],by rw[hr.1.2.2],H1.1.re hr.1.1.symm⟩
      case rest=>
       obtain⟨rfl,rfl,hs⟩:=hcut;clear H1;have HS:=Al hs;clear hs;go_upto_region 15 with fail;go_cut [12,68]from 19 (fun v12 v68 wx=>v12= .int .i64 (hintCode R.hint)∧v68= .bool (wb&&wp&&decide (R.hint= .increasing))∧wx=wc)
       case first=>
        cases wb<;>cases wp<;>cases hh3:R.hint<;>
         (have hcode3:=congrArg hintCode hh3
          simp only[hintCode]at hcode3;go_wp2_with fail;go_meet;exact⟨by simp[hh3,hintCode],by simp[hh3,hintCode],rfl⟩)
       case rest=>
        obtain⟨rfl,rfl,rfl⟩:=hcut;go_upto_if 68 with fail;go_cut []from 19 (fun wx=>R.pi.2=false∧Sv w b o d R.pi.1 wx)
        case first=>
         cases h68:(wb&&wp&&decide (R.hint= .increasing))
         ·have epi:=Al (RO.1 h68);go_wp2_with fail;go_meet
          case rel=>exact⟨by rw[epi.1],HS.1.re (by rw[epi.1])⟩
         ·have epi:=RY.1 h68;have hc:=zD b o c x y d.size R.d2 wc hz2 HS.1.holds.1 HS.1.holds.2 om hy hsz;rw[←epi]at hc;obtain⟨q,hq⟩:∃q,R.pi.2=q:=⟨_,rfl⟩
          rw[hq]at hc;have HC:=Al hc;have HQ:=Al hq;clear hc epi hq;cases q
          ·go_wp2_with (go_at_call 306;refine HC.1.mono ?_;rintro e w4 ⟨rfl,h4⟩;have H4:=Al (HS.1.step h4);clear h4);go_meet
           case rel=>exact⟨HQ.1,H4.1⟩
          ·have hp:=Al (show P=R.pi.1 by rw[←HO.1,acR.1 HQ.1]);go_wp2_with (go_at_call 306;refine HC.1.mono ?_;rintro e w4 ⟨rfl,h4⟩;have H4:=Al (HS.1.step h4);clear h4)
           (try simp only[Exit.inBlock,Exit.then]);refine Bg (Cm rfl _ _ _) rfl ?_
           exact⟨rfl,H4.1.re hp.1.symm⟩
        case rest=>
         obtain⟨hp2,hs⟩:=hcut;clear HS;have HP2:=Al hp2;have HS:=Al hs;clear hp2;have hf:=hs.iN;obtain⟨G,hG⟩:∃G:Nat→Int,∀t,G t=R.pi.1[t]!:=⟨fun t=>R.pi.1[t]!,fun _=>rfl⟩
         have hc:∀t,t<d.size→wc.cell? ⟨b,o+t,none⟩=some (.int .u64 (G t)):=fun t ht=>by rw[hG];exact hs.cell t ht
         have HG:=Al hG;clear hs hG;go_upto_region 17 with fail;go_cut [87]from 19 (fun v wx=>v= .bool (decide (x>0)&&!ltInt (G (x-1)) (G R.pivot))∧Sv w b o d R.pi.1 wx)
         case first=>
          rcases lY x with hx0|hx0
          ·have hx1:decide ((x:Int)>0)=false:=AA om;go_quiet (first|(go_at_call 283;refine Az (aB _ _ _)));go_wp2_with fail;go_meet
           case rel=>exact⟨by simp[hx0],HS.1.drewN _⟩
          ·have hx1:(x:Int)>0:=by omega
           go_quiet (first|(go_at_call 283;refine Az (aB _ _ _)));go_wp2_with fail;go_meet
           case rel=>exact⟨by simp[hx0],HS.1.drewN _⟩
         case rest=>
          obtain⟨rfl,hs⟩:=hcut;clear HS hc hf;have HS:=Al hs;cases h87:(decide (x>0)&&!ltInt (G (x-1)) (G R.pivot))
          ·have Od:(decide (x>0)&&!ltInt R.pi.1[x-1]! R.pi.1[R.pivot]!)=false:=by rw[←HG.1,←HG.1];exact h87
           obtain⟨T,hT⟩:∃T,Sort.partition ltInt R.pi.1 x y R.pivot=T:=⟨_,rfl⟩
           have hc:=Gy b o c x y R.pivot d.size R.pi.1 wc hz3 hs.holds.1 hs.holds.2 hpv.1 hpv.2 hy hsz;obtain⟨r1,r2,r3,r4,r5,r6,r7⟩:=round_part swo_ltInt (partition_holds ltInt) hpv.1 hpv.2 (show y≤R.pi.1.size from om) KB3.1 (mid:=T.1) (ap:=T.2.1) (d4:=T.2.2) hT;have HL:=acS.1 HP2.1 Od;have HRt:=aah.1 HP2.1 Od;rw[hT]at hc HL HRt;obtain⟨mid,ap,d4⟩:=T;simp only[]at hc r1 r2 r3 r4 r5 r6 r7 HL HRt;have HC:=Al hc;have HL:=Al (HL ⟨r1,r2⟩);have HRt:=Al (HRt ⟨r1,r2⟩);have yu:d4.size=d.size:=r3.trans hz3;have K6:=Al r6;have K7:=Al r7;have K4:=Al r4;have K5:=Al r5;clear hc hs hT r4 r5 r6 r7;go_upto_if 113 with(go_at_call 308;refine HC.1.mono ?_;rintro e w7 ⟨rfl,h7⟩;have H7:=Al (HS.1.step h7);clear h7)
           by_cases h4:mid-x<y-mid
           ·have h4z:(mid:Int)-(x:Int)< (y:Int)-(mid:Int):=by omega
            have hih:=Al (IH.1 b o c x mid R.lim d.size d4 w7 om yu H7.1.holds.1 H7.1.holds.2 r1 om hsz om K4.1);obtain⟨pL,sL⟩:=pdq_sorts ltInt swo_ltInt d4 x mid R.lim true true r1 om K4.1;have hB:=Al (K6.1 _ pL sL).1;have hO2:=Al (HL.1 h4);have he:=Al (eighth r1 (show x≤y from hxy) (p:=mid));clear pL sL;go_wp2_with (go_at_call 296;refine hih.1.mono ?_;rintro e w8 ⟨rfl,h8⟩;have H8:=Al (H7.1.step h8);clear h8);go_roundw
            case rel=>exact⟨mid+1,y,R.lim,decide (mid-x≥(y-x)/8),ap,_,by go_num,rfl,rfl,congrArg Value.bool he.1,rfl,om,hy,om,om,hB.1,H8.1,⟨by rw[←HO.1,hO2.1]⟩⟩
            case measure=>simp[intOf];omega
           ·have h4z:¬((mid:Int)-(x:Int)< (y:Int)-(mid:Int)):=by omega
            have hih:=Al (IH.1 b o c (mid+1) y R.lim d.size d4 w7 om yu H7.1.holds.1 H7.1.holds.2 om hy hsz om K5.1);rw[show((mid+1:Nat):Int)=(mid:Int)+1 from om]at hih;obtain⟨pL,sL⟩:=pdq_sorts ltInt swo_ltInt d4 (mid+1) y R.lim true true om om K5.1;have hB:=Al (K7.1 _ pL sL).1;have hO2:=Al (HRt.1 h4);have he:=Al (eighth (show mid≤y from om) (show x≤y from hxy) (p:=y) (q:=mid));clear pL sL;go_wp2_with (go_at_call 296;refine hih.1.mono ?_;rintro e w8 ⟨rfl,h8⟩;have H8:=Al (H7.1.step h8);clear h8);go_roundw
            case rel=>exact⟨x,mid,R.lim,decide (y-mid≥(y-x)/8),ap,_,rfl,rfl,rfl,congrArg Value.bool he.1,rfl,r1,om,om,om,hB.1,H8.1,⟨by rw[←HO.1,hO2.1]⟩⟩
            case measure=>simp[intOf];omega
          ·have Od:(decide (x>0)&&!ltInt R.pi.1[x-1]! R.pi.1[R.pivot]!)=true:=by rw[←HG.1,←HG.1];exact h87
           have Wz:=Od;simp only[DK,decide_eq_true_eq,Bool.not_eq_true']at Wz;obtain⟨T,hT⟩:∃T,Sort.partitionEqual ltInt R.pi.1 x y R.pivot=T:=⟨_,rfl⟩
           have hc:=qa b o c x y R.pivot d.size R.pi.1 wc hz3 hs.holds.1 hs.holds.2 hpv.1 hpv.2 hy hsz;obtain⟨r1,r2,r3,r4,_⟩:=round_eq swo_ltInt (partitionEqual_holds ltInt) Wz.1 hpv.1 hpv.2 (show y≤R.pi.1.size from om) KB3.1 Wz.2 (mid:=T.1) (d4:=T.2) hT;have HE:=HEq.1 HP2.1 Od;rw[hT]at hc HE;obtain⟨mid,d4⟩:=T;simp only[]at hc r1 r2 r3 r4 HE;have HC:=Al hc;have HE:=Al (HE ⟨r1,r2⟩);have K4:=Al r4;clear hc hs hT r4 Od Wz;go_wp2_with (go_at_call 307;refine HC.1.mono ?_;rintro e w7 ⟨rfl,h7⟩;have H7:=Al (HS.1.step h7);clear h7);go_roundw
           case rel=>exact⟨mid,y,R.lim,wb,wp,d4,rfl,rfl,rfl,rfl,rfl,r2,hy,om,om,K4.1,H7.1,⟨by rw[←HO.1,HE.1]⟩⟩
           case measure=>simp[intOf];omega
theorem aaj (b o c n d w) (hn:d.size=n) (hH:Holds eU w b o d) (hw:b<w.heap.size) (hsz:n<4611686018427387904):
  Calls prog 282 #[.slice (some ⟨b,o,none⟩) n c] w fun e w'=>e= .returned (.tuple #[])∧Sv w b o d (Sort.sort ltInt d) w':=by
 subst hn;have PD:=Al (Oc (d.size+1) b o c 0 d.size (bitsLen d.size) d.size d w om rfl hH hw (bf _) Aj hsz (El ((bitsLen_le_iff d.size 62).2 om) Ai) (.inl rfl));have BL:=Al (fun w=>Sr d.size om w);clear hH;go_enter func282,ntmps282;go_wp2_with (first
  |(go_at_call 296;refine PD.1.mono ?_;rintro e w1 ⟨rfl,h1⟩;have H1:=Al h1;clear h1)
  |(go_at_call 185;refine(BL.1 _).mono ?_;rintro e w1 ⟨rfl,rfl⟩))
 go_end0;exact⟨rfl,H1.1⟩
end
section
open Go.Sort Go.Shelf
def ia (l:List Nat):Array Int:=(l.map Int.ofNat).toArray
theorem lW (l):(ia l).size=l.length:=by simp[ia]
theorem Sz (l) {j} (hj:j<l.length):(ia l)[j]! =((l[j]:Nat):Int):=by
 rw[getElem!_pos _ j (by rw[lW];exact hj)];simp[ia]
theorem aG.holds {w base g n c l} (h:aG w base (some ⟨g,0,none⟩) n c l):Holds eU w g 0 (ia l):=fun j hj=>by
 rw[lW]at hj;obtain⟨h1,h2⟩:=h.at_ hj;rw[Sz l hj,bO];exact⟨h1,h2⟩
theorem Sv.grown {w wr b o d0 d} (h:Sv w b o d0 d wr):w.grownBy wr (some b):=by
 obtain⟨n,os,rfl⟩:=h.at_;refine⟨rfl,rfl,rfl,Ah,fun k hk hne=>?_⟩;rw[heap_grow_old _ _ (by simpa using hk)];have:¬b=k:=fun e=>hne (by rw[e])
 simp[putRow,mapBlock,DU,this]
theorem aG.acU {w wr base g n c l l'} (h:aG w base (some ⟨g,0,none⟩) n c l) (hs:Sv w g 0 (ia l) (ia l') wr):aG wr base (some ⟨g,0,none⟩) n c l':=by
 have hlen:l'.length=l.length:=by have:=hs.sz;rwa[lW,lW]at this
 obtain⟨hx,hrest⟩:=h;refine⟨by rw[jI]at hx⊢;omega,?_⟩;rcases hrest with⟨h1,_⟩|⟨g2,cap,cur,hv,hb,hg,hn,hc,hz,ht⟩
 ·cases h1
 ·injection hv with hv1 hv2 hv3
  injection hv1 with hv1
  injection hv1 with hv1
  subst hv1;subst hv3;obtain⟨m,os,rfl⟩:=hs.at_;rw[Dp]at hx hz ht;rw[jI]at hx;refine .inr ⟨g,c,putCells eU 0 (ia l') cur,rfl,hb,?_,hn,hc,by simp[putCells,hz],?_⟩
  ·rw[heap_grow_old _ _ (by simpa using hs.lt)];show((putRow eU (Sort.ahead w m) g 0 (ia l')).heap[g]?)=_;simp[putRow,mapBlock,DU,hg,onCells]
  ·apply Ev;intro k;rw[Dp,List.getElem?_take];by_cases hk:k<n
   ·rw[Ps0 hk];have hk2:k<l'.length:=om;have hcz:k<cur.size:=om;have e:(vB l')[k]? =some (.int .u64 ((l'[k]:Nat):Int)):=by unfold vB;rw[Df,kC hk2];rfl
    rw[e,DW,putCells,Array.getElem?_mapIdx,Array.getElem?_eq_getElem hcz];simp only[EF,bf,true_and,bO,Nat.sub_zero];rw[Ps0 (by rw[lW];exact hk2),Sz l' hk2]
   ·rw[Ng hk];exact(Ca (by rw[jI];omega)).symm
theorem WA (l):∃l',Sort.sort ltInt (ia l)=ia l'∧l'.Perm l∧l'.Pairwise (· ≤ ·):=by
 have h:=sortInt (l.map Int.ofNat);have hp:(List.mergeSort (l.map Int.ofNat) (fun x y=>decide (x≤y))).Perm (l.map Int.ofNat):=List.mergeSort_perm _ _;have hs:(List.mergeSort (l.map Int.ofNat) (fun x y=>decide (x≤y))).Pairwise (fun x y=>x≤y):=by
  have:=List.pairwise_mergeSort (le:=fun x y:Int=>decide (x≤y)) (fun a b c h1 h2=>by simp at*;omega) (fun a b=>by simp;omega) (l.map Int.ofNat);simpa using this
 generalize List.mergeSort (l.map Int.ofNat) (fun x y=>decide (x≤y))=q at*;have hq:q=(q.map Int.toNat).map Int.ofNat:=by
  have:∀z∈q,Int.ofNat z.toNat=z:=fun z hz=>by
   obtain⟨k,_,rfl⟩:=dV.1 (hp.mem_iff.1 hz)
   rfl
  rw[BQ];exact(List.map_id q).symm.trans (Dy fun z hz=>(this z hz).symm)
 refine⟨q.map Int.toNat,?_,?_,?_⟩
 ·apply Array.toList_inj.1;unfold ia;rw[←hq];exact h
 ·have:=hp.map Int.toNat;rw[BQ]at this;have e:l.map (Int.toNat∘Int.ofNat)=l:=by
   conv=>rhs;rw[←List.map_id l]
   exact Dy fun z _=>rfl
  rwa[e]at this
 ·exact List.Pairwise.map Int.toNat (fun a b (hab:a≤b)=>Int.toNat_le_toNat hab) hs
theorem Oe (base g n c l w) (h:aG w base (some ⟨g,0,none⟩) n c l) (hn:n<4611686018427387904):
  Calls prog 282 #[.slice (some ⟨g,0,none⟩) n c] w fun e w'=>e= .returned (.tuple #[])∧∃l',l'.Perm l∧l'.Pairwise (· ≤ ·)∧aG w' base (some ⟨g,0,none⟩) n c l'∧w.grownBy w' (some g):=by
 have hlen:=h.len;have hg:g<w.heap.size:=(ae h g rfl).2;refine(aaj g 0 c n (ia l) w (by rw[lW];exact hlen.symm) h.holds hg hn).mono ?_;rintro e w' ⟨rfl,hs⟩;obtain⟨l',he,hp,hu⟩:=WA l;rw[he]at hs;exact⟨rfl,l',hp,hu,h.acU hs,hs.grown⟩
end
section
open Go.Shelf
theorem wD (w):Calls prog 190 #[] w fun e w'=>e= .returned (.pointer (some ⟨w.heap.size,0,none⟩))∧fG w' w.heap.size w.heap.size []∧Below w.heap.size w w':=by
 go_enter func190,ntmps190;go_wp2;go_ret;exact⟨rfl,⟨none,0,0,[],Aw w _,⟨rfl,.inl ⟨rfl,rfl⟩⟩,Bt.Wr.nil,Nr _⟩,(Ae _ w).alloc Aj _⟩
theorem JV (base p bs w) (h:fG w base p bs) (hl:bs.length≤1000000000):
  Calls prog 193 #[.pointer (some ⟨p,0,none⟩)] w fun e w'=>∃A n c,e= .returned (.slice A n c)∧ah w' w.heap.size A n c (Ck.pk bs)∧Below w.heap.size w w':=by
 obtain⟨A,n,c,L,h1,ho,hw,hp⟩:=h;have c0:w.cell? ⟨p,0,none⟩=some (.slice A n c):=Co _ _ 0 _ _ _ h1;obtain rfl:=hw.inj (Ck.Ld bs);have hn:n≤1000000000:=by have h1:=ho.len;have h2:=hw.len;omega
 have R:=Al ho.rd;clear ho h1;go_enter func193,ntmps193;go_wp2_with (go_at_call 164;refine(fQ A n c w.heap.size _ w R.1 Aj om).mono ?_;rintro e w1 ⟨A1,c1,rfl,ho,hb⟩);go_ret;exact⟨A1,n,c1,rfl,ho,hb⟩
def Br (w:World) (p:Nat) (r:List Bool):Prop:=
 ∃A n c L at_,w.heap[p]? =some (.cells #[.slice A n c,.int .i64 ((at_:Nat):Int)] 329 (0,0))∧aY w p A n c L∧n≤100000000∧at_≤8*n∧r=(Bt.bits L).drop at_
theorem Br.lt {w p r} (h:Br w p r):p<w.heap.size:=by
 obtain⟨A,n,c,L,at_,h1,-⟩:=h;exact(Ge.1 h1).1
theorem Br.below {w w' p B r} (h:Br w p r) (hb:Below B w w') (hB:p<B):Br w' p r:=by
 obtain⟨A,n,c,L,at_,h1,h2,h3,h4,h5⟩:=h;exact⟨A,n,c,L,at_,(hb.block p hB).trans h1,aY.below h2 (hb.mono om),h3,h4,h5⟩
theorem Br.drewN {w p r} (h:Br w p r) (k):Br (w.drewN k) p r:=h
theorem Br.parts {w p r} (h:Br w p r):∃A n c L at_,w.cell? ⟨p,0,none⟩=some (.slice A n c)∧w.cell? ⟨p,1,none⟩=some (.int .i64 ((at_:Nat):Int))∧w.frozen? ⟨p,1,none⟩=false∧
  aY w p A n c L∧n≤100000000∧r.length=8*n-at_∧at_≤8*n∧(∀(k) (hk:k<r.length),r[k]=Bt.bit L (at_+k))∧
  ∀k,k≤r.length→Br (w.setCell ⟨p,1,none⟩ (.int .i64 ((at_+k:Nat):Int))) p (r.drop k):=by
 obtain⟨A,n,c,L,at_,h1,h2,h3,h4,rfl⟩:=h;have hn:=h2.len;have hl:((Bt.bits L).drop at_).length=8*n-at_:=by rw[kz,Bt.iE,hn]
 refine⟨A,n,c,L,at_,Co _ _ 0 _ _ _ h1,Co _ _ 1 _ _ _ h1,Fr _ _ 1 _ _ h1,h2,h3,hl,h4,fun k hk=>?_,fun k hk=>?_⟩
 ·rw[Dc,Bt.jr]
 ·rw[hl]at hk;exact⟨A,n,c,L,at_+k,by rw[Ag w p 1 _ _ _ h1];rfl,h2.setCell (p:=⟨p,1,none⟩) Aj _,h3,om,by rw[List.drop_drop]⟩
theorem Gz (A n c B L w) (hv:aY w B A n c L) (hB:B≤w.heap.size) (hn:n≤100000000):
  Calls prog 177 #[.slice A n c] w fun r w'=>∃p,r= .returned (.pointer (some ⟨p,0,none⟩))∧w.heap.size≤p∧Br w' p (Bt.bits L)∧Below w.heap.size w w':=by
 have Hv:=Al hv;have hlc:=hv.1;clear hv;go_enter func177,ntmps177;go_wp2_with (go_at_call 164;refine(fQ _ _ _ B L _ Hv.1 hB om).mono ?_;rintro e w1 ⟨A1,c1,rfl,ho,hb⟩);go_ret;have hz:=hb.size;exact⟨w1.heap.size,rfl,hz,⟨A1,n,c1,L,0,Aw w1 _,ho.rd.alloc Aj _,hn,bf _,rfl⟩,hb.alloc hz _⟩
theorem xH (p r w) (h:Br w p r):
  Calls prog 224 #[.pointer (some ⟨p,0,none⟩)] w fun e w'=>e= .returned (.int .i64 (r.length:Int))∧∃q,w'=w.drewN q:=by
 obtain⟨A,n,c,L,at_,c0,c1,f1,h2,h3,hl,h4,hb,hm⟩:=h.parts;have hl':Kept ((r.length:Int)=8*(n:Int)-(at_:Int)):=⟨om⟩
 have h4':(at_:Int)≤8*(n:Int):=om;have h3':(n:Int)≤100000000:=om;rw[hl'.1];clear h h2 hl hb hm h4 h3;go_enter func224,ntmps224;go_wp2;go_quiet (fail);go_wp2;go_ret;exact⟨rfl,_,rfl⟩
theorem WE (c:UInt8) (j):bits .and .u64 ((c.toNat:Int)/2^j) 1=(((c.toNat.testBit j).toNat:Nat):Int):=by
 have hc:=c.toNat_lt;have e1:(c.toNat:Int)/2^j=((c.toNat/2^j:Nat):Int):=Ah;have hd:c.toNat/2^j<256:=El (Nat.div_le_self _ _) hc;rw[e1,DJ];generalize c.toNat/2^j=q at*;rw[and_one_u64 _ om om];rcases CZ q with h|h
 ·simp[h];omega
 ·simp[h];omega
theorem Mf (p at_ A n c L w) (c0:w.cell? ⟨p,0,none⟩=some (.slice A n c)) (h2:aY w p A n c L) (h3:n≤100000000) (h4:at_<8*n):
  Calls prog 225 #[.pointer (some ⟨p,0,none⟩),.int .i64 (at_:Int)] w fun e w'=>e= .returned (.int .u64 (((Bt.bit L at_).toNat:Nat):Int))∧w=w':=by
 have hn:=h2.len;have hlt:at_/8<L.length:=om;obtain⟨b,off,rfl,hb,hc⟩:=h2.at_ hlt;have hB:Kept (Bt.bit L at_=L[at_/8].toNat.testBit (7-at_%8)):=⟨by unfold Bt.bit;rw[jN,kC hlt];rfl⟩
 have hS:=Al (WE L[at_/8] (7-at_%8));have hch:=L[at_/8].toNat_lt;rw[hB.1];obtain⟨ch,acV⟩:∃ch,ch=L[at_/8]:=⟨_,rfl⟩
 rw[←acV]at hc hS hch⊢;have hi1:(at_:Int)/8< (n:Int):=om;have hi0:(0:Int)≤(at_:Int)/8:=om;have hi2:((at_:Int)/8).toNat=at_/8:=om;have w6:(7-(at_:Int)%8).toNat=7-at_%8:=om;have w7:¬7-(at_:Int)%8<0:=om;have hw:Kept (IntKind.u64.wrap ((ch.toNat:Int)/2^ (7-at_%8))=(ch.toNat:Int)/2^ (7-at_%8)):=⟨by
  have e1:(ch.toNat:Int)/2^ (7-at_%8)=((ch.toNat/2^ (7-at_%8):Nat):Int):=Ah;have:=Nat.div_le_self ch.toNat (2^ (7-at_%8));rw[e1,Bw];generalize ch.toNat/2^ (7-at_%8)=q at*;omega⟩
 clear hB h2 hlt acV hn;go_enter func225,ntmps225;go_wp2;go_ret;exact⟨by show Ending.returned (.int .u64 (bits .and .u64 (IntKind.u64.wrap ((ch.toNat:Int)/2^ (7-at_%8))) 1))=_;rw[hw.1,hS.1],rfl⟩
theorem SH (l b) (h:l.length<64):
  bits .or .u64 (IntKind.u64.wrap ((Bt.oN l:Int)*2)) ((b.toNat:Nat):Int)=((Bt.oN (l++[b]):Nat):Int):=by
 have h1:=Bt.yK l;have h2:2^l.length≤2^63:=kF Ai om;have hb:b.toNat≤1:=by cases b<;>simp
 have e1:IntKind.u64.wrap ((Bt.oN l:Int)*2)=((2*Bt.oN l:Nat):Int):=by
  rw[Bw];omega
 rw[e1,bits_or_u64_nat _ _ om om,Bt.QD]
 congr 1
 have h3:=Nat.shiftLeft_add_eq_or_of_lt (i:=1) (b:=b.toNat) om (Bt.oN l);rw[Cc,Ej]at h3;exact h3.symm
theorem dG (p n:Nat) (r w) (h:Br w p r) (hn:n≤64):
  Calls prog 213 #[.pointer (some ⟨p,0,none⟩),.int .i64 (n:Int)] w fun e w'=>e= .returned (.tuple #[.int .u64 ((Tm.rd n r).1:Int),.int .i64 (Tm.rd n r).2.2])∧Br w' p (Tm.rd n r).2.1∧w.grownBy w' (some p):=by
 have H:=Al h;have LF:=Al (xH p r w h);clear h;have hn0:¬(n:Int)<0:=om;have hn1:¬(64:Int)< (n:Int):=om;by_cases hlt:r.length<n
 ·have hr:Tm.rd n r=(0,r,3):=by unfold Tm.rd;rw[Ps0 hlt]
  rw[hr];have hlt':(r.length:Int)< (n:Int):=om;clear hr hlt;go_enter func213,ntmps213;go_wp2_with (go_at_call 224;refine LF.1.mono ?_;rintro e w1 ⟨rfl,q,rfl⟩);go_ret2;exact⟨rfl,H.1.drewN q,rfl,rfl,rfl,Nr _,fun _ _ _=>rfl⟩
 ·have hr:Tm.rd n r=(Bt.oN (r.take n),r.drop n,0):=by unfold Tm.rd;rw[Ng hlt]
  rw[hr];have acW:¬(r.length:Int)< (n:Int):=om;clear hr;go_enter func213,ntmps213;go_wp2_with (go_at_call 224;refine LF.1.mono ?_;rintro e w1 ⟨rfl,q,rfl⟩);go_loopw [6,23] (fun x i wr=>∃k:Nat,k≤n∧i= .int .i64 k∧x= .int .u64 ((Bt.oN (r.take k):Nat):Int)∧Br wr p (r.drop k)∧w.grownBy wr (some p)) (fun _ i _=>n-(intOf i).toNat)
  case atStart=>exact⟨0,om,rfl,rfl,H.1.drewN q,rfl,rfl,rfl,Nr _,fun _ _ _=>rfl⟩
  case round=>
   obtain⟨k,hk,rfl,rfl,hB,hG⟩:=hrel;by_cases hkn:k<n
   ·have hkn':(k:Int)< (n:Int):=by omega
    obtain⟨A,m,c,L,at_,c0,c1,f1,h2,h3,hl,h4,hb,hm⟩:=hB.parts;rw[kz]at hl;have BT:=Al (fun j:Nat=>Mf p at_ A m c L (wr.drewN j) c0 (h2.drewN j) h3 om);have HM:=Al (hm 1 (by rw[kz];omega));have hb0:=hb 0 (by rw[kz];omega);have acQ:(at_:Int)≤800000000:=om;have HG:=Al hG;have U:=Al (SH (r.take k) (Bt.bit L at_) (by rw[jD];omega));have HU:Kept (r.take k++[Bt.bit L at_]=r.take (k+1)):=⟨by
     rw[Dc]at hb0;have hb1:r[k]=Bt.bit L at_:=hb0;rw[Ts om,hb1]⟩
    rw[HU.1]at U;clear hB hb hm hb0 h2 hl h4 h3 hG;obtain⟨x,hx⟩:∃x,x=Bt.oN (r.take k):=⟨_,rfl⟩
    rw[←hx]at U⊢;clear hx;go_wp2;go_quiet ((go_at_call 225;exact(BT.1 _).mono fun _ _ q=>⟨q.1,_,q.2.symm⟩));go_wp2;go_roundw
    case rel=>
     rw[List.drop_drop]at HM;exact⟨k+1,om,by go_num,by rw[U.1],HM.1,HG.1.trans (((⟨rfl,rfl,rfl,Nr _,fun _ _ _=>rfl⟩:wr.grownBy (wr.drewN nq) (some p))).trans (av _ ⟨p,1,none⟩ _))⟩
    case measure=>simp[intOf];omega
   ·obtain rfl:k=n:=by omega
    have HG:=Al hG;have HB:=Al hB;clear hG hB;go_wp2;go_ret2;exact⟨rfl,HB.1,HG.1⟩
theorem jB (w:World) (a b):(w.drewN a).drewN b=w.drewN (a+b):=by
 unfold World.drewN;simp[iw]
theorem GH (p r w) (h:Br w p r):
  Calls prog 180 #[.pointer (some ⟨p,0,none⟩)] w fun e w'=>e= .returned (.int .i64 (Ck.fin r))∧∃q,w'=w.drewN q:=by
 have H:=Al h;have LF:=Al (xH p r w h);by_cases h8:8≤r.length
 ·have hf:Ck.fin r=4:=by unfold Ck.fin;rw[Ps0 (.inl h8)]
  rw[hf];have h8':(8:Int)≤(r.length:Int):=om;clear h hf;go_enter func180,ntmps180;go_wp2_with (go_at_call 224;refine LF.1.mono ?_;rintro e w1 ⟨rfl,q,rfl⟩);go_ret;exact⟨rfl,_,rfl⟩
 ·have alg:(r.length:Int)<8:=by omega
  obtain⟨A,m,c,L,at_,c0,c1,f1,h2,h3,hl,h4,hb,hm⟩:=h.parts;have BT:=Al (fun(j k:Nat) (hk:k<r.length)=>Mf p (at_+k) A m c L (w.drewN j) c0 (h2.drewN j) h3 om);have HB:=Al hb;have acQ:(at_:Int)≤800000000:=om;have HL:=Al hl;clear h hb hm h2 h4 h3 hl;go_enter func180,ntmps180;go_wp2_with (go_at_call 224;refine LF.1.mono ?_;rintro e w1 ⟨rfl,q,rfl⟩);go_loopw [12] (fun i wr=>∃k q:Nat,k≤r.length∧i= .int .i64 k∧wr=w.drewN q∧Kept (∀(j:Nat) (hj:j<r.length),j<k→r[j]=false)) (fun i _=>r.length-(intOf i).toNat)
  case atStart=>exact⟨0,q,om,rfl,rfl,⟨fun j _ h=>om⟩⟩
  case round=>
   obtain⟨k,q2,hk,rfl,rfl,hz⟩:=hrel;by_cases hkn:k<r.length
   ·have hkn':(k:Int)< (r.length:Int):=by omega
    have BK:=Al (fun j:Nat=>BT.1 j k hkn);have hbk:Kept (r[k]=Bt.bit L (at_+k)):=⟨HB.1 k hkn⟩
    have eak:((at_+k:Nat):Int)=(at_:Int)+(k:Int):=om;rw[eak]at BK;cases hbit:Bt.bit L (at_+k)with
    |true=>
     rw[hbit]at BK hbk;have hf:Kept (Ck.fin r=4):=⟨by unfold Ck.fin;rw[Ps0 (.inr (by rw[←hbk.1];exact dR hkn))]⟩
     simp only[Bool.toNat_true]at BK;go_wp2;go_quiet ((go_at_call 225;exact(BK.1 _).mono fun _ _ q=>⟨q.1,_,q.2.symm⟩));go_wp2;go_ret;exact⟨by rw[hf.1];rfl,_,by first|rfl|exact jB _ _ _⟩
    |false=>
     rw[hbit]at BK hbk;simp only[Bool.toNat_false]at BK;have hz':Kept (∀(j:Nat) (hj:j<r.length),j<k+1→r[j]=false):=⟨fun j hj hjk=>by
      rcases Nat.lt_or_eq_of_le (Nat.le_of_lt_succ hjk)with h|h
      ·exact hz.1 j hj h
      ·subst h;exact hbk.1⟩
     clear hz hbk;go_wp2;go_quiet ((go_at_call 225;exact(BK.1 _).mono fun _ _ q=>⟨q.1,_,q.2.symm⟩));go_wp2;go_roundw
     case rel=>exact⟨k+1,_,om,by go_num,by first|rfl|exact jB _ _ _,hz'⟩
     case measure=>simp[intOf];omega
   ·obtain rfl:k=r.length:=by omega
    have hf:Kept (Ck.fin r=0):=⟨by
     unfold Ck.fin;rw[Ng];rintro(h|h)
     ·omega
     ·obtain⟨j,hj,hj2⟩:=iC.1 h;rw[hz.1 j hj hj]at hj2;cases hj2⟩
    clear hz;go_wp2;go_ret;exact⟨by rw[hf.1];rfl,_,rfl⟩
end
section
open Go.Shelf
def Tm.cells:List Value:=[.int .u64 0,.int .i64 1,.int .i64 0,.int .u64 2,.int .i64 2,.int .i64 7,.int .u64 6,.int .i64 3,.int .i64 12,.int .u64 14,.int .i64 4,.int .i64 32,.int .u64 15,.int .i64 4,.int .i64 64]
def qb (w:World):Prop:=∀(i:Nat) (v:Value),Tm.cells[i]? =some v→w.cell? ⟨0,i,none⟩=some v
theorem qb.lt {w} (h:qb w):0<w.heap.size:=Bd w _ (h 0 _ rfl)
theorem qb.below {w w'} (h:qb w) (hb:Below w.heap.size w w'):qb w':=fun i v hi=>(hb.cell (p:=⟨_,i,none⟩) h.lt).trans (h i v hi)
theorem qb.gr {w w'} (h:qb w) (hg:Gr w w'):qb w':=fun i v hi=>(hg.cell _ i h.lt).trans (h i v hi)
theorem Tm.ex7 (x:Nat):wrap64 (IntKind.u64.wrap ((x:Int)*144115188075855872))/144115188075855872=Tm.ex x 7:=by
 rw[Bw];unfold Tm.ex wrap64;rw[Ng Ai];split<;>omega
theorem Tm.agd (x:Nat):wrap64 (IntKind.u64.wrap ((x:Int)*4503599627370496))/4503599627370496=Tm.ex x 12:=by
 rw[Bw];unfold Tm.ex wrap64;rw[Ng Ai];split<;>omega
theorem Tm.age (x:Nat):wrap64 (IntKind.u64.wrap ((x:Int)*4294967296))/4294967296=Tm.ex x 32:=by
 rw[Bw];unfold Tm.ex wrap64;rw[Ng Ai];split<;>omega
theorem Tm.agf (x:Nat):wrap64 (IntKind.u64.wrap (x:Int))=Tm.ex x 64:=by
 rw[Bw];unfold Tm.ex wrap64;rw[Ng Ai];split<;>omega
theorem Tm.Og {x} (hx:Tm.In x) {i} (hi:i≤4):Tm.ex (Tm.wd x) (Tm.fw i)=x↔Tm.fm x≤i:=by
 unfold Tm.In at hx;rcases(by omega:i=0∨i=1∨i=2∨i=3∨i=4)with rfl|rfl|rfl|rfl|rfl
 ·simp only[Tm.fw];unfold Tm.ex Tm.fm;rw[Ps0 rfl];split<;>(try split)<;>(try split)<;>(try split)<;>omega
 all_goals
  simp only[Tm.fw];unfold Tm.ex Tm.fm Tm.wd;rw[Ng Ai];split<;>split<;>(try split)<;>(try split)<;>(try split)<;>omega
theorem Tm.zF (x):IntKind.u64.wrap x=(Tm.wd x:Int):=by
 rw[Bw];unfold Tm.wd;omega
theorem uL (x i:Nat) (w) (hx:x<18446744073709551616) (hi:i≤4):
  Calls prog 252 #[.int .u64 (x:Int),.int .i64 ((Tm.fw i:Nat):Int)] w fun e w'=>e= .returned (.int .i64 (Tm.ex x (Tm.fw i)))∧w=w':=by
 have Hx:=Al hx;clear hx;rcases(by omega:i=0∨i=1∨i=2∨i=3∨i=4)with rfl|rfl|rfl|rfl|rfl
 ·go_enter func252,ntmps252;simp only[Tm.fw];go_wp2;go_ret;exact⟨rfl,rfl⟩
 all_goals
  go_enter func252,ntmps252;simp only[Tm.fw];go_wp2;go_ret
  first|exact⟨by rw[←Tm.ex7];rfl,rfl⟩|exact⟨by rw[←Tm.agd];rfl,rfl⟩|exact⟨by rw[←Tm.age];rfl,rfl⟩|exact⟨by rw[←Tm.agf];rfl,rfl⟩
theorem Tm.idx (k:Nat) (hk:k<5) (w):(Instr.index 356 (.agg Tm.cells.toArray) (.int .i64 (k:Int))).run prog w= .ok (.agg #[.int .u64 ((Tm.fb k:Nat):Int),.int .i64 ((Tm.fl k:Nat):Int),.int .i64 ((Tm.fw k:Nat):Int)]) w:=by
 rcases(by omega:k=0∨k=1∨k=2∨k=3∨k=4)with rfl|rfl|rfl|rfl|rfl
 all_goals kernel_rfl
theorem uM (x w) (hx:Tm.In x) (hF:qb w):
  Calls prog 242 #[.int .i64 x] w fun e w'=>e= .returned (.int .i64 ((Tm.fm x:Nat):Int))∧Gr w w':=by
 have h0:=hF 0 _ rfl;have h1:=hF 1 _ rfl;have h2:=hF 2 _ rfl;have h3:=hF 3 _ rfl;have h4:=hF 4 _ rfl;have h5:=hF 5 _ rfl;have h6:=hF 6 _ rfl;have h7:=hF 7 _ rfl;have h8:=hF 8 _ rfl;have h9:=hF 9 _ rfl;have h10:=hF 10 _ rfl;have h11:=hF 11 _ rfl;have h12:=hF 12 _ rfl;have h13:=hF 13 _ rfl;have h14:=hF 14 _ rfl;have hwd:=Tm.zF x;have hwl:=Tm.KZ x;have HFI:=Al (fun i (hi:i≤4)=>Tm.Og hx (i:=i) hi);have HLE:=Al (Tm.Fz x);clear hx;go_enter func242,ntmps242;go_wp2;clear h0 h1 h2 h3 h4 h5 h6 h7 h8 h9 h10 h11 h12 h13 h14;go_loopw [6] (fun i wr=>∃k:Nat,k≤4∧i= .int .i64 k∧Kept (k≤Tm.fm x)∧Gr w wr) (fun i _=>5-(intOf i).toNat)
 case atStart=>exact⟨0,om,rfl,⟨om⟩,Gr.refl w⟩
 case round=>
  obtain⟨k,hk,rfl,hj,hG⟩:=hrel;have hk5:(k:Int)<5:=om;have hix:=fun w=>Tm.idx k om w
  simp only[Tm.cells]at hix;have EX:=Al (fun w=>uL (Tm.wd x) k w hwl hk);have HG:=Al hG;clear hG;by_cases he:Tm.ex (Tm.wd x) (Tm.fw k)=x
  ·have hfm:Kept (Tm.fm x=k):=⟨by have:=(HFI.1 k hk).1 he;have:=hj.1;omega⟩
   have HE:=Al he;clear he;go_wp2_with (go_at_call 252;refine(EX.1 _).mono ?_;rintro e w1 ⟨rfl,hw⟩;obtain rfl:=hw;rw[HE.1]);go_ret;exact⟨by rw[hfm.1];rfl,HG.1.alloc _⟩
  ·have hfm:Kept (k<Tm.fm x):=⟨by have h1:=(HFI.1 k hk).2;have:=hj.1;rcases Nat.lt_or_eq_of_le hj.1 with h|h;exact h;exact absurd (h1 om) he⟩
   have hk4:=hfm.1;have hle:=HLE.1;have HE:=Al he;obtain⟨y,hy⟩:∃y,y=Tm.ex (Tm.wd x) (Tm.fw k):=⟨_,rfl⟩
   rw[←hy]at HE;have HY:=Al hy;have hyx:(y==x)=false:=by have:=HE.1;simpa using this
   clear he hy;go_wp2_with (go_at_call 252;refine(EX.1 _).mono ?_;rintro e w1 ⟨rfl,hw⟩;obtain rfl:=hw;rw[←HY.1]);go_roundw
   case rel=>exact⟨k+1,om,by go_num,⟨hk4⟩,HG.1.alloc _⟩
   case measure=>simp[intOf];omega
end
section
open Go.Shelf
attribute [local go_sem] Oper.semAt_some
theorem Tm.zG (x):wrap64 x=Tm.sw x:=by unfold wrap64 Tm.sw;omega
def Tm.uN:List Int→List Int
 |[]=>[]
 |t::l=>Tm.yM t 0 l
theorem Tm.SK:∀(l) (t d),∀x∈Tm.yM t d l,Tm.In x
 |[],_,_,x,h=>by simp[Tm.yM]at h
 |u::l,t,d,x,h=>by
  rw[Tm.yM]at h;rcases iW.1 h with rfl|h
  ·exact Tm.qC _
  ·exact Tm.SK l _ _ x h
theorem Tm.WH (l):∀x∈Tm.uN l,Tm.In x:=by
 cases l with
 |nil=>simp[Tm.uN]
 |cons t l=>exact Tm.SK l t 0
def WI (x:Int):Array Value:= #[.int .i64 x]
theorem uO (n bx B N m c A l w X) (hw:Boxed w bx 281 (.slice A m c)) (hr:vP w B A m c l) (hN:N≤w.heap.size)
  (hX:∀pre W,¬X pre W):
  rA n prog 270 #[.pointer (some ⟨bx,0,none⟩)] WI (fun _=>False) (zV B bx) (Tm.uN l) w X:=by
 intro lp J Jx W hK hJ hJx PQ bC h0;have hW:Boxed W bx 281 (.slice A m c):=hK.2.trans hw;have hR:vP W B A m c l:=hr.below hK.1;have hNW:N≤W.heap.size:=Lt hN hK.1.size;have dh:=Al bC;have HX:Kept (∀pre W,¬Jx pre W):=⟨fun pre W h=>hX pre W (PQ pre W h)⟩
 have hln:=Al hr.len;have hc1:=hr.1;have hc2:=hr.2.1;unfold maxLen at hc2;have HJ:=Al hJ;clear hw hK hN bC hJ hX PQ hr hJx;refine Bu.2 ?_;go_enter func270,ntmps270;go_wp2;go_loopw [3,4] (fun d i wr=>∃(pre:List Int) (k:Nat) (dd:Int),i= .int .i64 k∧d= .int .i64 dd∧Boxed wr bx 281 (.slice A m c)∧vP wr B A m c l∧N≤wr.heap.size∧1≤k∧(k≤m∨k=1)∧
  Kept (Tm.uN l=pre++Tm.yM (l.getD (k-1) 0) dd (l.drop k))∧Kept (J pre wr)) (fun _ i _=>m+1-(intOf i).toNat)
 case atStart=>
  refine⟨[],1,0,rfl,rfl,hW,hR,hNW,om,.inr rfl,⟨?_⟩,⟨h0⟩⟩;cases l with
  |nil=>rfl
  |cons t l=>rfl
 case round=>
  clear hW hR h0 hNW;obtain⟨pre,k,dd,rfl,rfl,hb,hr,hNr,hk1,hk,hm1,hj⟩:=hrel;have hc:=hb.cell;have Hb:=Al hb;have Hr:=Al hr;clear hb hr;by_cases hlt:k<m
  ·have hlt':(k:Int)< (m:Int):=by omega
   have hkl:k<l.length:=by have:=hln.1;omega
   obtain⟨b,off,rfl,ni,hck⟩:=Hr.1.at_ hkl;obtain⟨b',off',e,_,acX⟩:=Hr.1.at_ (k:=k-1) om;simp only[gU,Ce,BO]at e;obtain⟨rfl,rfl⟩:=e;have i1:(0:Int)≤(k:Int)-1:=om;have i2:((k:Int)-1).toNat=k-1:=om;have i3:(k:Int)-1< (m:Int):=om;obtain⟨u,hu⟩:∃u,u=l[k]:=⟨_,rfl⟩
   obtain⟨t,ht⟩:∃t,t=l[k-1]:=⟨_,rfl⟩
   have hm2:Kept (Tm.uN l=pre++[Tm.sw (Tm.sw (u-t)-dd)]++Tm.yM (l.getD (k+1-1) 0) (Tm.sw (u-t)) (l.drop (k+1))):=⟨by
    rw[hm1.1,oQ hkl,Tm.yM];have e1:l.getD (k-1) 0=t:=by rw[ht,jN,kC om];rfl
    have e2:l.getD (k+1-1) 0=u:=by rw[hu,Bj,jN,kC hkl];rfl
    rw[e1,e2,←hu];simp⟩
   rw[←hu]at hck;rw[←ht]at acX;clear hu ht hkl;go_wp2;go_quiet (fail);obtain⟨w2,hw2⟩:∃w2,w2=wr.drewN nq:=⟨_,rfl⟩
   have hgd:wr.grownBy w2 none:=by rw[hw2];exact⟨rfl,rfl,rfl,Nr _,fun _ _ _=>rfl⟩
   have hj2:=Al (HJ.1 _ _ _ none hj.1 hgd (fun r e=>by cases e));have Hb2:=Al (show Boxed w2 bx 281 _ from by rw[hw2];exact Hb.1);have Hr2:=Al (show vP w2 B _ m c l from by rw[hw2];exact Hr.1.drewN nq);have hN2:N≤w2.heap.size:=by rw[hw2];exact hNr
   rw[←hw2];clear hw2 hgd hc hck acX hj Hb Hr hNr;obtain⟨fn,tmps,assign,body,hy,qx⟩:=dh.1 pre (Tm.sw (Tm.sw (u-t)-dd)) w2 hj2.1 ⟨_,hm2.1.symm⟩;unfold WI at hy;simp only[←Tm.zG]at hy qx hm2;go_upto_region 5 with(fail)
   refine(BM (n:=n)).1 ?_
   gi_wp2
   refine⟨(fun h=>by simp[Fence.wide]at h),qx.mono ?_⟩;rintro e W' (⟨rfl,hj',hb'⟩|⟨rfl,qV⟩)
   ·have Hb3:=Al (show Boxed W' bx 281 _ from hb'.2.trans Hb2.1);have Hr3:=Al (Hr2.1.below hb'.1);have hz:=hb'.1.size;have XY:=Al hj';clear hj' hb' qx hy
    gi_wp2
    go_wp2;go_roundw
    case rel=>exact⟨pre++[wrap64 (wrap64 (u-t)-dd)],k+1,wrap64 (u-t),by go_num,rfl,Hb3.1,Hr3.1,om,om,om,⟨hm2.1⟩,XY⟩
    case measure=>simp[intOf];omega
   ·exact absurd qV (HX.1 _ _)
  ·have hm2:Kept (Tm.uN l=pre):=⟨by
    rw[hm1.1,qW (by have:=hln.1;omega),Tm.yM,Bh]⟩
   have hge':(m:Int)≤(k:Int):=om;go_wp2;go_end0;exact⟨⟨_,rfl⟩,.inl (by rw[hm2.1];exact hj.1)⟩
theorem GI (A n c w):Calls prog 241 #[.slice A n c] w fun e w'=>
  e= .returned (.func (.func 270) #[] #[.pointer (some ⟨w.heap.size,0,none⟩)])∧w'=w.alloc (.cells #[.slice A n c] 281):=by
 go_enter func241,ntmps241;go_wp2;go_ret;exact⟨rfl,rfl⟩
end
end Go.Proofs.YtongopommlghgaaGreatDoor
