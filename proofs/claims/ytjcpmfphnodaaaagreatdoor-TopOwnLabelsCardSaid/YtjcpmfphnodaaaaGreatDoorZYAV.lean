/- Part 22. -/
import Derived.Test.YtjcpmfphnodaaaaGreatDoorZYAU
import Derived.Test.YtjcpmfphnodaaaaGreatDoorZYAK
import Derived.StillTailTactics
import Derived.Test.YtjcpmfphnodaaaaGreatDoorZYAM
namespace Go.Proofs.YtjcpmfphnodaaaaGreatDoor
set_option maxRecDepth 100000
set_option maxHeartbeats 0
open _root_.Go.Proofs.Tryz
open Go.RowKit
section
open Go.Sort
theorem pX (b o c x y p n d w) (hn:d.size=n) (hH:Holds eU w b o d) (hw:b<w.heap.size) (hxp:x≤p) (hpy:p<y) (hy:y≤n) (hsz:n<4611686018427387904):
  Calls prog 307 #[.slice (some ⟨b,o,none⟩) n c,.int .i64 x,.int .i64 y,.int .i64 p] w fun e w'=>e= .returned (.int .i64 (Sort.partitionEqual ltInt d x y p).1)∧Sv w b o d (Sort.partitionEqual ltInt d x y p).2 w':=by
 subst hn;unfold Sort.partitionEqual;obtain⟨P,hP⟩:∃P,partEqLoop ltInt x (x+1) (y-1) (Sort.swp d x p)=P:=⟨_,rfl⟩
 rw[hP];have HP0:=Aj hP;have HS:=Aj (Sv.refl hH hw);obtain⟨G,hG⟩:∃G:Nat→Int,∀t,G t=d[t]!:=⟨fun t=>d[t]!,fun _=>rfl⟩
 have hc:∀t,t<d.size→w.cell? ⟨b,o+t,none⟩=some (.int .u64 (G t)):=fun t ht=>by rw[hG];exact HS.1.cell t ht
 have hf:=HS.1.iI;have HG:=Aj hG;have HF:=Aj (show Sv w b o d (Sort.swp d x p) (((w.setCell ⟨b,o+x,none⟩ (.int .u64 (G p))).setCell ⟨b,o+p,none⟩ (.int .u64 (G x))).drew)from by rw[hG,hG];exact(HS.1.swp (i:=x) (j:=p) om om).drewN 1);clear hP hG hH HS;go_enter func307,ntmps307;rcases Nat.lt_or_eq_of_le hxp with hxp|rfl
 all_goals
  go_wp2_with fail;go_region;go_wp2;clear hc hf;go_loopw [9,10] (fun vi vj wr=>∃(i j:Nat) (dk:Array Int),vi= .int .i64 (i:Int)∧vj= .int .i64 (j:Int)∧x<i∧i≤j+1∧j<y∧Sv w b o d dk wr∧Kept (partEqLoop ltInt x i j dk=P)) (fun vi vj _=>(intOf vj+1-intOf vi).toNat)
  case atStart=>exact⟨x+1,y-1,_,by go_num,by congr 1;omega,om,om,om,HF.1,HP0⟩
  case round=>
   obtain⟨i,j,dk,rfl,rfl,hi1,hij,hj1,hs,HO⟩:=hrel;have HS:=Aj hs;clear hs HF;go_upto_block 2 with fail;go_cut [9]from 29 to 82 (fun v wc=>∃k:Nat,v= .int .i64 (k:Int)∧i≤k∧k≤j+1∧Sv w b o d dk wc∧Kept (k=scanUp (fun z=>!ltInt dk[x]! z) dk j i))
   case first=>
    go_wp2;go_loopw [9] (fun vi wr=>∃k:Nat,vi= .int .i64 (k:Int)∧i≤k∧k≤j+1∧Sv w b o d dk wr∧Kept (scanUp (fun z=>!ltInt dk[x]! z) dk j k=scanUp (fun z=>!ltInt dk[x]! z) dk j i)) (fun vi _=>j+1-(intOf vi).toNat)
    case atStart=>exact⟨i,rfl,Nr _,om,HS.1,⟨rfl⟩⟩
    case round=>
     obtain⟨k,rfl,hk1,hk2,hs,HK⟩:=hrel;have hf:=hs.iI;obtain⟨G,hG⟩:∃G:Nat→Int,∀t,G t=dk[t]!:=⟨fun t=>dk[t]!,fun _=>rfl⟩
     have hc:∀t,t<d.size→wr.cell? ⟨b,o+t,none⟩=some (.int .u64 (G t)):=fun t ht=>by rw[hG];exact hs.cell t ht
     have HG:=Aj hG;have HS2:=Aj hs;clear hs hG;by_cases hkj:k≤j
     ·have uE:(k:Int)≤(j:Int):=by omega
      have hl:ltInt (G x) (G k)=false∨ltInt (G x) (G k)=true:=by cases ltInt (G x) (G k)<;>simp
      rcases hl with hl|hl
      ·go_wp2_with fail;go_quiet (first|(go_at_call 283;refine Ay (aD _ _ _)));go_wp2;go_roundw
       case rel=>exact⟨k+1,by go_num,om,om,HS2.1.drewN _,⟨by rw[←HK.1,scanUp_go _ dk j k hkj (by simp only[←HG.1];simp[hl])]⟩⟩
       case measure=>simp[intOf];omega
      ·go_wp2_with fail;go_quiet (first|(go_at_call 283;refine Ay (aD _ _ _)));go_wp2;go_meet;exact⟨k,rfl,hk1,hk2,HS2.1.drewN _,⟨by rw[←HK.1,scanUp_end _ dk j k (.inr (by simp only[←HG.1];simp[hl]))]⟩⟩
     ·have uE:decide ((k:Int)≤(j:Int))=false:=AF om;go_wp2_with fail;go_quiet (first|(go_at_call 283;refine Ay (aD _ _ _)));go_wp2;go_meet;exact⟨k,rfl,hk1,hk2,HS2.1.drewN _,⟨by rw[←HK.1,scanUp_end _ dk j k (.inl hkj)]⟩⟩
   case rest=>
    obtain⟨k,rfl,hk1,hk2,hs,HK⟩:=hcut;have HS:=Aj hs;clear hs;go_upto_block 4 with fail;go_cut [10]from 29 to 82 (fun v wc=>∃m:Nat,v= .int .i64 (m:Int)∧k≤m+1∧m≤j∧Sv w b o d dk wc∧Kept (m=scanDown (fun z=>ltInt dk[x]! z) dk k j))
    case first=>
     go_wp2;go_loopw [10] (fun vi wr=>∃m:Nat,vi= .int .i64 (m:Int)∧k≤m+1∧m≤j∧Sv w b o d dk wr∧Kept (scanDown (fun z=>ltInt dk[x]! z) dk k m=scanDown (fun z=>ltInt dk[x]! z) dk k j)) (fun vi _=>(intOf vi).toNat)
     case atStart=>exact⟨j,rfl,om,Nr _,HS.1,⟨rfl⟩⟩
     case round=>
      obtain⟨m,rfl,hm1,hm2,hs,HM⟩:=hrel;have hf:=hs.iI;obtain⟨G,hG⟩:∃G:Nat→Int,∀t,G t=dk[t]!:=⟨fun t=>dk[t]!,fun _=>rfl⟩
      have hc:∀t,t<d.size→wr.cell? ⟨b,o+t,none⟩=some (.int .u64 (G t)):=fun t ht=>by rw[hG];exact hs.cell t ht
      have HG:=Aj hG;have HS2:=Aj hs;clear hs hG;by_cases hkj:k≤m
      ·have uE:(k:Int)≤(m:Int):=by omega
       have hl:ltInt (G x) (G m)=false∨ltInt (G x) (G m)=true:=by cases ltInt (G x) (G m)<;>simp
       rcases hl with hl|hl
       ·go_wp2_with fail;go_quiet (first|(go_at_call 283;refine Ay (aD _ _ _)));go_wp2;go_meet;exact⟨m,rfl,hm1,hm2,HS2.1.drewN _,⟨by rw[←HM.1,scanDown_end _ dk k m (.inr (by simp only[←HG.1];simp[hl]))]⟩⟩
       ·go_wp2_with fail;go_quiet (first|(go_at_call 283;refine Ay (aD _ _ _)));go_wp2;go_roundw
        case rel=>exact⟨m-1,by congr 1;omega,om,om,HS2.1.drewN _,⟨by rw[←HM.1,scanDown_go _ dk k m hkj om (by simp only[←HG.1];simp[hl])]⟩⟩
        case measure=>simp[intOf];omega
      ·have uE:decide ((k:Int)≤(m:Int))=false:=AF om;go_wp2_with fail;go_quiet (first|(go_at_call 283;refine Ay (aD _ _ _)));go_wp2;go_meet;exact⟨m,rfl,hm1,hm2,HS2.1.drewN _,⟨by rw[←HM.1,scanDown_end _ dk k m (.inl hkj)]⟩⟩
    case rest=>
     obtain⟨m,rfl,hm1,hm2,hs,HM⟩:=hcut;have HS:=Aj hs;by_cases hmk:m<k
     ·have hmk':(m:Int)< (k:Int):=by omega
      have hp:=Aj (partEq_break ltInt x i j dk HK.1 HM.1 hmk);clear hs;go_wp2;go_ret;rw[←HO.1,hp.1];exact⟨rfl,HS.1⟩
     ·have hmk':¬(m:Int)< (k:Int):=by omega
      have hp:=Aj (partEq_go ltInt x i j dk HK.1 HM.1 om);have hlt:=scans_lt ltInt x i j dk om HK.1 HM.1 om;have hf:=hs.iI;obtain⟨G,hG⟩:∃G:Nat→Int,∀t,G t=dk[t]!:=⟨fun t=>dk[t]!,fun _=>rfl⟩
      have hc:∀t,t<d.size→wc.cell? ⟨b,o+t,none⟩=some (.int .u64 (G t)):=fun t ht=>by rw[hG];exact hs.cell t ht
      have HG:=Aj hG;clear hs hG;go_wp2_with fail;go_region
      all_goals go_wp2
      go_roundw
      case rel=>
       refine⟨k+1,m-1,Sort.swp dk k m,by go_num,by congr 1;omega,om,om,om,?_,⟨by rw[←HO.1,hp.1]⟩⟩;rw[HG.1,HG.1];exact(HS.1.drewN _).swp (i:=k) (j:=m) om om
      case measure=>simp[intOf];omega
theorem Gc (b o c x y p n d w) (hn:d.size=n) (hH:Holds eU w b o d) (hw:b<w.heap.size) (hxp:x≤p) (hpy:p<y) (hy:y≤n) (hsz:n<4611686018427387904):
  Calls prog 308 #[.slice (some ⟨b,o,none⟩) n c,.int .i64 x,.int .i64 y,.int .i64 p] w fun e w'=>e= .returned (.tuple #[.int .i64 (Sort.partition ltInt d x y p).1,.bool (Sort.partition ltInt d x y p).2.1])∧Sv w b o d (Sort.partition ltInt d x y p).2.2 w':=by
 subst hn;have HS:=Aj (Sv.refl hH hw);obtain⟨G,hG⟩:∃G:Nat→Int,∀t,G t=d[t]!:=⟨fun t=>d[t]!,fun _=>rfl⟩
 have hc:∀t,t<d.size→w.cell? ⟨b,o+t,none⟩=some (.int .u64 (G t)):=fun t ht=>by rw[hG];exact HS.1.cell t ht
 have hf:=HS.1.iI;have HF:=Aj (show Sv w b o d (Sort.swp d x p) (((w.setCell ⟨b,o+x,none⟩ (.int .u64 (G p))).setCell ⟨b,o+p,none⟩ (.int .u64 (G x))).drew)from by rw[hG,hG];exact(HS.1.swp (i:=x) (j:=p) om om).drewN 1);clear hG hH HS;obtain⟨P,hP⟩:∃P,Sort.partition ltInt d x y p=P:=⟨_,rfl⟩
 rw[hP];obtain⟨i,hi⟩:∃i,i=x+1:=⟨_,rfl⟩
 obtain⟨j,hj⟩:∃j,j=y-1:=⟨_,rfl⟩
 have hi0:(x:Int)+1=(i:Int):=om;have hj0:(y:Int)-1=(j:Int):=om;have hi1:x<i:=om;have hij:i≤j+1:=om;have hj1:j<y:=om;have HP:=Aj hP;have HI:=Aj hi;have HJ:=Aj hj;clear hP hi hj;obtain⟨dk,hdk⟩:∃dk,dk=Sort.swp d x p:=⟨_,rfl⟩
 rw[←hdk]at HF;have HDK:=Aj hdk;clear hdk;go_enter func308,ntmps308;rcases Nat.lt_or_eq_of_le hxp with hxp|rfl
 all_goals
  go_wp2_with fail;go_region;clear hc hf;have hdk:=HDK.1;have HS:=HF;go_upto_block 0 with fail;go_cut [10]from 30 (fun v wc=>∃k:Nat,v= .int .i64 (k:Int)∧i≤k∧k≤j+1∧Sv w b o d dk wc∧Kept (k=scanUp (fun z=>ltInt z dk[x]!) dk j i))
  case first=>
   go_wp2;go_loopw [10] (fun vi wr=>∃k:Nat,vi= .int .i64 (k:Int)∧i≤k∧k≤j+1∧Sv w b o d dk wr∧Kept (scanUp (fun z=>ltInt z dk[x]!) dk j k=scanUp (fun z=>ltInt z dk[x]!) dk j i)) (fun vi _=>j+1-(intOf vi).toNat)
   case atStart=>exact⟨i,rfl,Nr _,om,HS.1,⟨rfl⟩⟩
   case round=>
    obtain⟨k,rfl,hk1,hk2,hs,HK⟩:=hrel;have hf:=hs.iI;obtain⟨G,hG⟩:∃G:Nat→Int,∀t,G t=dk[t]!:=⟨fun t=>dk[t]!,fun _=>rfl⟩
    have hc:∀t,t<d.size→wr.cell? ⟨b,o+t,none⟩=some (.int .u64 (G t)):=fun t ht=>by rw[hG];exact hs.cell t ht
    have HG:=Aj hG;have HS2:=Aj hs;clear hs hG;by_cases hkj:k≤j
    ·have uE:(k:Int)≤(j:Int):=by omega
     have hl:ltInt (G k) (G x)=false∨ltInt (G k) (G x)=true:=by cases ltInt (G k) (G x)<;>simp
     rcases hl with hl|hl
     ·go_wp2_with fail;go_quiet (first|(go_at_call 283;refine Ay (aD _ _ _)));go_wp2;go_meet;exact⟨k,rfl,hk1,hk2,HS2.1.drewN _,⟨by rw[←HK.1,scanUp_end _ dk j k (.inr (by simp only[←HG.1];simp[hl]))]⟩⟩
     ·go_wp2_with fail;go_quiet (first|(go_at_call 283;refine Ay (aD _ _ _)));go_wp2;go_roundw
      case rel=>exact⟨k+1,by go_num,om,om,HS2.1.drewN _,⟨by rw[←HK.1,scanUp_go _ dk j k hkj (by simp only[←HG.1];simp[hl])]⟩⟩
      case measure=>simp[intOf];omega
    ·have uE:decide ((k:Int)≤(j:Int))=false:=AF om;go_wp2_with fail;go_quiet (first|(go_at_call 283;refine Ay (aD _ _ _)));go_wp2;go_meet;exact⟨k,rfl,hk1,hk2,HS2.1.drewN _,⟨by rw[←HK.1,scanUp_end _ dk j k (.inl hkj)]⟩⟩
  case rest=>
   obtain⟨k,rfl,hk1,hk2,hs,HK⟩:=hcut;have HS:=Aj hs;clear hs;go_upto_block 2 with fail;go_cut [11]from 30 (fun v wc=>∃m:Nat,v= .int .i64 (m:Int)∧k≤m+1∧m≤j∧Sv w b o d dk wc∧Kept (m=scanDown (fun z=>!ltInt z dk[x]!) dk k j))
   case first=>
    go_wp2;go_loopw [11] (fun vi wr=>∃m:Nat,vi= .int .i64 (m:Int)∧k≤m+1∧m≤j∧Sv w b o d dk wr∧Kept (scanDown (fun z=>!ltInt z dk[x]!) dk k m=scanDown (fun z=>!ltInt z dk[x]!) dk k j)) (fun vi _=>(intOf vi).toNat)
    case atStart=>exact⟨j,rfl,om,Nr _,HS.1,⟨rfl⟩⟩
    case round=>
     obtain⟨m,rfl,hm1,hm2,hs,HM⟩:=hrel;have hf:=hs.iI;obtain⟨G,hG⟩:∃G:Nat→Int,∀t,G t=dk[t]!:=⟨fun t=>dk[t]!,fun _=>rfl⟩
     have hc:∀t,t<d.size→wr.cell? ⟨b,o+t,none⟩=some (.int .u64 (G t)):=fun t ht=>by rw[hG];exact hs.cell t ht
     have HG:=Aj hG;have HS2:=Aj hs;clear hs hG;by_cases hkj:k≤m
     ·have uE:(k:Int)≤(m:Int):=by omega
      have hl:ltInt (G m) (G x)=false∨ltInt (G m) (G x)=true:=by cases ltInt (G m) (G x)<;>simp
      rcases hl with hl|hl
      ·go_wp2_with fail;go_quiet (first|(go_at_call 283;refine Ay (aD _ _ _)));go_wp2;go_roundw
       case rel=>exact⟨m-1,by congr 1;omega,om,om,HS2.1.drewN _,⟨by rw[←HM.1,scanDown_go _ dk k m hkj om (by simp only[←HG.1];simp[hl])]⟩⟩
       case measure=>simp[intOf];omega
      ·go_wp2_with fail;go_quiet (first|(go_at_call 283;refine Ay (aD _ _ _)));go_wp2;go_meet;exact⟨m,rfl,hm1,hm2,HS2.1.drewN _,⟨by rw[←HM.1,scanDown_end _ dk k m (.inr (by simp only[←HG.1];simp[hl]))]⟩⟩
     ·have uE:decide ((k:Int)≤(m:Int))=false:=AF om;go_wp2_with fail;go_quiet (first|(go_at_call 283;refine Ay (aD _ _ _)));go_wp2;go_meet;exact⟨m,rfl,hm1,hm2,HS2.1.drewN _,⟨by rw[←HM.1,scanDown_end _ dk k m (.inl hkj)]⟩⟩
   case rest=>
    obtain⟨m,rfl,hm1,hm2,hs,HM⟩:=hcut;have HS:=Aj hs;by_cases hmk:m<k
    ·have hmk':(m:Int)< (k:Int):=by omega
     have hp:=Aj (part_first_break ltInt d x y _ HI.1 HJ.1 hdk HK.1 HM.1 hmk);have hf:=hs.iI;have HSW:=Aj (hs.swp (i:=m) (j:=x) om om);obtain⟨G,hG⟩:∃G:Nat→Int,∀t,G t=dk[t]!:=⟨fun t=>dk[t]!,fun _=>rfl⟩
     have hc:∀t,t<d.size→wc.cell? ⟨b,o+t,none⟩=some (.int .u64 (G t)):=fun t ht=>by rw[hG];exact hs.cell t ht
     have HG:=Aj hG;clear hs hG;rcases(show x<m∨m=x from om)with hxm|rfl
     all_goals
      go_wp2_with fail;go_region
      all_goals go_wp2
      go_ret2;rw[←HP.1,hp.1];refine⟨rfl,?_⟩;simp only[HG.1];exact HSW.1.drewN 1
    ·have hmk':¬(m:Int)< (k:Int):=by omega
     have hp:=part_first_go ltInt d x y _ HI.1 HJ.1 hdk HK.1 HM.1 om;have hlt:=part_scans_lt ltInt x i j dk om HK.1 HM.1 om;obtain⟨Q,hQ⟩:∃Q,partLoop ltInt x (k+1) (m-1) (Sort.swp dk k m)=Q:=⟨_,rfl⟩
     rw[hQ]at hp;have HPT:=Aj hp;have hf:=hs.iI;obtain⟨G,hG⟩:∃G:Nat→Int,∀t,G t=dk[t]!:=⟨fun t=>dk[t]!,fun _=>rfl⟩
     have hc:∀t,t<d.size→wc.cell? ⟨b,o+t,none⟩=some (.int .u64 (G t)):=fun t ht=>by rw[hG];exact hs.cell t ht
     have HG:=Aj hG;have HSW:=Aj (show Sv w b o d (Sort.swp dk k m) (((wc.setCell ⟨b,o+k,none⟩ (.int .u64 (G m))).setCell ⟨b,o+m,none⟩ (.int .u64 (G k))).drew)from by rw[hG,hG];exact(hs.swp (i:=k) (j:=m) om om).drewN 1);clear hs hG hp;go_wp2_with fail;go_region;go_wp2;clear hc hf;generalize hd2:Sort.swp dk k m=d2 at*;go_loopw [10,11] (fun vi vj wr=>∃(i j:Nat) (dk:Array Int),vi= .int .i64 (i:Int)∧vj= .int .i64 (j:Int)∧x<i∧i≤j+1∧j<y∧Sv w b o d dk wr∧Kept (partLoop ltInt x i j dk=Q)) (fun vi vj _=>(intOf vj+1-intOf vi).toNat)
     case atStart=>exact⟨k+1,m-1,_,by go_num,by congr 1;omega,om,om,om,HSW.1,⟨hQ⟩⟩
     case round=>
      clear hdk hQ hd2 HSW HK HM hi1 hij hj1 hk1 hk2 hm1 hm2 hmk hmk' hlt;obtain⟨i,j,dk,rfl,rfl,hi1,hij,hj1,hs,HO⟩:=hrel;have HS:=Aj hs;clear hs;go_upto_block 6 with fail;go_cut [10]from 99 to 152 (fun v wc=>∃k:Nat,v= .int .i64 (k:Int)∧i≤k∧k≤j+1∧Sv w b o d dk wc∧Kept (k=scanUp (fun z=>ltInt z dk[x]!) dk j i))
      case first=>
       go_wp2;go_loopw [10] (fun vi wr=>∃k:Nat,vi= .int .i64 (k:Int)∧i≤k∧k≤j+1∧Sv w b o d dk wr∧Kept (scanUp (fun z=>ltInt z dk[x]!) dk j k=scanUp (fun z=>ltInt z dk[x]!) dk j i)) (fun vi _=>j+1-(intOf vi).toNat)
       case atStart=>exact⟨i,rfl,Nr _,om,HS.1,⟨rfl⟩⟩
       case round=>
        obtain⟨k,rfl,hk1,hk2,hs,HK⟩:=hrel;have hf:=hs.iI;obtain⟨G,hG⟩:∃G:Nat→Int,∀t,G t=dk[t]!:=⟨fun t=>dk[t]!,fun _=>rfl⟩
        have hc:∀t,t<d.size→wr.cell? ⟨b,o+t,none⟩=some (.int .u64 (G t)):=fun t ht=>by rw[hG];exact hs.cell t ht
        have HG:=Aj hG;have HS2:=Aj hs;clear hs hG;by_cases hkj:k≤j
        ·have uE:(k:Int)≤(j:Int):=by omega
         have hl:ltInt (G k) (G x)=false∨ltInt (G k) (G x)=true:=by cases ltInt (G k) (G x)<;>simp
         rcases hl with hl|hl
         ·go_wp2_with fail;go_quiet (first|(go_at_call 283;refine Ay (aD _ _ _)));go_wp2;go_meet;exact⟨k,rfl,hk1,hk2,HS2.1.drewN _,⟨by rw[←HK.1,scanUp_end _ dk j k (.inr (by simp only[←HG.1];simp[hl]))]⟩⟩
         ·go_wp2_with fail;go_quiet (first|(go_at_call 283;refine Ay (aD _ _ _)));go_wp2;go_roundw
          case rel=>exact⟨k+1,by go_num,om,om,HS2.1.drewN _,⟨by rw[←HK.1,scanUp_go _ dk j k hkj (by simp only[←HG.1];simp[hl])]⟩⟩
          case measure=>simp[intOf];omega
        ·have uE:decide ((k:Int)≤(j:Int))=false:=AF om;go_wp2_with fail;go_quiet (first|(go_at_call 283;refine Ay (aD _ _ _)));go_wp2;go_meet;exact⟨k,rfl,hk1,hk2,HS2.1.drewN _,⟨by rw[←HK.1,scanUp_end _ dk j k (.inl hkj)]⟩⟩
      case rest=>
       obtain⟨k,rfl,hk1,hk2,hs,HK⟩:=hcut;have HS:=Aj hs;clear hs;go_upto_block 8 with fail;go_cut [11]from 99 to 152 (fun v wc=>∃m:Nat,v= .int .i64 (m:Int)∧k≤m+1∧m≤j∧Sv w b o d dk wc∧Kept (m=scanDown (fun z=>!ltInt z dk[x]!) dk k j))
       case first=>
        go_wp2;go_loopw [11] (fun vi wr=>∃m:Nat,vi= .int .i64 (m:Int)∧k≤m+1∧m≤j∧Sv w b o d dk wr∧Kept (scanDown (fun z=>!ltInt z dk[x]!) dk k m=scanDown (fun z=>!ltInt z dk[x]!) dk k j)) (fun vi _=>(intOf vi).toNat)
        case atStart=>exact⟨j,rfl,om,Nr _,HS.1,⟨rfl⟩⟩
        case round=>
         obtain⟨m,rfl,hm1,hm2,hs,HM⟩:=hrel;have hf:=hs.iI;obtain⟨G,hG⟩:∃G:Nat→Int,∀t,G t=dk[t]!:=⟨fun t=>dk[t]!,fun _=>rfl⟩
         have hc:∀t,t<d.size→wr.cell? ⟨b,o+t,none⟩=some (.int .u64 (G t)):=fun t ht=>by rw[hG];exact hs.cell t ht
         have HG:=Aj hG;have HS2:=Aj hs;clear hs hG;by_cases hkj:k≤m
         ·have uE:(k:Int)≤(m:Int):=by omega
          have hl:ltInt (G m) (G x)=false∨ltInt (G m) (G x)=true:=by cases ltInt (G m) (G x)<;>simp
          rcases hl with hl|hl
          ·go_wp2_with fail;go_quiet (first|(go_at_call 283;refine Ay (aD _ _ _)));go_wp2;go_roundw
           case rel=>exact⟨m-1,by congr 1;omega,om,om,HS2.1.drewN _,⟨by rw[←HM.1,scanDown_go _ dk k m hkj om (by simp only[←HG.1];simp[hl])]⟩⟩
           case measure=>simp[intOf];omega
          ·go_wp2_with fail;go_quiet (first|(go_at_call 283;refine Ay (aD _ _ _)));go_wp2;go_meet;exact⟨m,rfl,hm1,hm2,HS2.1.drewN _,⟨by rw[←HM.1,scanDown_end _ dk k m (.inr (by simp only[←HG.1];simp[hl]))]⟩⟩
         ·have uE:decide ((k:Int)≤(m:Int))=false:=AF om;go_wp2_with fail;go_quiet (first|(go_at_call 283;refine Ay (aD _ _ _)));go_wp2;go_meet;exact⟨m,rfl,hm1,hm2,HS2.1.drewN _,⟨by rw[←HM.1,scanDown_end _ dk k m (.inl hkj)]⟩⟩
       case rest=>
        obtain⟨m,rfl,hm1,hm2,hs,HM⟩:=hcut;have HS:=Aj hs;by_cases hmk:m<k
        ·have hmk':(m:Int)< (k:Int):=by omega
         have hp:=Aj (part_break ltInt x i j dk HK.1 HM.1 hmk);have hf:=hs.iI;have HSW:=Aj (hs.swp (i:=m) (j:=x) om om);obtain⟨G,hG⟩:∃G:Nat→Int,∀t,G t=dk[t]!:=⟨fun t=>dk[t]!,fun _=>rfl⟩
         have hc:∀t,t<d.size→wc.cell? ⟨b,o+t,none⟩=some (.int .u64 (G t)):=fun t ht=>by rw[hG];exact hs.cell t ht
         have HG:=Aj hG;clear hs hG;rcases(show x<m∨m=x from om)with hxm|rfl
         all_goals
          go_wp2_with fail;go_region
          all_goals go_wp2
          go_ret2;rw[←HP.1,HPT.1,←HO.1,hp.1];refine⟨rfl,?_⟩;simp only[HG.1];exact HSW.1.drewN 1
        ·have hmk':¬(m:Int)< (k:Int):=by omega
         have hp:=Aj (part_go ltInt x i j dk HK.1 HM.1 om);have hlt:=part_scans_lt ltInt x i j dk om HK.1 HM.1 om;have hf:=hs.iI;obtain⟨G,hG⟩:∃G:Nat→Int,∀t,G t=dk[t]!:=⟨fun t=>dk[t]!,fun _=>rfl⟩
         have hc:∀t,t<d.size→wc.cell? ⟨b,o+t,none⟩=some (.int .u64 (G t)):=fun t ht=>by rw[hG];exact hs.cell t ht
         have HG:=Aj hG;clear hs hG;go_wp2_with fail;go_region
         all_goals go_wp2
         go_roundw
         case rel=>
          refine⟨k+1,m-1,Sort.swp dk k m,by go_num,by congr 1;omega,om,om,om,?_,⟨by rw[←HO.1,hp.1]⟩⟩;rw[HG.1,HG.1];exact(HS.1.drewN _).swp (i:=k) (j:=m) om om
         case measure=>simp[intOf];omega
end
section
open Go.Shelf
theorem uF (a b:Nat) (ha:a<256) (hb:b<256):bits .or .u8 (a:Int) (b:Int)=((a|||b:Nat):Int):=by
 have hx:a|||b<2^8:=Nat.or_lt_two_pow om om
 have h1:(BitVec.ofInt 8 (a:Int)).toNat=a:=by
  rw[BitVec.ofInt_natCast,BitVec.toNat_ofNat];exact kQ om
 have h2:(BitVec.ofInt 8 (b:Int)).toNat=b:=by
  rw[BitVec.ofInt_natCast,BitVec.toNat_ofNat];exact kQ om
 show IntKind.u8.wrap ((BitVec.ofInt 8 (a:Int)|||BitVec.ofInt 8 (b:Int)).toNat:Int)=_;rw[BitVec.toNat_or,h1,h2,IntKind.wrap_u8];omega
theorem RJ (b:Bool) (j) (h:j≤7):b.toNat<<<j<256:=by
 rw[Cc];have h1:b.toNat≤1:=by cases b<;>simp
 have h2:2^j≤2^7:=kP Ah h;have:=Nat.mul_le_mul h1 h2;omega
theorem VW (x m j old:Nat) (hx:x<18446744073709551616) (ho:old<256) (hj:j≤7):
  bits .or .u8 (old:Int) (bits .and .u64 ((x:Int)/2^m) 1%256*2^j%256)=((old|||((x.testBit m).toNat<<<j):Nat):Int):=by
 have e1:(x:Int)/2^m=((x/2^m:Nat):Int):=sm;have hd:x/2^m<18446744073709551616:=El (Nat.div_le_self _ _) hx;have e2:bits .and .u64 ((x/2^m:Nat):Int) 1=(((x.testBit m).toNat:Nat):Int):=by
  rw[DD];generalize x/2^m=q at*;rw[and_one_u64 _ om om];rcases Dh q with h|h
  ·simp[h];omega
  ·simp[h];omega
 have hs:=RJ (x.testBit m) j hj;rw[e1,e2];have e3:(((x.testBit m).toNat:Nat):Int)%256*2^j%256=(((x.testBit m).toNat<<<j:Nat):Int):=by
  rw[Cc]at hs⊢;have h1:(x.testBit m).toNat≤1:=by cases x.testBit m<;>simp
  have h4:(((x.testBit m).toNat:Nat):Int)%256=(((x.testBit m).toNat:Nat):Int):=om;rw[h4,show(2:Int)^j=((2^j:Nat):Int)from sm,←Int.natCast_mul];omega
 rw[e3,uF _ _ ho hs]
def ach (w:World) (k:Nat):Prop:=∀cs fr,w.heap[k]?≠some (.cells cs 5 fr)
structure Wk (base p:Nat) (w w':World):Prop where
 aX:Below base w w'
 rest:∀k,k<w.heap.size→k≠p→ach w k→w'.heap[k]? =w.heap[k]?
theorem Wk.refl (base p w):Wk base p w w:=⟨Ae _ _,fun _ _ _ _=>rfl⟩
theorem Wk.trans {base p w w1 w2} (h:Wk base p w w1) (g:Wk base p w1 w2):Wk base p w w2:=
 ⟨h.aX.trans g.aX,fun k hk hp hb=>by
  have e:=h.rest k hk hp hb;refine(g.rest k (ku hk h.aX.size) hp ?_).trans e;intro cs fr;rw[e];exact hb cs fr⟩
theorem Wk.alloc {base p w w1} (h:Wk base p w w1) (o) (hb:base≤w1.heap.size):Wk base p w (w1.alloc o):=
 ⟨h.aX.alloc hb o,fun k hk hp hn=>(Aw _ _ _ (ku hk h.aX.size)).trans (h.rest k hk hp hn)⟩
theorem au (w:World) (a v):w.grownBy (w.setCell a v) (some a.block):=
 ⟨rfl,rfl,rfl,sm,fun k _ hne=>AL w a v k (fun e=>hne (by rw[e]))⟩
theorem Wk.set {base p} (w k v) (hb:base≤p) (hp:p<w.heap.size):Wk base p w (w.setCell ⟨p,k,none⟩ v):=
 ⟨(Ae _ _).grown (au w ⟨p,k,none⟩ v) om (fun r e=>by cases e;exact hb),fun j hj hp _=>(au w ⟨p,k,none⟩ v).block j hj (fun e=>hp (by cases e;rfl))⟩
theorem Wk.drew {base p w w1} (h:Wk base p w w1):Wk base p w w1.drew:=⟨⟨h.aX.os,h.aX.tape,h.aX.output,h.aX.size,h.aX.block⟩,h.rest⟩
theorem Wk.row {base p w w1 A n c l} (ho:ah w base A n c l) (hg:w.grownBy w1 (ab A)) (hb:base≤w.heap.size):Wk base p w w1:=
 ⟨(Ae _ _).grown hg hb (fun r e=>(ae ho r e).1),fun j hj _ hn=>hg.block j hj (fun e=>by
  rcases ho.2 with⟨hv,_⟩|⟨g,cap,cur,hv,_,hgb,_⟩
  ·injection hv with hv1;rw[hv1]at e;cases e
  ·injection hv with hv1
   rw[hv1]at e;obtain rfl:j=g:=by simpa[ab]using e
   exact hn _ _ hgb)⟩
theorem nZ {w base n c g A l} (h:ah w base A n c l) {cs t fr} (hg:w.heap[g]? =some (.cells cs t fr)) (ht:t≠5):some g≠ab A:=by
 rcases h.2 with⟨hv,_⟩|⟨g2,cap,cur,hv,_,hgb,_⟩
 ·injection hv with hv1;rw[hv1];exact fun e=>by cases e
 ·injection hv with hv1
  rw[hv1];intro e;obtain rfl:g=g2:=by simpa[ab]using e
  rw[hg]at hgb;simp only[gK,DU]at hgb;exact ht hgb.2.1
def fC (w:World) (base p:Nat) (bs:List Bool):Prop:=
 ∃A n c L,w.heap[p]? =some (.cells #[.slice A n c,.int .i64 (bs.length:Int)] 350 (0,0))∧ah w base A n c L∧Bt.Wr L bs∧base≤p
theorem fC.lt {w base p bs} (h:fC w base p bs):p<w.heap.size∧base≤p:=by
 obtain⟨A,n,c,L,h1,-,-,h2⟩:=h;exact⟨(Ge.1 h1).1,h2⟩
theorem bY (base p x n:Nat) (bs w) (h:fC w base p bs) (hx:x<18446744073709551616) (hn:n≤64) (hl:bs.length≤1000000000):
  Calls prog 191 #[.pointer (some ⟨p,0,none⟩),.int .u64 (x:Int),.int .i64 (n:Int)] w fun e w'=>e= .returned (.int .i64 0)∧fC w' base p (bs++Bt.bw n x)∧Wk base p w w':=by
 have H:=Aj h;have Hx:=Aj hx;have hpl:=h.lt;clear h hx;have hn0:¬(n:Int)<0:=om;have hn1:¬(64:Int)< (n:Int):=om;go_enter func191,ntmps191;go_wp2;go_loopw [19] (fun i wr=>∃k:Nat,k≤n∧i= .int .i64 k∧fC wr base p (bs++(Bt.bw n x).take k)∧Wk base p w wr) (fun i _=>n-(intOf i).toNat)
 case atStart=>exact⟨0,om,rfl,by simpa using H.1,Wk.refl _ _ _⟩
 case round=>
  obtain⟨k,hk,rfl,hW,hK⟩:=hrel;have HK:=Aj hK;clear hK;by_cases hlt:k<n
  ·have hlt':(k:Int)< (n:Int):=by omega
   obtain⟨A,m,c,L,h1,ho,hwr,hb⟩:=hW;have hlen:(bs++(Bt.bw n x).take k).length=bs.length+k:=by rw[La,oF,Bt.aj];omega
   rw[hlen]at h1;obtain⟨at_,hat⟩:∃at_,at_=bs.length+k:=⟨_,rfl⟩
   rw[←hat]at h1 hlen;have aci:(at_:Int)≤2000000000:=om;have HL:=Aj hlen;clear hat hlen;have c0:=Co _ _ 0 _ _ _ h1;have c1:=Co _ _ 1 _ _ _ h1;have f0:=Fr _ _ 0 _ _ h1;have f1:=Fr _ _ 1 _ _ h1;have hm1:m≤300000000:=by have h1:=ho.len;have h2:=hwr.len;rw[HL.1]at h2;omega
   go_upto_if 28 with(fail)
   go_cut [] (fun wx=>∃A2 m2 c2 L2,wx.heap[p]? =some (.cells #[.slice A2 m2 c2,.int .i64 (at_:Int)] 350 (0,0))∧ah wx base A2 m2 c2 L2∧L2=(if at_%8=0 then L++[0]else L)∧Wk base p w wx)
   case first=>
    by_cases h8:at_%8=0
    ·have h8':((at_:Int)%8==0)=true:=by simp;omega
     have HO:=Aj (show ah (wr.alloc (.cells #[.int .u8 0] 5)) base A m c L from Oa ho _);have HR:=Aj (show aZ (wr.alloc (.cells #[.int .u8 0] 5)) (wr.heap.size+1) (some ⟨wr.heap.size,0,none⟩) 1 1 [0]from aZ.one wr 0);have hbs:base≤(wr.alloc (.cells #[.int .u8 0] 5)).heap.size:=by simp;have:=HK.1.aX.size;omega
     have H1:=Aj (show(wr.alloc (.cells #[.int .u8 0] 5)).heap[p]? =_ from(Aw _ _ _ (Ge.1 h1).1).trans h1);have hpz:p< (wr.alloc (.cells #[.int .u8 0] 5)).heap.size:=(Ge.1 H1.1).1;have hne:some p≠ab A:=nZ HO.1 H1.1 Ah;have H8:=Aj h8;clear ho h1 h8;go_wp2_with (at_builtin;refine dZ rfl (.tmp 34) (.tmp 35) rfl base A m c L rfl HO.1 _ _ _ _ _ rfl HR.1 om hbs ?_;intro A4 c4 w5 av af cu;have O4:=Aj av;have G4:=Aj af;have e5:=(af.block p hpz hne).trans H1.1;have c5:=Co _ _ 0 _ _ _ e5;have f5:=Fr _ _ 0 _ _ e5;have E5:=Aj e5;clear av af e5);go_meet;have hz:=HK.1.aX.size;refine⟨A4,m+1,c4,L++[0],?_,?_,by rw[Ps0 H8.1],?_⟩
     ·rw[Ag w5 p 0 _ _ _ E5.1];rfl
     ·exact O4.1.apart (au w5 ⟨p,0,none⟩ _) (fun r e=>by cases e;exact .inl (fun e2=>nZ O4.1 E5.1 Ah e2.symm))
     ·exact(((HK.1.alloc _ om).trans (Wk.row HO.1 G4.1 hbs))).trans (Wk.set w5 0 _ hb (Ge.1 E5.1).1)
    ·have h8':((at_:Int)%8==0)=false:=by simp;omega
     go_wp2;go_meet;exact⟨A,m,c,L,h1,ho,by rw[Ng h8],HK.1⟩
   case rest=>
    obtain⟨A2,m2,c2,L2,g1,go2,hL2,K2⟩:=hcut;clear c0 c1 f0 f1;have hpush:=fun y=>hwr.push ((Bt.bw n x).getD k false) (y:=y) (L2:=L2) (by rw[HL.1];exact hL2)
    simp only[HL.1]at hpush;have LM:at_/8<L2.length:=by
     have h2:=hwr.len;rw[HL.1]at h2;rw[hL2];split
     ·simp;omega
     ·omega
    have hm2:=go2.len;obtain⟨g,rfl,hg1,hg2⟩:=go2.pos om;have c0:wc.cell? ⟨p,0,none⟩=some (.slice (some ⟨g,0,none⟩) m2 c2):=Co _ _ 0 _ _ _ g1;have c1:wc.cell? ⟨p,1,none⟩=some (.int .i64 (at_:Int)):=Co _ _ 1 _ _ _ g1;have f1:=Fr _ _ 1 _ _ g1;obtain⟨cg,fg⟩:=go2.at_ LM;have vZ:¬g=p:=fun e=>nZ go2 g1 Ah (by rw[e];rfl)
    have hi1:(at_:Int)/8< (m2:Int):=om;have hi0:(0:Int)≤(at_:Int)/8:=om;have hi2:((at_:Int)/8).toNat=at_/8:=om;have G1:=Aj g1;have GO:=Aj go2;have H2:=Aj hL2;have HM:=Aj hm2;have HP:=Aj hpush;obtain⟨old,hold⟩:∃old,old=L2[at_/8].toNat:=⟨_,rfl⟩
    rw[←hold]at cg;have HOLD:Kept (old=(L2.getD (at_/8) 0).toNat):=⟨by rw[hold,jw,kK LM];rfl⟩
    have HL2:=Aj LM;have H1:=Aj h1;clear g1 go2 hL2 hm2 hpush hm1 h1 ho hold LM hg1 hg2;have w1:IntKind.i64.wrap ((at_:Int)/8)=(at_:Int)/8:=by rw[Bo];omega
    have w2:IntKind.i64.wrap ((n:Int)-1)=(n:Int)-1:=by rw[Bo];omega
    have w3:IntKind.i64.wrap ((n:Int)-1-(k:Int))=(n:Int)-1-(k:Int):=by rw[Bo];omega
    have w4:(at_:Int).tmod 8=(at_:Int)%8:=Int.tmod_eq_emod_of_nonneg om;have w6:(7-(at_:Int)%8).toNat=7-at_%8:=om;have w7:¬7-(at_:Int)%8<0:=om;have w5:IntKind.i64.wrap (7-(at_:Int)%8)=7-(at_:Int)%8:=by rw[Bo];omega
    go_upto_region 10 with(fail)
    refine wp_region_still_tail 31 kr kr ?_;simp only[Cb,Eg,AY,Bq]
    repeat still_step
    refine wpStill_nil ?_
    change wpList _ _ _ _ _ wc.drew
    go_wp2;go_roundw
    case rel=>
     have hold:old<256:=by rw[HOLD.1];exact UInt8.toNat_lt _
     rw[VW x (n-1-k) (7-at_%8) old Hx.1 hold om];have hkb:(Bt.bw n x).getD k false=x.testBit (n-1-k):=by
      have hk':k< (Bt.bw n x).length:=by rw[Bt.aj];exact hlt
      rw[jw,kK hk',Bt.IW];rfl
     have hy:(UInt8.ofNat (old|||((x.testBit (n-1-k)).toNat<<< (7-at_%8)))).toNat=old|||((x.testBit (n-1-k)).toNat<<< (7-at_%8)):=by
      rw[Dp];exact kQ (Nat.or_lt_two_pow (n:=8) hold (RJ _ _ om))
     obtain⟨-,hw2⟩:=HP.1 (UInt8.ofNat (old|||((x.testBit (n-1-k)).toNat<<< (7-at_%8)))) (by rw[hkb,←HOLD.1];exact hy);rw[←hy];generalize UInt8.ofNat (old|||((x.testBit (n-1-k)).toNat<<< (7-at_%8)))=y at*;have gs:=au wc ⟨g,at_/8,none⟩ (.int .u8 (y.toNat:Int));have hpz:=(Ge.1 G1.1).1;have e1:(wc.setCell ⟨g,at_/8,none⟩ (.int .u8 (y.toNat:Int))).heap[p]? =_:=(gs.block p hpz (fun e=>vZ (by cases e;rfl))).trans G1.1;have o1:=GO.1.set (at_/8) y;have hK2:=K2.trans (Wk.row GO.1 gs (by have:=K2.aX.size;omega));refine⟨k+1,om,by go_num,⟨some ⟨g,0,none⟩,m2,c2,L2.set (at_/8) y,?_,?_,?_,hb⟩,(hK2.trans (Wk.set _ 1 _ hb (Ge.1 e1).1)).drew⟩
     ·have hl3:(bs++(Bt.bw n x).take (k+1)).length=at_+1:=by
       have:=HL.1;simp only[La,oF,Bt.aj]at this⊢;omega
      rw[hl3];show((wc.setCell ⟨g,at_/8,none⟩ (.int .u8 (y.toNat:Int))).setCell ⟨p,1,none⟩ (.int .i64 ((at_:Int)+1))).heap[p]? =_;rw[Ag _ p 1 _ _ _ e1];rfl
     ·have o2:=ah.apart (row:=some p) o1 (au _ ⟨p,1,none⟩ (.int .i64 ((at_:Int)+1))) (fun r e=>by cases e;exact .inl (fun e2=>nZ o1 e1 Ah e2.symm));exact o2
     ·rw[Af]at hw2;have:(Bt.bw n x).take (k+1)=(Bt.bw n x).take k++[(Bt.bw n x).getD k false]:=by
       have hk':k< (Bt.bw n x).length:=by rw[Bt.aj];exact hlt
       rw[Ts hk',jw,kK hk'];rfl
      rw[this];exact hw2
    case measure=>simp[intOf];omega
  ·obtain rfl:k=n:=by omega
   have hW':fC wr base p (bs++Bt.bw k x):=by rwa[iL (by rw[Bt.aj];omega)]at hW
   go_wp2;go_ret;exact⟨rfl,hW',HK.1⟩
end
section
open Go.Sort Go.Shelf
section
variable {w wr w2:World} {b o:Nat} {d0 d d':Array Int}
theorem Sv.alloc (h:Sv w b o d0 d wr) (ob):Sv w b o d0 d (wr.alloc ob):=by
 obtain⟨n,os,hw⟩:=h.at_;exact⟨h.h0,h.lt,h.sz,n,os++ #[ob],by rw[hw,alloc_eq_grow,grow_grow]⟩
theorem Sv.fresh (h:Sv w b o d0 d wr) {g} (hg:w.heap.size≤g) (k v):Sv w b o d0 d (wr.setCell ⟨g,k,none⟩ v):=by
 obtain⟨n,os,hw⟩:=h.at_;refine⟨h.h0,h.lt,h.sz,n,os.modify (g-w.heap.size) (onCells (·.setIfInBounds k v)),?_⟩;rw[hw,setCell_eq,mapBlock_grow_new _ _ _ _ (by simpa using hg)];simp
end
theorem Zw (g X) (hX:X<18446744073709551616) (w) (hc:w.cell? ⟨g,0,none⟩=some (.int .u64 X)) (hf:w.frozen? ⟨g,0,none⟩=false):
  Calls prog 267 #[.pointer (some ⟨g,0,none⟩)] w fun e w'=>e= .returned (.int .u64 (xorNextN X:Nat))∧w'=(w.setCell ⟨g,0,none⟩ (.int .u64 (xorNextN X:Nat))).drewN 3:=
 AnyF.xorshift_Next {Tryz.sortL with} g 0 X hX w hc hf
theorem Zx (n:Nat) (hn:n<4611686018427387904) (w):
  Calls prog 266 #[.int .i64 n] w fun e w'=>e= .returned (.int .u64 ((1<<<bitsLen n:Nat):Int))∧w'=w:=
 AnyF.nextPowerOfTwo {Tryz.sortL with} n hn w
theorem RS (n:Nat) (hn:n<18446744073709551616) (w):
  Calls prog 185 #[.int .u64 (n:Int)] w fun e w'=>e= .returned (.int .i64 (bitsLen n:Nat))∧w'=w:=by
 have h:=Any.bits_Len (P:=prog) (ρ:=Tryz.sortS_ren) {Tryz.sortS with} (n:Int) w om om;rw[kg,bitLen_eq _ hn]at h;exact h
theorem rf (b o c x y n d w) (hn:d.size=n) (hH:Holds eU w b o d) (hw:b<w.heap.size) (hxy:x≤y) (hy:y≤n) (hsz:n<4611686018427387904):
  Calls prog 303 #[.slice (some ⟨b,o,none⟩) n c,.int .i64 x,.int .i64 y] w fun e w'=>e= .returned (.tuple #[])∧Sv w b o d (Sort.breakPatterns d x y) w':=by
 subst hn;obtain⟨L,hL⟩:∃L,y=x+L:=⟨y-x,om⟩
 have hLi:(y:Int)-(x:Int)=(L:Int):=om;have hxL:x+L≤d.size:=om;by_cases h8:8≤L
 ·have h8':(8:Int)≤(L:Int):=by omega
  have hbp:Sort.breakPatterns d x y=bpRest x L (1<<<bitsLen L) (x+L/4*2-1) 3 0 (UInt64.ofNat L,d):=by rw[hL];exact breakPatterns_eq d x L h8
  rw[hbp];clear hbp;obtain⟨M,hM⟩:∃M:Nat,M=1<<<bitsLen L:=⟨_,rfl⟩
  have hM1:1≤M:=by rw[hM,Nat.one_shiftLeft];exact Nat.two_pow_pos _
  have hM2:M≤2*L:=by rw[hM,Nat.one_shiftLeft];exact two_pow_bitsLen_le om
  have NP:=Aj (Zx L om);rw[←hM]at NP⊢;have hS0:Sv w b o d d (w.alloc (.cells #[.int .u64 (L:Int)] 388)):=(Sv.refl hH hw).alloc _;have hl0:(UInt64.ofNat L).toNat=L:=by simp;omega
  have hR0:(w.alloc (.cells #[.int .u64 (L:Int)] 388)).heap[w.heap.size]? =some (.cells #[.int .u64 (((UInt64.ofNat L).toNat:Nat):Int)] 388 (0,0)):=by rw[hl0];exact Av w _
  have S0:=Aj hS0;have R0:=Aj hR0;obtain⟨I0,hI0⟩:∃I0,I0=x+L/4*2-1:=⟨_,rfl⟩
  have hI1:(x:Int)+(L:Int)/4*2-1=(I0:Int):=om;have hI2:(x:Int)+(L:Int)/4*2+1=(I0:Int)+2:=om;have hI3:x≤I0:=om;have hI4:I0+2<x+L:=om;rw[←hI0];clear hM hI0 hS0 hR0 hl0 hL hH;go_enter func303,ntmps303;go_wp2_with (go_at_call 266;refine(NP.1 _).mono ?_;rintro e w' ⟨rfl,rfl⟩);go_loopw [9] (fun vi wr=>∃(t:Nat) (r:UInt64) (dk:Array Int),vi= .int .i64 ((I0+t:Nat):Int)∧t≤3∧Sv w b o d dk wr∧Kept (wr.heap[w.heap.size]? =some (.cells #[.int .u64 (r.toNat:Int)] 388 (0,0)))∧
   Kept (bpRest x L M I0 (3-t) t (r,dk)=bpRest x L M I0 3 0 (UInt64.ofNat L,d))) (fun vi _=>I0+4-(intOf vi).toNat)
  case atStart=>exact⟨0,UInt64.ofNat L,d,rfl,om,S0.1,R0,⟨rfl⟩⟩
  case round=>
   obtain⟨t,r,dk,rfl,ht,hs,HR,HO⟩:=hrel;clear S0 R0;by_cases ht3:t=3
   ·subst ht3;have hg:¬(((I0+3:Nat):Int)≤(I0:Int)+2):=om;have HS:=Aj hs;clear hs;go_wp2;go_end0;refine⟨rfl,?_⟩;rw[←HO.1];exact HS.1
   ·have hg:(((I0+t:Nat):Int)≤(I0:Int)+2):=by omega
    have hgs:w.heap.size≠b:=om;obtain⟨i,hi⟩:∃i,i=I0+t:=⟨_,rfl⟩
    obtain⟨R,hRr⟩:∃R:Nat,R=r.toNat:=⟨_,rfl⟩
    have lR:R<18446744073709551616:=by rw[hRr];exact r.toNat_lt
    obtain⟨R',hR'⟩:∃R':Nat,R'=xorNextN R:=⟨_,rfl⟩
    have lR':R'<18446744073709551616:=by rw[hR'];exact xorNextN_lt R lR
    obtain⟨O,hO⟩:∃O:Nat,O=R'&&& (M-1):=⟨_,rfl⟩
    have lO:O≤M-1:=by rw[hO];exact Nat.and_le_right
    have eAnd:bits .and .u64 (R':Int) ((M:Int)-1)=(O:Int):=by
     rw[show((M:Int)-1)=((M-1:Nat):Int)from om,bits_and_u64_nat _ _ lR' om,hO]
    have hrow:=HR.1;rw[←hRr]at hrow;have k0:=Co _ _ 0 _ _ _ hrow;have f0:=Fr _ _ 0 _ _ hrow;have HN:=Aj (Zw w.heap.size R lR wr k0 f0);rw[←hR']at HN;have hrx:R'=(xorNext r).toNat:=by rw[hR',hRr,xorNext_toNat]
    obtain⟨G,hG⟩:∃G:Nat→Int,∀t,G t=dk[t]!:=⟨fun t=>dk[t]!,fun _=>rfl⟩
    have hs1:=(hs.fresh Ai 0 (.int .u64 (R':Int))).drewN 3;have RX:((wr.setCell ⟨w.heap.size,0,none⟩ (.int .u64 (R':Int))).drewN 3).heap[w.heap.size]? =some (.cells #[.int .u64 (((xorNext r).toNat:Nat):Int)] 388 (0,0)):=by
     rw[←hrx];exact Ag _ _ _ _ _ _ hrow
    have hf:∀t,t<d.size→((wr.setCell ⟨w.heap.size,0,none⟩ (.int .u64 (R':Int))).drewN 3).frozen? ⟨b,o+t,none⟩=false:=hs1.iI;have hc:∀t,t<d.size→((wr.setCell ⟨w.heap.size,0,none⟩ (.int .u64 (R':Int))).drewN 3).cell? ⟨b,o+t,none⟩=some (.int .u64 (G t)):=fun t ht=>by rw[hG];exact hs1.cell t ht
    obtain⟨W1,hW1⟩:∃W1,W1=(wr.setCell ⟨w.heap.size,0,none⟩ (.int .u64 (R':Int))).drewN 3:=⟨_,rfl⟩
    rw[←hW1]at hs1 RX hf hc HN;have NF:=Aj hs1;have HR1:=Aj RX;have HG:=Aj hG;have HX:=Aj hrx;have HOO:=Aj hO;rw[←hi];have HI:=Aj hi;have hii:(i:Int)=((I0+t:Nat):Int):=om;rw[←hii]at hg;have hi5:x≤i∧i<x+L:=om;clear hs hs1 hrow RX hG hW1 hrx hO hR' hRr k0 f0 hi hii HR;obtain⟨P,hP⟩:∃P,P=if O≥L then O-L else O:=⟨_,rfl⟩
    have hPL:P<L:=by rw[hP];split<;>omega
    have HST:=Aj (fun h3:t<3=>bp_step x L M I0 t r dk P h3 (by rw[←HX.1,←HOO.1,hP]));have hcs:(L≤O∧P=O-L)∨(¬L≤O∧P=O):=by rw[hP];split<;>omega
    clear hP;have ha:i=x+P∨i≠x+P:=Decidable.em _;rcases hcs with⟨hLO,hPO⟩|⟨hLO,hPO⟩
    all_goals
     have akB:decide ((L:Int)≤(O:Int))=decide (L≤O):=sm;have afv:(if L≤O then(O:Int)-(L:Int)else(O:Int))=(P:Int):=by split<;>omega
     simp only[hLO,if_true,Ee]at afv;clear hPO;rcases ha with ha|ha
     all_goals
      go_wp2_with (go_at_call 267;refine HN.1.mono ?_;rintro e w' ⟨rfl,rfl⟩);have HS2:=Aj ((NF.1.swp (i:=i) (j:=x+P) om om).drewN 1);have HR2:=Aj (((au _ ⟨b,o+(x+P),none⟩ (.int .u64 dk[i]!)).block _ (Ge.1 (((au _ ⟨b,o+i,none⟩ (.int .u64 dk[x+P]!)).block _ (Ge.1 HR1.1).1 (fun e=>hgs (Oj e))).trans HR1.1)).1 (fun e=>hgs (Oj e))).trans (((au _ ⟨b,o+i,none⟩ (.int .u64 dk[x+P]!)).block _ (Ge.1 HR1.1).1 (fun e=>hgs (Oj e))).trans HR1.1));have hm:Kept (i=I0+t∧t<3):=⟨HI.1,om⟩
      go_region
      all_goals go_wp2
      go_roundw
      case rel=>
       refine⟨t+1,xorNext r,Sort.swp dk i (x+P),?_,om,?_,⟨?_⟩,⟨?_⟩⟩
       ·have:=hm.1.1;congr 1;omega
       ·(try rw[←ha]);simp only[HG.1];(first|exact HS2.1|(rw[ha]at HS2;exact HS2.1)|(rw[←ha]at HS2;exact HS2.1))
       ·(try rw[←ha]);simp only[HG.1];(first|exact HR2.1|(rw[ha]at HR2;exact HR2.1)|(rw[←ha]at HR2;exact HR2.1))
       ·rw[←HO.1,HST.1 hm.1.2,hm.1.1]
      case measure=>have:=hm.1.1;simp[intOf];omega
 ·have h8':¬(8:Int)≤(L:Int):=by omega
  have hv:Sort.breakPatterns d x y=d:=by rw[hL];unfold Sort.breakPatterns;simp only[Nat.add_sub_cancel_left];rw[Ng h8]
  rw[hv];have HS:=Aj (Sv.refl hH hw);clear hH hv hL;go_enter func303,ntmps303;go_wp2;go_end0;exact⟨rfl,HS.1⟩
end
end Go.Proofs.YtjcpmfphnodaaaaGreatDoor
