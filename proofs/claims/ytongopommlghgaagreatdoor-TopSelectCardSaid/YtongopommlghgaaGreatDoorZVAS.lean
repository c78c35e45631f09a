/- Part 19. -/
import Derived.Test.YtongopommlghgaaGreatDoorZVAR
import Derived.Test.YtongopommlghgaaGreatDoorZVAQ
namespace Go.Proofs.YtongopommlghgaaGreatDoor
set_option maxRecDepth 100000
set_option maxHeartbeats 0
open _root_.Go.Proofs.Tryz
open Go.RowKit Go.Shelf
namespace Cs
def fit:List Int→Int→Bool
 |[],n=>decide (n=0)
 |c::r,n=>if c<0∨n<c then false else fit r (n-c)
theorem Ut:∀(l) (n:Nat),(∀c∈l,0≤c)→fit l n=decide ((l.map Int.toNat).sum=n)
 |[],n,_=>by
  rw[fit];refine decide_eq_decide.2 ?_;simp;omega
 |c::r,n,h=>by
  have hc:=h c sm;rw[fit,Az,AZ];by_cases h1:(n:Int)<c
  ·rw[Ps0 (.inr h1),eq_comm,Ee];omega
  ·rw[Ng om,show(n:Int)-c=((n-c.toNat:Nat):Int)from om,Ut r _ (fun z hz=>h z (by simp[hz]))];refine decide_eq_decide.2 ?_;omega
end Cs
theorem xU (A n c B LL) (m:Nat) (w) (hv:iR w B A n c LL) (hB:B≤w.heap.size) (hl:Ls.tot LL≤10000000) (hm:m≤4000000000):
  Calls prog 124 #[.int .i64 m,.slice A n c] w fun e w'=>e= .returned (.bool (Cs.fit LL.flatten m))∧Below w.heap.size w w':=by
 have HV:=Aj hv;have HL:=Aj hl;have hm':(m:Int)≤4000000000:=om;clear hv hl hm;generalize hr:Cs.fit LL.flatten m=res;have HR:=Aj hr;clear hr;go_enter func124,ntmps124;go_wp2_with (go_at_call 176;refine(Ir _ _ _ _ LL _ HV.1 om HL.1).mono ?_;rintro e w1 ⟨A0,n0,c0,rfl,ho,hb⟩);have hcap:=ho.rd.1;have hcm:=ho.rd.2.1;unfold maxLen at hcm;have HN:=Aj ho.len;have HO:=Aj ho.rd;have Hb:=Aj hb;have hsz:=hb.size;clear ho hb;generalize LL.flatten=l at*;go_loop [0,10] (fun s i=>∃k t:Nat,k≤n0∧i= .int .i64 k∧s= .int .i64 t∧t≤m∧Kept (Cs.fit (l.drop k) t=res)) (fun _ i=>n0-(intOf i).toNat)
 case atStart=>exact⟨0,m,om,rfl,rfl,om,⟨HR.1⟩⟩
 case round=>
  obtain⟨k,t,hk,rfl,rfl,ht,Ht⟩:=hrel;by_cases hlt:k<n0
  ·have hkn:k<l.length:=by rw[←HN.1];exact hlt
   obtain⟨b,off,rfl,kK,hcell⟩:=HO.1.at_ hkn;have e1:=Ht.1;rw[o9 hkn,Cs.fit]at e1;have E1:=Aj e1;generalize l[k]=x at hcell E1;clear e1;by_cases h1:x<0
   ·have e2:=E1.1;rw[Ps0 (.inl h1)]at e2;have E2:=Aj e2;clear e2 E1;go_wp2;go_ret;obtain rfl:=E2.1;exact⟨rfl,Hb.1⟩
   ·by_cases h2:(t:Int)<x
    ·have e2:=E1.1;rw[Ps0 (.inr h2)]at e2;have E2:=Aj e2;clear e2 E1;go_wp2;go_ret;obtain rfl:=E2.1;exact⟨rfl,Hb.1⟩
    ·have e2:=E1.1;rw[Ng om]at e2;obtain⟨y,rfl⟩:∃y:Nat,x=(y:Int):=⟨x.toNat,om⟩
     have hyt:y≤t:=om;have E2:=Aj (show Cs.fit (l.drop (k+1)) ((t-y:Nat):Int)=res by rw[←e2];congr 1;omega);clear e2 E1 h1;go_wp2;go_round
     case rel=>exact⟨k+1,t-y,om,by go_num,by go_num,om,E2⟩
     case measure=>simp[intOf];try omega
  ·obtain rfl:k=n0:=by omega
   clear hlt hk;have e1:=Ht.1;rw[HN.1,List.drop_of_length_le Ai,Cs.fit]at e1;have E1:=Aj e1;clear e1;by_cases h3:t=0
   ·subst h3;go_wp2;go_ret;obtain rfl:=E1.1;exact⟨rfl,Hb.1⟩
   ·go_wp2;go_ret;obtain rfl:=E1.1;rw[AF om];exact⟨by show Ending.returned (.bool ((t:Int)==0))=_;rw[show((t:Int)==0)=false by simp;omega],Hb.1⟩
def Vb (w:World) (g hi n:Nat) (LL:List Cs.gH):Prop:=
 ∃cs:Array Value,w.heap[g]? =some (.cells cs 55 (0,0))∧cs.size=n∧(∀(i:Nat) (l:Cs.gH),LL[i]? =some l→∃A' n' c',cs[i]? =some (Value.slice A' n' c')∧bq w (g+1) A' n' c' l∧∀p,ab A'=some p→p<hi)∧
  ∀i:Nat,LL.length≤i→i<n→cs[i]? =some (Value.slice none 0 0)
def Iu (w:World) (g hi n:Nat) (LL:List Cs.gH) (A:Option Addr) (m c:Nat) (acc:Cs.gH):Prop:=
 ∃cs:Array Value,w.heap[g]? =some (.cells cs 55 (0,0))∧cs.size=n∧(∀(i:Nat) (l:Cs.gH),LL[i]? =some l→∃A' n' c',cs[i]? =some (Value.slice A' n' c')∧bq w (g+1) A' n' c' l∧∀p,ab A'=some p→p<hi)∧
  cs[LL.length]? =some (Value.slice A m c)∧bq w hi A m c acc∧(∀i:Nat,LL.length<i→i<n→cs[i]? =some (Value.slice none 0 0))∧g<hi∧LL.length<n
section
variable {w w':World} {g hi n m c:Nat} {LL:List Cs.gH} {A:Option Addr} {acc:Cs.gH}
theorem Vb.start (h:Vb w g hi n LL) (hg:g<w.heap.size) (hh:hi≤w.heap.size) (hk:LL.length<n):Iu w g w.heap.size n LL none 0 0 []:=by
 obtain⟨cs,h1,h2,h3,h4⟩:=h;refine⟨cs,h1,h2,fun i l hl=>?_,h4 _ Ai hk,bq.nil _ _,fun i hi hn=>h4 i om hn,hg,hk⟩;obtain⟨A',n',c',e1,e2,e3⟩:=h3 i l hl;exact⟨A',n',c',e1,e2,fun p hp=>by have:=e3 p hp;omega⟩
theorem Iu.below (h:Iu w g hi n LL A m c acc) (hb:Below w.heap.size w w'):Iu w' g hi n LL A m c acc:=by
 obtain⟨cs,h1,h2,h3,h4,h5,h6,h7,h8⟩:=h;have hg:g<w.heap.size:=(Ge.1 h1).1;refine⟨cs,(hb.block g hg).trans h1,h2,fun i l hl=>?_,h4,aN h5 hb,h6,h7,h8⟩;obtain⟨A',n',c',e1,e2,e3⟩:=h3 i l hl;exact⟨A',n',c',e1,aN e2 hb,e3⟩
theorem Iu.cell (h:Iu w g hi n LL A m c acc):w.cell? ⟨g,LL.length,none⟩=some (Value.slice A m c):=by
 obtain⟨cs,h1,h2,h3,h4,_⟩:=h;exact(Co w g _ cs _ (0,0) h1).trans h4
theorem Iu.frozen (h:Iu w g hi n LL A m c acc) (k):w.frozen? ⟨g,k,none⟩=false:=by
 obtain⟨cs,h1,_⟩:=h;exact Fr w g k _ _ h1
theorem Iu.own (h:Iu w g hi n LL A m c acc):bq w hi A m c acc:=by
 obtain⟨cs,_,_,_,_,h5,_⟩:=h;exact h5
theorem Iu.grown {A4 m4 c4} {adP:Cs.gH} (h:Iu w g hi n LL A m c acc) (hg:w.grownBy w' (ab A)) (ho:bq w' hi A4 m4 c4 adP):
  (∃v,w'.cell? ⟨g,LL.length,none⟩=some v)∧w'.frozen? ⟨g,LL.length,none⟩=false∧Iu (w'.setCell ⟨g,LL.length,none⟩ (.slice A4 m4 c4)) g hi n LL A4 m4 c4 adP:=by
 obtain⟨cs,h1,h2,h3,h4,h5,h6,h7,h8⟩:=h;have hgs:g<w.heap.size:=(Ge.1 h1).1;have hne:some g≠ab A:=fun e=>by have:=(ae h5 g e.symm).1;omega
 have h1':=(hg.block g hgs hne).trans h1;have hset:=Ag w' g LL.length cs 55 (.slice A4 m4 c4) h1';refine⟨⟨_,(Co w' g _ cs _ (0,0) h1').trans h4⟩,Fr w' g _ _ _ h1',?_⟩;refine⟨_,hset,by simp[h2],fun i l hl=>?_,by rw[zT,Ps0 rfl,Ps0 om],aU ho (fun p hp e=>by have:=(ae ho p hp).1;omega),fun i hi hn=>?_,h7,h8⟩
 ·obtain⟨A',n',c',e1,e2,e3⟩:=h3 i l hl;have hil:i<LL.length:=by
   rcases Eo i LL.length with h|h
   ·exact h
   ·rw[BN h]at hl;cases hl
  refine⟨A',n',c',by rw[zT,Ng om];exact e1,?_,e3⟩;have e2':bq w' (g+1) A' n' c' l:=ag e2 hg (by
   rcases hA:ab A' with _|p
   ·exact .inl rfl
   ·refine .inr fun e=>?_
    have:=e3 p hA;have:=(ae h5 p e.symm).1;omega)
  exact aU e2' (fun p hp e=>by have:=(ae e2' p hp).1;omega)
 ·rw[zT,Ng om];exact h6 i hi hn
theorem Iu.done (h:Iu w g hi n LL A m c acc):Vb w g w.heap.size n (LL++[acc]):=by
 obtain⟨cs,h1,h2,h3,h4,h5,h6,h7,h8⟩:=h;refine⟨cs,h1,h2,fun i l hl=>?_,fun i hi hn=>h6 i (by simp at hi;omega) hn⟩;rw[List.getElem?_append]at hl;split at hl
 ·obtain⟨A',n',c',e1,e2,e3⟩:=h3 i l hl;exact⟨A',n',c',e1,e2,fun p hp=>(ae e2 p hp).2⟩
 ·rename_i hi
  obtain rfl:i=LL.length:=by
   rcases Eo LL.length i with h|h
   ·rw[BN (by simp;omega)]at hl;cases hl
   ·omega
  simp at hl;subst hl;exact⟨A,m,c,h4,zQ h5 om,fun p hp=>(ae h5 p hp).2⟩
theorem Vb.rd (h:Vb w g hi n LL) (hn:LL.length=n) (hm:n≤maxLen):nD w w.heap.size (some ⟨g,0,none⟩) n n LL:=by
 obtain⟨cs,h1,h2,h3,h4⟩:=h;have hg:g<w.heap.size:=(Ge.1 h1).1;refine⟨cs.toList,⟨Nr _,hm,by simp[h2],fun _=>⟨g,0,rfl,hg,fun i u hu=>?_⟩⟩,by simp[h2,hn],fun i l hl=>?_⟩
 ·rw[DR]at hu;rw[cK];exact(Co w g _ cs _ (0,0) h1).trans hu
 ·obtain⟨A',n',c',e1,e2,_⟩:=h3 i l hl;exact⟨A',n',c',by rw[DR];exact e1,bq.rd e2⟩
theorem Vb.made (w:World) (n):Vb (w.alloc (.cells (madeCells #[.slice none 0 0] n) 55)) w.heap.size (w.heap.size+1) n []:=by
 refine⟨_,AL w _,by simp[madeCells],fun i l hl=>by simp at hl,fun i _ hn=>?_⟩;rw[DT (by simp[madeCells];exact hn)];simp[madeCells,Nat.mod_one]
end
theorem Uu (n:Nat) (hn:n≤1000000) (w):(Instr.makeSlice 147 (.int .i64 n) (.int .i64 n)).run prog w= .ok (.slice (some ⟨w.heap.size,0,none⟩) n n) (w.alloc (.cells (madeCells #[.slice none 0 0] n) 55)):=by
 obtain⟨i0,hi0,hz0,hz1,hz2⟩:=AV Tn;have:=Eb (P:=prog) w 147 55 i0 (.slice none 0 0) underlying147 hi0 hz0 .i64 .i64 (n:Int) (n:Int) om om (by rw[hz1];simp;omega) (by rw[hz2];omega) om;rw[hz1]at this;simpa[Value.cells]using this
def ChP (w:World) (R:List Cs.gH×Int) (e:Ending) (w':World):Prop:=
 ∃A n c,e= .returned (.tuple #[.slice A n c,.int .i64 R.2])∧nD w' w'.heap.size A n c R.1∧Below w.heap.size w w'∧∀p,ab A=some p→w.heap.size≤p
theorem nD.nil (w B):nD w B none 0 0 []:=
 ⟨[],⟨Nr _,by unfold maxLen;omega,rfl,fun h=>absurd h om⟩,rfl,fun i l h=>by simp at h⟩
theorem ChP.bad {w w' R f} (h:R=([],f)) (hb:Below w.heap.size w w'):ChP w R (.returned (.tuple #[.slice none 0 0,.int .i64 f])) w':=by
 subst h;exact⟨none,0,0,rfl,nD.nil _ _,hb,fun p hp=>by simp[ab]at hp⟩
namespace Cs
def vM (LN:List (List Nat)):List (List Int):=LN.map (·.map Int.ofNat)
theorem Uv {LN k} (h:k<LN.length):(vM LN)[k]'(by simpa[vM]using h)=LN[k].map Int.ofNat:=by simp[vM]
theorem Uw (LN):((vM LN).flatten.map Int.toNat)=LN.flatten:=by
 induction LN with
 |nil=>rfl
 |cons l r ih=>
  rw[show vM (l::r)=l.map Int.ofNat::vM r from rfl,Ci,dR,ih,Ci]
  congr 1
  clear ih
  induction l with
  |nil=>rfl
  |cons x l ih=>rw[Az,Az,ih];rfl
theorem aa0 (LN):∀c∈(vM LN).flatten,0≤c:=by
 intro c hc;obtain⟨l,hl,hc⟩:=List.mem_flatten.1 hc;obtain⟨q,_,rfl⟩:=bY.1 hl;obtain⟨z,_,rfl⟩:=bY.1 hc;exact Int.natCast_nonneg z
theorem XU (LN) (n:Nat):fit (vM LN).flatten n=decide (LN.flatten.sum=n):=by
 rw[Ut _ _ (aa0 LN),Uw]
theorem XV {L} (h:(Ck.dec L).2=0):(Ck.dec L).1.length≤120:=
 (Ck.iD (L:=L) (l:=(Ck.dec L).1) (by rw[←h])).1.2.1
end Cs
theorem KE (A DA n c dn dc B LN D w) (hv:iR w B A n c (Cs.vM LN)) (hd:bf w B DA dn dc D) (hB:B≤w.heap.size)
  (hl:Ls.tot (Cs.vM LN)≤10000000) (hn:n≤1000000) (hdn:dn≤100000000) (hG:Gl w):
  Calls prog 74 #[.slice DA dn dc,.slice A n c] w (ChP w (if LN.flatten.sum≠D.length then([],23)else Cs.IW LN [] D)):=by
 have HV:=Aj (hv.more hB);have HD:=Aj (hd.more hB);have HL:=Aj hl;have hnl:n=LN.length:=by rw[hv.len];simp[Cs.vM]
 have HN:=Aj hnl;have hcap:=hv.cap;unfold maxLen at hcap;have hdl:dn=D.length:=hd.len;have HDL:=Aj hdl;generalize hR:(if LN.flatten.sum≠D.length then([],23)else Cs.IW LN [] D)=R;have HG:=Aj hG;have Hf:=Aj (Cs.XU LN dn);have hn':(n:Int)≤1000000:=om;have aht:(dn:Int)≤100000000:=om;have Hmk:=Aj (fun W=>Uu n hn W);have HB:=Aj hB;clear hv hd hl hnl hdl hG hn hB;by_cases hfit:LN.flatten.sum=dn
 ·have Hf2:Kept (Cs.fit (Cs.vM LN).flatten dn=true):=⟨by rw[Hf.1];simp[hfit]⟩
  rw[Ng (by rw[←HDL.1];omega)]at hR;have HR:=Aj hR;have HF:=Aj hfit;clear hR Hf hfit;go_enter func74,ntmps74;have hmk:=Hmk.1;go_wp2_with (go_at_call 124;refine(xU A n c w.heap.size (Cs.vM LN) dn w HV.1 Ai HL.1 om).mono ?_;rintro e w1 ⟨rfl,hb1⟩;rw[Hf2.1]);have Hb1:=Aj hb1;have hz1:=hb1.size;clear hb1;have Hm:=Aj (Vb.made w1 n);have hb2:=Hb1.1.alloc hz1 (.cells (madeCells #[.slice none 0 0] n) 55);generalize hw2:w1.alloc (.cells (madeCells #[.slice none 0 0] n) 55)=w2 at*;have hs2:w1.heap.size<w2.heap.size:=by rw[←hw2];simp
  have Py:Kept (w2.heap.size=w1.heap.size+1):=⟨by rw[←hw2];simp⟩
  obtain⟨g,hg⟩:∃g,g=w1.heap.size:=⟨_,rfl⟩
  have Hg:=Aj hg;have Hb2:=Aj hb2;have Hm2:Kept (Vb w2 g w2.heap.size n []):=⟨by rw[hg,Py.1];exact Hm.1⟩
  have hwg:w.heap.size≤g:=om;have hgw:g<w2.heap.size:=om;rw[←hg];clear hg hs2 hb2 hw2 Hm Py hz1 hmk Hb1;go_loopw [0,23] (fun d i wr=>∃k A0 n0 c0 D0 done,k≤n∧i= .int .i64 (k:Nat)∧d= .slice A0 n0 c0∧Kept (bf w w.heap.size A0 n0 c0 D0)∧Kept (List.length done=k)∧Kept ((LN.drop k).flatten.sum=D0.length)∧Kept (Cs.IW (LN.drop k) done D0=R)∧
   Kept (Vb wr g wr.heap.size n done)∧Kept (Below w.heap.size w wr)∧g<wr.heap.size∧(n0:Int)≤100000000) (fun _ i _=>n-(intOf i).toNat)
  case atStart=>exact⟨0,DA,dn,dc,D,[],om,rfl,rfl,HD,⟨rfl⟩,⟨by rw[←HDL.1];exact HF.1⟩,HR,Hm2,Hb2,hgw,aht⟩
  case round=>
   clear Hm2 Hb2 hgw HR HF HD HDL Hf2;obtain⟨k,A0,n0,c0,D0,done,hk,rfl,rfl,HD0,Hdn,ahu,HR,Hrw,Hb,hgr,hn0⟩:=hrel;by_cases hlt:k<n
   ·have hkn:k<LN.length:=by rw[←HN.1];exact hlt
    have hkn2:k< (Cs.vM LN).length:=by simpa[Cs.vM]using hkn
    obtain⟨b,off,A',n',c',rfl,kK,hcell,hr⟩:=HV.1.at_ hkn2;have hl0:=(Hb.1.cell (p:=⟨b,off+k,none⟩) (by show b<_;exact kK)).trans hcell;rw[Cs.Uv hkn]at hr;have e1:=HR.1;have e2:=ahu.1;rw[o9 hkn]at e1 e2;rw[Cs.IW]at e1;rw[Ci,Dv]at e2;have Htl:=Aj (Ls.iy hkn2);generalize hrest:(LN.drop (k+1)).flatten.sum=rest at e2;generalize hln:LN[k]=ln at hr e1 e2;have adQ:=Aj hrest;have HRw:=Aj hr;have hnl:=hr.len;rw[fM]at hnl;have Hnl:=Aj hnl;have hn1:n'≤10000000:=by
     have h1:=Htl.1;have h2:=Ls.gN (Cs.vM LN) (k+1);have h3:=HL.1;have h4:((Cs.vM LN)[k]).length=n':=by rw[Cs.Uv hkn,hln,fM,hnl]
     omega
    have hn1':(n':Int)≤10000000:=om;generalize hR1:Cs.FK ln [] D0=R1 at e1;have HR1:=Aj hR1;have HE1:=Aj e1;have HE2:=Aj e2;have amT:=Aj hr.1;have Hcm:=Aj hr.2.1;have HC:Kept (Iu wr g wr.heap.size n done none 0 0 []):=⟨Hrw.1.start hgr Ai (by rw[Hdn.1];exact hlt)⟩
    obtain⟨S,hS⟩:∃S,S=wr.heap.size:=⟨_,rfl⟩
    have HS:=Aj hS;rw[←hS]at HC;clear e1 e2 hrest hln hr hnl hR1 hkn hkn2 Htl hcell HR hS Hrw hn1;go_wp2;go_loopw [0,30] (fun d i wi=>∃j A1 n1 c1 D1 AC mc cc acc,j≤n'∧i= .int .i64 (j:Nat)∧d= .slice A1 n1 c1∧Kept (bf w w.heap.size A1 n1 c1 D1)∧Kept ((ln.drop j).sum+rest=D1.length)∧Kept (Cs.FK (ln.drop j) acc D1=R1)∧
     Kept (List.length acc≤120*j)∧Kept (Iu wi g S n done AC mc cc acc)∧Kept (Below w.heap.size w wi)∧Kept (S≤wi.heap.size)∧(n1:Int)≤100000000) (fun _ i _=>n'-(intOf i).toNat)
    case atStart=>exact⟨0,A0,n0,c0,D0,none,0,0,[],om,rfl,rfl,HD0,⟨HE2.1⟩,HR1,⟨sm⟩,HC,Hb,⟨Nat.le_of_eq HS.1⟩,hn0⟩
    case round=>
     obtain⟨j,A1,n1,c1,D1,AC,mc,cc,acc,hj,rfl,rfl,HD1,Px,Hd1,Hac,HCu,Zf,HSi,ahy⟩:=hrel;by_cases hlt2:j<n'
     ·have hjl:j<ln.length:=by rw[←Hnl.1];exact hlt2
      obtain⟨b2,sS,rfl,adS,hcell2⟩:=HRw.1.at_ (k:=j) (by rw[fM];exact hjl);rw[Ey]at hcell2;have hl2:=(Zf.1.cell (p:=⟨b2,sS+j,none⟩) (by show b2<_;exact adS)).trans hcell2;have e1:=Hd1.1;have e2:=Px.1;rw[o9 hjl]at e1 e2;rw[Cs.FK]at e1;rw[AZ]at e2;generalize hx:ln[j]=x at hl2 e1 e2;have hxl:x≤D1.length:=om;have ahz:n1=D1.length:=HD1.1.len;have hxn:x≤n1:=om;have hx2:(x:Int)≤(n1:Int):=om;have hcl:=Aj HD1.1.1;have hcm:=HD1.1.2.1;unfold maxLen at hcm;have hc1:(n1:Int)≤(c1:Int):=by have:=hcl.1;omega
      have HT:=Aj ((HD1.1.take hxn).below Zf.1);have HDr:=Aj (HD1.1.drop hxn);generalize hQ:Ck.dec (D1.take x)=Q at e1;have HQ:=Aj hQ;have HE:=Aj e1;have HE3:=Aj (show(ln.drop (j+1)).sum+rest=(D1.drop x).length by rw[mg];omega);have hzi:=Zf.1.size;have HGi:=Aj (HG.1.below Zf.1);have hx1:(x:Int)≤100000000:=om;have Hzi:=Aj hzi;clear e1 e2 hxl ahz hQ hcell2 hx hjl Px Hd1 hzi hl0;obtain⟨ql,qe⟩:=Q;by_cases hqe:qe=0
      ·subst hqe;have hq:((0:Int) !=0)=false:=rfl;have hql:ql.length≤120:=by have:=Cs.XV (L:=D1.take x) (by rw[HQ.1]);rw[HQ.1]at this;exact this
       have hgo:(ln.drop (j+1)≠[]∧ql.length≠120)∨¬(ln.drop (j+1)≠[]∧ql.length≠120):=Classical.em _;have hdr:ln.drop (j+1)≠[]↔j+1<n':=by rw[ne_eq,List.drop_eq_nil_iff,←Hnl.1];omega
       rw[hdr]at hgo;have hmc:mc=acc.length:=HCu.1.own.len;have aa3:mc≤120*j:=by rw[hmc];exact Hac.1
       have Hmc:=Aj aa3;by_cases hbad:j+1<n'∧ql.length≠120
       ·have HRr:Kept (R=([],23)):=⟨by
         have e3:=HE.1;rw[Ng sm,Ps0 ⟨hdr.2 hbad.1,hbad.2⟩]at e3;have e4:=HE1.1;rw[←e3,Ps0 sm]at e4;exact e4.symm⟩
        have h1:(j:Int)< (n':Int)-1:=om;have h2:(((ql.length:Nat):Int) !=120)=true:=by simp;omega
        clear hgo hdr hmc aa3 hbad hql;go_wp2_with (go_at_call 125;refine(lD A1 x c1 w.heap.size (D1.take x) _ HT.1 Hzi.1 om HGi.1).mono ?_;rintro e w3 ⟨A2,n2,c2,rfl,hown,hb3⟩;rw[HQ.1]at hown⊢;obtain rfl:n2=ql.length:=bq.len hown;have aa4:=Aj (bq.rd hown);have Hb3:=Aj hb3;have Qh:=Aj (HCu.1.below hb3);have hc3:=Qh.1.cell;have hf3:=Qh.1.frozen k;rw[Hdn.1]at hc3;have hz3:S≤w3.heap.size:=Lt HSi.1 hb3.size;have ho3:=Qh.1.own;clear hown hb3);go_ret2;exact ChP.bad HRr.1 ((Zf.1.trans (Hb3.1.mono Hzi.1)))
       ·have ajP:mc≤1200000000:=by omega
        have HEg:Kept (Cs.FK (ln.drop (j+1)) (acc++ql) (D1.drop x)=R1):=⟨by
         have e3:=HE.1;rw[Ng sm,Ng (by rw[hdr];exact hbad)]at e3;exact e3⟩
        have Hql:=Aj hql;have hcs:(¬(j:Int)< (n':Int)-1)∨((j:Int)< (n':Int)-1∧(((ql.length:Nat):Int) !=120)=false):=by
         by_cases h1:j+1<n'
         ·refine .inr ⟨om,?_⟩;have:ql.length=120:=Dl fun h=>hbad ⟨h1,h⟩
          rw[this]
          rfl
         ·exact .inl om
        have amY:(ql.length:Int)≤120:=om;clear hgo hdr hmc aa3 hbad hql;rcases hcs with h1|⟨h1,h2⟩
        all_goals
         go_wp2_with first
          |(at_builtin;refine qH rfl (.tmp 62) (.tmp 63) rfl S AC mc cc acc rfl ho3 w3.heap.size A2 ql.length c2 ql rfl aa4.1 (by have:=Hmc.1;omega) hz3 ?_;intro A4 c4 w4 av Iw cO;obtain⟨⟨v4,hv4⟩,hf4,Ux⟩:=Qh.1.grown Iw av;rw[Hdn.1]at hv4 hf4 Ux;have adT:=Aj Iw;have Hlt:=Aj (ae ho3);have ahC:=Aj Ux;clear Ux Iw av)
          |(go_at_call 125;refine(lD A1 x c1 w.heap.size (D1.take x) _ HT.1 Hzi.1 om HGi.1).mono ?_;rintro e w3 ⟨A2,n2,c2,rfl,hown,hb3⟩;rw[HQ.1]at hown⊢;obtain rfl:n2=ql.length:=bq.len hown;have aa4:=Aj (bq.rd hown);have Hb3:=Aj hb3;have Qh:=Aj (HCu.1.below hb3);have hc3:=Qh.1.cell;have hf3:=Qh.1.frozen k;rw[Hdn.1]at hc3;have hz3:S≤w3.heap.size:=Lt HSi.1 hb3.size;have ho3:=Qh.1.own;clear hown hb3)
         have hb4:Below w.heap.size w w4:=(Zf.1.trans (Hb3.1.mono Hzi.1)).grown adT.1 (Lt Hzi.1 Hb3.1.size) (fun p hp=>by have:=(Hlt.1 p hp).1;have:=HS.1;have:=Hb.1.size;omega);have hb5:=hb4.setCell (p:=⟨g,k,none⟩) (by show w.heap.size≤g;exact hwg) (.slice A4 (mc+ql.length) c4);have hz5:S≤(w4.setCell ⟨g,k,none⟩ (.slice A4 (mc+ql.length) c4)).heap.size:=by have:=adT.1.size;simp[World.setCell];omega
         go_roundw
         case rel=>exact⟨j+1,_,n1-x,c1-x,D1.drop x,A4,mc+ql.length,c4,acc++ql,om,by go_num,rfl,HDr,HE3,HEg,⟨by have:=Hac.1;have:=Hql.1;rw[La];omega⟩,ahC,⟨hb5⟩,⟨hz5⟩,om⟩
         case measure=>simp[intOf];try omega
      ·have HRr:Kept (R=([],qe)):=⟨by
        have e3:=HE.1;rw[Ps0 hqe]at e3;have e4:=HE1.1;rw[←e3,Ps0 hqe]at e4;exact e4.symm⟩
       have hq:(qe !=0)=true:=by simp[hqe]
       clear hqe;go_wp2_with (go_at_call 125;refine(lD A1 x c1 w.heap.size (D1.take x) _ HT.1 Hzi.1 om HGi.1).mono ?_;rintro e w3 ⟨A2,n2,c2,rfl,hown,hb3⟩;rw[HQ.1]at hown⊢;obtain rfl:n2=ql.length:=bq.len hown;have aa4:=Aj (bq.rd hown);have Hb3:=Aj hb3;have Qh:=Aj (HCu.1.below hb3);have hc3:=Qh.1.cell;have hf3:=Qh.1.frozen k;rw[Hdn.1]at hc3;have hz3:S≤w3.heap.size:=Lt HSi.1 hb3.size;have ho3:=Qh.1.own;clear hown hb3);go_ret2;exact ChP.bad HRr.1 ((Zf.1.trans (Hb3.1.mono Hzi.1)))
     ·obtain rfl:j=n':=by omega
      clear hlt2 hj;have e1:=Hd1.1;have e2:=Px.1;rw[Hnl.1,List.drop_of_length_le Ai]at e1 e2;rw[Cs.FK]at e1;rw[List.sum_nil,cK]at e2;have e3:=HE1.1;rw[←e1,Ng sm]at e3;have E3:=Aj e3;have E2:=Aj (adQ.1.trans e2);clear e1 e2 e3 hcap;have hgi:=j6 (show g<S by have:=HS.1;omega) HSi.1;go_wp2;go_roundw
      case rel=>exact⟨k+1,A1,n1,c1,D1,done++[acc],om,by go_num,rfl,HD1,⟨by rw[La,Hdn.1];rfl⟩,E2,E3,⟨HCu.1.done⟩,Zf,hgi,ahy⟩
      case measure=>simp[intOf];try omega
   ·obtain rfl:k=n:=by omega
    clear hlt hk;have e1:=HR.1;rw[HN.1,List.drop_of_length_le Ai,Cs.IW]at e1;have E1:=Aj e1;clear e1;go_wp2;go_ret2;obtain rfl:=E1.1;exact⟨_,_,_,rfl,Hrw.1.rd Hdn.1 (by unfold maxLen;omega),Hb.1,fun p hp=>by simp[ab]at hp;omega⟩
 ·have Hf2:Kept (Cs.fit (Cs.vM LN).flatten dn=false):=⟨by rw[Hf.1];simp[hfit]⟩
  rw[Ps0 (by rw[←HDL.1];omega)]at hR;have HR:=Aj hR;clear hR Hf hfit;go_enter func74,ntmps74;go_wp2_with (go_at_call 124;refine(xU A n c w.heap.size (Cs.vM LN) dn w HV.1 Ai HL.1 om).mono ?_;rintro e w1 ⟨rfl,hb1⟩;rw[Hf2.1]);go_ret2;exact ChP.bad HR.1.symm hb1
section
open Go.Maps (Keyed)
open Go.WideMaps (keyOf_string_mk)
theorem mF {H P e} (he:P.underlying e=some .bool) {v} {z:DataW H×List MemPlace} (h:plainElem P e v=some z):∃x,v= .bool x∧z=(.lit (.bool x),[]):=by
 unfold plainElem at h;rw[he]at h;split at h
 ·cases h;exact⟨_,rfl,rfl⟩
 ·rename_i h1;cases h1
 ·rename_i h1;cases h1
 ·cases h
theorem fK {H P} (w) {ops rest o a Q}
  (hg:o.guard=none) (m x t) (hop:o.op=Op.lookup t m x false)
  (k e) (K:Keyed P k) (ht:P.underlying t=some (.map k e)) (he:P.underlying e=some .bool) (hz:(zeroValue e).run P w= .ok (.bool false) w) (b n) (D:DataW H)
  (hm:a.eval m= .map (some b)) (hown:w.ownsMap P k (plainElem P e) b n D) (key kl) (hx:a.eval x=key) (hkey:keyOf P k key=some kl) (c) (hc:D.atKey kl (.lit (.bool false))= .lit (.bool c))
  (hK:wpList P ops Q rest (a.put o.dst (.bool c)) w):
  wpList P ops Q (o::rest) a w:=by
 refine wpList_plain hg fun K' hK'=>?_
 obtain⟨v,ps,hrun,hv⟩:=hown.lookup K ht hz (plainElem_bool he false) hkey;obtain⟨c',rfl,hv'⟩:=mF he hv;have:c'=c:=by
  simp only[az]at hv';rw[hc]at hv';have:=hv'.1
  injection this with this
  injection this with this
  exact this.symm
 subst this;unfold Oper.wp;simp[execOp,hop,hm,hx,hrun,Result.andThen];exact hK' _ _ hK
namespace Us
def ky (s:ByteArray):Lit:= .string s.data.toList
def D (ss:List ByteArray):DataW Unit:=ss.foldl (fun D s=>D.put (ky s) (.lit (.bool true))) (.map [])
theorem Uy (ss s):D (ss++[s])=(D ss).put (ky s) (.lit (.bool true)):=by unfold D;rw[List.foldl_append];rfl
theorem aa5 {a b} (h:ky a=ky b):a=b:=by
 unfold ky at h
 injection h with h
 exact ByteArray.ext (Array.toList_inj.1 h)
theorem adU (ss):Go.Maps.IsMap (D ss):=by
 unfold D;have key:∀(ss:List ByteArray) (d:DataW Unit),Go.Maps.IsMap d→Go.Maps.IsMap (ss.foldl (fun D s=>D.put (ky s) (.lit (.bool true))) d):=fun ss=>by
  induction ss with
  |nil=>intro d h;exact h
  |cons s ss ih=>intro d h;exact ih _ (h.put _ _)
 exact key ss _ ⟨[],rfl⟩
theorem ahD (ss s):(D ss).atKey (ky s) (.lit (.bool false))= .lit (.bool (ss.any fun t=>decide (t=s))):=by
 have key:∀(n:Nat) (ss:List ByteArray),ss.length=n→(D ss).atKey (ky s) (.lit (.bool false))= .lit (.bool (ss.any fun t=>decide (t=s))):=fun n=>by
  induction n with
  |zero=>
   intro ss h;obtain rfl:=nL h
   rfl
  |succ n ih=>
   intro ss h;rcases List.eq_nil_or_concat ss with h0|⟨l,x,rfl⟩
   ·rw[h0]at h;cases h
   rw[DL]at h⊢;rw[Uy];by_cases e:s=x
   ·subst e;rw[Go.Maps.atKey_put_same (adU l) (by trivial)];simp
   ·rw[Go.Maps.atKey_put_other (fun h=>e (aa5 h)),ih l (by simp at h;exact h)];rw[List.any_append];simp[show¬x=s from fun h=>e h.symm]
 exact key ss.length ss rfl
def pre (rs:List jO) (k:Nat):List ByteArray:=(rs.take k).flatMap fun r=>Lb.strs r.1
theorem iq (rs k) (h:k<rs.length):pre rs (k+1)=pre rs k++Lb.strs rs[k].1:=by
 unfold pre;rw[Ts h,pz];simp
theorem nQ (rs k):(pre rs k).length≤(rs.flatMap fun r=>Lb.strs r.1).length:=by
 have h:(rs.flatMap fun r=>Lb.strs r.1)=pre rs k++((rs.drop k).flatMap fun r=>Lb.strs r.1):=by
  unfold pre;rw[←pz,jJ]
 rw[h,La];omega
end Us
theorem aa6:Keyed prog 9:=Go.Maps.string_keyed underlying9
theorem Iy (w):(zeroValue 4).run prog w= .ok (.bool false) w:=kr
def ahE (w:World) (T:List ByteArray) (rs:List jO) (e:Ending) (w':World):Prop:=
 Below w.heap.size w w'∧((Bk.used T rs=true∧e= .returned (.int .i64 (-1)))∨(Bk.used T rs=false∧∃k:Nat,e= .returned (.int .i64 (k:Int))))
theorem vC (TA A tn tc n c B T rs w) (hT:bK w B TA tn tc T) (hv:vL w B A n c rs) (hB:B≤w.heap.size) (hm:(rs.flatMap fun r=>Lb.strs r.1).length≤1000000) (hf:∀s∈rs.flatMap fun r=>Lb.strs r.1,s.size≤maxLen) (hfT:∀s∈T,s.size≤maxLen):
  Calls prog 71 #[.slice TA tn tc,.slice A n c] w (ahE w T rs):=by
 obtain⟨hlc,hcm⟩:=hv.cap;unfold maxLen at hcm;have htc:=hT.1;have htm:=hT.2.1;unfold maxLen at htm;have V:=Aj hv;have VT:=Aj hT;have HN:=Aj hv.len;have HTN:=Aj hT.len;have HM:=Aj hm;have HF:=Aj hf;have HFT:=Aj hfT;clear hv hT hm hf hfT;have hmm:= @run_makeMap prog;go_enter func71,ntmps71;go_wp2;go_loopw [15] (fun i wr=>∃k:Nat,k≤n∧i= .int .i64 k∧wr.ownsMap prog 9 (plainElem prog 4) w.heap.size (Us.pre rs k).length (Us.D (Us.pre rs k))∧Below w.heap.size w wr) (fun i _=>n-(intOf i).toNat)
 case atStart=>exact⟨0,om,rfl,World.ownsMap_made _ _ _ _,(Ae _ _).alloc Ai _⟩
 case round=>
  obtain⟨k,hk,rfl,hm,hb⟩:=hrel;by_cases hlt:k<n
  ·have hkl:k<rs.length:=by rw[←HN.1];exact hlt
   obtain⟨b,off,A3,n3,c3,A4,n4,c4,rfl,hL,hC,hc⟩:=V.1.cells hB hkl;obtain⟨r0,r1⟩:=hc wr hb;have hps:=Aj (Us.iq rs k hkl);have hpl:=Us.nQ rs (k+1);have hln:(Lb.strs rs[k].1).length≤1000000:=by have:=HM.1;rw[hps.1,La]at hpl;omega
   have hsl:=Lb.aX rs[k].1;have h3l:=hL.len;have hc3:=hL.1;have FV:=hL.2.1;unfold maxLen at FV;have HL:=Aj hL;have BK:=Aj hb;have MP:=Aj hm;have HLN:=Aj hln;have mG:n3≤1000000:=om;have hsz:Kept (∀s∈Lb.strs rs[k].1,s.size≤maxLen):=⟨fun s hs=>HF.1 s (mh.2 ⟨rs[k],gG hkl,hs⟩)⟩
   have HPL:=Aj hpl;clear hL hC hc hb hm hpl hln hsl h3l;generalize rs[k].1=m at*;have W1:∀o,Below w.heap.size w (wr.alloc o):=fun o=>BK.1.alloc BK.1.size _
   go_upto_region 6 with(go_at_call 123;refine(jN A3 n3 c3 m _ ((HL.1.below ((W1 _).mono hB)).more (Lt hB (W1 _).size)) om).mono ?_;rintro e w3 ⟨A6,n6,c6,rfl,ho,hb⟩;have O3:=Aj ho;have B3:=Aj hb;clear ho hb)
   have kP:=BK.1.size;have M3:Kept (w3.ownsMap prog 9 (plainElem prog 4) w.heap.size (Us.pre rs k).length (Us.D (Us.pre rs k))):=⟨(MP.1.alloc _).kept (aB (row:=none) B3.1) sm⟩
   have BB:=Aj ((W1 _).trans (B3.1.mono (W1 _).size));have vV:=MP.1.lt;have H6:=Aj O3.1.len;have h62:n6≤1000000:=by have:=H6.1;have:=HLN.1;omega
   have hbase:w.heap.size< (wr.alloc (.cells #[.slice A3 n3 c3,.slice A4 n4 c4] 146)).heap.size:=by simp;omega
   generalize (wr.alloc (.cells #[.slice A3 n3 c3,.slice A4 n4 c4] 146)).heap.size=Z at*;clear r0 r1 B3 MP W1 kP vV;go_loopw [23] (fun i wi=>∃j:Nat,j≤n6∧i= .int .i64 j∧wi.ownsMap prog 9 (plainElem prog 4) w.heap.size ((Us.pre rs k).length+j) (Us.D (Us.pre rs k++(Lb.strs m).take j))∧Below w.heap.size w wi∧aT wi Z A6 n6 c6 (Lb.strs m)) (fun i _=>n6-(intOf i).toNat)
   case atStart=>exact⟨0,om,rfl,by rw[Eh,Bh];exact M3.1,BB.1,O3.1⟩
   case round=>
    clear M3 BB O3;obtain⟨j,hj,rfl,hm,hb,ho⟩:=hrel;have keep:∀W,wr.grownBy W (some w.heap.size)→Below w.heap.size w W∧aT W Z A6 n6 c6 (Lb.strs m):=fun W hg=>⟨hb.grown hg hb.size (fun g e=>by cases e;exact Nr _),ag ho hg (by
     rcases hA:ab A6 with _|g'
     ·exact .inl rfl
     ·exact .inr fun e=>by have:=(ae ho g' hA).1;have:=Oj e;omega)⟩
    have KEEP:=Aj keep;by_cases hlt2:j<n6
    ·have hjl:j< (Lb.strs m).length:=by rw[←H6.1];exact hlt2
     obtain⟨b4,Z8,rfl,-,z0⟩:=ho.rd.at_ hjl;have MP:=Aj hm;have HT:=Aj (Ts hjl);have hk1:=keyOf_string_mk (k:=9) (P:=prog) underlying9 (hsz.1 _ (gG hjl));have HK1:=Aj hk1;have hcnt:(Us.pre rs k).length+j<1000000000:=by have h1:=Us.nQ rs k;have h2:=HM.1;omega
     have HCN:=Aj hcnt;clear hb ho hm keep hk1 hcnt;generalize (Lb.strs m)[j]=s at*;go_wp2_with (at_mapUpdate;refine wpList_mapUpdate_own _ rfl _ _ _ 221 rfl 9 4 aa6 underlying221 _ w.heap.size ((Us.pre rs k).length+j) _ rfl MP.1 (by have:=HCN.1;unfold maxLen;omega) _ _ _ rfl rfl HK1.1 _ [] (plainElem_bool underlying4 true) ?_;intro w1 hown1 hgrow1;have K1:=Aj (KEEP.1 _ hgrow1);have M1:=Aj hown1;clear hown1 hgrow1);go_roundw
     case rel=>exact⟨j+1,om,by go_num,by rw[HT.1,←Af,Us.Uy];exact M1.1,K1.1.1,K1.1.2⟩
     case measure=>simp[intOf];omega
    ·obtain⟨MP⟩:Nonempty (PLift (wr.ownsMap prog 9 (plainElem prog 4) w.heap.size (Us.pre rs (k+1)).length (Us.D (Us.pre rs (k+1))))):=⟨⟨by
      have e:j=(Lb.strs m).length:=by have:=H6.1;omega
      rw[e,List.take_length,←La,←hps.1]at hm;exact hm⟩⟩
     have B2:=Aj hb;clear hb ho hm keep;go_wp2;go_roundw
     case rel=>exact⟨k+1,om,by go_num,MP.down,B2.1⟩
     case measure=>simp[intOf];omega
  ·have hpk:Us.pre rs k=rs.flatMap fun r=>Lb.strs r.1:=by unfold Us.pre;rw[iM (by have:=HN.1;omega)]
   rw[hpk]at hm;have HU:Kept (Bk.used T rs=T.all fun s=>(rs.flatMap fun r=>Lb.strs r.1).any fun t=>decide (t=s)):=⟨rfl⟩
   clear hpk;generalize (rs.flatMap fun r=>Lb.strs r.1)=ss at*;have MP:=Aj hm;have B2:=Aj hb;clear hb hm;go_upto_region 12 with fail;go_loopw [33] (fun i wi=>∃j:Nat,j≤tn∧i= .int .i64 j∧wi.ownsMap prog 9 (plainElem prog 4) w.heap.size ss.length (Us.D ss)∧Below w.heap.size w wi∧Kept (∀(q:Nat) (hq:q<T.length),q<j→(ss.any fun t=>decide (t=T[q]))=true)) (fun i _=>tn-(intOf i).toNat)
   case atStart=>exact⟨0,om,rfl,MP.1,B2.1,⟨fun q _ h=>om⟩⟩
   case round=>
    clear MP B2;obtain⟨j,hj,rfl,hm,hb,hd⟩:=hrel;by_cases hlt:j<tn
    ·have hjl:j<T.length:=by rw[←HTN.1];exact hlt
     obtain⟨b4,Z8,rfl,-,z0⟩:=(VT.1.below (hb.mono hB)).at_ hjl;have MP:=Aj hm;have B2:=Aj hb;have hk1:=keyOf_string_mk (k:=9) (P:=prog) underlying9 (HFT.1 _ (gG hjl));have HK1:=Aj hk1;have HAT:=Aj (Us.ahD ss T[j]);obtain⟨fb,Qe⟩:∃fb,fb=ss.any fun t=>decide (t=T[j]):=⟨_,rfl⟩
     rw[←Qe]at HAT;have HFB:=Aj Qe;clear hb hm hk1 Qe;generalize hTj:T[j]=s at HAT HK1 z0;have HTJ:=Aj hTj;clear hTj;cases fb with
     |true=>
      go_wp2_with (at_lookup;refine fK _ rfl _ _ 221 rfl 9 4 aa6 underlying221 underlying4 (Iy _) w.heap.size ss.length _ rfl MP.1 _ _ rfl HK1.1 true HAT.1 ?_);go_roundw
      case rel=>
       refine⟨j+1,om,by go_num,MP.1,B2.1,⟨fun q hq hqj=>?_⟩⟩;by_cases e:q=j
       ·subst e;exact HFB.1.symm
       ·exact hd.1 q hq om
      case measure=>simp[intOf];omega
     |false=>
      go_wp2_with (at_lookup;refine fK _ rfl _ _ 221 rfl 9 4 aa6 underlying221 underlying4 (Iy _) w.heap.size ss.length _ rfl MP.1 _ _ rfl HK1.1 false HAT.1 ?_);go_ret;refine⟨B2.1,.inr ⟨?_,j,rfl⟩⟩;rw[HU.1,List.all_eq_false];exact⟨T[j],gG hjl,by rw[←HFB.1];simp⟩
    ·have B2:=Aj hb;have hall:Kept (Bk.used T rs=true):=⟨by
      rw[HU.1,DF];intro s hs;obtain⟨q,hq,rfl⟩:=jw.1 hs;exact hd.1 q hq (by have:=HTN.1;omega)⟩
     clear hb hm;go_wp2;go_ret;exact⟨B2.1,.inl ⟨hall.1,rfl⟩⟩
end
structure Sx (w W:World) (As:Nat→Option Addr) (ns cs:Nat→Nat) (v:Value):Prop where
 aZ:Below w.heap.size w W
 Kj:w.heap.size+3≤W.heap.size
 sec:∀i,i<4→W.cell? ⟨w.heap.size,i,none⟩=some (.slice (As i) (ns i) (cs i))
 out:W.heap[w.heap.size+1]? =some (.cells #[v] 24 (0,0))
 err:W.heap[w.heap.size+2]? =some (.cells #[.int .i64 0] 25 (0,0))
section
variable {w W W':World} {As:Nat→Option Addr} {ns cs:Nat→Nat} {v:Value}
theorem Sx.on (h:Sx w W As ns cs v) (hb:Below W.heap.size W W'):Sx w W' As ns cs v:=by
 have hz:=h.Kj;exact⟨h.aZ.trans (hb.mono om),by have:=hb.size;omega,fun i hi=>(hb.cell (p:=⟨w.heap.size,i,none⟩) (by show w.heap.size<_;omega)).trans (h.sec i hi),(hb.block _ om).trans h.out,(hb.block _ om).trans h.err⟩
theorem Sx.door (h:Sx w W As ns cs v) {f tmps R}
  (h2:tmps[2]?.getD undef= .pointer (some ⟨w.heap.size+1,0,none⟩)) (h3:tmps[3]?.getD undef= .pointer (some ⟨w.heap.size+2,0,none⟩))
  (hR:∀w',Below w.heap.size w w'→R (.returned (.tuple #[.slice none 0 0,.int .i64 f])) w'):
  bodyPostD prog Tryz.f35 R (Exit.panic [Fl f]) {tmps:=tmps,defers:=[{target:=Target.fn (Fn.func 65) #[.pointer (some ⟨w.heap.size+1,0,none⟩),.pointer (some ⟨w.heap.size+2,0,none⟩)],args:= #[]}]} W:=by
 refine leaves_cons (f:=65) (args:= #[.pointer (some ⟨w.heap.size+1,0,none⟩),.pointer (some ⟨w.heap.size+2,0,none⟩)]) sm (by simp[go_sem]) ?_;refine(PO f (w.heap.size+1) (w.heap.size+2) w.heap.size v (.int .i64 0) [] W om om om (Co _ _ 0 _ _ _ h.out) (Co _ _ 0 _ _ _ h.err) (Fr _ _ 0 _ _ h.out) (Fr _ _ 0 _ _ h.err)).mono ?_;rintro e u' w'' ⟨rfl,rfl,hb,hc1,hc2⟩;have:=hR w'' (h.aZ.trans hb);simp[Leaves,settle,results,Tryz.results35,go_sem,h2,h3,hc1,hc2];exact this
end
namespace Rc
theorem Uz {α:Type} (f:α→List UInt8) (hf:∀x,0< (f x).length) (l:List α):l.length≤(l.flatMap f).length:=by
 induction l with
 |nil=>simp
 |cons x l ih=>rw[Au,La,Lc];have:=hf x;omega
theorem XW (T r):1+r.1.length≤(jD T r).length∧(Lb.strs r.1).length≤(jD T r).length∧r.2.length≤(jD T r).length:=by
 have h1:=Uz (dU T) (fun s=>Vi.dh _) (Lb.strs r.1);have h2:=Uz YL (fun n=>Vi.dh _) r.2;have h3:(Lb.strs r.1).length=2*r.1.length:=Lb.aX _;have h4:=Vi.dh r.1.length;have h5:=Vi.dh r.2.length;unfold jD;simp only[La];omega
theorem XX (T rs):Ps.wt (rs.map (·.1))≤(aM T rs).length∧(rs.flatMap fun r=>Lb.strs r.1).length≤(aM T rs).length∧Ls.tot (rs.map (·.2))≤(aM T rs).length∧rs.length≤(aM T rs).length:=by
 have key:Ps.wt (rs.map (·.1))≤(rs.flatMap (jD T)).length∧(rs.flatMap fun r=>Lb.strs r.1).length≤(rs.flatMap (jD T)).length∧Ls.tot (rs.map (·.2))≤(rs.flatMap (jD T)).length∧rs.length≤(rs.flatMap (jD T)).length:=by
  induction rs with
  |nil=>simp[Ps.wt,Ls.tot]
  |cons r rs ih=>
   obtain⟨i1,i2,i3,i4⟩:=ih;obtain⟨h1,h2,h3⟩:=XW T r;have t1:Ps.wt ((r::rs).map (·.1))=1+r.1.length+Ps.wt (rs.map (·.1)):=by simp[Ps.wt]
   have t2:Ls.tot ((r::rs).map (·.2))=r.2.length+Ls.tot (rs.map (·.2)):=by simp[Ls.tot]
   rw[t1,t2,Au,Au,La,La,Lc];omega
 unfold aM;rw[La];omega
end Rc
structure XY (T:List ByteArray) (rs:List jO):Prop where
 wt:Ps.wt (rs.map (·.1))≤1000000
 cnt:(rs.flatMap fun r=>Lb.strs r.1).length≤1000000
 tot:Ls.tot (rs.map (·.2))≤1000000
 len:rs.length≤1000000
 Kj:∀s∈rs.flatMap fun r=>Lb.strs r.1,s.size≤maxLen
 szT:∀s∈T,s.size≤maxLen
 fit:∀r∈rs,Lb.Fit r.1
 ofn:rs.map (·.2)=Cs.vM (rs.map Bk.ln)
theorem adW {D0 D1 T rs} (h0:D0.length≤1000000) (h1:D1.length≤1000000) (hT:Sy.dec D0=(T,0)) (hR:Rc.dec T D1=(rs,0)):XY T rs:=by
 have hmx:1000000≤Rc.mx:=by unfold Rc.mx;omega
 obtain⟨s1,s2,s3,s4⟩:=Sy.pY hT;obtain⟨r1,r2,r3,r4⟩:=Rc.pY s1 om hR;have hre:Rc.err T rs=0:=by
  unfold Rc.enc at r1;by_cases q:Rc.err T rs=0
  ·exact q
  ·rw[Ng q]at r1;exact absurd (congrArg Prod.snd r1) q
 obtain⟨Oc,q1,q2⟩:=Rc.RF (fun r hr=>⟨by have:=(r4 r hr).1;omega,by have:=(r4 r hr).2;omega⟩) hre;obtain⟨g1,g2,g3,g4⟩:=Rc.XX T rs;rw[r2]at g1 g2 g3 g4;have vJ:(65535:Nat)≤maxLen:=by unfold maxLen;omega
 have hmem:∀r∈rs,∀x∈r.1,x.n∈T∧x.v∈T:=by
  intro r hr x hx;rw[q1]at hr;obtain⟨p,hp,rfl⟩:=bY.1 hr;obtain⟨hn,hv⟩:=(q2 p hp).1.1.2 x hx;constructor
  ·cases hi:Sy.idx T x.n with
   |none=>rw[hi]at hn;cases hn
   |some k=>obtain⟨hk,e,_⟩:=Sy.jv hi;rw[←e];exact gG hk
  ·cases hi:Sy.idx T x.v with
   |none=>rw[hi]at hv;cases hv
   |some k=>obtain⟨hk,e,_⟩:=Sy.jv hi;rw[←e];exact gG hk
 have hfit:∀r∈rs,Lb.Fit r.1:=fun r hr x hx=>by
  obtain⟨a,b⟩:=hmem r hr x hx;exact⟨Lt (s4 _ a) vJ,Lt (s4 _ b) vJ⟩
 refine⟨om,om,om,om,fun s hs=>?_,fun s hs=>Lt (s4 s hs) vJ,hfit,?_⟩
 ·obtain⟨r,hr,hs⟩:=mh.1 hs;unfold Lb.strs at hs;obtain⟨x,hx,hs⟩:=mh.1 hs;simp only[eH,List.not_mem_nil,or_false]at hs;rcases hs with rfl|rfl
  ·exact(hfit r hr x hx).1
  ·exact(hfit r hr x hx).2
 ·rw[q1];unfold Cs.vM;rw[Ca,Ca,Ca];refine Dx fun p _=>?_
  show p.2.map Int.ofNat=(Bk.ln (Rc.bW p)).map Int.ofNat;rw[Bk.SX]
theorem Rd.aa7 {w p v t} (h:w.heap[p]? =some (.cells #[v] t (0,0))):Rd w (p+1) 1 (some ⟨p,0,none⟩) 1 1 [v]:=
 ⟨Nr _,by unfold maxLen;omega,rfl,fun _=>⟨p,0,rfl,om,fun i u hu=>by
  match i,hu with
  |0,hu=>rw[Co _ _ _ _ _ _ h];simpa using hu⟩⟩
theorem xV {w ops o a K Q E} (hgd:o.guard=none) (s x t e)
  (ho:o.op= .call {callee:= .builtin .append,args:= #[s,x],argTypes:= #[t,t]}) (ht:prog.underlying t=some (.slice e))
  (hi:(prog.info? e).map (fun i=>(i.zero,i.size,i.bytes))=some (some (.slice none 0 0),1,24))
  (base A n c xs) (hs:a.eval s= .slice A n c) (hown:w.ownsRow base e 1 (.slice A n c) n xs)
  (v) (hxr:∃p,a.eval x= .slice (some ⟨p,0,none⟩) 1 1∧w.heap[p]? =some (.cells #[v] e (0,0))) (h1:v.oneCell'=true)
  (hlen:n≤10000000) (hbase:base≤w.heap.size)
  (h:∀A2 c2 w',w'.ownsRow base e 1 (.slice A2 (n+1) c2) (n+1) (xs++[v])→w.grownBy w' (ab A)→(ab A2=ab A∨ab A2=some w.heap.size)→K (a.put o.dst (.slice A2 (n+1) c2)) w'):
  if Region.wanted o (yielded ops a.tmps)=true then Oper.wp prog o a w K Q else E:=by
 have hw:Region.wanted o (yielded ops a.tmps)=true:=by simp[Region.wanted,hgd]
 rw[Ps0 hw];obtain⟨i0,hi0,hz0,hz1,hz2⟩:=AV hi;obtain⟨p,hx,hp⟩:=hxr;exact mO w s x t ho base e i0 (.slice none 0 0) 1 24 ht hi0 hz0 hz1 hz2 rfl Ah A n c xs hs hown (p+1) (some ⟨p,0,none⟩) 1 1 [v] hx (Rd.aa7 hp) (by simpa using h1) (by unfold maxLen;omega) om hbase h
theorem Rd.but {w w' B sz n c g A xs v t} (h:Rd w B sz A n c xs) (hB:B≤w.heap.size) (hg:w.heap[g]? =some (.cells #[v] t (0,0)))
  (hv:∀u∈xs,u≠v) (hgr:w.grownBy w' (some g)):Rd w' B sz A n c xs:=by
 obtain⟨h1,h2,h3,h4⟩:=h;refine⟨h1,h2,h3,fun hn=>?_⟩;obtain⟨b,off,e,hb,hc⟩:=h4 hn;refine⟨b,off,e,hb,fun i u hu=>?_⟩;have hci:=hc i u hu;have hne:some b≠some g:=fun e=>by
  obtain rfl:=Oj e;rw[Co _ _ _ _ _ _ hg]at hci;obtain⟨hi,hx⟩:=Ge.1 hci;refine hv u (List.mem_of_getElem? hu) ?_;rw[←hx];simp at hi;simp[hi]
 exact(AR (a:=⟨b,off+i,none⟩) (hgr.block b om hne)).trans hci
structure Lp (S:Nat) (w:World) (LA:Option Addr) (lc:Nat) (SA:Option Addr) (sc k:Nat) (hs:List (Value×Value)):Prop where
 o1:w.ownsRow S 62 1 (.slice LA k lc) k ((hs.take k).map (·.2))
 o2:w.ownsRow S 54 1 (.slice SA k sc) k ((hs.take k).map (·.1))
theorem Lp.nil (S w hs):Lp S w none 0 none 0 0 hs:=⟨AX _ _ _ _,AX _ _ _ _⟩
section
variable {S:Nat} {w w4:World} {LA SA L4:Option Addr} {lc sc k l4:Nat} {hs:List (Value×Value)}
theorem Lp.alloc (h:Lp S w LA lc SA sc k hs) (o):Lp S (w.alloc o) LA lc SA sc k hs:=⟨Oa h.o1 o,Oa h.o2 o⟩
theorem Lp.drew (h:Lp S w LA lc SA sc k hs):Lp S w.drew LA lc SA sc k hs:=⟨h.o1,h.o2⟩
theorem Lp.Nh (h:Lp S w LA lc SA sc k hs) (hg:w.grownBy w4 (ab LA)):w4.ownsRow S 54 1 (.slice SA k sc) k ((hs.take k).map (·.1)):=
 ag h.o2 hg (eO h.o2 h.o1 Ah)
theorem Ni {n m c d A B xs ys} (h1:w.ownsRow S 62 1 (.slice A n c) n xs) (h2:w.ownsRow S 54 1 (.slice B m d) m ys) (hg:w.grownBy w4 (ab B)):w4.ownsRow S 62 1 (.slice A n c) n xs:=
 ag h1 hg (eO h1 h2 Ah)
theorem Lp.ints {w5} {rs:List jO} (h:Lp S w LA lc SA sc k hs) (hk:k=rs.length) (hl:hs.length=rs.length)
  (h3:∀(i) (h:i<hs.length) (h':i<rs.length),∃A1 n1 c1 A2 n2 c2,hs[i]=(.slice A1 n1 c1,.slice A2 n2 c2)∧fO w5 S A1 n1 c1 rs[i].1∧bQ w5 S A2 n2 c2 rs[i].2)
  (hb:Below S w5 w) (hS:S≤w.heap.size):iR w w.heap.size LA k lc (rs.map (·.2))∧jV w w.heap.size SA k sc (rs.map (·.1)):=by
 have o1:=h.o1;have o2:=h.o2;rw[iM om]at o1 o2;refine⟨⟨_,Rd.bC o1,by simp[hl],fun i l hi=>?_⟩,⟨_,Rd.bC o2,by simp[hl],fun i l hi=>?_⟩⟩
 ·rw[BV]at hi;obtain⟨r,hr,rfl⟩:=Dh.1 hi;obtain⟨hir,e⟩:=kT.1 hr;obtain⟨A1,n1,c1,A2,n2,c2,eh,_,q⟩:=h3 i om hir;rw[e]at q;exact⟨A2,n2,c2,by rw[BV,ja om,eh];rfl,(q.below hb).more hS⟩
 ·rw[BV]at hi;obtain⟨r,hr,rfl⟩:=Dh.1 hi;obtain⟨hir,e⟩:=kT.1 hr;obtain⟨A1,n1,c1,A2,n2,c2,eh,q,_⟩:=h3 i om hir;rw[e]at q;exact⟨A1,n1,c1,by rw[BV,ja om,eh];rfl,(q.below hb).more hS⟩
end
theorem xW {w ops o a K Q E} (hgd:o.guard=none) (s x)
  (ho:o.op= .call {callee:= .builtin .append,args:= #[s,x],argTypes:= #[24,24]})
  (base A n c xs) (hs:a.eval s= .slice A n c) (hown:w.ownsRow base 57 2 (.slice A n c) n xs)
  (u v) (hxr:∃p,a.eval x= .slice (some ⟨p,0,none⟩) 1 1∧w.heap[p]? =some (.cells #[u,v] 57 (0,0))) (h1:u.oneCell'=true) (h2:v.oneCell'=true)
  (hlen:n≤10000000) (hbase:base≤w.heap.size)
  (h:∀A2 c2 w',w'.ownsRow base 57 2 (.slice A2 (n+1) c2) (n+1) (xs++[u,v])→w.grownBy w' (ab A)→(ab A2=ab A∨ab A2=some w.heap.size)→K (a.put o.dst (.slice A2 (n+1) c2)) w'):
  if Region.wanted o (yielded ops a.tmps)=true then Oper.wp prog o a w K Q else E:=by
 have hw:Region.wanted o (yielded ops a.tmps)=true:=by simp[Region.wanted,hgd]
 rw[Ps0 hw];obtain⟨i0,hi0,hz0,hz1,hz2⟩:=AV L8;obtain⟨p,hx,hp⟩:=hxr;have hr:Rd w (p+1) 2 (some ⟨p,0,none⟩) 1 1 [u,v]:=⟨Nr _,by unfold maxLen;omega,rfl,fun _=>⟨p,0,rfl,om,fun i y hy=>by
  rw[cK,Co _ _ _ _ _ _ hp];simpa using hy⟩⟩
 exact mO w s x _ ho base 57 i0 (.agg #[.slice none 0 0,.slice none 0 0]) 2 48 underlying24 hi0 hz0 hz1 hz2 rfl Ah A n c xs hs hown (p+1) (some ⟨p,0,none⟩) 1 1 [u,v] hx hr (by intro y hy;simp at hy;rcases hy with rfl|rfl<;>assumption) (by unfold maxLen;omega) om hbase h
structure L2 (w6 wr:World) (g:Nat) (BA:Option Addr) (bc k:Nat) (ps:List (Value×Value)):Prop where
 own:wr.ownsRow w6.heap.size 57 2 (.slice BA k bc) k (aG (ps.take k))
 gr:w6.grownBy wr (some g)
 var:wr.heap[g]? =some (.cells #[.slice BA k bc] 24 (0,0))
theorem L2.start {w6 g ps} (h:w6.heap[g]? =some (.cells #[.slice none 0 0] 24 (0,0))):L2 w6 w6 g none 0 0 ps:=
 ⟨AX _ _ _ _,⟨rfl,rfl,rfl,Nr _,fun _ _ _=>rfl⟩,h⟩
theorem L2.push {w6 wr w8 W:World} {g bc k c4 BA B4 ps u v} (h:L2 w6 wr g BA bc k ps) (hg:g<w6.heap.size) (hk:k<ps.length) (hps:ps[k]=(u,v))
  (hW:∀i,i<wr.heap.size→W.heap[i]? =wr.heap[i]?) (hWz:wr.heap.size≤W.heap.size) (hWo:W.os=wr.os) (hWt:W.tape=wr.tape) (hWp:W.output=wr.output)
  (hgr:W.grownBy w8 (ab BA)) (ho:w8.ownsRow w6.heap.size 57 2 (.slice B4 (k+1) c4) (k+1) (aG (ps.take k)++[u,v])):
  L2 w6 (w8.setCell ⟨g,0,none⟩ (.slice B4 (k+1) c4)) g B4 c4 (k+1) ps∧w8.cell? ⟨g,0,none⟩=some (.slice BA k bc)∧w8.frozen? ⟨g,0,none⟩=false:=by
 have hgw:g<wr.heap.size:=j6 hg h.gr.size;have hlt:=ae h.own;have hne:some g≠ab BA:=fun e=>by have:=(hlt g e.symm).1;omega
 have h8:=(hgr.block g om hne).trans ((hW g hgw).trans h.var);refine⟨⟨?_,⟨?_,?_,?_,?_,fun i hi hig=>?_⟩,?_⟩,Co _ _ 0 _ _ _ h8,Fr _ _ 0 _ _ h8⟩
 ·rw[Ts hk,hps,lW];exact aU ho (fun p hp e=>by have:=(ae ho p hp).1;omega)
 ·exact hgr.os.trans (hWo.trans h.gr.os)
 ·exact hgr.tape.trans (hWt.trans h.gr.tape)
 ·exact hgr.output.trans (hWp.trans h.gr.output)
 ·have h1:=h.gr.size;have h2:=hgr.size;show w6.heap.size≤(w8.setCell _ _).heap.size;simp[World.setCell];omega
 ·have ahG:i≠g:=fun e=>hig (by rw[e])
  rw[AO _ _ _ _ ahG];have hiw:=h.gr.size;exact(hgr.block i om (fun e=>by have:=(hlt i e.symm).1;omega)).trans ((hW i om).trans (h.gr.block i hi hig))
 ·have:=Ag w8 g 0 #[.slice BA k bc] 24 (.slice B4 (k+1) c4) h8;simpa using this
theorem Rd.off {w w' B sz n c g A xs} (h:Rd w B sz A n c xs) (hB:B≤w.heap.size) (hA:∀p,ab A=some p→p≠g) (hgr:w.grownBy w' (some g)):Rd w' B sz A n c xs:=by
 obtain⟨h1,h2,h3,h4⟩:=h;refine⟨h1,h2,h3,fun hn=>?_⟩;obtain⟨b,off,e,hb,hc⟩:=h4 hn;refine⟨b,off,e,hb,fun i u hu=>?_⟩;exact(AR (a:=⟨b,off+i,none⟩) (hgr.block b om (fun q=>hA b (by rw[e];rfl) (Oj q)))).trans (hc i u hu)
theorem UA (l A n c):∀u∈ry l,u≠ .slice A n c:=by
 intro u hu e;subst e;unfold ry at hu;simp[vY]at hu
theorem aa8 (l A n c):∀u∈lN l,u≠ .slice A n c:=by
 intro u hu e;subst e;unfold lN at hu;simp[IV]at hu
theorem L2.rd {w6 wr g bc k B BA ps rs} (h:L2 w6 wr g BA bc k ps) (hk:k=ps.length) (hl:ps.length=rs.length) (hB:B≤w6.heap.size)
  (hg:w6.heap[g]? =some (.cells #[.slice none 0 0] 24 (0,0)))
  (h3:∀(i) (h:i<ps.length) (h':i<rs.length),∃A1 n1 c1 A2 n2 c2,ps[i]=(.slice A1 n1 c1,.slice A2 n2 c2)∧fO w6 B A1 n1 c1 rs[i].1∧gV w6 B A2 n2 c2 rs[i].2):dY wr wr.heap.size BA k bc rs:=by
 have o:=h.own;rw[iM om]at o;have hz:=h.gr.size;refine⟨ps,Rd.bC o,hl,fun i a b=>?_⟩;obtain⟨A1,n1,c1,A2,n2,c2,e,p,q⟩:=h3 i a b;exact⟨A1,n1,c1,A2,n2,c2,e,fO.more (Rd.but p hB hg (UA _ _ _ _) h.gr) om,gV.more (Rd.but q hB hg (aa8 _ _ _ _) h.gr) om⟩
theorem vD {w:World} {g v t} (h:w.heap[g]? =some (.cells #[v] t (0,0))):w.setCell ⟨g,0,none⟩ v=w:=by
 have hh:(w.setCell ⟨g,0,none⟩ v).heap=w.heap:=by
  refine Array.ext_getElem? fun i=>?_
  by_cases hi:i=g
  ·subst hi;rw[Ag w i 0 #[v] t v h,h];simp
  ·exact AO _ _ _ _ hi
 show{w with heap:=(w.setCell ⟨g,0,none⟩ v).heap}=w;rw[hh]
theorem Sx.home {w W As ns cs v} (h:Sx w W As ns cs v) {tmps R}
  (h2:tmps[2]?.getD undef= .pointer (some ⟨w.heap.size+1,0,none⟩)) (h3:tmps[3]?.getD undef= .pointer (some ⟨w.heap.size+2,0,none⟩)) (hR:R (.returned (.tuple #[v,.int .i64 0])) W):
  bodyPostD prog Tryz.f35 R Exit.ret {tmps:=tmps,defers:=[{target:=Target.fn (Fn.func 65) #[.pointer (some ⟨w.heap.size+1,0,none⟩),.pointer (some ⟨w.heap.size+2,0,none⟩)],args:= #[]}]} W:=by
 have hc1:=Co _ _ 0 _ _ _ h.out;have hc2:=Co _ _ 0 _ _ _ h.err;simp at hc1 hc2;refine leaves_cons (f:=65) (args:= #[.pointer (some ⟨w.heap.size+1,0,none⟩),.pointer (some ⟨w.heap.size+2,0,none⟩)]) sm (by simp[go_sem]) ?_;refine(PN ⟨w.heap.size+1,0,none⟩ ⟨w.heap.size+2,0,none⟩ _).mono ?_;rintro e u' w'' ⟨rfl,rfl,rfl⟩;simp[Leaves,settle,results,Tryz.results35,go_sem,h2,h3,hc1,hc2];exact hR
theorem aa9 (l A n c):∀u∈oO l,u≠ .slice A n c:=by
 intro u hu e;subst e;unfold oO at hu;simp[sv]at hu
theorem L2.strs {w6 wr g bc k n c BA A ps T} (h:L2 w6 wr g BA bc k ps) (hg:w6.heap[g]? =some (.cells #[.slice none 0 0] 24 (0,0))) (hT:bK w6 w6.heap.size A n c T):bK wr wr.heap.size A n c T:=
 bK.more (Rd.but hT Ai hg (aa9 _ _ _ _) h.gr) h.gr.size
theorem Sx.upd {w W W' As ns cs v BA bc k ps} (h:Sx w W As ns cs v) (hl:L2 W W' (w.heap.size+1) BA bc k ps):Sx w W' As ns cs (.slice BA k bc):=by
 have hz:=h.Kj;refine⟨h.aZ.grown hl.gr h.aZ.size (fun p hp=>by have:=Oj hp;omega),by have:=hl.gr.size;omega,fun i hi=>?_,hl.var,?_⟩
 ·exact(AR (a:=⟨w.heap.size,i,none⟩) (hl.gr.block w.heap.size om (fun e=>by have:=Oj e;omega))).trans (h.sec i hi)
 ·exact(hl.gr.block (w.heap.size+2) om (fun e=>by have:=Oj e;omega)).trans h.err
theorem Cs.Nj:∀(LN) (acc) (d) (out),Cs.IW LN acc d=(out,0)→out.length=acc.length+LN.length
 |[],acc,d,out,h=>by
  simp only[Cs.IW,az,BJ]at h;rw[←h];simp
 |l::ls,acc,d,out,h=>by
  rw[Cs.IW]at h;split at h
  ·rename_i h1
   exact absurd (congrArg Prod.snd h) h1
  ·have:=Cs.Nj ls _ _ _ h;rw[this];simp;omega
theorem Ck.UB (l):l.length≤120*(Ck.jC l).length:=by
 by_cases h:l=[]
 ·subst h;simp
 ·have ih:=Ck.UB (l.drop 120);rw[mg]at ih;rw[Ck.jR h,Lc];omega
termination_by l.length
decreasing_by
 have:=oW.2 h;rw[mg];omega
theorem aba (b:List Cs.gH):(b.map List.length).sum≤120*((b.map Cs.lens).flatten).length:=by
 induction b with
 |nil=>simp
 |cons x b ih=>
  have:=Ck.UB x;have h2:(Cs.lens x).length=(Ck.jC x).length:=by unfold Cs.lens;simp
  rw[Az,AZ,Az,Ci,La,h2];omega
theorem abb (l):Ls.tot l=l.flatten.length:=by
 induction l with
 |nil=>rfl
 |cons x l ih=>rw[show Ls.tot (x::l)=x.length+Ls.tot l by simp[Ls.tot],ih,Ci,La]
theorem XZ (LN):(Cs.vM LN).flatten.length=LN.flatten.length:=by
 rw[←Cs.Uw LN,fM]
theorem Nk:∀(m:List (List aQ)) (ch),Bk.dm (m.zip ch)≤(ch.map List.length).sum
 |[],_=>by simp[Bk.dm]
 |_::_,[]=>by simp[Bk.dm]
 |y::m,x::ch=>by
  have:=Nk m ch;have e:Bk.dm ((y::m).zip (x::ch))=x.length+Bk.dm (m.zip ch):=by simp[Bk.dm]
  rw[e,Az,AZ];omega
theorem UC {T rs d ch} (ho:XY T rs) (h:Bk.oC rs d=(ch,0)):Bk.dm ((rs.map (·.1)).zip ch)≤1000000000000:=by
 unfold Bk.oC at h;split at h
 ·exact absurd (congrArg Prod.snd h) sm
 ·rename_i hs
  obtain⟨b,e1,_,e3,_⟩:=Cs.Rs _ [] _ ch (by simpa using hs) h;rw[AA]at e1;subst e1;have h1:=aba ch;rw[←e3,←XZ,←ho.ofn,←abb]at h1;have h2:=ho.tot;have h3:=Nk (rs.map (·.1)) ch;omega
theorem UD {rs d ch} (h:Bk.oC rs d=(ch,0)):ch.length=rs.length:=by
 unfold Bk.oC at h;split at h
 ·exact absurd (congrArg Prod.snd h) sm
 ·have:=Cs.Nj _ _ _ _ h;simpa using this
theorem KF {w ops o a K Q E} (hgd:o.guard=none) (s x)
  (ho:o.op= .call {callee:= .builtin .append,args:= #[s,x],argTypes:= #[62,62]})
  (base A n c xs) (hs:a.eval s= .slice A n c) (hown:ax w base A n c xs)
  (v) (hxr:∃p,a.eval x= .slice (some ⟨p,0,none⟩) 1 1∧w.heap[p]? =some (.cells #[.int .i64 v] 3 (0,0)))
  (hlen:n≤10000000) (hbase:base≤w.heap.size)
  (h:∀A2 c2 w',ax w' base A2 (n+1) c2 (xs++[v])→w.grownBy w' (ab A)→(ab A2=ab A∨ab A2=some w.heap.size)→K (a.put o.dst (.slice A2 (n+1) c2)) w'):
  if Region.wanted o (yielded ops a.tmps)=true then Oper.wp prog o a w K Q else E:=by
 have hw:Region.wanted o (yielded ops a.tmps)=true:=by simp[Region.wanted,hgd]
 rw[Ps0 hw];obtain⟨i0,hi0,hz0,hz1,hz2⟩:=AV xq;obtain⟨p,hx,hp⟩:=hxr;refine mO w s x _ ho base 3 i0 (.int .i64 0) 1 8 underlying62 hi0 hz0 hz1 hz2 rfl Ah A n c _ hs hown (p+1) (some ⟨p,0,none⟩) 1 1 [.int .i64 v] hx (Rd.aa7 hp) (by simp[Value.oneCell']) (by unfold maxLen;omega) om hbase fun A2 c2 w' h1 h2 h3=>h A2 c2 w' ?_ h2 h3
 show w'.ownsRow base _ 1 _ (n+1) (xm (xs++[v]));unfold xm at h1⊢;rw[dR];exact h1
theorem X7 (base gd gl p n i m c LS D L C A W) (h:Es base gd gl p n LS D C W) (hi:i<n) (_:n≤1000000) (hv:bf W W.heap.size A m c L)
  (hD:D.length+L.length≤1000000000) (hC:(C i).length≤10000000) (hgd:base≤gd) (hp:base≤p):
  Calls prog 83 #[.int .i64 (i:Int),.slice A m c,.pointer (some ⟨gd,0,none⟩),.pointer (some ⟨gl,0,none⟩)] W fun e w'=>(∃v,e= .returned v)∧Es base gd gl p n LS (D++L) (fun j=>if j=i then C i++[(L.length:Int)]else C j) w'∧iZ base W w'∧KeepsOthers W w':=by
 have hm:=hv.len
 have hzb:base≤W.heap.size:=by obtain⟨_,_,cs,_,_,_,r1,_⟩:=h;have:=(Ge.1 r1).1;omega
 obtain⟨A0,m0,c0,d1,d2⟩:=h.dat
 have hm0:=d2.len
 have hc0:=d1.cell
 have H:=Aj h
 have D1:=Aj d1
 have D2:=Aj d2
 have HV:=Aj hv
 have HM:=Aj hm
 have HC:=Aj hC
 have hmb:m0+m≤1000000000:=om
 have hmi:(m:Int)≤1000000000:=om
 clear h d1 d2 hv hm hm0 hC hD
 go_enter func83,ntmps83
 go_upto_region 1 with(at_builtin;refine eG rfl (.tmp 6) (.tmp 7) rfl base A0 m0 c0 _ rfl D2.1 _ _ _ _ _ rfl HV.1 om hzb ?_;intro A2 c2 w1 hown hgrow hat;obtain⟨q1,q2,q3,q4,q5⟩:=H.1.push D1.1 D2.1 hgrow hown hgd;have E1:=Aj q3;have K1:=Aj q4;have O1:=Aj q5;clear hown hgrow hat q3 q4 q5)
 generalize w1.setCell ⟨gd,0,none⟩ (.slice A2 (m0+m) c2)=W3 at*
 obtain⟨A3,m3,c3,n1,n2,n3,n4⟩:=E1.1.note hi hp
 have FV:m3≤10000000:=by rw[n3.len];exact HC.1
 have g0:=E1.1.box.cell
 have G0:=Aj E1.1.box
 have hpz:Kept (p<W3.heap.size):=⟨by obtain⟨_,_,cs,_,_,_,r1,_⟩:=E1.1;exact(Ge.1 r1).1⟩
 have hzz:Kept (base≤W3.heap.size):=⟨Lt hp (Nat.le_of_lt hpz.1)⟩
 have N1:=Aj n1
 have N3:=Aj n3
 have N4:=Aj n4
 have x0:∀o,(W3.alloc o).cell? ⟨gl,0,none⟩=some (.slice (some ⟨p,0,none⟩) n n):=fun o=>(Boxed.alloc G0.1 o).cell
 have x1:∀o,(W3.alloc o).cell? ⟨p,i*2+1,none⟩=some (.slice A3 m3 c3):=fun o=>(AB W3 o ⟨p,i*2+1,none⟩ hpz.1).trans N1.1
 have hgl:Kept (∀W1 w6,W3.grownBy W1 none→W1.grownBy w6 (ab A3)→w6.cell? ⟨gl,0,none⟩=some (.slice (some ⟨p,0,none⟩) n n)∧w6.cell? ⟨p,i*2+1,none⟩=some (.slice A3 m3 c3)):=⟨fun W1 w6 h1 hg=>by
  have o1:ax W1 base A3 m3 c3 (C i):=ag N3.1 h1 (by rcases ab A3 with _|r;exact .inl rfl;exact .inr (fun e=>by cases e))
  have b1:=Boxed.kept G0.1 h1 (fun e=>by cases e)
  have hne:=dW o1 b1 Ah
  refine⟨(Boxed.kept b1 hg (fun e=>hne e.symm)).cell,?_⟩
  obtain⟨_,_,cs,_,_,_,r1,_⟩:=E1.1
  have r1':W1.heap[p]? =some (.cells cs qx (0,0)):=(h1.block p hpz.1 (fun e=>by cases e)).trans r1
  have hne2:=dW o1 r1' Ah
  exact(AR (a:=⟨p,i*2+1,none⟩) ((hg.block p (by have:=hpz.1;have:=h1.size;omega) (fun e=>hne2 e.symm)).trans (h1.block p hpz.1 (fun e=>by cases e)))).trans N1.1⟩
 have GA:Kept (∀o,W3.grownBy (W3.alloc o) none):=⟨fun o=>Ga W3 o none⟩
 have GD:Kept (∀o,W3.grownBy (W3.alloc o).drew none):=⟨fun o=>by have h:=Ga W3 o none;exact⟨h.os,h.tape,h.output,h.size,h.block⟩⟩
 clear n2 n3 n4 q1 q2 hc0
 refine wp_region_held_drew (S:=fun w'=>w'.cell? ⟨gl,0,none⟩=some (.slice (some ⟨p,0,none⟩) n n)) kr g0 (fun hHeld=>?_)
 refine Bo (i:=0) (oi:=⟨_,_,_,_,_,_⟩) (v:=?_) rfl kr kr kr (fun _ _ _ h=>h) (Or.inl ⟨rfl,?_⟩) (by assumption) ?_
 rotate_left
 ·intro w hSw;(try dsimp only at hSw);go_simp;(try with_reducible rfl)
 try simp only[Act.put,Al,Aq,Ap]
 refine Bo (i:=1) (oi:=⟨_,_,_,_,_,_⟩) (v:=?_) rfl kr kr kr (fun _ _ _ h=>h) (Or.inl ⟨rfl,?_⟩) (by assumption) ?_
 rotate_left
 ·intro w hSw;(try dsimp only at hSw);go_simp;(try with_reducible rfl)
 try simp only[Act.put,Al,Aq,Ap]
 refine Bo (i:=2) (oi:=⟨_,_,_,_,_,_⟩) (v:=?_) rfl kr kr kr (fun _ _ _ h=>h) (Or.inl ⟨rfl,?_⟩) (by assumption) ?_
 rotate_left
 ·intro w hSw;(try dsimp only at hSw);go_simp;(try with_reducible rfl)
 try simp only[Act.put,Al,Aq,Ap]
 refine Bo (i:=3) (oi:=⟨_,_,_,_,_,_⟩) (v:=?_) rfl kr kr kr (fun _ _ _ h=>h) (Or.inl ⟨rfl,?_⟩) (by assumption) ?_
 rotate_left
 ·intro w hSw;(try dsimp only at hSw);go_simp;(try with_reducible rfl)
 try simp only[Act.put,Al,Aq,Ap]
 refine Bo (i:=4) (oi:=⟨_,_,_,_,_,_⟩) (v:=?_) rfl kr kr kr (fun _ _ _ h=>h) (Or.inl ⟨rfl,?_⟩) (by assumption) ?_
 rotate_left
 ·intro w hSw;(try dsimp only at hSw);go_simp;(try with_reducible rfl)
 try simp only[Act.put,Al,Aq,Ap]
 refine Bo (i:=5) (oi:=⟨_,_,_,_,_,_⟩) (v:=?_) rfl kr kr kr (fun _ _ _ h=>h) (Or.inl ⟨rfl,?_⟩) (by assumption) ?_
 rotate_left
 ·intro w hSw;(try dsimp only at hSw);go_simp;(try with_reducible rfl)
 try simp only[Act.put,Al,Aq,Ap]
 refine Bo (i:=7) (oi:=⟨_,_,_,_,_,_⟩) (v:=?_) rfl kr kr kr (fun _ _ _ h=>h) (Or.inl ⟨rfl,?_⟩) (by assumption) ?_
 rotate_left
 ·intro w hSw;(try dsimp only at hSw);go_simp;(try with_reducible rfl)
 try simp only[Act.put,Al,Aq,Ap]
 refine Bo (i:=8) (oi:=⟨_,_,_,_,_,_⟩) (v:=?_) rfl kr kr kr (fun _ _ _ h=>h) (Or.inl ⟨rfl,?_⟩) (by assumption) ?_
 rotate_left
 ·intro w hSw;(try dsimp only at hSw);go_simp;(try with_reducible rfl)
 try simp only[Act.put,Al,Aq,Ap]
 refine CZ (rs:=[6,9]) kr sm ?_
 refine BQ (o:=⟨_,_,_,_,_,_⟩) rfl (fun K hK=>?_) (BQ (o:=⟨_,_,_,_,_,_⟩) rfl (fun K hK=>?_) CG)
 go_simp
 refine hK.out _ _ g0 (fun hHeld=>?_)
 clear hK K
 try simp only[Act.put,Al,Aq,Ap]
 refine CZ (rs:=[9]) kr sm ?_
 refine BQ (o:=⟨_,_,_,_,_,_⟩) rfl (fun K hK=>?_) CG
 go_simp
 refine hK.out _ _ (x0 _) (fun hHeld=>?_)
 clear hK K
 try simp only[Act.put,Al,Aq,Ap]
 rotate_left
 go_simp
 refine hK.out _ _ (x0 _) (fun hHeld=>?_)
 clear hK K
 try simp only[Act.put,Al,Aq,Ap]
 refine CZ (rs:=[6]) kr sm ?_
 refine BQ (o:=⟨_,_,_,_,_,_⟩) rfl (fun K hK=>?_) CG
 go_simp
 refine hK.out _ _ (x0 _) (fun hHeld=>?_)
 clear hK K
 try simp only[Act.put,Al,Aq,Ap]
 all_goals
  refine CZ (rs:=[10]) kr sm ?_
  refine BQ (o:=⟨_,_,_,_,_,_⟩) rfl (fun K hK=>?_) CG
  (refine KF ?g1 (.tmp 15) (.tmp 18) ?g2 base A3 m3 c3 (C i) ?g3 ?g4 (m:Int) ?g5 ?g7 ?g8 ?_;
   (case g1=>rfl);
   (case g2=>rfl);
   (case g3=>rfl);
   (case g4=>exact Oa N3.1 _);
   (case g5=>exact⟨_,rfl,AL W3 _⟩);
   (case g7=>exact FV);
   (case g8=>(have:=hzz.1;show _≤(World.alloc _ _).heap.size;simp;omega));
   intro A4 c4 w6 hown hgrow hat;
   first
    |have k9:=hgl.1 _ w6 (GA.1 _) hgrow
    |have k9:=hgl.1 _ w6 (GD.1 _) hgrow;
   have k10:=k9.2;
   first
    |have NX:=Aj (N4.1 _ w6 A4 (m3+1) c4 (m:Int) (GA.1 _) hgrow hown hat)
    |have NX:=Aj (N4.1 _ w6 A4 (m3+1) c4 (m:Int) (GD.1 _) hgrow hown hat);
   have f6:=NX.1.2.1;
   have k11:=NX.1.2.2.1.box.cell;
   clear hown hgrow hat)
  refine hK.out _ _ k9.1 (fun hHeld=>?_)
  clear hK K
  try simp only[Act.put,Al,Aq,Ap]
  refine Bo (i:=11) (oi:=⟨_,_,_,_,_,_⟩) (v:=?_) rfl kr kr kr (fun _ _ _ h=>h) (Or.inl ⟨rfl,?_⟩) (by assumption) ?_
  rotate_left
  ·intro w hSw;(try dsimp only at hSw);go_simp;(try with_reducible rfl)
  try simp only[Act.put,Al,Aq,Ap]
  refine Bo (i:=12) (oi:=⟨_,_,_,_,_,_⟩) (v:=?_) rfl kr kr kr (fun _ _ _ h=>h) (Or.inl ⟨rfl,?_⟩) (by assumption) ?_
  rotate_left
  ·intro w hSw;(try dsimp only at hSw);go_simp;(try with_reducible rfl)
  try simp only[Act.put,Al,Aq,Ap]
  refine CZ (rs:=[13]) kr sm ?_
  refine BQ (o:=⟨_,_,_,_,_,_⟩) rfl (fun K hK=>?_) CG
  go_simp
  refine hK.out _ _ k11 (fun hHeld=>?_)
  clear hK K
  try simp only[Act.put,Al,Aq,Ap]
  refine wpAnyH_done kr ?_ _
  (try go_wp2)
  go_end0
  refine⟨⟨_,rfl⟩,?_,K1.1.trans NX.1.2.2.2.1,O1.1.trans NX.1.2.2.2.2⟩
  have e:=HM.1
  have q:=NX.1.2.2.1
  rw[e]at q
  exact q
def dx:Value:= .slice none 0 0
def vN (hs:List (Value×Value)) (i:Nat):Value:=(hs[i]?.map (·.1)).getD dx
structure zY (W:World) (p q n k:Nat) (hs:List (Value×Value)):Prop where
 rp:∃cs:Array Value,W.heap[p]? =some (.cells cs qx (0,0))∧cs.size=n*2∧∀i,i<n→cs[i*2]? =some (if i<k then vN hs i else dx)∧cs[i*2+1]? =some dx
 rq:∃cs:Array Value,W.heap[q]? =some (.cells cs 54 (0,0))∧cs.size=n∧∀i,i<n→cs[i]? =some (if i<k then vN hs i else dx)
section
variable {W W':World} {p q n k:Nat} {hs:List (Value×Value)}
theorem zY.lt (h:zY W p q n k hs):p<W.heap.size∧q<W.heap.size:=by
 obtain⟨⟨_,h1,_⟩,⟨_,h2,_⟩⟩:=h;exact⟨(Ge.1 h1).1,(Ge.1 h2).1⟩
theorem zY.ne (h:zY W p q n k hs):p≠q:=by
 obtain⟨⟨_,h1,_⟩,⟨_,h2,_⟩⟩:=h;intro e;subst e;rw[h1]at h2;simp only[gT,DU]at h2;exact absurd h2.2.1 Ah
theorem zY.below (h:zY W p q n k hs) (hb:Below W.heap.size W W'):zY W' p q n k hs:=by
 obtain⟨l1,l2⟩:=h.lt;obtain⟨⟨c1,h1,h2⟩,⟨c2,h3,h4⟩⟩:=h;exact⟨⟨c1,(hb.block _ l1).trans h1,h2⟩,⟨c2,(hb.block _ l2).trans h3,h4⟩⟩
theorem zY.cells (h:zY W p q n k hs) {i} (hi:i<n):(∃v,W.cell? ⟨p,i*2,none⟩=some v)∧W.frozen? ⟨p,i*2,none⟩=false∧(∃v,W.cell? ⟨q,i,none⟩=some v)∧W.frozen? ⟨q,i,none⟩=false:=by
 obtain⟨⟨c1,h1,_,h2⟩,⟨c2,h3,_,h4⟩⟩:=h;exact⟨⟨_,(Co _ _ _ _ _ _ h1).trans (h2 i hi).1⟩,Fr _ _ _ _ _ h1,⟨_,(Co _ _ _ _ _ _ h3).trans (h4 i hi)⟩,Fr _ _ _ _ _ h3⟩
theorem zY.put (h:zY W p q n k hs) (hk:k<n):zY ((W.setCell ⟨p,k*2,none⟩ (vN hs k)).setCell ⟨q,k,none⟩ (vN hs k)) p q n (k+1) hs:=by
 have hne:=h.ne;obtain⟨⟨c1,h1,z1,h2⟩,⟨c2,h3,z2,h4⟩⟩:=h;have s1:=Ag W p (k*2) c1 qx (vN hs k) h1;have s1':=(AO (W.setCell ⟨p,k*2,none⟩ (vN hs k)) ⟨q,k,none⟩ (vN hs k) p hne).trans s1;have s2:=(AO W ⟨p,k*2,none⟩ (vN hs k) q (fun e=>hne e.symm)).trans h3;have s2':=Ag (W.setCell ⟨p,k*2,none⟩ (vN hs k)) q k c2 54 (vN hs k) s2;refine⟨⟨_,s1',by simp[z1],fun i hi=>⟨?_,?_⟩⟩,⟨_,s2',by simp[z2],fun i hi=>?_⟩⟩
 ·rw[zT];by_cases e:k*2=i*2
  ·have e':k=i:=by omega
   subst e';rw[Ps0 rfl,Ps0 om,Ps0 om]
  ·rw[Ng e,(h2 i hi).1];by_cases q:i<k
   ·rw[Ps0 q,Ps0 om]
   ·rw[Ng q,Ng om]
 ·rw[zT,Ng om];exact(h2 i hi).2
 ·rw[zT];by_cases e:k=i
  ·subst e;rw[Ps0 rfl,Ps0 om,Ps0 om]
  ·rw[Ng e,h4 i hi];by_cases q:i<k
   ·rw[Ps0 q,Ps0 om]
   ·rw[Ng q,Ng om]
end
theorem xX (n i) (h:i<n*2):(madeCells #[dx,dx] (n*2))[i]? =some dx:=by
 rw[DT (by simp[madeCells];omega)];have:i%2=0∨i%2=1:=om;rcases this with e|e<;>simp[madeCells,e]
theorem PR (n i) (h:i<n):(madeCells #[dx] n)[i]? =some dx:=by
 rw[DT (by simp[madeCells];exact h)];simp[madeCells,Nat.mod_one]
theorem PS (n:Nat) (hn:n≤1000000) (w):(Instr.makeSlice 138 (.int .i64 n) (.int .i64 n)).run prog w= .ok (.slice (some ⟨w.heap.size,0,none⟩) n n) (w.alloc (.cells (madeCells #[dx,dx] (n*2)) qx)):=by
 obtain⟨i0,hi0,hz0,hz1,hz2⟩:=AV YB;have:=Eb (P:=prog) w 138 146 i0 (.agg #[.slice none 0 0,.slice none 0 0]) underlying138 hi0 hz0 .i64 .i64 (n:Int) (n:Int) om om (by rw[hz1];simp;omega) (by rw[hz2];omega) om;rw[hz1]at this;simpa[Value.cells,dx]using this
theorem UE (n:Nat) (hn:n≤1000000) (w):(Instr.makeSlice 81 (.int .i64 n) (.int .i64 n)).run prog w= .ok (.slice (some ⟨w.heap.size,0,none⟩) n n) (w.alloc (.cells (madeCells #[dx] n) 54)):=by
 obtain⟨i0,hi0,hz0,hz1,hz2⟩:=AV JY;have:=Eb (P:=prog) w 81 54 i0 (.slice none 0 0) underlying81 hi0 hz0 .i64 .i64 (n:Int) (n:Int) om om (by rw[hz1];simp;omega) (by rw[hz2];omega) om;rw[hz1]at this;simpa[Value.cells,dx]using this
theorem zY.made (w1:World) (n hs o1 o2):
  zY ((((w1.alloc o1).alloc (.cells (madeCells #[dx,dx] (n*2)) qx)).alloc o2).alloc (.cells (madeCells #[dx] n) 54)) (w1.heap.size+1) (w1.heap.size+1+1+1) n 0 hs:=by
 refine⟨⟨madeCells #[dx,dx] (n*2),?_,by simp[madeCells],fun i hi=>⟨?_,xX n _ om⟩⟩,⟨madeCells #[dx] n,?_,by simp[madeCells],fun i hi=>?_⟩⟩
 ·rw[Aw _ _ _ (by simp;try omega),Aw _ _ _ sm];have:=AL (w1.alloc o1) (.cells (madeCells #[dx,dx] (n*2)) qx);simp only[AU]at this;exact this
 ·rw[Ng om];exact xX n _ om
 ·have:=AL (((w1.alloc o1).alloc (.cells (madeCells #[dx,dx] (n*2)) qx)).alloc o2) (.cells (madeCells #[dx] n) 54);simp only[AU]at this;exact this
 ·rw[Ng om];exact PR n i hi
def Zg (w:World) (B:Nat) (b:Bk.ic) (hs:List (Value×Value)):Prop:=hs.length=b.length∧
 ∀(i:Nat) (h:i<hs.length) (h':i<b.length),∃A1 n1 c1 A2 n2 c2,hs[i]=(.slice A1 n1 c1,.slice A2 n2 c2)∧fO w B A1 n1 c1 b[i].1∧gV w B A2 n2 c2 b[i].2
theorem Zg.below {w w' B b hs} (h:Zg w B b hs) (hb:Below B w w'):Zg w' B b hs:=⟨h.1,fun i a a'=>by
 obtain⟨A1,n1,c1,A2,n2,c2,e,p,q⟩:=h.2 i a a';exact⟨A1,n1,c1,A2,n2,c2,e,p.below hb,q.below hb⟩⟩
theorem KH {hs i} (h:i<hs.length):vN hs i=hs[i].1:=by unfold vN;rw[ja h];rfl
theorem zY.es {W p q n gd gl base hs} (h:zY W p q n n hs) (hd:Boxed W gd 22 dx) (hl:Boxed W gl 138 (.slice (some ⟨p,0,none⟩) n n)):
  Es base gd gl p n (vN hs) [] (fun _=>[]) W:=by
 obtain⟨⟨c1,h1,z1,h2⟩,-⟩:=h;refine⟨⟨none,0,0,hd,ah.nil _ _⟩,hl,c1,fun _=>none,fun _=>0,fun _=>0,h1,z1,fun i hi=>?_,fun i j _ _ _=> .inl rfl⟩;obtain⟨e1,e2⟩:=h2 i hi;rw[Ps0 hi]at e1;exact⟨e1,e2,ax.nil _ _⟩
theorem Es.rdR {base gd gl p n B D C W b hs} {rs:List jO} (h:Es base gd gl p n (vN hs) D C W) (hh:Zg W B b hs) (hB:B≤W.heap.size) (hn:n=b.length) (hm:n≤maxLen)
  (hr:rs.length=b.length) (hre:∀(i) (h:i<rs.length) (h':i<b.length),rs[i]=(b[i].1,C i)):vL W W.heap.size (some ⟨p,0,none⟩) n n rs:=by
 obtain⟨-,-,cs,As,ns,ks,r1,r2,r3,-⟩:=h;have hp:p<W.heap.size:=(Ge.1 r1).1;refine⟨(List.range n).map fun i=>(vN hs i,.slice (As i) (ns i) (ks i)),⟨Nr _,hm,by rw[bz];simp,fun _=>⟨p,0,rfl,hp,fun i u hu=>?_⟩⟩,by simp;omega,fun i a a'=>?_⟩
 ·have hlt:=(kT.1 hu).1;rw[bz,fM,Cz]at hlt;have hq:i/2<n:=om;obtain⟨g1,g2⟩:=dK ((List.range n).map fun i=>(vN hs i,Value.slice (As i) (ns i) (ks i))) (i/2) (by simpa using hq);obtain⟨k1,k2,_⟩:=r3 (i/2) hq;rw[cK,Co _ _ _ _ _ _ r1];rcases(show i%2=0∨i%2=1 from om)with e|e
  ·have hii:i=i/2*2:=by omega
   rw[hii]at hu⊢;rw[g1]at hu;have e2:i/2*2/2=i/2:=om;rw[k1,←hu];simp
  ·have hii:i=i/2*2+1:=by omega
   rw[hii]at hu⊢;rw[g2]at hu;rw[k2,←hu];simp
 ·have hi:i<n:=by simpa using a
  obtain⟨A1,n1,c1,A2,n2,c2,e,q1,q2⟩:=hh.2 i (by rw[hh.1];omega) om;refine⟨A1,n1,c1,As i,ns i,ks i,?_,?_,?_⟩
  ·simp[KH (show i<hs.length by rw[hh.1];omega),e]
  ·rw[hre i a' om];exact q1.more hB
  ·rw[hre i a' om];exact(r3 i hi).2.2.rd
theorem X8 {W q n B b hs} (h:∃cs:Array Value,W.heap[q]? =some (.cells cs 54 (0,0))∧cs.size=n∧∀i,i<n→cs[i]? =some (if i<n then vN hs i else dx)) (hh:Zg W B b hs) (hB:B≤W.heap.size) (hn:n=b.length) (hm:n≤maxLen):jV W W.heap.size (some ⟨q,0,none⟩) n n (Bk.sets b):=by
 obtain⟨cs,r1,r2,r3⟩:=h;have hq:q<W.heap.size:=(Ge.1 r1).1;refine⟨cs.toList,⟨Nr _,hm,by simp[r2],fun _=>⟨q,0,rfl,hq,fun i u hu=>?_⟩⟩,by unfold Bk.sets;simp[r2,hn],fun i l hl=>?_⟩
 ·rw[DR]at hu;rw[cK];exact(Co _ _ _ _ _ _ r1).trans hu
 ·unfold Bk.sets at hl;rw[BV]at hl;obtain⟨s,hs',rfl⟩:=Dh.1 hl;obtain⟨hi,e0⟩:=kT.1 hs';obtain⟨A1,n1,c1,A2,n2,c2,e,q1,q2⟩:=hh.2 i (by rw[hh.1];exact hi) hi;have:=r3 i om;rw[Ps0 om,KH (show i<hs.length by rw[hh.1];exact hi),e]at this;refine⟨A1,n1,c1,by rw[DR];exact this,?_⟩;rw[←e0];exact q1.more hB
structure Ec (W Wi:World) (g:Nat) (arr:Array Value):Prop where
 aZ:Below W.heap.size W Wi
 hg:W.heap.size≤g
 r14:Wi.heap[g]? =some (.cells arr 76 (0,0))
 VI:Wi.heap[g+1]? =some (.cells #[.int .i64 0,.int .i64 0,.int .i64 0] 176 (0,0))
section
variable {W Wi w':World} {g:Nat} {arr:Array Value}
theorem Ec.lt (h:Ec W Wi g arr):g+1<Wi.heap.size:=(Ge.1 h.VI).1
theorem Ec.below (h:Ec W Wi g arr) (hb:Below Wi.heap.size Wi w'):Ec W w' g arr:=
 ⟨h.aZ.trans (hb.mono h.aZ.size),h.hg,(hb.block _ (by have:=h.lt;omega)).trans h.r14,(hb.block _ h.lt).trans h.VI⟩
theorem Ec.KJ (h:Ec W Wi g arr) (k v):Ec W (Wi.setCell ⟨g,k,none⟩ v) g (arr.setIfInBounds k v):=
 ⟨h.aZ.setCell (p:=⟨g,k,none⟩) h.hg v,h.hg,Ag Wi g k _ _ v h.r14,(AO _ ⟨g,k,none⟩ _ _ (by show g+1≠g;omega)).trans h.VI⟩
theorem Ec.wP (h:Ec W Wi g arr) (k) (hk:k<3):Ec W (Wi.setCell ⟨g+1,k,none⟩ (.int .i64 0)) g arr:=by
 refine⟨h.aZ.setCell (p:=⟨g+1,k,none⟩) (by have:=h.hg;show _≤g+1;omega) _,h.hg,(AO _ ⟨g+1,k,none⟩ _ _ (by show g≠g+1;omega)).trans h.r14,?_⟩;have:=Ag Wi (g+1) k _ _ (.int .i64 0) h.VI;rw[this]
 match k,hk with
 |0,_=>rfl
 |1,_=>rfl
 |2,_=>rfl
theorem Ec.c1 (h:Ec W Wi g arr) (k):Wi.cell? ⟨g,k,none⟩=arr[k]?∧Wi.frozen? ⟨g,k,none⟩=false:=⟨Co _ _ _ _ _ _ h.r14,Fr _ _ _ _ _ h.r14⟩
theorem Ec.c2 (h:Ec W Wi g arr) (k) (hk:k<3):Wi.cell? ⟨g+1,k,none⟩=some (.int .i64 0)∧Wi.frozen? ⟨g+1,k,none⟩=false:=⟨(Co _ _ _ _ _ _ h.VI).trans (by match k,hk with|0,_=>rfl|1,_=>rfl|2,_=>rfl),Fr _ _ _ _ _ h.VI⟩
theorem qy {base n c A l} (h:ah Wi base A n c l) (hb:g+2≤base) (k j v u):ah ((Wi.setCell ⟨g,k,none⟩ v).setCell ⟨g+1,j,none⟩ u) base A n c l:=by
 have hl:=ae h;have h1:ah (Wi.setCell ⟨g,k,none⟩ v) base A n c l:=aU h (fun p hp e=>by have:=(hl p hp).1;omega);exact aU h1 (fun p hp e=>by have:=(hl p hp).1;omega)
end
namespace En
open Cs (gH In lens tQ)
theorem UG:∀(b) (i),∀x∈all i b,x.1<i+b.length
 |[],_,x,h=>by simp[all]at h
 |s::b,i,x,h=>by
  rw[all,je]at h;rcases h with h|h
  ·obtain⟨c,_,rfl⟩:=bY.1 h;simp
  ·have:=UG b (i+1) x h;simp only[Lc];omega
theorem X9 {a b} (h:a<+:b):(dat a).length≤(dat b).length:=by
 obtain⟨t,rfl⟩:=h;rw[sD,La];omega
theorem Ya {a b} (h:a<+:b) (i):(cnt a i).length≤(cnt b i).length:=by
 obtain⟨t,rfl⟩:=h;rw[oF,La];omega
theorem UH (pre i L):(fun j=>if j=i then cnt pre i++[(L.length:Int)]else cnt pre j)=cnt (pre++[(i,L)]):=by
 funext j
 rw[oF];by_cases e:j=i
 ·subst e;rw[Ps0 rfl,WZ]
 ·rw[Ng e,Tk (fun q=>e q.symm),Bh]
end En
namespace Bk
open Cs (gH In lens tQ)
theorem zZ {b s} (h:s∈b):s.2.length≤dm b:=by
 induction b with
 |nil=>cases h
 |cons t b ih=>
  have e:dm (t::b)=t.2.length+dm b:=by simp[dm]
  rw[e];rcases eH.1 h with rfl|h
  ·omega
  ·have:=ih h;omega
theorem Iz (s):(lens s).length=Ck.oQ s.length:=by unfold lens;rw[fM,Ck.uH,fM,Cz]
theorem abd {α:Type} (f:α→Nat) {l:List α} {x} (h:x∈l):f x≤(l.map f).sum:=by
 induction l with
 |nil=>cases h
 |cons y l ih=>
  simp only[Az,AZ];rcases eH.1 h with rfl|h
  ·omega
  ·have:=ih h;omega
structure Ok (b:ic):Prop where
 bR:bR b=0
 inn:∀s∈b,In s.2
 wt:Ps.wt (sets b)≤500000
 dat:(dat b).length≤10000000
 rcl:∀T,Sy.gD (Ps.strs (Bk.sets b)) T→(Rc.aM T (mI b)).length≤10000000
 sec:∀T E,Of b T E→∀i,i<4→(D4 T E b i).length≤10000000
theorem Ok.dm {b:ic} (h:Ok b):dm b≤16777216:=(fF h.bR).2.1
theorem Ok.fit {b} (h:Ok b):∀s∈b,Lb.Fit s.1:=fun s hs=>((jF h.bR (by have:=h.wt;omega)).1 s.1 (bY.2 ⟨s,hs,rfl⟩)).2
theorem Ok.len {b} (h:Ok b):b.length≤500000:=Lt Y6 h.wt
theorem Ok.sets {b:ic} (h:Ok b):Ps.Sets (sets b):=jF h.bR (by have:=h.wt;omega)
theorem Ok.tab {b T} (h:Ok b) (ht:Sy.gD (Ps.strs (Bk.sets b)) T):T.length≤1000000:=by
 have h1:=Sy.gD.len ht;have h2:=Ps.oz (Bk.sets b);have:=h.wt;omega
theorem Ok.encS {b T} (h:Ok b) (ht:Sy.gD (Ps.strs (Bk.sets b)) T):Sy.enc T=(Sy.aM T,0):=by
 unfold Sy.enc;rw[Sy.nz.2 (Sy.gD.size ht (iI h.bR)),Ng sm,Ps0 (Sy.RG.2 ht.1)]
theorem Ok.szT {b T} (h:Ok b) (ht:Sy.gD (Ps.strs (Bk.sets b)) T):∀s∈T,s.size≤maxLen:=fun s hs=>by
 have:=Sy.gD.size ht (iI h.bR) s hs;unfold maxLen;omega
theorem Ok.encR {b T} (h:Ok b) (ht:Sy.gD (Ps.strs (Bk.sets b)) T):Rc.enc T (mI b)=(Rc.aM T (mI b),0):=by
 unfold Rc.enc;rw[Ps0 (show Rc.err T (mI b)=0 from Rc.Rz (Y5 h.bR (by have:=h.wt;omega) ht))]
theorem Ok.cnt {b} (h:Ok b) (i) (hi:i<b.length):(En.cnt (En.all 0 b) i).length≤1000000:=by
 have h3:=En.sF b 0 i hi;rw[cK]at h3;have h1:=zZ (gG hi);have h2:=h.dm;rw[h3,fM,Iz];unfold Ck.oQ;omega
theorem Of.Og {b T E} (ho:Of b T E):Pe.enc T E=(Pe.aM T E,0):=by
 unfold Pe.enc;rw[Ps0 (DF.2 (Ps.Mx ho.2 ho.1))]
theorem UI (b i) (h:i< (mI b).length) (h':i<b.length):(mI b)[i]=(b[i].1,En.cnt (En.all 0 b) i):=by
 have:=En.sF b 0 i h';rw[cK]at this;rw[this];unfold mI WT;simp[Rc.bW]
theorem vE (b):(mI b).length=b.length:=by unfold mI WT;simp
theorem Ok.rcL {b} (h:Ok b):∀r∈mI b,r.1.length≤1000000∧r.2.length≤1000000:=fun r hr=>by
 obtain⟨i,hi,rfl⟩:=jw.1 hr;have hi':i<b.length:=by rw[←vE];exact hi
 rw[UI b i hi hi'];have h1:=zZ (gG hi');have h2:=h.dm;have h3:=En.sF b 0 i hi';rw[cK]at h3;have h4:=h.wt;have h5:b[i].1.length≤Ps.wt (Bk.sets b):=by
  have:b[i].1∈Bk.sets b:=bY.2 ⟨_,gG hi',rfl⟩;have:=abd (fun m:List aQ=>1+m.length) this;unfold Ps.wt;omega
 refine⟨by show b[i].1.length≤_;omega,?_⟩;show(En.cnt (En.all 0 b) i).length≤_;rw[h3,fM,Iz];unfold Ck.oQ;omega
theorem Ok.adZ {b E} (h:Ok b) (hi:Ps.rD (Ps.fu (Bk.sets b) 0) E):E.length≤1000000∧∀e∈E,e.2.length≤1000000∧Pe.Up 0 e.2:=
 ⟨(Ps.uD h.sets hi).1,fun e he=>⟨(Ps.uD h.sets hi).2 e he,Ps.Mw h.sets hi e he⟩⟩
end Bk
end Go.Proofs.YtongopommlghgaaGreatDoor
