/- Part 31. -/
import Derived.Test.YtjcpmfphnodaaaaGreatDoorZTBD
import Derived.Lib.AppendZerosOnto
namespace Go.Proofs.YtjcpmfphnodaaaaGreatDoor
set_option maxRecDepth 100000
set_option maxHeartbeats 0
open _root_.Go.Proofs.Tryz
open Go.RowKit Go.Shelf
theorem ND (n:Nat) (w) (hn:n≤20000000):
  Calls prog 212 #[.slice none 0 0,.int .i64 n] w fun e w'=>∃A c,e= .returned (.slice A 0 c)∧aO w' w.heap.size A 0 c []∧Below w.heap.size w w':=by
 by_cases h0:n=0
 ·subst h0;go_enter func212,ntmps212;go_wp2;go_ret;exact⟨none,0,rfl,AY _ _ _ _,Ae _ _⟩
 ·obtain⟨i0,hi0,hz0,hz1,hz2⟩:=AX Pd;have hp:(0:Int)< (n:Int):=om;have hrz:∀ty,(Builtin.append_ #[62,3] ty #[.slice none 0 0,.int .i64 (n:Int)]).run prog w=
    .ok (.slice (some ⟨w.heap.size,0,none⟩) (0+n) (grownCap w (0+n) 0 3)) (w.drew.alloc (.cells (([]:List Value).toArray++Builtin.zeroCells (Value.int .i64 0).cells n++Builtin.zeroCells (Value.int .i64 0).cells (grownCap w (0+n) 0 3-(0+n))) 3)):=fun ty=>by
   refine Lib.run_append_grow_zeros w 62 3 ty 3 i0 (.int .i64 0) .i64 .i64 underlying62 underlying3 hi0 hz0 none 0 0 [] (run_firstCells_none w.drew i0.size 0 0 0) n om om om om (by rw[hz2];omega) ?_;rw[hz2];exact growslice_fits om om
  have hlo:=grownCap_ge w (0+n) 0 3;have hhi:=grownCap_le_maxLen w (0+n) 0 3 (by unfold maxLen;omega);have hsz:(([]:List Value).toArray++Builtin.zeroCells (Value.int .i64 0).cells n++Builtin.zeroCells (Value.int .i64 0).cells (grownCap w (0+n) 0 3-(0+n))).size=grownCap w (0+n) 0 3:=by
   rw[cB]at hlo⊢;simp[Builtin.zeroCells,Value.cells];omega
  generalize (([]:List Value).toArray++Builtin.zeroCells (Value.int .i64 0).cells n++Builtin.zeroCells (Value.int .i64 0).cells (grownCap w (0+n) 0 3-(0+n)))=C at*;generalize grownCap w (0+n) 0 3=G at*;have ho:(w.drew.alloc (.cells C 3)).ownsRow w.heap.size 3 1 (.slice (some ⟨w.heap.size,0,none⟩) 0 G) 0 []:=World.ownsRow_made w.drew C G Ai hhi om;have hb:Below w.heap.size w (w.drew.alloc (.cells C 3)):=((Ae _ w).drew).alloc Ai _;unfold maxLen at hhi;rw[cB]at hrz hlo;have Ho:=Aj ho;have Hb:=Aj hb;clear ho hb hsz hz0 hz1 hz2 hi0;have hn':(n:Int)≤20000000:=om;have akz:(n:Int)≤(G:Int):=om;clear hn hlo;go_enter func212,ntmps212;go_wp2_with (at_builtin;refine Lib.wpList_append_run _ rfl _ _ _ _ rfl _ _ rfl rfl _ _ (hrz _) ?_)
  all_goals
   go_ret;exact⟨_,G,rfl,Ho.1,Hb.1⟩
theorem Vy {LL:List (List Int)} {k} (h:k<LL.length):(LL.take (k+1)).flatten=(LL.take k).flatten++LL[k]:=by
 rw[←List.take_append_getElem h,List.flatten_append];simp
theorem Gb (A) (n c B) (LL) (w) (hv:qp w B A n c LL) (hB:B≤w.heap.size) (hl:Ls.tot LL≤10000000):
  Calls prog 176 #[.slice A n c] w fun e w'=>∃A3 n3 c3,e= .returned (.slice A3 n3 c3)∧aO w' w.heap.size A3 n3 c3 LL.flatten∧Below w.heap.size w w':=by
 have HN:=Aj hv.len;have hcap:=hv.cap;unfold maxLen at hcap;have HV:=Aj hv;clear hv;have HL:=Aj hl;have hl':(Ls.tot LL:Int)≤10000000:=om;clear hl;go_enter func176,ntmps176;go_wp2;go_loop [3,11] (fun s i=>∃k t:Nat,k≤n∧i= .int .i64 k∧s= .int .i64 t∧Kept (t=Ls.tot (LL.take k))∧(t:Int)≤10000000) (fun _ i=>n-(intOf i).toNat)
 case atStart=>exact⟨0,0,om,rfl,rfl,⟨rfl⟩,om⟩
 case round=>
  obtain⟨k,t,hk,rfl,rfl,Ht,ht2⟩:=hrel;by_cases hlt:k<n
  ·have hkn:k<LL.length:=by rw[←HN.1];exact hlt
   obtain⟨b,off,A',n',c',rfl,lX,hcell,hr⟩:=HV.1.at_ hkn;have Vz:=hr.len;have htk:=Ls.kP hkn;have hle:=Ls.lg LL (k+1);have ht:=Ht.1;have hs:((t+n':Nat):Int)≤10000000:=om;have E1:=Aj (show t+n'=Ls.tot (LL.take (k+1))from om);have E2:=Aj hr;clear htk hle ht Vz hr;go_wp2;go_round
   case rel=>exact⟨k+1,t+n',om,by go_num,by go_num,E1,hs⟩
   case measure=>simp[intOf];try omega
  ·obtain rfl:k=n:=by omega
   have HT:=Aj (show t=Ls.tot LL by rw[Ht.1,HN.1,jY Ai]);clear Ht hlt hk;go_wp2_with (go_at_call 212;refine(ND t _ om).mono ?_;rintro e w1 ⟨A0,c0,rfl,ho,hb⟩);go_loopw [6,27] (fun o i wr=>∃j n3 A3 c3,j≤k∧i= .int .i64 (j:Nat)∧o= .slice A3 n3 c3∧aO wr w.heap.size A3 n3 c3 (LL.take j).flatten∧Below w.heap.size w wr∧Kept (n3=Ls.tot (LL.take j))∧(n3:Int)≤10000000) (fun _ i _=>k-(intOf i).toNat)
   case atStart=>exact⟨0,0,A0,c0,om,rfl,rfl,ho,hb,⟨rfl⟩,om⟩
   case round=>
    clear ho hb;obtain⟨j,n3,A3,c3,hj,rfl,rfl,ho,hb,Hn3,aaw⟩:=hrel;by_cases hlt2:j<k
    ·have hjn:j<LL.length:=by rw[←HN.1];exact hlt2
     obtain⟨b,off,A',n',c',rfl,lX,hcell,hr⟩:=HV.1.at_ hjn;have hl0:=(hb.cell (p:=⟨b,off+j,none⟩) (by show b<_;omega)).trans hcell;have hz:=hb.size;have hA:=Aj (ae ho);have R1:=Aj ((jv.more hr hB).below hb);have Vz:=hr.len;have mo:=Hn3.1;have htk:=Ls.kP hjn;have hle:=Ls.lg LL (j+1);have hs:((n3+n':Nat):Int)≤10000000:=om;have hs3:n3+n'≤17592186044416:=om;have E1:=Aj (show n3+n'=Ls.tot (LL.take (j+1))from om);have E2:=Aj Vz;clear mo htk hle aaw Vz;go_wp2_with (at_builtin;refine dS rfl (.tmp 31) (.tmp 32) rfl w.heap.size A3 n3 c3 _ rfl ho w.heap.size A' n' c' LL[j] rfl R1.1 hs3 hz ?_;intro A4 c4 w4 ax aj di);have hb4:Below w.heap.size w w4:=hb.grown aj hz (fun g hg=>(hA.1 g hg).1);rw[←Vy hjn]at ax;go_roundw
     case rel=>exact⟨j+1,n3+n',A4,c4,om,by go_num,rfl,ax,hb4,⟨E1.1⟩,hs⟩
     case measure=>simp[intOf];try omega
    ·obtain rfl:j=k:=by omega
     clear hlt2 hj;go_wp2;go_ret;refine⟨A3,n3,c3,rfl,?_,hb⟩;rw[HN.1,jY Ai]at ho;exact ho
namespace Cs
def fit:List Int→Int→Bool
 |[],n=>decide (n=0)
 |c::r,n=>if c<0∨n<c then false else fit r (n-c)
theorem RH:∀(l) (n:Nat),(∀c∈l,0≤c)→fit l n=decide ((l.map Int.toNat).sum=n)
 |[],n,_=>by
  rw[fit];refine decide_eq_decide.2 ?_;simp;omega
 |c::r,n,h=>by
  have hc:=h c sm;rw[fit,AA,Bj];by_cases h1:(n:Int)<c
  ·rw[Ps0 (.inr h1),eq_comm,decide_eq_false_iff_not];omega
  ·rw[Ng om,show(n:Int)-c=((n-c.toNat:Nat):Int)from om,RH r _ (fun z hz=>h z (by simp[hz]))];refine decide_eq_decide.2 ?_;omega
end Cs
theorem xA (A) (n c B) (LL) (m:Nat) (w) (hv:qp w B A n c LL) (hB:B≤w.heap.size) (hl:Ls.tot LL≤10000000) (hm:m≤4000000000):
  Calls prog 124 #[.int .i64 m,.slice A n c] w fun e w'=>e= .returned (.bool (Cs.fit LL.flatten m))∧Below w.heap.size w w':=by
 have HV:=Aj hv;have HL:=Aj hl;have hm':(m:Int)≤4000000000:=om;clear hv hl hm;generalize hr:Cs.fit LL.flatten m=res;have HR:=Aj hr;clear hr;go_enter func124,ntmps124;go_wp2_with (go_at_call 176;refine(Gb _ _ _ _ LL _ HV.1 om HL.1).mono ?_;rintro e w1 ⟨A0,n0,c0,rfl,ho,hb⟩);have hcap:=ho.rd.1;have hcm:=ho.rd.2.1;unfold maxLen at hcm;have HN:=Aj ho.len;have HO:=Aj ho.rd;have Hb:=Aj hb;have hsz:=hb.size;clear ho hb;generalize LL.flatten=l at*;go_loop [0,10] (fun s i=>∃k t:Nat,k≤n0∧i= .int .i64 k∧s= .int .i64 t∧t≤m∧Kept (Cs.fit (l.drop k) t=res)) (fun _ i=>n0-(intOf i).toNat)
 case atStart=>exact⟨0,m,om,rfl,rfl,om,⟨HR.1⟩⟩
 case round=>
  obtain⟨k,t,hk,rfl,rfl,ht,Ht⟩:=hrel;by_cases hlt:k<n0
  ·have hkn:k<l.length:=by rw[←HN.1];exact hlt
   obtain⟨b,off,rfl,lX,hcell⟩:=HO.1.at_ hkn;have e1:=Ht.1;rw[oN hkn,Cs.fit]at e1;have E1:=Aj e1;generalize l[k]=x at hcell E1;clear e1;by_cases h1:x<0
   ·have e2:=E1.1;rw[Ps0 (.inl h1)]at e2;have E2:=Aj e2;clear e2 E1;go_wp2;go_ret;obtain rfl:=E2.1;exact⟨rfl,Hb.1⟩
   ·by_cases h2:(t:Int)<x
    ·have e2:=E1.1;rw[Ps0 (.inr h2)]at e2;have E2:=Aj e2;clear e2 E1;go_wp2;go_ret;obtain rfl:=E2.1;exact⟨rfl,Hb.1⟩
    ·have e2:=E1.1;rw[Ng om]at e2;obtain⟨y,rfl⟩:∃y:Nat,x=(y:Int):=⟨x.toNat,om⟩
     have hyt:y≤t:=om;have E2:=Aj (show Cs.fit (l.drop (k+1)) ((t-y:Nat):Int)=res by rw[←e2];congr 1;omega);clear e2 E1 h1;go_wp2;go_round
     case rel=>exact⟨k+1,t-y,om,by go_num,by go_num,om,E2⟩
     case measure=>simp[intOf];try omega
  ·obtain rfl:k=n0:=by omega
   clear hlt hk;have e1:=Ht.1;rw[HN.1,List.drop_of_length_le Ai,Cs.fit]at e1;have E1:=Aj e1;clear e1;by_cases h3:t=0
   ·subst h3;go_wp2;go_ret;obtain rfl:=E1.1;exact⟨rfl,Hb.1⟩
   ·go_wp2;go_ret;obtain rfl:=E1.1;rw[Az om];exact⟨by show Ending.returned (.bool ((t:Int)==0))=_;rw[show((t:Int)==0)=false by simp;omega],Hb.1⟩
def SY (w:World) (g hi n:Nat) (LL:List Cs.gz):Prop:=
 ∃cs:Array Value,w.heap[g]? =some (.cells cs 55 (0,0))∧cs.size=n∧(∀(i:Nat) (l:Cs.gz),LL[i]? =some l→∃A' n' c',cs[i]? =some (Value.slice A' n' c')∧bF w (g+1) A' n' c' l∧∀p,ab A'=some p→p<hi)∧
  ∀i:Nat,LL.length≤i→i<n→cs[i]? =some (Value.slice none 0 0)
def Gc (w:World) (g hi n:Nat) (LL:List Cs.gz) (A:Option Addr) (m c:Nat) (acc:Cs.gz):Prop:=
 ∃cs:Array Value,w.heap[g]? =some (.cells cs 55 (0,0))∧cs.size=n∧(∀(i:Nat) (l:Cs.gz),LL[i]? =some l→∃A' n' c',cs[i]? =some (Value.slice A' n' c')∧bF w (g+1) A' n' c' l∧∀p,ab A'=some p→p<hi)∧
  cs[LL.length]? =some (Value.slice A m c)∧bF w hi A m c acc∧(∀i:Nat,LL.length<i→i<n→cs[i]? =some (Value.slice none 0 0))∧g<hi∧LL.length<n
section
variable {w w':World} {g hi n m c:Nat} {LL:List Cs.gz} {A:Option Addr} {acc:Cs.gz}
theorem SY.start (h:SY w g hi n LL) (hg:g<w.heap.size) (hh:hi≤w.heap.size) (hk:LL.length<n):Gc w g w.heap.size n LL none 0 0 []:=by
 obtain⟨cs,h1,h2,h3,h4⟩:=h;refine⟨cs,h1,h2,fun i l hl=>?_,h4 _ Ai hk,bF.nil _ _,fun i hi hn=>h4 i om hn,hg,hk⟩;obtain⟨A',n',c',e1,e2,e3⟩:=h3 i l hl;exact⟨A',n',c',e1,e2,fun p hp=>by have:=e3 p hp;omega⟩
theorem Gc.below (h:Gc w g hi n LL A m c acc) (hb:Below w.heap.size w w'):Gc w' g hi n LL A m c acc:=by
 obtain⟨cs,h1,h2,h3,h4,h5,h6,h7,h8⟩:=h;have hg:g<w.heap.size:=(Ge.1 h1).1;refine⟨cs,(hb.block g hg).trans h1,h2,fun i l hl=>?_,h4,aR h5 hb,h6,h7,h8⟩;obtain⟨A',n',c',e1,e2,e3⟩:=h3 i l hl;exact⟨A',n',c',e1,aR e2 hb,e3⟩
theorem Gc.cell (h:Gc w g hi n LL A m c acc):w.cell? ⟨g,LL.length,none⟩=some (Value.slice A m c):=by
 obtain⟨cs,h1,h2,h3,h4,_⟩:=h;exact(Co w g _ cs _ (0,0) h1).trans h4
theorem Gc.frozen (h:Gc w g hi n LL A m c acc) (k):w.frozen? ⟨g,k,none⟩=false:=by
 obtain⟨cs,h1,_⟩:=h;exact Fr w g k _ _ h1
theorem Gc.own (h:Gc w g hi n LL A m c acc):bF w hi A m c acc:=by
 obtain⟨cs,_,_,_,_,h5,_⟩:=h;exact h5
theorem Gc.grown {A4} {m4 c4} {abX:Cs.gz} (h:Gc w g hi n LL A m c acc) (hg:w.grownBy w' (ab A)) (ho:bF w' hi A4 m4 c4 abX):
  (∃v,w'.cell? ⟨g,LL.length,none⟩=some v)∧w'.frozen? ⟨g,LL.length,none⟩=false∧Gc (w'.setCell ⟨g,LL.length,none⟩ (.slice A4 m4 c4)) g hi n LL A4 m4 c4 abX:=by
 obtain⟨cs,h1,h2,h3,h4,h5,h6,h7,h8⟩:=h;have hgs:g<w.heap.size:=(Ge.1 h1).1;have hne:some g≠ab A:=fun e=>by have:=(ae h5 g e.symm).1;omega
 have h1':=(hg.block g hgs hne).trans h1;have hset:=Ag w' g LL.length cs 55 (.slice A4 m4 c4) h1';refine⟨⟨_,(Co w' g _ cs _ (0,0) h1').trans h4⟩,Fr w' g _ _ _ h1',?_⟩;refine⟨_,hset,by simp[h2],fun i l hl=>?_,by rw[zC,Ps0 rfl,Ps0 om],aT ho (fun p hp e=>by have:=(ae ho p hp).1;omega),fun i hi hn=>?_,h7,h8⟩
 ·obtain⟨A',n',c',e1,e2,e3⟩:=h3 i l hl;have hil:i<LL.length:=by
   rcases DD i LL.length with h|h
   ·exact h
   ·rw[BC h]at hl;cases hl
  refine⟨A',n',c',by rw[zC,Ng om];exact e1,?_,e3⟩;have e2':bF w' (g+1) A' n' c' l:=af e2 hg (by
   rcases hA:ab A' with _|p
   ·exact .inl rfl
   ·refine .inr fun e=>?_
    have:=e3 p hA;have:=(ae h5 p e.symm).1;omega)
  exact aT e2' (fun p hp e=>by have:=(ae e2' p hp).1;omega)
 ·rw[zC,Ng om];exact h6 i hi hn
theorem Gc.done (h:Gc w g hi n LL A m c acc):SY w g w.heap.size n (LL++[acc]):=by
 obtain⟨cs,h1,h2,h3,h4,h5,h6,h7,h8⟩:=h;refine⟨cs,h1,h2,fun i l hl=>?_,fun i hi hn=>h6 i (by simp at hi;omega) hn⟩;rw[List.getElem?_append]at hl;split at hl
 ·obtain⟨A',n',c',e1,e2,e3⟩:=h3 i l hl;exact⟨A',n',c',e1,e2,fun p hp=>(ae e2 p hp).2⟩
 ·rename_i hi
  obtain rfl:i=LL.length:=by
   rcases DD LL.length i with h|h
   ·rw[BC (by simp;omega)]at hl;cases hl
   ·omega
  simp at hl;subst hl;exact⟨A,m,c,h4,qh h5 om,fun p hp=>(ae h5 p hp).2⟩
theorem SY.rd (h:SY w g hi n LL) (hn:LL.length=n) (hm:n≤maxLen):mY w w.heap.size (some ⟨g,0,none⟩) n n LL:=by
 obtain⟨cs,h1,h2,h3,h4⟩:=h;have hg:g<w.heap.size:=(Ge.1 h1).1;refine⟨cs.toList,⟨Nr _,hm,by simp[h2],fun _=>⟨g,0,rfl,hg,fun i u hu=>?_⟩⟩,by simp[h2,hn],fun i l hl=>?_⟩
 ·rw[Dl]at hu;rw[cB];exact(Co w g _ cs _ (0,0) h1).trans hu
 ·obtain⟨A',n',c',e1,e2,_⟩:=h3 i l hl;exact⟨A',n',c',by rw[Dl];exact e1,bF.rd e2⟩
theorem SY.made (w:World) (n):SY (w.alloc (.cells (madeCells #[.slice none 0 0] n) 55)) w.heap.size (w.heap.size+1) n []:=by
 refine⟨_,World.alloc_heap_new w _,by simp[madeCells],fun i l hl=>by simp at hl,fun i _ hn=>?_⟩;rw[Array.getElem?_eq_getElem (by simp[madeCells];exact hn)];simp[madeCells,Nat.mod_one]
end
theorem RI (n:Nat) (hn:n≤1000000) (w):(Instr.makeSlice 147 (.int .i64 n) (.int .i64 n)).run prog w= .ok (.slice (some ⟨w.heap.size,0,none⟩) n n) (w.alloc (.cells (madeCells #[.slice none 0 0] n) 55)):=by
 obtain⟨i0,hi0,hz0,hz1,hz2⟩:=AX QU;have:=run_makeSlice (P:=prog) w 147 55 i0 (.slice none 0 0) underlying147 hi0 hz0 .i64 .i64 (n:Int) (n:Int) om om (by rw[hz1];simp;omega) (by rw[hz2];omega) om;rw[hz1]at this;simpa[Value.cells]using this
def YY (w:World) (R:List Cs.gz×Int) (e:Ending) (w':World):Prop:=
 ∃A n c,e= .returned (.tuple #[.slice A n c,.int .i64 R.2])∧mY w' w'.heap.size A n c R.1∧Below w.heap.size w w'∧∀p,ab A=some p→w.heap.size≤p
theorem mY.nil (w) (B):mY w B none 0 0 []:=
 ⟨[],⟨Nr _,by unfold maxLen;omega,rfl,fun h=>absurd h om⟩,rfl,fun i l h=>by simp at h⟩
theorem YY.bad {w w'} {R} {f} (h:R=([],f)) (hb:Below w.heap.size w w'):YY w R (.returned (.tuple #[.slice none 0 0,.int .i64 f])) w':=by
 subst h;exact⟨none,0,0,rfl,mY.nil _ _,hb,fun p hp=>by simp[ab]at hp⟩
namespace Cs
def uZ (LN:List (List Nat)):List (List Int):=LN.map (·.map Int.ofNat)
theorem RJ {LN} {k} (h:k<LN.length):(uZ LN)[k]'(by simpa[uZ]using h)=LN[k].map Int.ofNat:=by simp[uZ]
theorem RS (LN):((uZ LN).flatten.map Int.toNat)=LN.flatten:=by
 induction LN with
 |nil=>rfl
 |cons l r ih=>
  rw[show uZ (l::r)=l.map Int.ofNat::uZ r from rfl,Cc,dY,ih,Cc]
  congr 1
  clear ih
  induction l with
  |nil=>rfl
  |cons x l ih=>rw[AA,AA,ih];rfl
theorem YZ (LN):∀c∈(uZ LN).flatten,0≤c:=by
 intro c hc;obtain⟨l,hl,hc⟩:=List.mem_flatten.1 hc;obtain⟨q,_,rfl⟩:=dM.1 hl;obtain⟨z,_,rfl⟩:=dM.1 hc;exact Int.natCast_nonneg z
theorem VA (LN) (n:Nat):fit (uZ LN).flatten n=decide (LN.flatten.sum=n):=by
 rw[RH _ _ (YZ LN),RS]
theorem VB {L} (h:(Ck.dec L).2=0):(Ck.dec L).1.length≤120:=
 (Ck.fG (L:=L) (l:=(Ck.dec L).1) (by rw[←h])).1.2.1
end Cs
theorem Jv (A DA) (n c dn dc B) (LN) (D) (w) (hv:qp w B A n c (Cs.uZ LN)) (hd:aN w B DA dn dc D) (hB:B≤w.heap.size)
  (hl:Ls.tot (Cs.uZ LN)≤10000000) (hn:n≤1000000) (hdn:dn≤100000000) (hG:Gl w):
  Calls prog 74 #[.slice DA dn dc,.slice A n c] w (YY w (if LN.flatten.sum≠D.length then([],23)else Cs.Gu LN [] D)):=by
 have HV:=Aj (hv.more hB);have HD:=Aj (hd.more hB);have HL:=Aj hl;have hnl:n=LN.length:=by rw[hv.len];simp[Cs.uZ]
 have HN:=Aj hnl;have hcap:=hv.cap;unfold maxLen at hcap;have hdl:dn=D.length:=hd.len;have HDL:=Aj hdl;generalize hR:(if LN.flatten.sum≠D.length then([],23)else Cs.Gu LN [] D)=R;have HG:=Aj hG;have Hf:=Aj (Cs.VA LN dn);have hn':(n:Int)≤1000000:=om;have afs:(dn:Int)≤100000000:=om;have Hmk:=Aj (fun W=>RI n hn W);have HB:=Aj hB;clear hv hd hl hnl hdl hG hn hB;by_cases hfit:LN.flatten.sum=dn
 ·have Hf2:Kept (Cs.fit (Cs.uZ LN).flatten dn=true):=⟨by rw[Hf.1];simp[hfit]⟩
  rw[Ng (by rw[←HDL.1];omega)]at hR;have HR:=Aj hR;have HF:=Aj hfit;clear hR Hf hfit;go_enter func74,ntmps74;have hmk:=Hmk.1;go_wp2_with (go_at_call 124;refine(xA A n c w.heap.size (Cs.uZ LN) dn w HV.1 Ai HL.1 om).mono ?_;rintro e w1 ⟨rfl,hb1⟩;rw[Hf2.1]);have Hb1:=Aj hb1;have hz1:=hb1.size;clear hb1;have Hm:=Aj (SY.made w1 n);have hb2:=Hb1.1.alloc hz1 (.cells (madeCells #[.slice none 0 0] n) 55);generalize hw2:w1.alloc (.cells (madeCells #[.slice none 0 0] n) 55)=w2 at*;have hs2:w1.heap.size<w2.heap.size:=by rw[←hw2];simp
  have Hs2:Kept (w2.heap.size=w1.heap.size+1):=⟨by rw[←hw2];simp⟩
  obtain⟨g,hg⟩:∃g,g=w1.heap.size:=⟨_,rfl⟩
  have Hg:=Aj hg;have Hb2:=Aj hb2;have Hm2:Kept (SY w2 g w2.heap.size n []):=⟨by rw[hg,Hs2.1];exact Hm.1⟩
  have hwg:w.heap.size≤g:=om;have hgw:g<w2.heap.size:=om;rw[←hg];clear hg hs2 hb2 hw2 Hm Hs2 hz1 hmk Hb1;go_loopw [0,23] (fun d i wr=>∃k A0 n0 c0 D0 done,k≤n∧i= .int .i64 (k:Nat)∧d= .slice A0 n0 c0∧Kept (aN w w.heap.size A0 n0 c0 D0)∧Kept (List.length done=k)∧Kept ((LN.drop k).flatten.sum=D0.length)∧Kept (Cs.Gu (LN.drop k) done D0=R)∧
   Kept (SY wr g wr.heap.size n done)∧Kept (Below w.heap.size w wr)∧g<wr.heap.size∧(n0:Int)≤100000000) (fun _ i _=>n-(intOf i).toNat)
  case atStart=>exact⟨0,DA,dn,dc,D,[],om,rfl,rfl,HD,⟨rfl⟩,⟨by rw[←HDL.1];exact HF.1⟩,HR,Hm2,Hb2,hgw,afs⟩
  case round=>
   clear Hm2 Hb2 hgw HR HF HD HDL Hf2;obtain⟨k,A0,n0,c0,D0,done,hk,rfl,rfl,HD0,Y0,aft,HR,Hrw,Hb,hgr,hn0⟩:=hrel;by_cases hlt:k<n
   ·have hkn:k<LN.length:=by rw[←HN.1];exact hlt
    have hkn2:k< (Cs.uZ LN).length:=by simpa[Cs.uZ]using hkn
    obtain⟨b,off,A',n',c',rfl,lX,hcell,hr⟩:=HV.1.at_ hkn2;have hl0:=(Hb.1.cell (p:=⟨b,off+k,none⟩) (by show b<_;exact lX)).trans hcell;rw[Cs.RJ hkn]at hr;have e1:=HR.1;have e2:=aft.1;rw[oN hkn]at e1 e2;rw[Cs.Gu]at e1;rw[Cc,CY]at e2;have Htl:=Aj (Ls.kP hkn2);generalize hrest:(LN.drop (k+1)).flatten.sum=rest at e2;generalize hln:LN[k]=ln at hr e1 e2;have abY:=Aj hrest;have HRw:=Aj hr;have hnl:=hr.len;rw[fu]at hnl;have Hnl:=Aj hnl;have hn1:n'≤10000000:=by
     have h1:=Htl.1;have h2:=Ls.lg (Cs.uZ LN) (k+1);have h3:=HL.1;have h4:((Cs.uZ LN)[k]).length=n':=by rw[Cs.RJ hkn,hln,fu,hnl]
     omega
    have hn1':(n':Int)≤10000000:=om;generalize hR1:Cs.Ew ln [] D0=R1 at e1;have HR1:=Aj hR1;have HE1:=Aj e1;have HE2:=Aj e2;have akD:=Aj hr.1;have Hcm:=Aj hr.2.1;have HC:Kept (Gc wr g wr.heap.size n done none 0 0 []):=⟨Hrw.1.start hgr Ai (by rw[Y0.1];exact hlt)⟩
    obtain⟨S,hS⟩:∃S,S=wr.heap.size:=⟨_,rfl⟩
    have HS:=Aj hS;rw[←hS]at HC;clear e1 e2 hrest hln hr hnl hR1 hkn hkn2 Htl hcell HR hS Hrw hn1;go_wp2;go_loopw [0,30] (fun d i wi=>∃j A1 n1 c1 D1 AC mc cc acc,j≤n'∧i= .int .i64 (j:Nat)∧d= .slice A1 n1 c1∧Kept (aN w w.heap.size A1 n1 c1 D1)∧Kept ((ln.drop j).sum+rest=D1.length)∧Kept (Cs.Ew (ln.drop j) acc D1=R1)∧
     Kept (List.length acc≤120*j)∧Kept (Gc wi g S n done AC mc cc acc)∧Kept (Below w.heap.size w wi)∧Kept (S≤wi.heap.size)∧(n1:Int)≤100000000) (fun _ i _=>n'-(intOf i).toNat)
    case atStart=>exact⟨0,A0,n0,c0,D0,none,0,0,[],om,rfl,rfl,HD0,⟨HE2.1⟩,HR1,⟨sm⟩,HC,Hb,⟨Nat.le_of_eq HS.1⟩,hn0⟩
    case round=>
     obtain⟨j,A1,n1,c1,D1,AC,mc,cc,acc,hj,rfl,rfl,HD1,Hs1,Hd1,Hac,HCu,Xd,HSi,afy⟩:=hrel;by_cases hlt2:j<n'
     ·have hjl:j<ln.length:=by rw[←Hnl.1];exact hlt2
      obtain⟨b2,vD,rfl,ab0,hcell2⟩:=HRw.1.at_ (k:=j) (by rw[fu];exact hjl);rw[List.getElem_map]at hcell2;have hl2:=(Xd.1.cell (p:=⟨b2,vD+j,none⟩) (by show b2<_;exact ab0)).trans hcell2;have e1:=Hd1.1;have e2:=Hs1.1;rw[oN hjl]at e1 e2;rw[Cs.Ew]at e1;rw[Bj]at e2;generalize hx:ln[j]=x at hl2 e1 e2;have hxl:x≤D1.length:=om;have afz:n1=D1.length:=HD1.1.len;have hxn:x≤n1:=om;have hx2:(x:Int)≤(n1:Int):=om;have hcl:=Aj HD1.1.1;have hcm:=HD1.1.2.1;unfold maxLen at hcm;have hc1:(n1:Int)≤(c1:Int):=by have:=hcl.1;omega
      have HT:=Aj ((HD1.1.take hxn).below Xd.1);have HDr:=Aj (HD1.1.drop hxn);generalize hQ:Ck.dec (D1.take x)=Q at e1;have HQ:=Aj hQ;have HE:=Aj e1;have HE3:=Aj (show(ln.drop (j+1)).sum+rest=(D1.drop x).length by rw[jX];omega);have hzi:=Xd.1.size;have HGi:=Aj (HG.1.below Xd.1);have hx1:(x:Int)≤100000000:=om;have Y5:=Aj hzi;clear e1 e2 hxl afz hQ hcell2 hx hjl Hs1 Hd1 hzi hl0;obtain⟨ql,qe⟩:=Q;by_cases hqe:qe=0
      ·subst hqe;have hq:((0:Int) !=0)=false:=rfl;have hql:ql.length≤120:=by have:=Cs.VB (L:=D1.take x) (by rw[HQ.1]);rw[HQ.1]at this;exact this
       have hgo:(ln.drop (j+1)≠[]∧ql.length≠120)∨¬(ln.drop (j+1)≠[]∧ql.length≠120):=Classical.em _;have hdr:ln.drop (j+1)≠[]↔j+1<n':=by rw[ne_eq,List.drop_eq_nil_iff,←Hnl.1];omega
       rw[hdr]at hgo;have hmc:mc=acc.length:=HCu.1.own.len;have Y6:mc≤120*j:=by rw[hmc];exact Hac.1
       have Hmc:=Aj Y6;by_cases hbad:j+1<n'∧ql.length≠120
       ·have YT:Kept (R=([],23)):=⟨by
         have e3:=HE.1;rw[Ng sm,Ps0 ⟨hdr.2 hbad.1,hbad.2⟩]at e3;have e4:=HE1.1;rw[←e3,Ps0 sm]at e4;exact e4.symm⟩
        have h1:(j:Int)< (n':Int)-1:=om;have h2:(((ql.length:Nat):Int) !=120)=true:=by simp;omega
        clear hgo hdr hmc Y6 hbad hql;go_wp2_with (go_at_call 125;refine(kZ A1 x c1 w.heap.size (D1.take x) _ HT.1 Y5.1 om HGi.1).mono ?_;rintro e w3 ⟨A2,n2,c2,rfl,hown,hb3⟩;rw[HQ.1]at hown⊢;obtain rfl:n2=ql.length:=bF.len hown;have Y7:=Aj (bF.rd hown);have Hb3:=Aj hb3;have NU:=Aj (HCu.1.below hb3);have hc3:=NU.1.cell;have hf3:=NU.1.frozen k;rw[Y0.1]at hc3;have hz3:S≤w3.heap.size:=Lt HSi.1 hb3.size;have ho3:=NU.1.own;clear hown hb3);go_ret2;exact YY.bad YT.1 ((Xd.1.trans (Hb3.1.mono Y5.1)))
       ·have ahM:mc≤1200000000:=by omega
        have HEg:Kept (Cs.Ew (ln.drop (j+1)) (acc++ql) (D1.drop x)=R1):=⟨by
         have e3:=HE.1;rw[Ng sm,Ng (by rw[hdr];exact hbad)]at e3;exact e3⟩
        have Hql:=Aj hql;have hcs:(¬(j:Int)< (n':Int)-1)∨((j:Int)< (n':Int)-1∧(((ql.length:Nat):Int) !=120)=false):=by
         by_cases h1:j+1<n'
         ·refine .inr ⟨om,?_⟩;have:ql.length=120:=Cj fun h=>hbad ⟨h1,h⟩
          rw[this]
          rfl
         ·exact .inl om
        have akI:(ql.length:Int)≤120:=om;clear hgo hdr hmc Y6 hbad hql;rcases hcs with h1|⟨h1,h2⟩
        all_goals
         go_wp2_with first
          |(at_builtin;refine qC rfl (.tmp 62) (.tmp 63) rfl S AC mc cc acc rfl ho3 w3.heap.size A2 ql.length c2 ql rfl Y7.1 (by have:=Hmc.1;omega) hz3 ?_;intro A4 c4 w4 ax Y8 di;obtain⟨⟨v4,hv4⟩,hf4,RX⟩:=NU.1.grown Y8 ax;rw[Y0.1]at hv4 hf4 RX;have ab1:=Aj Y8;have Hlt:=Aj (ae ho3);have afC:=Aj RX;clear RX Y8 ax)
          |(go_at_call 125;refine(kZ A1 x c1 w.heap.size (D1.take x) _ HT.1 Y5.1 om HGi.1).mono ?_;rintro e w3 ⟨A2,n2,c2,rfl,hown,hb3⟩;rw[HQ.1]at hown⊢;obtain rfl:n2=ql.length:=bF.len hown;have Y7:=Aj (bF.rd hown);have Hb3:=Aj hb3;have NU:=Aj (HCu.1.below hb3);have hc3:=NU.1.cell;have hf3:=NU.1.frozen k;rw[Y0.1]at hc3;have hz3:S≤w3.heap.size:=Lt HSi.1 hb3.size;have ho3:=NU.1.own;clear hown hb3)
         have hb4:Below w.heap.size w w4:=(Xd.1.trans (Hb3.1.mono Y5.1)).grown ab1.1 (Lt Y5.1 Hb3.1.size) (fun p hp=>by have:=(Hlt.1 p hp).1;have:=HS.1;have:=Hb.1.size;omega);have hb5:=hb4.setCell (p:=⟨g,k,none⟩) (by show w.heap.size≤g;exact hwg) (.slice A4 (mc+ql.length) c4);have hz5:S≤(w4.setCell ⟨g,k,none⟩ (.slice A4 (mc+ql.length) c4)).heap.size:=by have:=ab1.1.size;simp[World.setCell];omega
         go_roundw
         case rel=>exact⟨j+1,_,n1-x,c1-x,D1.drop x,A4,mc+ql.length,c4,acc++ql,om,by go_num,rfl,HDr,HE3,HEg,⟨by have:=Hac.1;have:=Hql.1;rw[La];omega⟩,afC,⟨hb5⟩,⟨hz5⟩,om⟩
         case measure=>simp[intOf];try omega
      ·have YT:Kept (R=([],qe)):=⟨by
        have e3:=HE.1;rw[Ps0 hqe]at e3;have e4:=HE1.1;rw[←e3,Ps0 hqe]at e4;exact e4.symm⟩
       have hq:(qe !=0)=true:=by simp[hqe]
       clear hqe;go_wp2_with (go_at_call 125;refine(kZ A1 x c1 w.heap.size (D1.take x) _ HT.1 Y5.1 om HGi.1).mono ?_;rintro e w3 ⟨A2,n2,c2,rfl,hown,hb3⟩;rw[HQ.1]at hown⊢;obtain rfl:n2=ql.length:=bF.len hown;have Y7:=Aj (bF.rd hown);have Hb3:=Aj hb3;have NU:=Aj (HCu.1.below hb3);have hc3:=NU.1.cell;have hf3:=NU.1.frozen k;rw[Y0.1]at hc3;have hz3:S≤w3.heap.size:=Lt HSi.1 hb3.size;have ho3:=NU.1.own;clear hown hb3);go_ret2;exact YY.bad YT.1 ((Xd.1.trans (Hb3.1.mono Y5.1)))
     ·obtain rfl:j=n':=by omega
      clear hlt2 hj;have e1:=Hd1.1;have e2:=Hs1.1;rw[Hnl.1,List.drop_of_length_le Ai]at e1 e2;rw[Cs.Ew]at e1;rw[List.sum_nil,cB]at e2;have e3:=HE1.1;rw[←e1,Ng sm]at e3;have E3:=Aj e3;have E2:=Aj (abY.1.trans e2);clear e1 e2 e3 hcap;have hgi:=jB (show g<S by have:=HS.1;omega) HSi.1;go_wp2;go_roundw
      case rel=>exact⟨k+1,A1,n1,c1,D1,done++[acc],om,by go_num,rfl,HD1,⟨by rw[La,Y0.1];rfl⟩,E2,E3,⟨HCu.1.done⟩,Xd,hgi,afy⟩
      case measure=>simp[intOf];try omega
   ·obtain rfl:k=n:=by omega
    clear hlt hk;have e1:=HR.1;rw[HN.1,List.drop_of_length_le Ai,Cs.Gu]at e1;have E1:=Aj e1;clear e1;go_wp2;go_ret2;obtain rfl:=E1.1;exact⟨_,_,_,rfl,Hrw.1.rd Y0.1 (by unfold maxLen;omega),Hb.1,fun p hp=>by simp[ab]at hp;omega⟩
 ·have Hf2:Kept (Cs.fit (Cs.uZ LN).flatten dn=false):=⟨by rw[Hf.1];simp[hfit]⟩
  rw[Ps0 (by rw[←HDL.1];omega)]at hR;have HR:=Aj hR;clear hR Hf hfit;go_enter func74,ntmps74;go_wp2_with (go_at_call 124;refine(xA A n c w.heap.size (Cs.uZ LN) dn w HV.1 Ai HL.1 om).mono ?_;rintro e w1 ⟨rfl,hb1⟩;rw[Hf2.1]);go_ret2;exact YY.bad HR.1.symm hb1
section
open Go.Maps (Keyed)
open Go.WideMaps (keyOf_string_mk)
theorem l6 {H} {P} {e} (he:P.underlying e=some .bool) {v} {z:DataW H×List MemPlace} (h:plainElem P e v=some z):∃x,v= .bool x∧z=(.lit (.bool x),[]):=by
 unfold plainElem at h;rw[he]at h;split at h
 ·cases h;exact⟨_,rfl,rfl⟩
 ·rename_i h1;cases h1
 ·rename_i h1;cases h1
 ·cases h
theorem fq {H} {P} (w) {ops} {rest} {o} {a} {Q}
  (hg:o.guard=none) (m x) (t) (hop:o.op=Op.lookup t m x false)
  (k e) (K:Keyed P k) (ht:P.underlying t=some (.map k e)) (he:P.underlying e=some .bool) (hz:(zeroValue e).run P w= .ok (.bool false) w) (b n) (D:DataW H)
  (hm:a.eval m= .map (some b)) (hown:w.ownsMap P k (plainElem P e) b n D) (key) (kl) (hx:a.eval x=key) (hkey:keyOf P k key=some kl) (c) (hc:D.atKey kl (.lit (.bool false))= .lit (.bool c))
  (hK:wpList P ops Q rest (a.put o.dst (.bool c)) w):
  wpList P ops Q (o::rest) a w:=by
 refine wpList_plain hg fun K' hK'=>?_
 obtain⟨v,ps,hrun,hv⟩:=hown.lookup K ht hz (plainElem_bool he false) hkey;obtain⟨c',rfl,hv'⟩:=l6 he hv;have:c'=c:=by
  simp only[ay]at hv';rw[hc]at hv';have:=hv'.1
  injection this with this
  injection this with this
  exact this.symm
 subst this;unfold Oper.wp;simp[execOp,hop,hm,hx,hrun,Result.andThen];exact hK' _ _ hK
namespace Us
def ky (s:ByteArray):Lit:= .string s.data.toList
def D (ss:List ByteArray):DataW Unit:=ss.foldl (fun D s=>D.put (ky s) (.lit (.bool true))) (.map [])
theorem RZ (ss) (s):D (ss++[s])=(D ss).put (ky s) (.lit (.bool true)):=by unfold D;rw[List.foldl_append];rfl
theorem Y9 {a b} (h:ky a=ky b):a=b:=by
 unfold ky at h
 injection h with h
 exact ByteArray.ext (Array.toList_inj.1 h)
theorem ab2 (ss):Go.Maps.IsMap (D ss):=by
 unfold D;have key:∀(ss:List ByteArray) (d:DataW Unit),Go.Maps.IsMap d→Go.Maps.IsMap (ss.foldl (fun D s=>D.put (ky s) (.lit (.bool true))) d):=fun ss=>by
  induction ss with
  |nil=>intro d h;exact h
  |cons s ss ih=>intro d h;exact ih _ (h.put _ _)
 exact key ss _ ⟨[],rfl⟩
theorem afD (ss) (s):(D ss).atKey (ky s) (.lit (.bool false))= .lit (.bool (ss.any fun t=>decide (t=s))):=by
 have key:∀(n:Nat) (ss:List ByteArray),ss.length=n→(D ss).atKey (ky s) (.lit (.bool false))= .lit (.bool (ss.any fun t=>decide (t=s))):=fun n=>by
  induction n with
  |zero=>
   intro ss h;obtain rfl:=vg h
   rfl
  |succ n ih=>
   intro ss h;rcases List.eq_nil_or_concat ss with h0|⟨l,x,rfl⟩
   ·rw[h0]at h;cases h
   rw[Dk]at h⊢;rw[RZ];by_cases e:s=x
   ·subst e;rw[Go.Maps.atKey_put_same (ab2 l) (by trivial)];simp
   ·rw[Go.Maps.atKey_put_other (fun h=>e (Y9 h)),ih l (by simp at h;exact h)];rw[List.any_append];simp[show¬x=s from fun h=>e h.symm]
 exact key ss.length ss rfl
def pre (rs:List jK) (k:Nat):List ByteArray:=(rs.take k).flatMap fun r=>Lb.strs r.1
theorem gq (rs) (k) (h:k<rs.length):pre rs (k+1)=pre rs k++Lb.strs rs[k].1:=by
 unfold pre;rw[Ts h,oV];simp
theorem nI (rs) (k):(pre rs k).length≤(rs.flatMap fun r=>Lb.strs r.1).length:=by
 have h:(rs.flatMap fun r=>Lb.strs r.1)=pre rs k++((rs.drop k).flatMap fun r=>Lb.strs r.1):=by
  unfold pre;rw[←oV,jC]
 rw[h,La];omega
end Us
theorem Za:Keyed prog 9:=Go.Maps.string_keyed underlying9
theorem Gd (w):(zeroValue 4).run prog w= .ok (.bool false) w:=kr
def afE (w:World) (T:List ByteArray) (rs:List jK) (e:Ending) (w':World):Prop:=
 Below w.heap.size w w'∧((Bk.used T rs=true∧e= .returned (.int .i64 (-1)))∨(Bk.used T rs=false∧∃k:Nat,e= .returned (.int .i64 (k:Int))))
theorem uJ (TA A) (tn tc n c B) (T) (rs) (w) (hT:bM w B TA tn tc T) (hv:uX w B A n c rs) (hB:B≤w.heap.size) (hm:(rs.flatMap fun r=>Lb.strs r.1).length≤1000000) (hf:∀s∈rs.flatMap fun r=>Lb.strs r.1,s.size≤maxLen) (hfT:∀s∈T,s.size≤maxLen):
  Calls prog 71 #[.slice TA tn tc,.slice A n c] w (afE w T rs):=by
 obtain⟨hlc,hcm⟩:=hv.cap;unfold maxLen at hcm;have htc:=hT.1;have ZP:=hT.2.1;unfold maxLen at ZP;have V:=Aj hv;have VT:=Aj hT;have HN:=Aj hv.len;have HTN:=Aj hT.len;have HM:=Aj hm;have HF:=Aj hf;have HFT:=Aj hfT;clear hv hT hm hf hfT;have hmm:= @run_makeMap prog;go_enter func71,ntmps71;go_wp2;go_loopw [15] (fun i wr=>∃k:Nat,k≤n∧i= .int .i64 k∧wr.ownsMap prog 9 (plainElem prog 4) w.heap.size (Us.pre rs k).length (Us.D (Us.pre rs k))∧Below w.heap.size w wr) (fun i _=>n-(intOf i).toNat)
 case atStart=>exact⟨0,om,rfl,World.ownsMap_made _ _ _ _,(Ae _ _).alloc Ai _⟩
 case round=>
  obtain⟨k,hk,rfl,hm,hb⟩:=hrel;by_cases hlt:k<n
  ·have hkl:k<rs.length:=by rw[←HN.1];exact hlt
   obtain⟨b,off,A3,n3,c3,A4,n4,c4,rfl,hL,hC,hc⟩:=V.1.cells hB hkl;obtain⟨r0,r1⟩:=hc wr hb;have hps:=Aj (Us.gq rs k hkl);have hpl:=Us.nI rs (k+1);have hln:(Lb.strs rs[k].1).length≤1000000:=by have:=HM.1;rw[hps.1,La]at hpl;omega
   have hsl:=Lb.aQ rs[k].1;have h3l:=hL.len;have hc3:=hL.1;have IJ:=hL.2.1;unfold maxLen at IJ;have HL:=Aj hL;have BK:=Aj hb;have MP:=Aj hm;have HLN:=Aj hln;have mo:n3≤1000000:=om;have hsz:Kept (∀s∈Lb.strs rs[k].1,s.size≤maxLen):=⟨fun s hs=>HF.1 s (kM.2 ⟨rs[k],ic hkl,hs⟩)⟩
   have HPL:=Aj hpl;clear hL hC hc hb hm hpl hln hsl h3l;generalize rs[k].1=m at*;have W1:∀o,Below w.heap.size w (wr.alloc o):=fun o=>BK.1.alloc BK.1.size _
   go_upto_region 6 with(go_at_call 123;refine(jI A3 n3 c3 m _ ((HL.1.below ((W1 _).mono hB)).more (Lt hB (W1 _).size)) om).mono ?_;rintro e w3 ⟨A6,n6,c6,rfl,ho,hb⟩;have O3:=Aj ho;have B3:=Aj hb;clear ho hb)
   have oH:=BK.1.size;have M3:Kept (w3.ownsMap prog 9 (plainElem prog 4) w.heap.size (Us.pre rs k).length (Us.D (Us.pre rs k))):=⟨(MP.1.alloc _).kept (aD (row:=none) B3.1) sm⟩
   have BB:=Aj ((W1 _).trans (B3.1.mono (W1 _).size));have vE:=MP.1.lt;have H6:=Aj O3.1.len;have h62:n6≤1000000:=by have:=H6.1;have:=HLN.1;omega
   have hbase:w.heap.size< (wr.alloc (.cells #[.slice A3 n3 c3,.slice A4 n4 c4] 146)).heap.size:=by simp;omega
   generalize (wr.alloc (.cells #[.slice A3 n3 c3,.slice A4 n4 c4] 146)).heap.size=Z at*;clear r0 r1 B3 MP W1 oH vE;go_loopw [23] (fun i wi=>∃j:Nat,j≤n6∧i= .int .i64 j∧wi.ownsMap prog 9 (plainElem prog 4) w.heap.size ((Us.pre rs k).length+j) (Us.D (Us.pre rs k++(Lb.strs m).take j))∧Below w.heap.size w wi∧aS wi Z A6 n6 c6 (Lb.strs m)) (fun i _=>n6-(intOf i).toNat)
   case atStart=>exact⟨0,om,rfl,by rw[Dz,AZ];exact M3.1,BB.1,O3.1⟩
   case round=>
    clear M3 BB O3;obtain⟨j,hj,rfl,hm,hb,ho⟩:=hrel;have keep:∀W,wr.grownBy W (some w.heap.size)→Below w.heap.size w W∧aS W Z A6 n6 c6 (Lb.strs m):=fun W hg=>⟨hb.grown hg hb.size (fun g e=>by cases e;exact Nr _),af ho hg (by
     rcases hA:ab A6 with _|g'
     ·exact .inl rfl
     ·exact .inr fun e=>by have:=(ae ho g' hA).1;have:=Oj e;omega)⟩
    have KEEP:=Aj keep;by_cases hlt2:j<n6
    ·have hjl:j< (Lb.strs m).length:=by rw[←H6.1];exact hlt2
     obtain⟨b4,Ya,rfl,-,z0⟩:=ho.rd.at_ hjl;have MP:=Aj hm;have HT:=Aj (Ts hjl);have hk1:=keyOf_string_mk (k:=9) (P:=prog) underlying9 (hsz.1 _ (ic hjl));have HK1:=Aj hk1;have hcnt:(Us.pre rs k).length+j<1000000000:=by have h1:=Us.nI rs k;have h2:=HM.1;omega
     have HCN:=Aj hcnt;clear hb ho hm keep hk1 hcnt;generalize (Lb.strs m)[j]=s at*;go_wp2_with (at_mapUpdate;refine wpList_mapUpdate_own _ rfl _ _ _ 221 rfl 9 4 Za underlying221 _ w.heap.size ((Us.pre rs k).length+j) _ rfl MP.1 (by have:=HCN.1;unfold maxLen;omega) _ _ _ rfl rfl HK1.1 _ [] (plainElem_bool underlying4 true) ?_;intro w1 hown1 hgrow1;have K1:=Aj (KEEP.1 _ hgrow1);have M1:=Aj hown1;clear hown1 hgrow1);go_roundw
     case rel=>exact⟨j+1,om,by go_num,by rw[HT.1,←Af,Us.RZ];exact M1.1,K1.1.1,K1.1.2⟩
     case measure=>simp[intOf];omega
    ·obtain⟨MP⟩:Nonempty (PLift (wr.ownsMap prog 9 (plainElem prog 4) w.heap.size (Us.pre rs (k+1)).length (Us.D (Us.pre rs (k+1))))):=⟨⟨by
      have e:j=(Lb.strs m).length:=by have:=H6.1;omega
      rw[e,List.take_length,←La,←hps.1]at hm;exact hm⟩⟩
     have B2:=Aj hb;clear hb ho hm keep;go_wp2;go_roundw
     case rel=>exact⟨k+1,om,by go_num,MP.down,B2.1⟩
     case measure=>simp[intOf];omega
  ·have hpk:Us.pre rs k=rs.flatMap fun r=>Lb.strs r.1:=by unfold Us.pre;rw[jY (by have:=HN.1;omega)]
   rw[hpk]at hm;have HU:Kept (Bk.used T rs=T.all fun s=>(rs.flatMap fun r=>Lb.strs r.1).any fun t=>decide (t=s)):=⟨rfl⟩
   clear hpk;generalize (rs.flatMap fun r=>Lb.strs r.1)=ss at*;have MP:=Aj hm;have B2:=Aj hb;clear hb hm;go_upto_region 12 with fail;go_loopw [33] (fun i wi=>∃j:Nat,j≤tn∧i= .int .i64 j∧wi.ownsMap prog 9 (plainElem prog 4) w.heap.size ss.length (Us.D ss)∧Below w.heap.size w wi∧Kept (∀(q:Nat) (hq:q<T.length),q<j→(ss.any fun t=>decide (t=T[q]))=true)) (fun i _=>tn-(intOf i).toNat)
   case atStart=>exact⟨0,om,rfl,MP.1,B2.1,⟨fun q _ h=>om⟩⟩
   case round=>
    clear MP B2;obtain⟨j,hj,rfl,hm,hb,hd⟩:=hrel;by_cases hlt:j<tn
    ·have hjl:j<T.length:=by rw[←HTN.1];exact hlt
     obtain⟨b4,Ya,rfl,-,z0⟩:=(VT.1.below (hb.mono hB)).at_ hjl;have MP:=Aj hm;have B2:=Aj hb;have hk1:=keyOf_string_mk (k:=9) (P:=prog) underlying9 (HFT.1 _ (ic hjl));have HK1:=Aj hk1;have HAT:=Aj (Us.afD ss T[j]);obtain⟨fb,Pt⟩:∃fb,fb=ss.any fun t=>decide (t=T[j]):=⟨_,rfl⟩
     rw[←Pt]at HAT;have HFB:=Aj Pt;clear hb hm hk1 Pt;generalize hTj:T[j]=s at HAT HK1 z0;have HTJ:=Aj hTj;clear hTj;cases fb with
     |true=>
      go_wp2_with (at_lookup;refine fq _ rfl _ _ 221 rfl 9 4 Za underlying221 underlying4 (Gd _) w.heap.size ss.length _ rfl MP.1 _ _ rfl HK1.1 true HAT.1 ?_);go_roundw
      case rel=>
       refine⟨j+1,om,by go_num,MP.1,B2.1,⟨fun q hq hqj=>?_⟩⟩;by_cases e:q=j
       ·subst e;exact HFB.1.symm
       ·exact hd.1 q hq om
      case measure=>simp[intOf];omega
     |false=>
      go_wp2_with (at_lookup;refine fq _ rfl _ _ 221 rfl 9 4 Za underlying221 underlying4 (Gd _) w.heap.size ss.length _ rfl MP.1 _ _ rfl HK1.1 false HAT.1 ?_);go_ret;refine⟨B2.1,.inr ⟨?_,j,rfl⟩⟩;rw[HU.1,List.all_eq_false];exact⟨T[j],ic hjl,by rw[←HFB.1];simp⟩
    ·have B2:=Aj hb;have hall:Kept (Bk.used T rs=true):=⟨by
      rw[HU.1,Df];intro s hs;obtain⟨q,hq,rfl⟩:=lV.1 hs;exact hd.1 q hq (by have:=HTN.1;omega)⟩
     clear hb hm;go_wp2;go_ret;exact⟨B2.1,.inl ⟨hall.1,rfl⟩⟩
end
structure Sx (w W:World) (As:Nat→Option Addr) (ns cs:Nat→Nat) (v:Value):Prop where
 aU:Below w.heap.size w W
 Ji:w.heap.size+3≤W.heap.size
 sec:∀i,i<4→W.cell? ⟨w.heap.size,i,none⟩=some (.slice (As i) (ns i) (cs i))
 out:W.heap[w.heap.size+1]? =some (.cells #[v] 24 (0,0))
 err:W.heap[w.heap.size+2]? =some (.cells #[.int .i64 0] 25 (0,0))
section
variable {w W W':World} {As:Nat→Option Addr} {ns cs:Nat→Nat} {v:Value}
theorem Sx.on (h:Sx w W As ns cs v) (hb:Below W.heap.size W W'):Sx w W' As ns cs v:=by
 have hz:=h.Ji;exact⟨h.aU.trans (hb.mono om),by have:=hb.size;omega,fun i hi=>(hb.cell (p:=⟨w.heap.size,i,none⟩) (by show w.heap.size<_;omega)).trans (h.sec i hi),(hb.block _ om).trans h.out,(hb.block _ om).trans h.err⟩
theorem Sx.door (h:Sx w W As ns cs v) {f} {tmps} {R}
  (h2:tmps[2]?.getD undef= .pointer (some ⟨w.heap.size+1,0,none⟩)) (h3:tmps[3]?.getD undef= .pointer (some ⟨w.heap.size+2,0,none⟩))
  (hR:∀w',Below w.heap.size w w'→R (.returned (.tuple #[.slice none 0 0,.int .i64 f])) w'):
  bodyPostD prog Tryz.f35 R (Exit.panic [Fl f]) {tmps:=tmps,defers:=[{target:=Target.fn (Fn.func 65) #[.pointer (some ⟨w.heap.size+1,0,none⟩),.pointer (some ⟨w.heap.size+2,0,none⟩)],args:= #[]}]} W:=by
 refine leaves_cons (f:=65) (args:= #[.pointer (some ⟨w.heap.size+1,0,none⟩),.pointer (some ⟨w.heap.size+2,0,none⟩)]) sm (by simp[go_sem]) ?_;refine(NC f (w.heap.size+1) (w.heap.size+2) w.heap.size v (.int .i64 0) [] W om om om (Co _ _ 0 _ _ _ h.out) (Co _ _ 0 _ _ _ h.err) (Fr _ _ 0 _ _ h.out) (Fr _ _ 0 _ _ h.err)).mono ?_;rintro e u' w'' ⟨rfl,rfl,hb,hc1,hc2⟩;have:=hR w'' (h.aU.trans hb);simp[Leaves,settle,results,Tryz.results35,go_sem,h2,h3,hc1,hc2];exact this
end
namespace Rc
theorem R8 {α:Type} (f:α→List UInt8) (hf:∀x,0< (f x).length) (l:List α):l.length≤(l.flatMap f).length:=by
 induction l with
 |nil=>simp
 |cons x l ih=>rw[Aq,La,Lc];have:=hf x;omega
theorem zD (T) (r):1+r.1.length≤(iw T r).length∧(Lb.strs r.1).length≤(iw T r).length∧r.2.length≤(iw T r).length:=by
 have h1:=R8 (dE T) (fun s=>Vi.bO _) (Lb.strs r.1);have h2:=R8 WH (fun n=>Vi.bO _) r.2;have h3:(Lb.strs r.1).length=2*r.1.length:=Lb.aQ _;have h4:=Vi.bO r.1.length;have h5:=Vi.bO r.2.length;unfold iw;simp only[La];omega
theorem VF (T) (rs):Ps.wt (rs.map (·.1))≤(aH T rs).length∧(rs.flatMap fun r=>Lb.strs r.1).length≤(aH T rs).length∧Ls.tot (rs.map (·.2))≤(aH T rs).length∧rs.length≤(aH T rs).length:=by
 have key:Ps.wt (rs.map (·.1))≤(rs.flatMap (iw T)).length∧(rs.flatMap fun r=>Lb.strs r.1).length≤(rs.flatMap (iw T)).length∧Ls.tot (rs.map (·.2))≤(rs.flatMap (iw T)).length∧rs.length≤(rs.flatMap (iw T)).length:=by
  induction rs with
  |nil=>simp[Ps.wt,Ls.tot]
  |cons r rs ih=>
   obtain⟨i1,i2,i3,i4⟩:=ih;obtain⟨h1,h2,h3⟩:=zD T r;have t1:Ps.wt ((r::rs).map (·.1))=1+r.1.length+Ps.wt (rs.map (·.1)):=by simp[Ps.wt]
   have t2:Ls.tot ((r::rs).map (·.2))=r.2.length+Ls.tot (rs.map (·.2)):=by simp[Ls.tot]
   rw[t1,t2,Aq,Aq,La,La,Lc];omega
 unfold aH;rw[La];omega
end Rc
structure VH (T:List ByteArray) (rs:List jK):Prop where
 wt:Ps.wt (rs.map (·.1))≤1000000
 cnt:(rs.flatMap fun r=>Lb.strs r.1).length≤1000000
 tot:Ls.tot (rs.map (·.2))≤1000000
 len:rs.length≤1000000
 Ji:∀s∈rs.flatMap fun r=>Lb.strs r.1,s.size≤maxLen
 szT:∀s∈T,s.size≤maxLen
 fit:∀r∈rs,Lb.Fit r.1
 ofn:rs.map (·.2)=Cs.uZ (rs.map Bk.ln)
theorem ab4 {D0 D1} {T} {rs} (h0:D0.length≤1000000) (h1:D1.length≤1000000) (hT:Sy.dec D0=(T,0)) (hR:Rc.dec T D1=(rs,0)):VH T rs:=by
 have hmx:1000000≤Rc.mx:=by unfold Rc.mx;omega
 obtain⟨s1,s2,s3,s4⟩:=Sy.fH hT;obtain⟨r1,r2,r3,r4⟩:=Rc.fH s1 om hR;have hre:Rc.err T rs=0:=by
  unfold Rc.enc at r1;by_cases q:Rc.err T rs=0
  ·exact q
  ·rw[Ng q]at r1;exact absurd (congrArg Prod.snd r1) q
 obtain⟨yL,q1,q2⟩:=Rc.IK (fun r hr=>⟨by have:=(r4 r hr).1;omega,by have:=(r4 r hr).2;omega⟩) hre;obtain⟨g1,g2,g3,g4⟩:=Rc.VF T rs;rw[r2]at g1 g2 g3 g4;have rE:(65535:Nat)≤maxLen:=by unfold maxLen;omega
 have hmem:∀r∈rs,∀x∈r.1,x.n∈T∧x.v∈T:=by
  intro r hr x hx;rw[q1]at hr;obtain⟨p,hp,rfl⟩:=dM.1 hr;obtain⟨hn,hv⟩:=(q2 p hp).1.1.2 x hx;constructor
  ·cases hi:Sy.idx T x.n with
   |none=>rw[hi]at hn;cases hn
   |some k=>obtain⟨hk,e,_⟩:=Sy.ib hi;rw[←e];exact ic hk
  ·cases hi:Sy.idx T x.v with
   |none=>rw[hi]at hv;cases hv
   |some k=>obtain⟨hk,e,_⟩:=Sy.ib hi;rw[←e];exact ic hk
 have hfit:∀r∈rs,Lb.Fit r.1:=fun r hr x hx=>by
  obtain⟨a,b⟩:=hmem r hr x hx;exact⟨Lt (s4 _ a) rE,Lt (s4 _ b) rE⟩
 refine⟨om,om,om,om,fun s hs=>?_,fun s hs=>Lt (s4 s hs) rE,hfit,?_⟩
 ·obtain⟨r,hr,hs⟩:=kM.1 hs;unfold Lb.strs at hs;obtain⟨x,hx,hs⟩:=kM.1 hs;simp only[iM,List.not_mem_nil,or_false]at hs;rcases hs with rfl|rfl
  ·exact(hfit r hr x hx).1
  ·exact(hfit r hr x hx).2
 ·rw[q1];unfold Cs.uZ;rw[Bg,Bg,Bg];refine BZ fun p _=>?_
  show p.2.map Int.ofNat=(Bk.ln (Rc.bH p)).map Int.ofNat;rw[Bk.I9]
theorem Rd.Zc {w} {p} {v} {t} (h:w.heap[p]? =some (.cells #[v] t (0,0))):Rd w (p+1) 1 (some ⟨p,0,none⟩) 1 1 [v]:=
 ⟨Nr _,by unfold maxLen;omega,rfl,fun _=>⟨p,0,rfl,om,fun i u hu=>by
  match i,hu with
  |0,hu=>rw[Co _ _ _ _ _ _ h];simpa using hu⟩⟩
theorem xB {w} {ops} {o} {a} {K} {Q} {E} (hgd:o.guard=none) (s x) (t e)
  (ho:o.op= .call {callee:= .builtin .append,args:= #[s,x],argTypes:= #[t,t]}) (ht:prog.underlying t=some (.slice e))
  (hi:(prog.info? e).map (fun i=>(i.zero,i.size,i.bytes))=some (some (.slice none 0 0),1,24))
  (base) (A) (n c) (xs) (hs:a.eval s= .slice A n c) (hown:w.ownsRow base e 1 (.slice A n c) n xs)
  (v) (hxr:∃p,a.eval x= .slice (some ⟨p,0,none⟩) 1 1∧w.heap[p]? =some (.cells #[v] e (0,0))) (h1:v.oneCell'=true)
  (hlen:n≤10000000) (hbase:base≤w.heap.size)
  (h:∀A2 c2 w',w'.ownsRow base e 1 (.slice A2 (n+1) c2) (n+1) (xs++[v])→w.grownBy w' (ab A)→(ab A2=ab A∨ab A2=some w.heap.size)→K (a.put o.dst (.slice A2 (n+1) c2)) w'):
  if Region.wanted o (yielded ops a.tmps)=true then Oper.wp prog o a w K Q else E:=by
 have hw:Region.wanted o (yielded ops a.tmps)=true:=by simp[Region.wanted,hgd]
 rw[Ps0 hw];obtain⟨i0,hi0,hz0,hz1,hz2⟩:=AX hi;obtain⟨p,hx,hp⟩:=hxr;exact mh w s x t ho base e i0 (.slice none 0 0) 1 24 ht hi0 hz0 hz1 hz2 rfl Ah A n c xs hs hown (p+1) (some ⟨p,0,none⟩) 1 1 [v] hx (Rd.Zc hp) (by simpa using h1) (by unfold maxLen;omega) om hbase h
theorem Rd.but {w w'} {B sz n c g} {A} {xs} {v} {t} (h:Rd w B sz A n c xs) (hB:B≤w.heap.size) (hg:w.heap[g]? =some (.cells #[v] t (0,0)))
  (hv:∀u∈xs,u≠v) (hgr:w.grownBy w' (some g)):Rd w' B sz A n c xs:=by
 obtain⟨h1,h2,h3,h4⟩:=h;refine⟨h1,h2,h3,fun hn=>?_⟩;obtain⟨b,off,e,hb,hc⟩:=h4 hn;refine⟨b,off,e,hb,fun i u hu=>?_⟩;have hci:=hc i u hu;have hne:some b≠some g:=fun e=>by
  obtain rfl:=Oj e;rw[Co _ _ _ _ _ _ hg]at hci;obtain⟨hi,hx⟩:=Ge.1 hci;refine hv u (List.mem_of_getElem? hu) ?_;rw[←hx];simp at hi;simp[hi]
 exact(AL (a:=⟨b,off+i,none⟩) (hgr.block b om hne)).trans hci
structure Lp (S:Nat) (w:World) (LA:Option Addr) (lc:Nat) (SA:Option Addr) (sc k:Nat) (hs:List (Value×Value)):Prop where
 o1:w.ownsRow S 62 1 (.slice LA k lc) k ((hs.take k).map (·.2))
 o2:w.ownsRow S 54 1 (.slice SA k sc) k ((hs.take k).map (·.1))
theorem Lp.nil (S) (w) (hs):Lp S w none 0 none 0 0 hs:=⟨AY _ _ _ _,AY _ _ _ _⟩
section
variable {S:Nat} {w w4:World} {LA SA L4:Option Addr} {lc sc k l4:Nat} {hs:List (Value×Value)}
theorem Lp.alloc (h:Lp S w LA lc SA sc k hs) (o):Lp S (w.alloc o) LA lc SA sc k hs:=⟨Oa h.o1 o,Oa h.o2 o⟩
theorem Lp.drew (h:Lp S w LA lc SA sc k hs):Lp S w.drew LA lc SA sc k hs:=⟨h.o1,h.o2⟩
theorem Lp.Lr (h:Lp S w LA lc SA sc k hs) (hg:w.grownBy w4 (ab LA)):w4.ownsRow S 54 1 (.slice SA k sc) k ((hs.take k).map (·.1)):=
 af h.o2 hg (dU h.o2 h.o1 Ah)
theorem Lu {n m c d} {A B} {xs ys} (h1:w.ownsRow S 62 1 (.slice A n c) n xs) (h2:w.ownsRow S 54 1 (.slice B m d) m ys) (hg:w.grownBy w4 (ab B)):w4.ownsRow S 62 1 (.slice A n c) n xs:=
 af h1 hg (dU h1 h2 Ah)
theorem Lp.ints {w5} {rs:List jK} (h:Lp S w LA lc SA sc k hs) (hk:k=rs.length) (hl:hs.length=rs.length)
  (h3:∀(i) (h:i<hs.length) (h':i<rs.length),∃A1 n1 c1 A2 n2 c2,hs[i]=(.slice A1 n1 c1,.slice A2 n2 c2)∧fD w5 S A1 n1 c1 rs[i].1∧jv w5 S A2 n2 c2 rs[i].2)
  (hb:Below S w5 w) (hS:S≤w.heap.size):qp w w.heap.size LA k lc (rs.map (·.2))∧jR w w.heap.size SA k sc (rs.map (·.1)):=by
 have o1:=h.o1;have o2:=h.o2;rw[jY om]at o1 o2;refine⟨⟨_,Rd.bP o1,by simp[hl],fun i l hi=>?_⟩,⟨_,Rd.bP o2,by simp[hl],fun i l hi=>?_⟩⟩
 ·rw[Cb]at hi;obtain⟨r,hr,rfl⟩:=Cy.1 hi;obtain⟨hir,e⟩:=kH.1 hr;obtain⟨A1,n1,c1,A2,n2,c2,eh,_,q⟩:=h3 i om hir;rw[e]at q;exact⟨A2,n2,c2,by rw[Cb,l8 om,eh];rfl,(q.below hb).more hS⟩
 ·rw[Cb]at hi;obtain⟨r,hr,rfl⟩:=Cy.1 hi;obtain⟨hir,e⟩:=kH.1 hr;obtain⟨A1,n1,c1,A2,n2,c2,eh,q,_⟩:=h3 i om hir;rw[e]at q;exact⟨A1,n1,c1,by rw[Cb,l8 om,eh];rfl,(q.below hb).more hS⟩
end
end Go.Proofs.YtjcpmfphnodaaaaGreatDoor
