/- Part 31. -/
import Derived.Test.YtjcpmfphnodaaaaGreatDoorZYBD
import Derived.Test.YtjcpmfphnodaaaaGreatDoorZYAS
namespace Go.Proofs.YtjcpmfphnodaaaaGreatDoor
set_option maxRecDepth 100000
set_option maxHeartbeats 0
open _root_.Go.Proofs.Tryz
section
section
open Go.RowKit Go.Shelf
attribute [local go_sem] Oper.semAt_some
theorem Ot (Aa Ab na nb ca cb w):
  Calls prog 160 #[.slice Aa na ca,.slice Ab nb cb] w fun e w'=>e= .returned (.func (.func 206) #[] #[.pointer (some ⟨w.heap.size,0,none⟩),.pointer (some ⟨w.heap.size+1,0,none⟩)])∧
   w'=(w.alloc (.cells #[.slice Aa na ca] 62)).alloc (.cells #[.slice Ab nb cb] 62):=by
 go_enter func160,ntmps160;go_wp2;go_ret;exact⟨rfl,rfl⟩
def Ls.pk (ok:Bool→Bool→Bool) (l:List (Int×Bool×Bool)):List Int:=(l.filter fun p=>ok p.2.1 p.2.2).map (·.1)
theorem Ls.Z8 {ok l p} (h:ok p.2.1 p.2.2=true):Ls.pk ok (l++[p])=Ls.pk ok l++[p.1]:=by simp[Ls.pk,h]
theorem Ls.acX {ok l p} (h:ok p.2.1 p.2.2=false):Ls.pk ok (l++[p])=Ls.pk ok l:=by simp[Ls.pk,h]
theorem Ls.Tc (ok l):(Ls.pk ok l).length≤l.length:=by
 unfold Ls.pk;rw[fF];exact DK _ _
theorem Ls.lX:∀(n) (a b),a.length+b.length≤n→(Ls.iK a b).length≤a.length+b.length
 |n,[],[],_=>by simp[Ls.iK]
 |0,x::a,_,h=>by simp at h
 |0,[],y::b,h=>by simp at h
 |n+1,x::a,[],h=>by have:=Ls.lX n a [] (by simp at h⊢;omega);rw[Ls.iK];simp at this⊢;omega
 |n+1,[],y::b,h=>by have:=Ls.lX n [] b (by simp at h⊢;omega);rw[Ls.iK];simp at this⊢;omega
 |n+1,x::a,y::b,h=>by
  have h1:=Ls.lX n a (y::b) (by simp at h⊢;omega);have h2:=Ls.lX n (x::a) b (by simp at h⊢;omega);have h3:=Ls.lX n a b (by simp at h⊢;omega);rw[Ls.iK];split
  ·simp at h1⊢;omega
  ·split
   ·simp at h2⊢;omega
   ·simp at h3⊢;omega
def uT (w:World) (N aP:Nat) (ok:Bool→Bool→Bool) (pre:List (Int×Bool×Bool)) (W:World):Prop:=
 (∃A n c,Boxed W (w.heap.size+1) 62 (.slice A n c)∧ax W N A n c (Ls.pk ok pre))∧Boxed W w.heap.size 193 (.func (.func aP) #[] #[])∧Below w.heap.size w W
theorem uU {W W':World} {row base n c sz A xs e M} (h:W.ownsRow base e sz (.slice A n c) n xs) (hg:W.grownBy W' row)
  (hr:∀r,row=some r→r<base∨(M≤r∧∃o:Obj,W.heap[r]? =some o∧o.isCells=false)):W'.ownsRow base e sz (.slice A n c) n xs:=by
 refine⟨h.1,?_⟩;rcases h.2 with hn|⟨g,cap,cur,hv,h1,h2,rest⟩
 ·exact .inl hn
 ·refine .inr ⟨g,cap,cur,hv,h1,?_,rest⟩;rw[hg.block g (Ge.1 h2).1]
  ·exact h2
  ·intro e';rcases hr g e'.symm with h3|⟨_,o,ho,hoc⟩
   ·omega
   ·rw[h2]at ho;cases ho;cases hoc
theorem uT.own {w N aP ok O} (hO:∀r,O r→w.heap.size+1<r∧r<N) (hN:w.heap.size+2≤N):aH N O (uT w N aP ok):=by
 rintro s W W' row ⟨⟨A,n,c,hb,ho⟩,hb2,hbl⟩ hg hr;have hrow:∀r,row=some r→w.heap.size+1<r:=fun r e=>by
  rcases hr r e with h|⟨h,_⟩
  ·exact(hO r h).1
  ·omega
 refine⟨⟨A,n,c,hb.kept hg (fun e=>by have:=hrow _ e.symm;omega),uU (M:=N) ho hg fun r e=>?_⟩,hb2.kept hg (fun e=>by have:=hrow _ e.symm;omega),hbl.grown hg hbl.size (fun r e=>by have:=hrow r e;omega)⟩;rcases hr r e with h|h
 ·exact .inl (hO r h).2
 ·exact .inr h
theorem uV (aP:Nat) (ok Aa Ab na nb ca cb B a b w)
  (hent:∀args w,(callFunc aP args).run prog w= .ok (.enter aP args) w)
  (hok:∀f s w,Calls prog aP #[.agg #[.bool f,.bool s]] w fun e w'=>e= .returned (.bool (ok f s))∧Below w.heap.size w w')
  (h1:bM w B Aa na ca a) (h2:bM w B Ab nb cb b) (hB:B≤w.heap.size) (hl:na+nb≤2000000):
  Calls prog 100 #[.slice Aa na ca,.slice Ab nb cb,.func (.func aP) #[] #[]] w fun e w'=>∃A3 n3 c3,e= .returned (.slice A3 n3 c3)∧n3≤na+nb∧ax w' w.heap.size A3 n3 c3 (Ls.pick ok a b)∧Below w.heap.size w w':=by
 have hla:=h1.len;have hlb:=h2.len;have Hm:=Aj (Ls.lX _ a b Ai);have hpk:=Aj (show Ls.pick ok a b=Ls.pk ok (Ls.iK a b)from rfl);have Hok:=hide hok;have agu:=hide hent;have H1:=hide h1;have H2:=hide h2;replace hla:=Aj hla;replace hlb:=Aj hlb;clear hok hent h1 h2;refine(Bj (n:=9)).1 ?_;refine Cu func100 rfl trivial ?_ rfl;simp only[ntmps100,Cf,Lc,AZ,Nat.reduceAdd,Nat.reduceSub,Ch,Ci,CW,Cv,Az,Ba];refine Bu.2 ?_;go_wp2_with (go_at_call 160;refine(Ot _ _ _ _ _ _ _).mono ?_;rintro e w2 ⟨rfl,rfl⟩);have bF:=Bb w 193 (.func (.func aP) #[] #[]);have bO:=Bb (w.alloc (.cells #[.func (.func aP) #[] #[]] 193)) 62 (.slice none 0 0);have bA:=Bb ((w.alloc (.cells #[.func (.func aP) #[] #[]] 193)).alloc (.cells #[.slice none 0 0] 62)) 62 (.slice Aa na ca);have bB:=Bb (((w.alloc (.cells #[.func (.func aP) #[] #[]] 193)).alloc (.cells #[.slice none 0 0] 62)).alloc (.cells #[.slice Aa na ca] 62)) 62 (.slice Ab nb cb);replace bF:=((bF.alloc (.cells #[.slice none 0 0] 62)).alloc (.cells #[.slice Aa na ca] 62)).alloc (.cells #[.slice Ab nb cb] 62);replace bO:=(bO.alloc (.cells #[.slice Aa na ca] 62)).alloc (.cells #[.slice Ab nb cb] 62);replace bA:=bA.alloc (.cells #[.slice Ab nb cb] 62);have hB0:Below w.heap.size w ((((w.alloc (.cells #[.func (.func aP) #[] #[]] 193)).alloc (.cells #[.slice none 0 0] 62)).alloc (.cells #[.slice Aa na ca] 62)).alloc (.cells #[.slice Ab nb cb] 62)):=
  ((((Ae _ w).alloc Ai _).alloc sm _).alloc (by simp;omega) _).alloc (by simp;omega) _
 have hsz:((((w.alloc (.cells #[.func (.func aP) #[] #[]] 193)).alloc (.cells #[.slice none 0 0] 62)).alloc (.cells #[.slice Aa na ca] 62)).alloc (.cells #[.slice Ab nb cb] 62)).heap.size=w.heap.size+4:=sm;simp only[AU]at bF bO bA bB;generalize (((w.alloc (.cells #[.func (.func aP) #[] #[]] 193)).alloc (.cells #[.slice none 0 0] 62)).alloc (.cells #[.slice Aa na ca] 62)).alloc (.cells #[.slice Ab nb cb] 62)=w4 at*;have hx:uR w4 B (w.heap.size+1+1) (w.heap.size+1+1+1) Aa Ab na nb ca cb a b:=⟨bA.cell,bB.cell,bA.frozen,bB.frozen,H1.out.below (hB0.mono hB),H2.out.below (hB0.mono hB)⟩
 refine(Bu (n:=9)).1 ?_;refine ny Ah (gf:=206) (lb:= #[.pointer (some ⟨w.heap.size+1+1,0,none⟩),.pointer (some ⟨w.heap.size+1+1+1,0,none⟩)]) rfl (enters_of func206 kr rfl)
  (zF 8 (w.heap.size+1+1) (w.heap.size+1+1+1) B (w.heap.size+4) Aa Ab na nb ca cb a b w4 hx om om om om om hl om)
  (by rintro r (rfl|rfl)<;>omega) (fun h k=>h.trans k) (fun W W' row hW hg hr=>wI.grown hW om om om hg hr) (fun _=>rfl)
  (uT w (w.heap.size+4) aP ok) (fun _ _ _=>False)
  (fun pre x a₁ W=>uT w (w.heap.size+4) aP ok pre W∧∃g,W.heap[g]? =some (.cells #[.bool x.2.1,.bool x.2.2] 192 (0,0))∧w.heap.size+4≤g∧
   a₁={tmps:= #[.slice Aa na ca,.slice Ab nb cb,.func (.func aP) #[] #[],undef,undef,.pointer (some ⟨w.heap.size,0,none⟩),.slice none 0 0,.pointer (some ⟨w.heap.size+1,0,none⟩),.int .i64 x.1,.pointer (some ⟨g,0,none⟩),.slice Aa na ca,.slice Ab nb cb,
    .func (.func 206) #[] #[.pointer (some ⟨w.heap.size+1+1,0,none⟩),.pointer (some ⟨w.heap.size+1+1+1,0,none⟩)],.int .i64 x.1,.agg #[.bool x.2.1,.bool x.2.2],undef,undef,undef,undef,undef,undef,undef,undef],defers:=[]})
  ?hI (fun _ _ _ _ _ h _ _=>h) ?hM ?h0 ?assign ?body ?done ?stop
 case hI=>rw[hsz];exact uT.own (by rintro r (rfl|rfl)<;>omega) om
 case hM=>
  rw[hsz];rintro pre x a₁ u W W' row ⟨hI,g,hg,hgN,ha⟩ hgr hr;refine⟨uT.own (O:=fun r=>r=w.heap.size+1+1∨r=w.heap.size+1+1+1) (by rintro r (rfl|rfl)<;>omega) om _ _ _ _ hI hgr hr,g,(hgr.block g (Ge.1 hg).1 fun e=>?_).trans hg,hgN,ha⟩;rcases hr g e.symm with h|⟨_,o,ho,hoc⟩
  ·rcases h with h|h<;>omega
  ·rw[hg]at ho;cases ho;cases hoc
 case h0=>exact⟨⟨none,0,0,bO,AV _ _ _ _⟩,bF,hB0⟩
 case assign=>
  rintro l pre ⟨x,f,s⟩ W hI hpre hW;unfold Z5
  gi_wp2
  have hga:W.grownBy (W.alloc (.cells #[.bool f,.bool s] 192)) none:=Ga W _ none;exact⟨KeepsFrom.of_grownBy hga (fun _ e=>by cases e),wI.grown hW om om om hga (fun _ e=>by cases e),
   uT.own (O:=fun r=>r=w.heap.size+1+1∨r=w.heap.size+1+1+1) (by rintro r (rfl|rfl)<;>omega) om _ _ _ _ hI hga (fun _ e=>by cases e),W.heap.size,Av W _,om,rfl⟩
 case body=>
  rintro l pre ⟨x,f,s⟩ a₁ W ⟨⟨⟨A,n,c,hb,ho⟩,hb2,hbl⟩,g,hg,hgN,rfl⟩ hpre hW;have hl1:n≤2000000:=by
   have h1:=ho.len;have h2:=Ls.Tc ok pre;have h3:=hpre.length_le;have h4:=Hm.out;have h5:=hla.out;have h6:=hlb.out;simp at h3;omega
  have hcF:=hb2.cell;have hg0:W.cell? ⟨g,0,none⟩=some (.bool f):=Co _ _ _ _ _ _ hg;have hg1:W.cell? ⟨g,1,none⟩=some (.bool s):=Co _ _ _ _ _ _ hg;have hent:=agu.out;have Yn:=Aj (Bj (n:=6).2 (Hok.out f s W));have Yw:=hb.lt;cases hres:ok f s with
  |false=>
   have hno:=Aj (Ls.acX (l:=pre) (p:=(x,f,s)) hres)
   gi_wp2
   refine⟨trivial,(CallsIn.inRound l Yn.out).mono ?_⟩;rintro e W1 ⟨rfl,hk⟩;rw[hres]
   gi_wp2
   have hsz1:=hk.size;have hgk:KeepsFrom w4.heap.size W W1:=⟨hk.size,fun k o _ h _=>(hk.block k (Ge.1 h).1).trans h⟩
   exact⟨hgk,⟨hk.mono om,hk.block _ om,hk.block _ om⟩,⟨A,n,c,(hk.block _ Yw).trans hb,by rw[hno.out];exact own_below ho hk (fun g hg=>(ae ho g hg).2)⟩,(hk.block _ om).trans hb2,hbl.trans (hk.mono om)⟩
  |true=>
   have agw:=Aj (Ls.Z8 (l:=pre) (p:=(x,f,s)) hres)
   gi_wp2
   refine⟨trivial,(CallsIn.inRound l Yn.out).mono ?_⟩;rintro e W1 ⟨rfl,hk⟩;rw[hres];have hsz1:=hk.size;have hgk:KeepsFrom w4.heap.size W W1:=⟨hk.size,fun k o _ h _=>(hk.block k (Ge.1 h).1).trans h⟩
   have hbO:Boxed W1 (w.heap.size+1) 62 (.slice A n c):=(hk.block _ Yw).trans hb;have hbF:Boxed W1 w.heap.size 193 (.func (.func aP) #[] #[]):=(hk.block _ om).trans hb2;have hoO:ax W1 (w.heap.size+4) A n c (Ls.pk ok pre):=own_below ho hk (fun g hg=>(ae ho g hg).2);have hcO:=hbO.cell;obtain⟨i0,hi0,hz0,hz1,hz2⟩:=AX EJ
   gi_wp2_with (gi_at_builtin;refine dE _ rfl (.tmp 18) (.tmp 20) _ rfl (w.heap.size+4) 3 i0 (.int .i64 0) 1 8 underlying62 hi0 hz0 hz1 hz2 rfl Ah A n c _ rfl (Oa hoO _) (W1.heap.size+1) _ _ _ (yc [x]) rfl (bM.one W1 x) (Kz _) (by unfold maxLen;omega) om (by simp;omega) ?_;intro A4 c4 w5 av af cu;have ko:Boxed w5 (w.heap.size+1) 62 (.slice A n c):=(hbO.alloc _).kept af (fun e=>by have:=ae hoO _ e.symm;omega);have Pq:=ko.cell;have Pt:=ko.frozen)
   have acY:=ae hoO;have hgs:w5.grownBy (w5.setCell ⟨w.heap.size+1,0,none⟩ (.slice A4 (n+1) c4)) (some (w.heap.size+1)):=DC _ _ _;have hcl:∀j o,ab A=some j→(W1.alloc (.cells #[.int .i64 x] 3)).heap[j]? =some o→o.isCells=true:=by
    intro j o ej hj;rcases(Oa hoO (.cells #[.int .i64 x] 3)).2 with⟨hv,_⟩|⟨g',cap,cur,hv,_,hgb,_⟩
    ·injection hv with hv1;rw[hv1]at ej;cases ej
    ·injection hv with hv1
     rw[hv1]at ej;obtain rfl:g'=j:=by simpa[ab]using ej
     rw[hgb]at hj;cases hj;rfl
   have hk5:KeepsFrom w4.heap.size W (w5.setCell ⟨w.heap.size+1,0,none⟩ (.slice A4 (n+1) c4)):=
    hgk.trans ((((DY W1 _).trans (CR af hcl)).trans (Ct _ _ _)).from _)
   have hb5:Below w.heap.size W1 (w5.setCell ⟨w.heap.size+1,0,none⟩ (.slice A4 (n+1) c4)):=
    (((Ae _ W1).alloc om _).grown af (by simp;omega) (fun g e=>by have:=acY g e;omega)).setCell (p:=⟨w.heap.size+1,0,none⟩) sm _
   have hs5:∀k,k<w.heap.size+4→k≠w.heap.size+1→(w5.setCell ⟨w.heap.size+1,0,none⟩ (.slice A4 (n+1) c4)).heap[k]? =W.heap[k]?:=fun k hk1 hk2=>
    (AL w5 _ _ k hk2).trans ((af.block k (by simp;omega) (fun e=>by have:=acY _ e.symm;omega)).trans ((Aw _ _ _ om).trans (hk.block k om)))
   refine⟨hk5,⟨(hk.mono om).trans (hb5.mono hB),hs5 _ om om,hs5 _ om om⟩,⟨A4,n+1,c4,ko.set _,?_⟩,(hs5 _ om om).trans hb2,hbl.trans ((hk.mono om).trans hb5)⟩;rw[agw.out];refine uU (M:=0) ?_ hgs (fun r e=>by cases e;exact .inl om);rw[sJ];exact av
 case done=>
  rintro D W hD ⟨⟨A,n,c,hb,ho⟩,hb2,hbl⟩ hK;have hc:=hb.cell;have hn2:n≤na+nb:=by
   have hn:=ho.len;have h2:=Ls.Tc ok (Ls.iK a b);have h4:=Hm.out;have h5:=hla.out;have h6:=hlb.out;omega
  have Hn2:=Aj hn2;go_wp2;refine⟨sm,.inl ⟨_,_,rfl,CU hK,?_⟩⟩;have hgo:W.grownBy (W.putObj D (.deferred none)) (some D):=Bd W D _;refine⟨_,results_tmp rfl _ _ _,A,n,c,rfl,Hn2.out,?_,hbl.grown hgo hbl.size (fun g e=>by cases e;omega)⟩;rw[hpk.out];exact oh (uU (M:=0) ho hgo (fun r e=>by cases e;exact .inr ⟨bE _,_,hK,rfl⟩)) om
 case stop=>
  rintro D c pre W _ _ h _;exact h.elim
end
end
section
section
open Go.RowKit Go.Shelf
theorem WT (f s w):Calls prog 103 #[.agg #[.bool f,.bool s]] w fun e w'=>e= .returned (.bool ((fun f s=>f&&s) f s))∧Below w.heap.size w w':=by
 have hb:Below w.heap.size w (w.alloc (.cells #[.bool f,.bool s] 192)):=(Ae _ w).alloc Ai _;cases f<;>
 ·go_enter func103,ntmps103;go_wp2;go_ret;exact⟨rfl,hb⟩
theorem WU (f s w):Calls prog 158 #[.agg #[.bool f,.bool s]] w fun e w'=>e= .returned (.bool ((fun _ _=>true) f s))∧Below w.heap.size w w':=by
 have hb:Below w.heap.size w (w.alloc (.cells #[.bool f,.bool s] 192)):=(Ae _ w).alloc Ai _;go_enter func158,ntmps158;go_wp2;go_ret;exact⟨rfl,hb⟩
theorem WV (f s w):Calls prog 101 #[.agg #[.bool f,.bool s]] w fun e w'=>e= .returned (.bool ((fun _ s=>!s) f s))∧Below w.heap.size w w':=by
 have hb:Below w.heap.size w (w.alloc (.cells #[.bool f,.bool s] 192)):=(Ae _ w).alloc Ai _;go_enter func101,ntmps101;go_wp2;go_ret;exact⟨rfl,hb⟩
theorem lu (A1 A2 n1 n2 c1 c2 l1 l2 w B) (h1:bM w B A1 n1 c1 l1) (h2:bM w B A2 n2 c2 l2) (hB:B≤w.heap.size) (hl:n1+n2≤2000000):
  Calls prog 51 #[.slice A1 n1 c1,.slice A2 n2 c2] w fun e w'=>∃A3 n3 c3,e= .returned (.slice A3 n3 c3)∧n3≤n1+n2∧ax w' w.heap.size A3 n3 c3 (Ls.pick (fun _ s=>!s) l1 l2)∧Below w.heap.size w w':=by
 have H1:=hide h1;have H2:=hide h2;clear h1 h2;go_enter func51,ntmps51;go_wp2_with (go_at_call 100;refine(uV 101 (fun _ s=>!s) _ _ _ _ _ _ B l1 l2 w (enters_of func101 kr rfl) WV H1.out H2.out hB hl).mono ?_;rintro e w2 ⟨A3,n3,c3,rfl,hn,ho,hb⟩);go_ret;exact⟨A3,n3,c3,rfl,hn,ho,hb⟩
theorem Ls.Ou {LL:List (List Int)} {k} (h:k<LL.length):Ls.l8 [] (LL.take (k+1))=Ls.pick (fun _ _=>true) (Ls.l8 [] (LL.take k)) LL[k]:=by
 unfold Ls.l8;rw[Ts h,List.foldl_append]
 rfl
theorem Ls.Ov {l} {LL:List (List Int)} {k} (h:k<LL.length):Ls.vU l (LL.take (k+1))=Ls.pick (fun f s=>f&&s) (Ls.vU l (LL.take k)) LL[k]:=by
 unfold Ls.vU;rw[Ts h,List.foldl_append]
 rfl
theorem xD (A n c B LL w) (hv:iO w B A n c LL) (hB:B≤w.heap.size) (hl:Ls.tot LL≤1000000):
  Calls prog 98 #[.slice A n c] w fun e w'=>∃A3 n3 c3,e= .returned (.slice A3 n3 c3)∧n3≤Ls.tot LL∧ax w' w.heap.size A3 n3 c3 (Ls.l8 [] LL)∧Below w.heap.size w w':=by
 have hlc:=hv.cap.1;have hcm:=hv.cap.2;unfold maxLen at hcm;have hn:=Aj hv.len;have Hv:=hide hv;have Hl:=Aj hl;clear hv hl;go_enter func98,ntmps98;go_wp2;go_loopw [3,8] (fun o i wr=>∃k:Nat,k≤n∧i= .int .i64 k∧∃A3 n3 c3,o= .slice A3 n3 c3∧Kept (n3≤Ls.tot (LL.take k))∧ax wr w.heap.size A3 n3 c3 (Ls.l8 [] (LL.take k))∧Below w.heap.size w wr) (fun _ i _=>n-(intOf i).toNat)
 case atStart=>exact⟨0,om,rfl,none,0,0,rfl,⟨sm⟩,ax.nil _ _,Ae _ _⟩
 case round=>
  obtain⟨k,hk,rfl,A3,n3,c3,rfl,nz,ho,hb⟩:=hrel;by_cases hlt:k<n
  ·have hkl:k<LL.length:=by rw[←hn.out];exact hlt
   have ht1:=Aj (Ls.il hkl);have ht2:=Aj (Ls.gH LL (k+1));have hu:=Aj (Ls.Ou hkl);obtain⟨b,off,A',n',c',rfl,hbb,hcell,hr⟩:=Hv.out.at_ hkl;have hn':=Aj hr.len;have Hr:=Aj (hr.below (hb.mono hB));have hz:=hb.size;clear hr;generalize LL[k]=l at*;generalize Ls.l8 [] (LL.take k)=acc at*;have hlive:=(hb.mono hB).cell (p:=⟨b,off+k,none⟩) hbb;rw[hcell]at hlive;have hsum:Kept (n3+n'≤2000000):=⟨by have h1:=nz.out;have h2:=ht1.out;have h3:=ht2.out;have h4:=Hl.out;have h5:=hn'.out;omega⟩
   clear hcell;go_wp2_with (go_at_call 100;refine(uV 158 (fun _ _=>true) _ _ _ _ _ _ wr.heap.size acc l wr (enters_of func158 kr rfl) WU ho.rd (Hr.out.more om) Ai hsum.out).mono ?_;rintro e w2 ⟨A4,n4,c4,rfl,hn4,EE,hb4⟩);have hb5:=hb.trans (hb4.mono hz);go_roundw
   case rel=>exact⟨k+1,om,by go_num,A4,n4,c4,rfl,⟨by rw[ht1.out];have h1:=nz.out;have h2:=hn'.out;omega⟩,by rw[hu.out];exact oh EE hz,hb5⟩
   case measure=>simp[intOf];omega
  ·obtain rfl:k=n:=by omega
   have hall:Kept (LL.take k=LL):=⟨iL (by rw[←hn.out];omega)⟩
   rw[hall.out]at ho nz;go_wp2;go_ret;exact⟨A3,n3,c3,rfl,nz.out,ho,hb⟩
def Ls.Td:List (List Int)→List Int
 |[]=>[]
 |l::r=>Ls.vU l r
theorem Ls.GJ (l r):Ls.tot (l::r)=l.length+Ls.tot r:=by simp[Ls.tot]
theorem wJ (A n c B LL w) (hv:iO w B A n c LL) (hB:B≤w.heap.size) (hl:Ls.tot LL≤1000000):
  Calls prog 52 #[.slice A n c] w fun e w'=>∃A3 n3 c3,e= .returned (.slice A3 n3 c3)∧n3≤Ls.tot LL∧ax w' w.heap.size A3 n3 c3 (Ls.Td LL)∧Below w.heap.size w w':=by
 have hlc:=hv.cap.1;have hcm:=hv.cap.2;unfold maxLen at hcm;have hn:=Aj hv.len;have Hv:=hide hv;have Hl:=Aj hl;clear hv hl;cases LL with
 |nil=>
  obtain rfl:n=0:=hn.out;go_enter func52,ntmps52;go_wp2;go_ret;exact⟨none,0,0,rfl,bE _,ax.nil _ _,Ae _ _⟩
 |cons l0 r=>
  have hn1:0<n:=by have:=hn.out;simp at this;omega
  have hnr:Kept (n-1=r.length):=⟨by have:=hn.out;simp at this;omega⟩
  have ht:((n:Int)==0)=false:=by simp;omega
  have htot:=Aj (Ls.GJ l0 r);obtain⟨b,off,A',n',c',rfl,hbb,hcell,hr⟩:=Hv.out.at_ (k:=0) sm;simp only[BH]at hr;have hn':=Aj hr.len;have Hr:=hide hr;clear hr;simp only[Cr]at hcell;have hnt:n'≤1000000:=by have h1:=Hl.out;have h2:=hn'.out;have h3:=htot.out;omega
  have Hd:=Aj (Hv.out.drop (k:=1) om);by_cases hc1:c=1
  ·obtain rfl:n=1:=by omega
   subst hc1;obtain rfl:r=[]:=oG hnr.out.symm;go_enter func52,ntmps52;go_wp2_with (go_at_call 102;refine(uQ _ _ _ B l0 w Hr.out hB hnt).mono ?_;rintro e w2 ⟨A3,c3,rfl,ho,hb⟩);go_loopw [3,16] (fun o i wr=>o= .slice A3 n' c3∧i= .int .i64 0∧wr=w2) (fun _ _ _=>0)
   case atStart=>exact⟨rfl,rfl,rfl⟩
   case round=>
    obtain⟨rfl,rfl,rfl⟩:=hrel;go_wp2;go_ret;exact⟨A3,n',c3,rfl,by have h2:=hn'.out;have h3:=htot.out;omega,ho,hb⟩
  ·rw[Ng hc1]at Hd;simp only[BZ,add_plain,AY,Bq]at Hd;go_enter func52,ntmps52;go_wp2_with (go_at_call 102;refine(uQ _ _ _ B l0 w Hr.out hB hnt).mono ?_;rintro e w2 ⟨A3,c3,rfl,ho,hb⟩);go_loopw [3,16] (fun o i wr=>∃k:Nat,k≤n-1∧i= .int .i64 k∧∃A3 n3 c3,o= .slice A3 n3 c3∧Kept (n3≤l0.length+Ls.tot (r.take k))∧ax wr w.heap.size A3 n3 c3 (Ls.vU l0 (r.take k))∧Below w.heap.size w wr) (fun _ i _=>n-1-(intOf i).toNat)
   case atStart=>exact⟨0,om,rfl,A3,n',c3,rfl,⟨by have:=hn'.out;omega⟩,ho,hb⟩
   case round=>
    clear ho hb;obtain⟨k,hk,rfl,A3,n3,c3,rfl,nz,ho,hb⟩:=hrel;by_cases hlt:k<n-1
    ·have hkl:k<r.length:=by rw[←hnr.out];exact hlt
     have ht1:=Aj (Ls.il hkl);have ht2:=Aj (Ls.gH r (k+1));have hu:=Aj (Ls.Ov (l:=l0) hkl);obtain⟨b',off',A5,n5,c5,e5,alB,Te,Kv⟩:=Hd.out.at_ hkl;simp only[gK,Ce,BI]at e5;obtain⟨rfl,rfl⟩:=e5;have Ku:=Aj Kv.len;have Hr5:=Aj (Kv.below (hb.mono hB));have hz:=hb.size;clear Kv;generalize r[k]=l at*;generalize Ls.vU l0 (r.take k)=acc at*;have hlive:=(hb.mono hB).cell (p:=⟨b,off+1+k,none⟩) hbb;rw[Te]at hlive;have hsum:Kept (n3+n5≤2000000):=⟨by have h1:=nz.out;have h2:=ht1.out;have h3:=ht2.out;have h4:=Hl.out;have h5:=Ku.out;have h6:=htot.out;omega⟩
     clear Te;go_wp2_with (go_at_call 100;refine(uV 103 (fun f s=>f&&s) _ _ _ _ _ _ wr.heap.size acc l wr (enters_of func103 kr rfl) WT ho.rd (Hr5.out.more om) Ai hsum.out).mono ?_;rintro e w2 ⟨A4,n4,c4,rfl,hn4,EE,hb4⟩);have hb5:=hb.trans (hb4.mono hz);go_roundw
     case rel=>exact⟨k+1,om,by go_num,A4,n4,c4,rfl,⟨by rw[ht1.out];have h1:=nz.out;have h2:=Ku.out;omega⟩,by rw[hu.out];exact oh EE hz,hb5⟩
     case measure=>simp[intOf];omega
    ·have hall:Kept (r.take k=r):=⟨iL (by rw[←hnr.out];omega)⟩
     rw[hall.out]at ho nz;go_wp2;go_ret;exact⟨A3,n3,c3,rfl,by have h1:=nz.out;have h3:=htot.out;omega,ho,hb⟩
theorem Ls.Ow (n):Ls.upto (n+1)=Ls.upto n++[(n:Int)]:=by simp[Ls.upto,List.range_succ]
theorem lC (A m c B l n w) (h1:bM w B A m c l) (hB:B≤w.heap.size) (hl:m≤1000000) (hn:n≤1000000) (hn0: -9223372036854775808≤n):
  Calls prog 48 #[.slice A m c,.int .i64 n] w fun e w'=>∃A3 n3 c3,e= .returned (.slice A3 n3 c3)∧n3≤n.toNat+m∧ax w' w.heap.size A3 n3 c3 (Ls.pick (fun _ s=>!s) (Ls.upto n.toNat) l)∧Below w.heap.size w w':=by
 have H1:=hide h1;clear h1;obtain⟨i0,hi0,hz0,hz1,hz2⟩:=AX EJ;go_enter func48,ntmps48;go_wp2_with (at_make;refine wpList_make_own _ rfl _ _ 62 rfl w.heap.size 3 i0 (.int .i64 0) 1 underlying62 hi0 hz0 hz1 .i64 .i64 _ n.toNat rfl rfl om (by rw[hz2];omega) (by unfold maxLen;omega) Ai ?_;intro w0 hown0 Tf)
 all_goals
  (try clear h)
  have hb0:Below w.heap.size w w0:=(Ae _ w).grown Tf Ai (fun _ e=>by cases e);go_loopw [5,11] (fun o i wr=>∃k:Nat,k≤n.toNat∧i= .int .i64 k∧∃A3 c3,o= .slice A3 k c3∧ax wr w.heap.size A3 k c3 (Ls.upto k)∧Below w.heap.size w wr) (fun _ i _=>n.toNat-(intOf i).toNat)
  case atStart=>exact⟨0,om,rfl,_,_,rfl,hown0,hb0⟩
  case round=>
   clear hown0 Tf hb0;obtain⟨k,hk,rfl,A3,c3,rfl,ho,hb⟩:=hrel;have hz:=hb.size;by_cases hlt:(k:Int)<n
   ·go_wp2_with (at_builtin;refine bN rfl (.tmp 14) (.tmp 16) rfl w.heap.size A3 k c3 _ rfl (Oa ho _) (wr.heap.size+1) _ _ _ [(k:Int)] rfl (bM.one wr k) om (by simp;omega) ?_;intro A4 c4 w4 av af cu);have hb4:Below w.heap.size w w4:=(hb.alloc hz _).grown af (by simp;omega) (fun g hg=>(ae ho g hg).1);go_roundw
    case rel=>exact⟨k+1,om,by go_num,A4,c4,rfl,by rw[Ls.Ow];exact av,hb4⟩
    case measure=>simp[intOf];omega
   ·have hkn:=Aj (show k=n.toNat from om);have Hr:=Aj (H1.out.below (hb.mono hB));go_wp2_with (go_at_call 51;refine(lu _ _ _ _ _ _ (Ls.upto k) l wr wr.heap.size ho.rd (Hr.out.more om) Ai om).mono ?_;rintro e w2 ⟨A4,n4,c4,rfl,hn4,EE,hb4⟩);have hb5:=hb.trans (hb4.mono hz);go_ret;exact⟨A4,n4,c4,rfl,by rw[←hkn.out];exact hn4,by rw[←hkn.out];exact oh EE hz,hb5⟩
end
end
section
section
open Go.RowKit Go.Shelf
theorem eqL (x y:aO) (w):Sem.run prog (binOp .eql 59 (.agg #[.string x.n,.string x.v]) (.agg #[.string y.n,.string y.v])) w= .ok (.bool (decide (x=y))) w:=by
 have u3:=underlying9;have a3:=Tryz.isAgg9;have z3:=Tryz.sizeOf9;have hS:prog.underlying 59=some (.struct (prog.fieldsOf 59)):=kr;have hp:prog.stoodInHeld 59=false:=kr;rw[run_eql_struct,show(10000:Nat)=9999+1 from rfl,run_equalIn_agg w 9999 59 _ _ hS hp];simp only[Program.fieldsOf,underlying59];go_simp;by_cases h1:x.n=y.n
 ·by_cases h2:x.v=y.v
  ·rw[Ps0 (by rw[h1]),Ps0 (by rw[h2]),Bi (Lb.ext h1 h2)]
  ·rw[Ps0 (by rw[h1]),Ng (fun e=>h2 (St.yh e)),AF (fun e=>h2 (by rw[e]))]
 ·rw[Ng (fun e=>h1 (St.yh e)),AF (fun e=>h1 (by rw[e]))]
theorem Ox (x y:aO) (A1 n1 c1 bx w) (h0:w.cell? ⟨bx,0,none⟩=some (.string x.n)) (h1:w.cell? ⟨bx,1,none⟩=some (.string x.v)) (hb:bx<w.heap.size):
  Calls prog 157 #[.agg #[.string y.n,.string y.v,.slice A1 n1 c1],.pointer (some ⟨bx,0,none⟩)] w fun r w'=>r= .returned (.bool (decide (y=x)))∧Gr w w':=by
 have EQ:=fun W=>eqL y x W
 have k0:(w.alloc (Obj.cells #[.string y.n,.string y.v,.slice A1 n1 c1] 163)).cell? ⟨bx,0,none⟩=some (.string x.n):=(AB w _ ⟨bx,0,none⟩ hb).trans h0;have k1:(w.alloc (Obj.cells #[.string y.n,.string y.v,.slice A1 n1 c1] 163)).cell? ⟨bx,1,none⟩=some (.string x.v):=(AB w _ ⟨bx,1,none⟩ hb).trans h1;clear h0 h1;go_enter func157,ntmps157;go_wp2;go_ret;exact⟨rfl,(Gr.refl w).alloc _⟩
theorem JQ (x) (y:aO) (A1 n1 c1 bx w) (h0:w.cell? ⟨bx,0,none⟩=some (.string x)) (hb:bx<w.heap.size):
  Calls prog 159 #[.agg #[.string y.n,.string y.v,.slice A1 n1 c1],.pointer (some ⟨bx,0,none⟩)] w fun r w'=>r= .returned (.bool (decide (y.n=x)))∧Gr w w':=by
 have hq:(y.n.toList==x.toList)=decide (y.n=x):=by
  rw[St.eq_iff]
 have k0:(w.alloc (Obj.cells #[.string y.n,.string y.v,.slice A1 n1 c1] 163)).cell? ⟨bx,0,none⟩=some (.string x):=(AB w _ ⟨bx,0,none⟩ hb).trans h0;clear h0;go_enter func159,ntmps159;go_wp2;go_ret;exact⟨by rw[←hq];rfl,(Gr.refl w).alloc _⟩
theorem GK (A n c bx l x w) (hv:cB w w.heap.size A n c l) (hn1:n≤1000000) (h0:w.cell? ⟨bx,0,none⟩=some (.string x.n)) (h1:w.cell? ⟨bx,1,none⟩=some (.string x.v)) (hbx:bx<w.heap.size):
  Calls prog 156 #[.slice A n c,.func (.func 157) #[] #[.pointer (some ⟨bx,0,none⟩)]] w fun r w'=>∃A2 n2 c2,r= .returned (.slice A2 n2 c2)∧aN 163 w' w.heap.size A2 n2 c2 (l.filter fun e=>e.1=x)∧Below w.heap.size w w':=by
 have hcc:=hv.cap;have hlc:=hcc.1;have hcm:=hcc.2;unfold maxLen at hcm;have V:=Aj hv;have HN:=Aj hv.len;have HX:Kept (∀W,Below w.heap.size w W→W.cell? ⟨bx,0,none⟩=some (.string x.n)∧W.cell? ⟨bx,1,none⟩=some (.string x.v)):=⟨fun W hW=>⟨(hW.cell (p:=⟨bx,0,none⟩) hbx).trans h0,(hW.cell (p:=⟨bx,1,none⟩) hbx).trans h1⟩⟩
 clear h0 h1;clear hv hcc;go_enter func156,ntmps156;go_wp2;go_loopw [5,10] (fun o i wr=>∃k:Nat,k≤n∧i= .int .i64 k∧∃(A2:Option Addr) (n2 c2:Nat),o= .slice A2 n2 c2∧aN 163 wr w.heap.size A2 n2 c2 ((l.take k).filter fun e=>e.1=x)∧n2≤k∧Below w.heap.size w wr) (fun _ i _=>n-(intOf i).toNat)
 case atStart=>exact⟨0,om,rfl,none,0,0,rfl,by simpa using aN.nil w w.heap.size,om,Ae _ _⟩
 case round=>
  obtain⟨k,hk,rfl,A2,n2,c2,rfl,ho,hn2,hb⟩:=hrel;have HB:=Aj hb;have kM:=hb.size;have O:=Aj ho;clear ho hb;by_cases hlt:k<n
  ·have hkl:k<l.length:=by rw[←HN.out];exact hlt
   obtain⟨b,off,A1,n1,c1,rfl,jT,hS,hc⟩:=V.out.cells Ai hkl;have ht:=Aj (Ts hkl);have HC:=Aj hc;have SS:=Aj hS;clear hc hS;generalize l[k]=e at*;obtain⟨y,s⟩:=e;simp only[]at HC SS;obtain⟨c0,c1',c2'⟩:=HC.out wr HB.out;have Oq:Below w.heap.size w (wr.alloc (Obj.cells #[.string y.n,.string y.v,.slice A1 n1 c1] 163)):=HB.out.alloc kM _;have O1:=Aj (O.out.keep ((Ae _ _).alloc Ai (Obj.cells #[.string y.n,.string y.v,.slice A1 n1 c1] 163)));have X1:=Aj (Av wr (Obj.cells #[.string y.n,.string y.v,.slice A1 n1 c1] 163));have CL:=Aj (Ox x y A1 n1 c1 bx _ (HX.out _ Oq).1 (HX.out _ Oq).2 (by simp;omega));have BA:=Aj Oq;have hlw:wr.heap.size< (wr.alloc (Obj.cells #[.string y.n,.string y.v,.slice A1 n1 c1] 163)).heap.size:=sm;clear Oq;by_cases hq:y=x
   ·rw[Bi hq]at CL;have ht2:Kept ((l.take (k+1)).filter (fun e=>e.1=x)=(l.take k).filter (fun e=>e.1=x)++[(y,s)]):=⟨by rw[ht.out,List.filter_append];simp[hq]⟩
    clear hq;go_wp2_with (first
     |(at_builtin;refine jV (y:=y) (s:=s) rfl (.tmp 17) (.tmp 19) rfl w.heap.size A2 n2 c2 _ rfl O2.out _ rfl rfl S2.out om om ?_;intro A4 c4 w4 EE hb4;have O4:=Aj EE;have B4:=Aj hb4;clear EE hb4)
     |(go_at_call 157;refine CL.out.mono ?_;rintro r w2 ⟨rfl,hg⟩;have hbl:=hg.below;have hbz:=hbl.size;have B2:=Aj (BA.out.trans (hbl.mono BA.out.size));have O2:=Aj (O1.out.keep hbl);have S2:=Aj (gZ SS.out B2.out);have X2:=(hbl.block wr.heap.size hlw).trans X1.out;have z0:=Co _ _ 0 _ _ _ X2;have z1:=Co _ _ 1 _ _ _ X2;have z2:=Co _ _ 2 _ _ _ X2;clear hg hbl CL X2))
    go_roundw
    case rel=>exact⟨k+1,om,by go_num,A4,n2+1,c4,rfl,by rw[ht2.out];exact O4.out,om,B2.out.trans B4.out⟩
    case measure=>simp[intOf];omega
   ·rw[AF hq]at CL;have ht2:Kept ((l.take (k+1)).filter (fun e=>e.1=x)=(l.take k).filter (fun e=>e.1=x)):=⟨by rw[ht.out,List.filter_append];simp[hq]⟩
    clear hq;go_wp2_with (go_at_call 157;refine CL.out.mono ?_;rintro r w2 ⟨rfl,hg⟩;have hbl:=hg.below;have B2:=Aj (BA.out.trans (hbl.mono BA.out.size));have O2:=Aj (O1.out.keep hbl);clear hg hbl CL);go_roundw
    case rel=>exact⟨k+1,om,by go_num,A2,n2,c2,rfl,by rw[ht2.out];exact O2.out,om,B2.out⟩
    case measure=>simp[intOf];omega
  ·obtain rfl:k=n:=by omega
   have ht:l.take k=l:=iL (by have:=HN.out;omega);go_wp2;go_ret;exact⟨A2,n2,c2,rfl,by rw[←ht];exact O.out,HB.out⟩
theorem GL (A n c bx l x w) (hv:cB w w.heap.size A n c l) (hn1:n≤1000000) (h0:w.cell? ⟨bx,0,none⟩=some (.string x)) (hbx:bx<w.heap.size):
  Calls prog 156 #[.slice A n c,.func (.func 159) #[] #[.pointer (some ⟨bx,0,none⟩)]] w fun r w'=>∃A2 n2 c2,r= .returned (.slice A2 n2 c2)∧aN 163 w' w.heap.size A2 n2 c2 (l.filter fun e=>e.1.n=x)∧Below w.heap.size w w':=by
 have hcc:=hv.cap;have hlc:=hcc.1;have hcm:=hcc.2;unfold maxLen at hcm;have V:=Aj hv;have HN:=Aj hv.len;have HX:Kept (∀W,Below w.heap.size w W→W.cell? ⟨bx,0,none⟩=some (.string x)):=⟨fun W hW=>(hW.cell (p:=⟨bx,0,none⟩) hbx).trans h0⟩
 clear h0;clear hv hcc;go_enter func156,ntmps156;go_wp2;go_loopw [5,10] (fun o i wr=>∃k:Nat,k≤n∧i= .int .i64 k∧∃(A2:Option Addr) (n2 c2:Nat),o= .slice A2 n2 c2∧aN 163 wr w.heap.size A2 n2 c2 ((l.take k).filter fun e=>e.1.n=x)∧n2≤k∧Below w.heap.size w wr) (fun _ i _=>n-(intOf i).toNat)
 case atStart=>exact⟨0,om,rfl,none,0,0,rfl,by simpa using aN.nil w w.heap.size,om,Ae _ _⟩
 case round=>
  obtain⟨k,hk,rfl,A2,n2,c2,rfl,ho,hn2,hb⟩:=hrel;have HB:=Aj hb;have kM:=hb.size;have O:=Aj ho;clear ho hb;by_cases hlt:k<n
  ·have hkl:k<l.length:=by rw[←HN.out];exact hlt
   obtain⟨b,off,A1,n1,c1,rfl,jT,hS,hc⟩:=V.out.cells Ai hkl;have ht:=Aj (Ts hkl);have HC:=Aj hc;have SS:=Aj hS;clear hc hS;generalize l[k]=e at*;obtain⟨y,s⟩:=e;simp only[]at HC SS;obtain⟨c0,c1',c2'⟩:=HC.out wr HB.out;have Oq:Below w.heap.size w (wr.alloc (Obj.cells #[.string y.n,.string y.v,.slice A1 n1 c1] 163)):=HB.out.alloc kM _;have O1:=Aj (O.out.keep ((Ae _ _).alloc Ai (Obj.cells #[.string y.n,.string y.v,.slice A1 n1 c1] 163)));have X1:=Aj (Av wr (Obj.cells #[.string y.n,.string y.v,.slice A1 n1 c1] 163));have CL:=Aj (JQ x y A1 n1 c1 bx _ (HX.out _ Oq) (by simp;omega));have BA:=Aj Oq;have hlw:wr.heap.size< (wr.alloc (Obj.cells #[.string y.n,.string y.v,.slice A1 n1 c1] 163)).heap.size:=sm;clear Oq;by_cases hq:y.n=x
   ·rw[Bi hq]at CL;have ht2:Kept ((l.take (k+1)).filter (fun e=>e.1.n=x)=(l.take k).filter (fun e=>e.1.n=x)++[(y,s)]):=⟨by rw[ht.out,List.filter_append];simp[hq]⟩
    clear hq;go_wp2_with (first
     |(at_builtin;refine jV (y:=y) (s:=s) rfl (.tmp 17) (.tmp 19) rfl w.heap.size A2 n2 c2 _ rfl O2.out _ rfl rfl S2.out om om ?_;intro A4 c4 w4 EE hb4;have O4:=Aj EE;have B4:=Aj hb4;clear EE hb4)
     |(go_at_call 159;refine CL.out.mono ?_;rintro r w2 ⟨rfl,hg⟩;have hbl:=hg.below;have hbz:=hbl.size;have B2:=Aj (BA.out.trans (hbl.mono BA.out.size));have O2:=Aj (O1.out.keep hbl);have S2:=Aj (gZ SS.out B2.out);have X2:=(hbl.block wr.heap.size hlw).trans X1.out;have z0:=Co _ _ 0 _ _ _ X2;have z1:=Co _ _ 1 _ _ _ X2;have z2:=Co _ _ 2 _ _ _ X2;clear hg hbl CL X2))
    go_roundw
    case rel=>exact⟨k+1,om,by go_num,A4,n2+1,c4,rfl,by rw[ht2.out];exact O4.out,om,B2.out.trans B4.out⟩
    case measure=>simp[intOf];omega
   ·rw[AF hq]at CL;have ht2:Kept ((l.take (k+1)).filter (fun e=>e.1.n=x)=(l.take k).filter (fun e=>e.1.n=x)):=⟨by rw[ht.out,List.filter_append];simp[hq]⟩
    clear hq;go_wp2_with (go_at_call 159;refine CL.out.mono ?_;rintro r w2 ⟨rfl,hg⟩;have hbl:=hg.below;have B2:=Aj (BA.out.trans (hbl.mono BA.out.size));have O2:=Aj (O1.out.keep hbl);clear hg hbl CL);go_roundw
    case rel=>exact⟨k+1,om,by go_num,A2,n2,c2,rfl,by rw[ht2.out];exact O2.out,om,B2.out⟩
    case measure=>simp[intOf];omega
  ·obtain rfl:k=n:=by omega
   have ht:l.take k=l:=iL (by have:=HN.out;omega);go_wp2;go_ret;exact⟨A2,n2,c2,rfl,by rw[←ht];exact O.out,HB.out⟩
theorem Tg:(prog.info? 62).map (fun i=>(i.zero,i.size,i.bytes))=some (some (.slice none 0 0),1,24):=kr
theorem Rd.hdI (w:World) (A n c):Rd (w.alloc (.cells #[.slice A n c] 62)) (w.heap.size+1) 1 (some ⟨w.heap.size,0,none⟩) 1 1 [.slice A n c]:=
 ⟨Nr _,by unfold maxLen;omega,rfl,fun _=>⟨_,0,rfl,om,fun i u hu=>by
  rw[bZ];exact(Ao w _ _ _ i).trans (by simpa using hu)⟩⟩
theorem Ti {w B n c k A es hs} (_:hs.length=es.length) (h2:Rd w B 3 A n c (gG es hs)) (hB:B≤w.heap.size) (hk:k<es.length) (hkh:k<hs.length) (hkn:k<n):
  ∃b off,A=some ⟨b,off,none⟩∧∀W,Below w.heap.size w W→W.cell? ⟨b,off+k*3,none⟩=some (.string es[k].1.n)∧W.cell? ⟨b,off+k*3+1,none⟩=some (.string es[k].1.v)∧W.cell? ⟨b,off+k*3+2,none⟩=some hs[k]:=by
 obtain⟨b,off,rfl,hb,hc⟩:=h2.2.2.2 om;have g0:=fP es hs k 0 hk hkh om;have g1:=fP es hs k 1 hk hkh om;have g2:=fP es hs k 2 hk hkh om;refine⟨b,off,rfl,fun W hW=>⟨?_,?_,?_⟩⟩
 ·exact(hW.cell (p:=⟨b,_,none⟩) (by show b<_;omega)).trans (hc (k*3) _ (by simpa[j6]using g0))
 ·exact(hW.cell (p:=⟨b,_,none⟩) (by show b<_;omega)).trans (by rw[fE];exact hc (k*3+1) _ (by simpa[j6]using g1))
 ·exact(hW.cell (p:=⟨b,_,none⟩) (by show b<_;omega)).trans (by rw[fE];exact hc (k*3+2) _ (by simpa[j6]using g2))
theorem qP (A n c l w) (hv:cB w w.heap.size A n c l) (hn1:n≤1000000) (htot:Ls.tot (l.map (·.2))≤1000000):
  Calls prog 155 #[.slice A n c] w fun r w'=>∃A2 n2 c2,r= .returned (.slice A2 n2 c2)∧ax w' w.heap.size A2 n2 c2 (Ls.l8 [] (l.map (·.2)))∧Below w.heap.size w w':=by
 have hcc:=hv.cap;have hlc:=hcc.1;have hcm:=hcc.2;unfold maxLen at hcm;have V:=Aj hv;have HN:=Aj hv.len;have HT:=Aj htot;obtain⟨hs,hh1,hh2,hh3⟩:=hv;have H1:=Aj hh1;have H2:=Aj hh2;have H3:=Aj (show KT w hs l from hh3);obtain⟨i0,hi0,hz0,hz1,hz2⟩:=AX Tg;have HI:=Aj (And.intro hi0 (And.intro hz0 (And.intro hz1 hz2)));clear hcc hh1 hh2 hh3 htot hi0 hz0 hz1 hz2;go_enter func155,ntmps155;go_wp2;go_loopw [3,8] (fun o i wr=>∃k:Nat,k≤n∧i= .int .i64 k∧∃(A2:Option Addr) (c2:Nat),o= .slice A2 k c2∧wr.ownsRow w.heap.size 62 1 (.slice A2 k c2) k (hs.take k)∧Below w.heap.size w wr) (fun _ i _=>n-(intOf i).toNat)
 case atStart=>exact⟨0,om,rfl,none,0,rfl,by simpa using AV _ _ _ _,Ae _ _⟩
 case round=>
  obtain⟨k,hk,rfl,A2,c2,rfl,ho,hb⟩:=hrel;have HB:=Aj hb;have kM:=hb.size;have O:=Aj ho;clear ho hb;by_cases hlt:k<n
  ·have hkl:k<l.length:=by rw[←HN.out];exact hlt
   have hkh:k<hs.length:=by rw[H1.out];exact hkl
   obtain⟨b,off,rfl,hc⟩:=Ti H1.out H2.out Ai hkl hkh hlt;obtain⟨A1,n1,c1,e,_⟩:=H3.out k hkh hkl;have ht:=Aj (Ts hkh);obtain⟨c0,c1',c2'⟩:=hc wr HB.out;rw[e]at c2' ht;clear hc e;generalize l[k]=x at*;have OA:=Aj (Oa O.out (Obj.cells #[.string x.1.n,.string x.1.v,.slice A1 n1 c1] 163));have OB:=Aj (Oa OA.out (Obj.cells #[.slice A1 n1 c1] 62));have RH:=Aj (Rd.hdI (wr.alloc (Obj.cells #[.string x.1.n,.string x.1.v,.slice A1 n1 c1] 163)) A1 n1 c1);obtain⟨hi0,hz0,hz1,hz2⟩:=HI.out;rw[AU]at RH;go_wp2_with (at_builtin;refine aY _ rfl (.tmp 12) (.tmp 15) _ rfl w.heap.size 62 i0 (.slice none 0 0) 1 24 underlying144 hi0 hz0 hz1 hz2 rfl Ah A2 k c2 _ rfl OB.out _ _ _ _ [.slice A1 n1 c1] rfl RH.out (by intro u hu;simp at hu;subst hu;rfl) (by unfold maxLen;omega) om (by simp;omega) ?_;intro A5 c5 w5 hown5 jd Ju;have O5:=Aj hown5;have G5:=Aj jd;clear hown5 jd Ju hi0 hz0 hz1 hz2);go_roundw
   case rel=>exact⟨k+1,om,by go_num,A5,c5,rfl,by rw[ht.out];exact O5.out,((HB.out.alloc kM _).alloc (by simp;omega) _).grown G5.out (by simp;omega) (fun g hg=>(ae O.out g hg).1)⟩
   case measure=>simp[intOf];omega
  ·obtain rfl:k=n:=by omega
   have ht:hs.take k=hs:=iL (by have:=HN.out;have:=H1.out;omega);rw[ht]at O;have UN:=Aj (xD A2 k c2 wr.heap.size (l.map (·.2)) wr ⟨hs,Rd.bC O.out,by rw[fF];exact H1.out,fun i m hm=>by
    have him:i<l.length:=by
     rcases DT i (l.map (·.2)).length with h|h
     ·simpa using h
     ·rw[BM h]at hm;cases hm
    have hih:i<hs.length:=by rw[H1.out];exact him
    obtain⟨A3,n3,c3,e,o⟩:=H3.out i hih him;refine⟨A3,n3,c3,by rw[kK hih,e],?_⟩;have:l[i].2=m:=by
     rw[BQ,kK him]at hm;exact Oj hm
    rw[←this];exact ax.rd (gZ o HB.out)⟩ Ai HT.out)
   clear ht;go_wp2_with (go_at_call 98;refine UN.out.mono ?_;rintro r w3 ⟨A3,n3,c3,rfl,-,ho3,hb3⟩;have O3:=Aj ho3;have B3:=Aj hb3;clear ho3 hb3);go_ret;exact⟨A3,n3,c3,rfl,aC O3.out kM,HB.out.trans (B3.out.mono kM)⟩
theorem JR (A n c l x w) (hv:cB w w.heap.size A n c l) (hn1:n≤1000000) (htot:Ls.tot ((l.filter fun e=>e.1=x).map (·.2))≤1000000):
  Calls prog 97 #[.slice A n c,XF x] w fun r w'=>∃A2 n2 c2,r= .returned (.slice A2 n2 c2)∧ax w' w.heap.size A2 n2 c2 (Ls.l8 [] ((l.filter fun e=>e.1=x).map (·.2)))∧Below w.heap.size w w':=by
 have hb0:Below w.heap.size w (w.alloc (Obj.cells #[.string x.n,.string x.v] 59)):=(Ae _ _).alloc Ai _;have FL:=Aj (GK A n c w.heap.size l x (w.alloc (Obj.cells #[.string x.n,.string x.v] 59)) (hv.on hb0) hn1 (Ao w _ _ _ 0) (Ao w _ _ _ 1) sm);have HB0:=Aj hb0;have hz0:w.heap.size≤(w.alloc (Obj.cells #[.string x.n,.string x.v] 59)).heap.size:=hb0.size;have HN:=Aj hv.len;have UN:Kept (∀W A2 n2 c2,aN 163 W (w.alloc (Obj.cells #[.string x.n,.string x.v] 59)).heap.size A2 n2 c2 (l.filter fun e=>e.1=x)→Calls prog 155 #[.slice A2 n2 c2] W fun r w'=>∃A2 n2 c2,r= .returned (.slice A2 n2 c2)∧ax w' W.heap.size A2 n2 c2 (Ls.l8 [] ((l.filter fun e=>e.1=x).map (·.2)))∧Below W.heap.size W w'):=⟨fun W A2 n2 c2 ho=>qP A2 n2 c2 _ W ho.rd (by
  have h1:=ho.len;have h2:=DK (fun e:dQ=>decide (e.1=x)) l;have:=HN.out;omega) htot⟩
 clear hb0 hv htot;unfold XF;go_enter func97,ntmps97;go_wp2_with (first
  |(go_at_call 155;refine(UN.out _ _ _ _ O2.out).mono ?_;rintro r w3 ⟨A3,n3,c3,rfl,ho3,hb3⟩;have O3:=Aj ho3;have B3:=Aj hb3;clear ho3 hb3)
  |(go_at_call 156;refine FL.out.mono ?_;rintro r w2 ⟨A2,n2,c2,rfl,ho2,hb2⟩;have O2:=Aj ho2;have B2:=Aj (HB0.out.trans (hb2.mono hz0));clear ho2 hb2 FL))
 go_ret;exact⟨A3,n3,c3,rfl,aC O3.out B2.out.size,B2.out.trans (B3.out.mono B2.out.size)⟩
theorem GM (A n c l x w) (hv:cB w w.heap.size A n c l) (hn1:n≤1000000) (htot:Ls.tot ((l.filter fun e=>e.1.n=x).map (·.2))≤1000000):
  Calls prog 99 #[.slice A n c,.string x] w fun r w'=>∃A2 n2 c2,r= .returned (.slice A2 n2 c2)∧ax w' w.heap.size A2 n2 c2 (Ls.l8 [] ((l.filter fun e=>e.1.n=x).map (·.2)))∧Below w.heap.size w w':=by
 have hb0:Below w.heap.size w (w.alloc (Obj.cells #[.string x] 9)):=(Ae _ _).alloc Ai _;have FL:=Aj (GL A n c w.heap.size l x (w.alloc (Obj.cells #[.string x] 9)) (hv.on hb0) hn1 (Ao w _ _ _ 0) sm);have HB0:=Aj hb0;have hz0:w.heap.size≤(w.alloc (Obj.cells #[.string x] 9)).heap.size:=hb0.size;have HN:=Aj hv.len;have UN:Kept (∀W A2 n2 c2,aN 163 W (w.alloc (Obj.cells #[.string x] 9)).heap.size A2 n2 c2 (l.filter fun e=>e.1.n=x)→Calls prog 155 #[.slice A2 n2 c2] W fun r w'=>∃A2 n2 c2,r= .returned (.slice A2 n2 c2)∧ax w' W.heap.size A2 n2 c2 (Ls.l8 [] ((l.filter fun e=>e.1.n=x).map (·.2)))∧Below W.heap.size W w'):=⟨fun W A2 n2 c2 ho=>qP A2 n2 c2 _ W ho.rd (by
  have h1:=ho.len;have h2:=DK (fun e:dQ=>decide (e.1.n=x)) l;have:=HN.out;omega) htot⟩
 clear hb0 hv htot;skip;go_enter func99,ntmps99;go_wp2_with (first
  |(go_at_call 155;refine(UN.out _ _ _ _ O2.out).mono ?_;rintro r w3 ⟨A3,n3,c3,rfl,ho3,hb3⟩;have O3:=Aj ho3;have B3:=Aj hb3;clear ho3 hb3)
  |(go_at_call 156;refine FL.out.mono ?_;rintro r w2 ⟨A2,n2,c2,rfl,ho2,hb2⟩;have O2:=Aj ho2;have B2:=Aj (HB0.out.trans (hb2.mono hz0));clear ho2 hb2 FL))
 go_ret;exact⟨A3,n3,c3,rfl,aC O3.out B2.out.size,B2.out.trans (B3.out.mono B2.out.size)⟩
end
end
section
open Go.RowKit Go.Shelf
theorem Gr.quiet {a b c} (h:Gr a b) (q:Quiet b c):Gr a c:=by
 obtain⟨n,rfl⟩:=q;exact h.drewN n
theorem Oy (y z:aO) (s1 s2 A1 A2 n1 c1 n2 c2 B1 B2 w) (h1:bM w B1 A1 n1 c1 s1) (h2:bM w B2 A2 n2 c2 s2) (hB1:B1≤w.heap.size) (hB2:B2≤w.heap.size):
  Calls prog 127 #[.agg #[.string y.n,.string y.v,.slice A1 n1 c1],.agg #[.string z.n,.string z.v,.slice A2 n2 c2]] w fun r w'=>r= .returned (.bool (decide ((y,s1)=(z,s2))))∧Gr w w':=by
 have EQ:=fun W=>eqL y z W
 have Hr:=Aj (show bM ((w.alloc (Obj.cells #[.string y.n,.string y.v,.slice A1 n1 c1] 163)).alloc (Obj.cells #[.string z.n,.string z.v,.slice A2 n2 c2] 163)) B1 A1 n1 c1 s1 from(h1.alloc hB1 _).alloc (by simp;omega) _);have Hs:=Aj (show bM ((w.alloc (Obj.cells #[.string y.n,.string y.v,.slice A1 n1 c1] 163)).alloc (Obj.cells #[.string z.n,.string z.v,.slice A2 n2 c2] 163)) B2 A2 n2 c2 s2 from(h2.alloc hB2 _).alloc (by simp;omega) _);clear h1 h2;by_cases hyz:y=z
 ·have hd:∀W,Sem.run prog (binOp .eql 59 (.agg #[.string y.n,.string y.v]) (.agg #[.string z.n,.string z.v])) W= .ok (.bool true) W:=fun W=>by rw[EQ W,Bi hyz]
  have Hd:Kept (decide ((y,s1)=(z,s2))=decide (s1=s2)):=⟨decide_eq_decide.2 (by rw[az];simp[hyz])⟩
  clear EQ hyz;go_enter func127,ntmps127;go_wp2_with (go_at_call 128;refine(JP A1 A2 n1 n2 c1 c2 s1 s2 _ B1 B2 Hr.1 Hs.1).mono ?_;rintro e w3 ⟨rfl,hq⟩;have Hq:=Aj hq;clear hq);go_ret;exact⟨by rw[Hd.1];rfl,(((Gr.refl w).alloc _).alloc _).quiet Hq.1⟩
 ·have hd:∀W,Sem.run prog (binOp .eql 59 (.agg #[.string y.n,.string y.v]) (.agg #[.string z.n,.string z.v])) W= .ok (.bool false) W:=fun W=>by rw[EQ W,AF hyz]
  have Hd:Kept (decide ((y,s1)=(z,s2))=false):=⟨AF (by rw[az];simp[hyz])⟩
  clear EQ hyz;go_enter func127,ntmps127;go_wp2;go_ret;exact⟨by rw[Hd.1];rfl,((Gr.refl w).alloc _).alloc _⟩
end
section
open Go.RowKit Go.Shelf
theorem WW (A1 A2 n1 c1 n2 c2 E1 E2 w) (h1:cB w w.heap.size A1 n1 c1 E1) (h2:cB w w.heap.size A2 n2 c2 E2):
  Calls prog 126 #[.slice A1 n1 c1,.slice A2 n2 c2,.func (.func 127) #[] #[]] w fun r w'=>r= .returned (.bool (decide (E1=E2)))∧Gr w w':=by
 have hc1:=h1.cap;have hc2:=h2.cap;unfold maxLen at hc1 hc2;have N1:=Aj h1.len;have N2:=Aj h2.len;have V1:=Aj h1;have V2:=Aj h2;clear h1 h2;by_cases hl:n1=n2
 ·subst hl;go_enter func126,ntmps126;go_wp2;go_loopw [17] (fun i wr=>∃k:Nat,k≤n1∧i= .int .i64 k∧Kept (E1.take k=E2.take k)∧Kept (Gr w wr)) (fun i _=>n1-(intOf i).toNat)
  case atStart=>exact⟨0,om,rfl,⟨rfl⟩,⟨Gr.refl w⟩⟩
  case round=>
   obtain⟨k,hk,rfl,He,G⟩:=hrel;by_cases hlt:k<n1
   ·have k1:k<E1.length:=by rw[←N1.1];exact hlt
    have k2:k<E2.length:=by rw[←N2.1];exact hlt
    obtain⟨b1,o1,P1,m1,d1,rfl,hb1,hS1,hC1⟩:=V1.1.cells Ai k1;obtain⟨b2,o2,P2,m2,d2,rfl,hb2,hS2,hC2⟩:=V2.1.cells Ai k2;have T1:=Ts k1;have T2:=Ts k2;have GN:Kept (E1[k]≠E2[k]→E1≠E2):=⟨fun h e=>h (by subst e;rfl)⟩
    generalize E1[k]=x1 at hS1 hC1 T1 GN;generalize E2[k]=x2 at hS2 hC2 T2 GN;have HT:Kept (x1=x2→E1.take (k+1)=E2.take (k+1)):=⟨fun h=>by rw[T1,T2,He.1,h]⟩
    obtain⟨y,s1⟩:=x1;obtain⟨z,s2⟩:=x2;simp only[]at hS1 hC1 hS2 hC2;obtain⟨ca,cb,cc⟩:=hC1 wr G.1.below;have G1:Kept (Gr w (wr.alloc (Obj.cells #[.string y.n,.string y.v,.slice P1 m1 d1] 163))):=⟨G.1.alloc _⟩
    obtain⟨da,db,dc⟩:=hC2 _ G1.1.below;have G2:Kept (Gr w ((wr.alloc (Obj.cells #[.string y.n,.string y.v,.slice P1 m1 d1] 163)).alloc (Obj.cells #[.string z.n,.string z.v,.slice P2 m2 d2] 163))):=⟨G1.1.alloc _⟩
    have CL:=Aj (Oy y z s1 s2 P1 P2 m1 d1 m2 d2 _ _ _ (gZ hS1 G2.1.below).rd (gZ hS2 G2.1.below).rd Ai Ai);clear T1 T2 hS1 hS2 hC1 hC2 He k1 k2;by_cases hq:(y,s1)=(z,s2)
    ·have ht:=HT.1 hq;have HE:=Aj ht;have CL2:=CL;rw[Bi hq]at CL2;clear ht CL hq HT GN;go_wp2_with (go_at_call 127;refine CL2.1.mono ?_;rintro e w3 ⟨rfl,hg⟩;have Hg:=Aj (G2.1.trans hg);clear hg);go_roundw
     case rel=>exact⟨k+1,om,by go_num,HE,Hg⟩
     case measure=>simp[intOf];try omega
    ·have HE:=Aj (GN.1 hq);have CL2:=CL;rw[AF hq]at CL2;clear CL hq HT GN;go_wp2_with (go_at_call 127;refine CL2.1.mono ?_;rintro e w3 ⟨rfl,hg⟩;have Hg:=Aj (G2.1.trans hg);clear hg);go_ret;exact⟨by rw[AF HE.1];rfl,Hg.1⟩
   ·obtain rfl:k=n1:=by omega
    have HE:Kept (E1=E2):=⟨by have:=He.1;rwa[iL (Nat.le_of_eq N1.1.symm),iL (Nat.le_of_eq N2.1.symm)]at this⟩
    clear hlt hk;go_wp2;go_ret;exact⟨by rw[Bi HE.1];rfl,G.1⟩
 ·have HE:Kept (E1≠E2):=⟨fun e=>hl (by rw[N1.1,N2.1,e])⟩
  have hne:((n1:Int) !=(n2:Int))=true:=by simp;omega
  clear hl;go_enter func126,ntmps126;go_wp2;go_ret;exact⟨by rw[AF HE.1];rfl,Gr.refl w⟩
theorem wK (A1 A2 n1 c1 n2 c2 E1 E2 w) (h1:cB w w.heap.size A1 n1 c1 E1) (h2:cB w w.heap.size A2 n2 c2 E2):
  Calls prog 75 #[.slice A1 n1 c1,.slice A2 n2 c2] w fun r w'=>r= .returned (.bool (decide (E1=E2)))∧Gr w w':=by
 have C:=Aj (WW A1 A2 n1 c1 n2 c2 E1 E2 w h1 h2);clear h1 h2;generalize decide (E1=E2)=b at*;go_enter func75,ntmps75;go_wp2_with (go_at_call 126;refine C.1.mono ?_;rintro e w3 ⟨rfl,hg⟩);go_ret;exact⟨rfl,hg⟩
end
section
open Go.RowKit Go.Shelf
def Fl (e:Int):PanicEntry:={v:= .iface 211 (.agg #[.int .i64 e]),recovered:=false}
theorem lY (w):Calls prog 72 #[.int .i64 0] w fun r w'=>r= .returned (.tuple #[])∧w'=w:=by
 go_enter func72,ntmps72;go_wp2;go_end0;exact⟨rfl,rfl⟩
theorem fV (e) (he:e≠0) (w):Calls prog 72 #[.int .i64 e] w fun r w'=>r= .panicked [Fl e]∧w'=w:=by
 have h:(e !=0)=true:=by simp[he]
 go_enter func72,ntmps72;go_wp2;exact⟨rfl,rfl,rfl⟩
theorem uW (v w):Calls prog 67 #[v,.int .i64 0] w fun r w'=>r= .returned v∧w'=w:=by
 go_enter func67,ntmps67;go_wp2_with (go_at_call 72;refine(lY _).mono ?_;rintro e w1 ⟨rfl,rfl⟩);go_ret;exact⟨rfl,rfl⟩
theorem JS (v e) (he:e≠0) (w):Calls prog 67 #[v,.int .i64 e] w fun r w'=>r= .panicked [Fl e]∧w'=w:=by
 have H:=Aj he;clear he;go_enter func67,ntmps67;go_wp2_with (go_at_call 72;refine(fV e H.1 _).mono ?_;rintro r w1 ⟨rfl,rfl⟩);exact⟨rfl,rfl,rfl⟩
theorem GQ (v w):Calls prog 69 #[v,.int .i64 0] w fun r w'=>r= .returned v∧w'=w:=by
 go_enter func69,ntmps69;go_wp2_with (go_at_call 72;refine(lY _).mono ?_;rintro e w1 ⟨rfl,rfl⟩);go_ret;exact⟨rfl,rfl⟩
theorem JU (v e) (he:e≠0) (w):Calls prog 69 #[v,.int .i64 e] w fun r w'=>r= .panicked [Fl e]∧w'=w:=by
 have H:=Aj he;clear he;go_enter func69,ntmps69;go_wp2_with (go_at_call 72;refine(fV e H.1 _).mono ?_;rintro r w1 ⟨rfl,rfl⟩);exact⟨rfl,rfl,rfl⟩
theorem Tj (v w):Calls prog 73 #[v,.int .i64 0] w fun r w'=>r= .returned v∧w'=w:=by
 go_enter func73,ntmps73;go_wp2_with (go_at_call 72;refine(lY _).mono ?_;rintro e w1 ⟨rfl,rfl⟩);go_ret;exact⟨rfl,rfl⟩
theorem JV (v e) (he:e≠0) (w):Calls prog 73 #[v,.int .i64 e] w fun r w'=>r= .panicked [Fl e]∧w'=w:=by
 have H:=Aj he;clear he;go_enter func73,ntmps73;go_wp2_with (go_at_call 72;refine(fV e H.1 _).mono ?_;rintro r w1 ⟨rfl,rfl⟩);exact⟨rfl,rfl,rfl⟩
theorem Tk (v w):Calls prog 76 #[v,.int .i64 0] w fun r w'=>r= .returned v∧w'=w:=by
 go_enter func76,ntmps76;go_wp2_with (go_at_call 72;refine(lY _).mono ?_;rintro e w1 ⟨rfl,rfl⟩);go_ret;exact⟨rfl,rfl⟩
theorem JW (v e) (he:e≠0) (w):Calls prog 76 #[v,.int .i64 e] w fun r w'=>r= .panicked [Fl e]∧w'=w:=by
 have H:=Aj he;clear he;go_enter func76,ntmps76;go_wp2_with (go_at_call 72;refine(fV e H.1 _).mono ?_;rintro r w1 ⟨rfl,rfl⟩);exact⟨rfl,rfl,rfl⟩
theorem JX (p q w):Calls prog 66 #[.nilIface,p,q] w fun r w'=>r= .returned (.tuple #[])∧w'=w:=by
 have hn:∀W:World,(binOp BinOp.eql 20 .nilIface .nilIface).run prog W= .ok (.bool true) W:=fun _=>kr
 go_enter func66,ntmps66;go_wp2
 first|go_end0|refine Bh (CJ rfl _ _ _) rfl ?_
 exact⟨rfl,rfl⟩
def CaP (w:World) (b d:Nat) (e:Int) (B:Nat) (w':World):Prop:=
 Below B w w'∧w'.cell? ⟨b,0,none⟩=some (.slice none 0 0)∧w'.cell? ⟨d,0,none⟩=some (.int .i64 e)
theorem GU (e b d B v1 v2 w) (hB:B≤b) (hd:B≤d) (hne:b≠d) (hb1:w.cell? ⟨b,0,none⟩=some v1) (hd1:w.cell? ⟨d,0,none⟩=some v2) (fb:w.frozen? ⟨b,0,none⟩=false) (fd:w.frozen? ⟨d,0,none⟩=false):
  Calls prog 66 #[(Fl e).v,.pointer (some ⟨b,0,none⟩),.pointer (some ⟨d,0,none⟩)] w fun r w'=>r= .returned (.tuple #[])∧CaP w b d e B w':=by
 have hta:∀W:World,(Instr.typeAssert (.iface 211 (.agg #[.int .i64 e])) 20 211 true).run prog W= .ok (.tuple #[.agg #[.int .i64 e],.bool true]) W:=fun _=>kr
 have hnn:∀W:World,(binOp BinOp.eql 20 (.iface 211 (.agg #[.int .i64 e])) .nilIface).run prog W= .ok (.bool false) W:=fun _=>kr
 have lb:=Bc w ⟨b,0,none⟩ hb1;have ld:=Bc w ⟨d,0,none⟩ hd1;obtain⟨W,hW⟩:∃W,W=w.alloc (.cells #[.int .i64 e] 211):=⟨_,rfl⟩
 have k1:W.cell? ⟨b,0,none⟩=some v1:=by rw[hW];exact(AB w _ ⟨b,0,none⟩ lb).trans hb1
 have k2:W.cell? ⟨d,0,none⟩=some v2:=by rw[hW];exact(AB w _ ⟨d,0,none⟩ ld).trans hd1
 have hbW:Below w.heap.size w W:=by rw[hW];exact(Ae _ _).alloc Ai _
 have k3:W.frozen? ⟨b,0,none⟩=false:=(hbW.frozen (p:=⟨b,0,none⟩) lb).trans fb;have k4:W.frozen? ⟨d,0,none⟩=false:=(hbW.frozen (p:=⟨d,0,none⟩) ld).trans fd;have k5:W.cell? ⟨w.heap.size,0,none⟩=some (.int .i64 e):=by rw[hW];exact Ao w _ _ _ 0
 unfold Fl;go_enter func66,ntmps66;go_wp2;rw[←hW];clear hW;go_region
 all_goals
  first|go_end0|refine Bh (CJ rfl _ _ _) rfl ?_
  refine⟨rfl,?_,?_,?_⟩
  ·exact(((hbW.mono om).setCell (p:=⟨b,0,none⟩) hB _).setCell (p:=⟨d,0,none⟩) hd _).drew
  ·exact(AJ _ _ _ _ (by intro h;cases h;exact hne rfl)).trans (World.cell?_setCell_same _ _ _ k1)
  ·exact World.cell?_setCell_same _ _ _ ((AJ _ _ _ _ (by intro h;cases h;exact hne rfl)).trans k2)
theorem Oz (p q w):
  CallsD prog 65 #[.pointer (some p),.pointer (some q)] .returning w fun e u' w'=>e= .returned (.tuple #[])∧u'= .returning∧w'=w:=by
 have C:=Aj (JX (.pointer (some p)) (.pointer (some q)) w);refine callsD_of_wpS func65 rfl fun c₀ cs hu=>?_
 apply wpS_region;simp[wpOpsS,go_sem,recoverD,hu,ntmps65];refine C.1.mono ?_;rintro e w'' ⟨rfl,rfl⟩;cases c₀;simp_all [bodyPostS,results,Tryz.results65]
theorem OG (f b d B v1 v2 older w) (hB:B≤b) (hd:B≤d) (hne:b≠d) (hb1:w.cell? ⟨b,0,none⟩=some v1) (hd1:w.cell? ⟨d,0,none⟩=some v2) (fb:w.frozen? ⟨b,0,none⟩=false) (fd:w.frozen? ⟨d,0,none⟩=false):
  CallsD prog 65 #[.pointer (some ⟨b,0,none⟩),.pointer (some ⟨d,0,none⟩)] (.panicking (Fl f::older)) w fun e u' w'=>e= .returned (.tuple #[])∧u'= .panicking ({v:=(Fl f).v,recovered:=true}::older)∧CaP w b d f B w':=by
 have C:=Aj (GU f b d B v1 v2 w hB hd hne hb1 hd1 fb fd);clear hB hd hne hb1 hd1 fb fd;refine callsD_of_wpS func65 rfl fun c₀ cs hu=>?_
 unfold Fl at hu C;apply wpS_region;simp[wpOpsS,go_sem,recoverD,hu,ntmps65];refine C.1.mono ?_;rintro e w'' ⟨rfl,hca⟩;cases c₀;simp_all [bodyPostS,results,Tryz.results65,Fl]
end
end Go.Proofs.YtjcpmfphnodaaaaGreatDoor
