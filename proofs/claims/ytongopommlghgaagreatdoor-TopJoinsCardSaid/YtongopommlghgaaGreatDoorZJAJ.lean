/- Part 10. -/
import Derived.Test.YtongopommlghgaaGreatDoorZJAH
import Derived.WideKeyEntry
namespace Go.Proofs.YtongopommlghgaaGreatDoor
set_option maxRecDepth 100000
set_option maxHeartbeats 0
open _root_.Go.Proofs.Tryz
section
section
open Go.RowKit Go.Shelf
abbrev eX:=aU×List Int
def ou (x:aU) (s:Value):List Value:=[.string x.n,.string x.v,s]
def gQ:List eX→List Value→List Value
 |e::es,h::hs=>ou e.1 h++gQ es hs
 |_,_=>[]
theorem p8:∀(es) (hs),hs.length=es.length→(gQ es hs).length=es.length*3
 |[],[],_=>rfl
 |e::es,h::hs,hl=>by
  rw[gQ,La,p8 es hs (by simpa using hl),Lc];simp[ou];omega
 |[],_::_,hl=>by simp at hl
 |_::_,[],hl=>by simp at hl
theorem xy:∀(es) (hs) (e) (h),hs.length=es.length→gQ (es++[e]) (hs++[h])=gQ es hs++ou e.1 h
 |[],[],e,h,_=>by simp[gQ]
 |x::es,y::hs,e,h,hl=>by
  rw[Bc,Bc,gQ,xy es hs e h (by simpa using hl),gQ,Af]
 |[],_::_,_,_,hl=>by simp at hl
 |_::_,[],_,_,hl=>by simp at hl
theorem lN:∀(es) (hs) (i k) (h:i<es.length) (h':i<hs.length),k<3→(gQ es hs)[i*3+k]? =(ou es[i].1 hs[i])[k]?
 |x::es,y::hs,0,k,_,_,hk=>by
  rw[gQ,Cz (by simp[ou];omega)];simp
 |x::es,y::hs,i+1,k,h,h',hk=>by
  have hl:(ou x.1 y).length=3:=rfl;rw[gQ,Bp om,hl,show(i+1)*3+k-3=i*3+k from om];exact lN es hs i k (by simpa using h) (by simpa using h') hk
 |[],_,_,_,h,_,_=>by simp at h
 |_::_,[],_,_,_,h',_=>by simp at h'
def yQ (w:World) (hs:List Value) (es:List eX):Prop:=
 ∀(i:Nat) (_:i<hs.length) (_:i<es.length),∃A1 n1 c1,hs[i]= .slice A1 n1 c1∧aO w 0 A1 n1 c1 es[i].2
def gL (w:World) (B:Nat) (A:Option Addr) (n c:Nat) (es:List eX):Prop:=
 ∃hs:List Value,hs.length=es.length∧Rd w B 3 A n c (gQ es hs)∧yQ w hs es
def bg (t:TypeId) (w:World) (base:Nat) (A:Option Addr) (n c:Nat) (es:List eX):Prop:=
 ∃hs:List Value,hs.length=es.length∧w.ownsRow base t 3 (.slice A n c) n (gQ es hs)∧yQ w hs es
theorem aQ {w w' base n c sz A xs t} (h:w.ownsRow base t sz (.slice A n c) n xs) (hb:Below w.heap.size w w'):w'.ownsRow base t sz (.slice A n c) n xs:=
 own_below h hb (fun g hg=>(ae h g hg).2)
section
variable {w w':World} {B base n c:Nat} {A:Option Addr} {es:List eX} {hs:List Value} {t:TypeId}
theorem yQ.below (h:yQ w hs es) (hb:Below w.heap.size w w'):yQ w' hs es:=fun i h1 h2=>by
 obtain⟨A1,n1,c1,e,o⟩:=h i h1 h2;exact⟨A1,n1,c1,e,aQ o hb⟩
theorem gL.len (h:gL w B A n c es):n=es.length:=by
 obtain⟨hs,h1,h2,_⟩:=h;have:=h2.2.2.1;rw[p8 es hs h1]at this;omega
theorem bg.len (h:bg t w base A n c es):n=es.length:=by
 obtain⟨hs,h1,h2,_⟩:=h;have:=h2.1;rw[p8 es hs h1]at this;omega
theorem gL.cap (h:gL w B A n c es):n≤c∧c≤maxLen:=by
 obtain⟨hs,_,h2,_⟩:=h;exact⟨h2.1,h2.2.1⟩
theorem gL.below (h:gL w B A n c es) (hb:Below w.heap.size w w') (hB:B≤w.heap.size):gL w' B A n c es:=by
 obtain⟨hs,h1,h2,h3⟩:=h;exact⟨hs,h1,Rd.below h2 (hb.mono hB),h3.below hb⟩
theorem gL.more {B'} (h:gL w B A n c es) (hB:B≤B'):gL w B' A n c es:=by
 obtain⟨hs,h1,h2,h3⟩:=h;exact⟨hs,h1,Rd.more h2 hB,h3⟩
theorem gL.nil (w B):gL w B none 0 0 []:=⟨[],rfl,Rd.nil w B 3 0 none (by unfold maxLen;omega),fun i h=>by simp at h⟩
theorem bg.nil (w base):bg t w base none 0 0 []:=⟨[],rfl,Bb _ _ _ _,fun i h=>by simp at h⟩
theorem bg.rd (h:bg t w base A n c es):gL w w.heap.size A n c es:=by
 obtain⟨hs,h1,h2,h3⟩:=h;exact⟨hs,h1,Rd.bz h2,h3⟩
theorem bg.keep (h:bg t w base A n c es) (hb:Below w.heap.size w w'):bg t w' base A n c es:=by
 obtain⟨hs,h1,h2,h3⟩:=h;exact⟨hs,h1,aQ h2 hb,h3.below hb⟩
theorem gL.cells {k} (h:gL w B A n c es) (hB:B≤w.heap.size) (hk:k<es.length):
  ∃b off A1 n1 c1,A=some ⟨b,off,none⟩∧b<B∧aO w 0 A1 n1 c1 es[k].2∧∀W,Below w.heap.size w W→W.cell? ⟨b,off+k*3,none⟩=some (.string es[k].1.n)∧W.cell? ⟨b,off+k*3+1,none⟩=some (.string es[k].1.v)∧W.cell? ⟨b,off+k*3+2,none⟩=some (.slice A1 n1 c1):=by
 have hn:=h.len;obtain⟨hs,h1,h2,h3⟩:=h;have hkh:k<hs.length:=om;obtain⟨A1,n1,c1,e,o⟩:=h3 k hkh hk;obtain⟨b,off,rfl,hb,hc⟩:=h2.2.2.2 om;have g0:=lN es hs k 0 hk hkh om;have g1:=lN es hs k 1 hk hkh om;have g2:=lN es hs k 2 hk hkh om;rw[e]at g2;refine⟨b,off,A1,n1,c1,rfl,hb,o,fun W hW=>⟨?_,?_,?_⟩⟩
 ·exact(hW.cell (p:=⟨b,_,none⟩) (by show b<_;omega)).trans (hc (k*3) _ (by simpa[ou]using g0))
 ·exact(hW.cell (p:=⟨b,_,none⟩) (by show b<_;omega)).trans (by rw[iw];exact hc (k*3+1) _ (by simpa[ou]using g1))
 ·exact(hW.cell (p:=⟨b,_,none⟩) (by show b<_;omega)).trans (by rw[iw];exact hc (k*3+2) _ (by simpa[ou]using g2))
theorem bg.Yu {w4 A1 A4 n1 c1 c4 x s tmp} (ht:(3:TypeId)≠t)
  (h1:hs.length=es.length) (h2:w.ownsRow base t 3 (.slice A n c) n (gQ es hs)) (h3:yQ w hs es) (hS:aO w 0 A1 n1 c1 s) (hg:(w.alloc tmp).grownBy w4 (ab A))
  (au:w4.ownsRow base t 3 (.slice A4 (n+1) c4) (n+1) (gQ es hs++[.string x.n,.string x.v,.slice A1 n1 c1])):
  bg t w4 base A4 (n+1) c4 (es++[(x,s)]):=by
 have kI:∀{A':Option Addr} {n' c':Nat} {l':List Int},aO w 0 A' n' c' l'→aO w4 0 A' n' c' l':=fun h=>ag (Oa h tmp) hg (eF h h2 ht)
 refine⟨hs++[.slice A1 n1 c1],by simp[h1],by rw[xy es hs _ _ h1];exact au,fun i hi hi'=>?_⟩;by_cases hlt:i<hs.length
 ·obtain⟨B1,m1,d1,e,p⟩:=h3 i hlt om;rw[pF hlt,pF (show i<es.length from om)];exact⟨B1,m1,d1,e,kI p⟩
 ·have hie:i=hs.length:=by simp at hi;omega
  subst hie;refine⟨A1,n1,c1,Ah,?_⟩;have:(es++[(x,s)])[hs.length]'hi'=(x,s):=by simp[h1]
  rw[this];exact kI hS
end
theorem Rd.ZJ (w:World) (u1 u2 u3 t):Rd (w.alloc (.cells #[u1,u2,u3] t)) (w.heap.size+1) 3 (some ⟨w.heap.size,0,none⟩) 1 1 [u1,u2,u3]:=
 ⟨Nr _,by unfold maxLen;omega,rfl,fun _=>⟨_,0,rfl,om,fun i u hu=>by
  rw[bO];exact(Aq w _ _ _ i).trans (by simpa using hu)⟩⟩
theorem Rj:(prog.info? 163).map (fun i=>(i.zero,i.size,i.bytes))=some (some (.agg #[.string ByteArray.empty,.string ByteArray.empty,.slice none 0 0]),3,56):=kr
end
end
section
section
open Go.RowKit Go.Shelf
def ZL (a b:Int):Int:=if a=0 then b else a
theorem VU (A a b w) (hv:jF w w.heap.size A 2 2 [a,b]):
  Calls prog 136 #[.slice A 2 2] w fun e w'=>e= .returned (.int .i64 (ZL a b))∧w'=w:=by
 obtain⟨g,off,rfl,-,c0⟩:=hv.at_ (k:=0) Ah;obtain⟨g',off',e,-,c1⟩:=hv.at_ (k:=1) Ah;cases e;simp only[DI,Cj,DD]at c0 c1;clear hv;go_enter func136,ntmps136;go_wp2;go_loopw [8] (fun i wr=>∃k:Nat,k≤2∧i= .int .i64 k∧Kept ((1≤k→a=0)∧(2≤k→b=0))∧wr=w) (fun i _=>2-(intOf i).toNat)
 case atStart=>exact⟨0,om,rfl,⟨⟨fun h=>om,fun h=>om⟩⟩,rfl⟩
 case round=>
  obtain⟨k,hk,rfl,hz,rfl⟩:=hrel;have hcase:k=0∨k=1∨k=2:=om;rcases hcase with rfl|rfl|rfl
  ·by_cases h:a=0
   ·subst h;go_wp2;go_roundw
    case rel=>exact⟨1,om,rfl,⟨⟨fun _=>Ah,fun h=>om⟩⟩,Ah⟩
    case measure=>simp[intOf]
   ·have h':(a==0)=false:=by simp[h]
    go_wp2;go_ret;exact⟨by simp[ZL,h],rfl⟩
  ·obtain rfl:a=0:=hz.1.1 om;by_cases h:b=0
   ·subst h;go_wp2;go_roundw
    case rel=>exact⟨2,om,rfl,⟨⟨fun _=>Ah,fun _=>Ah⟩⟩,Ah⟩
    case measure=>simp[intOf]
   ·have h':(b==0)=false:=by simp[h]
    go_wp2;go_ret;exact⟨by simp[ZL],rfl⟩
  ·obtain rfl:a=0:=hz.1.1 om;obtain rfl:b=0:=hz.1.2 om;go_wp2;go_ret;exact⟨by simp[ZL],rfl⟩
def Lb.pc (x y:aU):Int:=ZL (St.cmp x.n y.n) (St.cmp x.v y.v)
theorem ow (x y w):Calls prog 80 #[lbv x,lbv y] w fun e w'=>e= .returned (.int .i64 (Lb.pc x y))∧Gr w w':=by
 unfold lbv;go_enter func80,ntmps80;go_wp2_with fail;have gW:Gr w ((w.alloc (Obj.cells #[.string x.n,.string x.v] 59)).alloc (Obj.cells #[.string y.n,.string y.v] 59)):=((Gr.refl w).alloc _).alloc _;have c2:((w.alloc (Obj.cells #[.string x.n,.string x.v] 59)).alloc (Obj.cells #[.string y.n,.string y.v] 59)).cell? ⟨w.heap.size+1,0,none⟩=some (.string y.n):=by
  have:=Aq (w.alloc (Obj.cells #[.string x.n,.string x.v] 59)) #[.string y.n,.string y.v] 59 (0,0) 0;rw[AV]at this;exact this
 have c3:((w.alloc (Obj.cells #[.string x.n,.string x.v] 59)).alloc (Obj.cells #[.string y.n,.string y.v] 59)).cell? ⟨w.heap.size+1,1,none⟩=some (.string y.v):=by
  have:=Aq (w.alloc (Obj.cells #[.string x.n,.string x.v] 59)) #[.string y.n,.string y.v] 59 (0,0) 1;rw[AV]at this;exact this
 have c0:((w.alloc (Obj.cells #[.string x.n,.string x.v] 59)).alloc (Obj.cells #[.string y.n,.string y.v] 59)).cell? ⟨w.heap.size,0,none⟩=some (.string x.n):=
  (AR _ _ ⟨w.heap.size,0,none⟩ Ah).trans (Aq w _ _ _ 0)
 have c1:((w.alloc (Obj.cells #[.string x.n,.string x.v] 59)).alloc (Obj.cells #[.string y.n,.string y.v] 59)).cell? ⟨w.heap.size,1,none⟩=some (.string x.v):=
  (AR _ _ ⟨w.heap.size,1,none⟩ Ah).trans (Aq w _ _ _ 1)
 have GW:=Al gW;have HZ:Kept (w.heap.size+1< ((w.alloc (Obj.cells #[.string x.n,.string x.v] 59)).alloc (Obj.cells #[.string y.n,.string y.v] 59)).heap.size):=⟨Ah⟩
 clear gW;generalize (w.alloc (Obj.cells #[.string x.n,.string x.v] 59)).alloc (Obj.cells #[.string y.n,.string y.v] 59)=w2 at*;have hRL:jF (w2.alloc (Obj.cells #[.int .i64 (St.cmp x.n y.n),.int .i64 (St.cmp x.v y.v)] 3)).drew (w2.alloc (Obj.cells #[.int .i64 (St.cmp x.n y.n),.int .i64 (St.cmp x.v y.v)] 3)).drew.heap.size (some ⟨w2.heap.size,0,none⟩) 2 2 [St.cmp x.n y.n,St.cmp x.v y.v]:=by
  have:=jF.lit w2 [St.cmp x.n y.n,St.cmp x.v y.v] Ah;exact Rd.more (Rd.drew this) (by show _≤(w2.alloc _).heap.size;simp)
 have hz2:w.heap.size+1<w2.heap.size:=HZ.1;have KD:(w2.alloc (Obj.cells #[.int .i64 (St.cmp x.n y.n),.int .i64 (St.cmp x.v y.v)] 3)).drew.cell? ⟨w.heap.size,0,none⟩=some (.string x.n)∧(w2.alloc (Obj.cells #[.int .i64 (St.cmp x.n y.n),.int .i64 (St.cmp x.v y.v)] 3)).drew.cell? ⟨w.heap.size,1,none⟩=some (.string x.v)∧
   (w2.alloc (Obj.cells #[.int .i64 (St.cmp x.n y.n),.int .i64 (St.cmp x.v y.v)] 3)).drew.cell? ⟨w.heap.size+1,0,none⟩=some (.string y.n)∧(w2.alloc (Obj.cells #[.int .i64 (St.cmp x.n y.n),.int .i64 (St.cmp x.v y.v)] 3)).drew.cell? ⟨w.heap.size+1,1,none⟩=some (.string y.v):=
  ⟨(AR _ _ ⟨w.heap.size,0,none⟩ (by show w.heap.size<_;omega)).trans c0,(AR _ _ ⟨w.heap.size,1,none⟩ (by show w.heap.size<_;omega)).trans c1,
   (AR _ _ ⟨w.heap.size+1,0,none⟩ (by show w.heap.size+1<_;omega)).trans c2,(AR _ _ ⟨w.heap.size+1,1,none⟩ (by show w.heap.size+1<_;omega)).trans c3⟩
 have KK:=Al KD;clear KD;go_region_held3 (fun w'=>w'.cell? ⟨w.heap.size,0,none⟩=some (.string x.n)∧w'.cell? ⟨w.heap.size,1,none⟩=some (.string x.v)∧w'.cell? ⟨w.heap.size+1,0,none⟩=some (.string y.n)∧w'.cell? ⟨w.heap.size+1,1,none⟩=some (.string y.v)) (first|exact⟨c0,c1,c2,c3⟩|exact KK.1)
  (first
  |(go_at_call 137;refine(qB _ _ _).mono ?_;rintro e w3 ⟨rfl,rfl⟩)
  |(go_at_call 136;refine(VU _ _ _ _ hRL).mono ?_;rintro e w3 ⟨rfl,rfl⟩))
 go_wp2_with fail;go_ret;exact⟨rfl,(GW.1.alloc _).drew⟩
end
end
section
section
open Go.RowKit Go.Shelf
open Go.ChangeMaps (setBlock heap_setBlock_same heap_setBlock_other)
theorem VV:laidOutB prog=true:=kr
theorem Rk:(59:TypeId)<prog.types.size:=Ew kr
theorem acB:prog.keyTypeAt 2 59=true:=kr
theorem VW:WideMaps.KeyLaw prog 59:=deep_law_laid VV (m:=2) om Rk acB (by rw[underlying59])
theorem za:Maps.Keyed prog 59:=Maps.Keyed.of_law VW
theorem JE:prog.keyType 59=true:=kr
theorem F4:prog.cellsOf 59=2:=kr
theorem strCells:prog.cellsOf 9=1:=kr
def kv (x:aU):Value:= .agg #[.string x.n,.string x.v]
theorem Rl {x y} (h:kv x=kv y):x=y:=by
 cases x;cases y;unfold kv at h;simp at h;simp[h]
def jS (x:aU):Prop:=x.n.size≤maxLen∧x.v.size≤maxLen
theorem qL (d s) (h:s.size≤maxLen):prog.keyLits (d+1) 9 [.string s]=some [.string s.data.toList]:=by
 simp[Program.keyLits,underlying9,h]
theorem F7 (d x) (h:jS x):prog.keyLits (d+1+1) 59 [.string x.n,.string x.v]=some [.string x.n.data.toList,.string x.v.data.toList]:=by
 have h1:=qL d x.n h.1;have h2:=qL d x.v h.2;have hc:=F4;have hs:=strCells;have hu:=underlying59;unfold Program.keyLits;rw[hu]
 dsimp only
 generalize prog.keyLits (d+1)=F at*;generalize prog.cellsOf=C at*;simp[hc,hs,h1,h2]
theorem uh (x) (h:jS x):∃l,keyOf prog 59 (kv x)=some l:=by
 obtain⟨d0,hd0⟩:=Nat.exists_eq_add_of_lt Rk;obtain⟨d,hd⟩:∃d,prog.types.size=d+1:=⟨_,hd0⟩
 clear hd0;have hf:(kv x).formed prog 59=true:=by
  simp[kv,Value.formed,underlying59,F4]
 have hc:(kv x).cells.toList=[.string x.n,.string x.v]:=rfl;have hk:=F7 d x h;have hu:=underlying59;unfold keyOf;rw[hu];simp only[JE,hf,Bool.and_self,if_true];rw[hc,hd,hk];exact⟨_,rfl⟩
def mE:List (aU×Value)→Nat→List MapEntry
 |[],_=>[]
 |e::es,k=>⟨kv e.1,e.2,k⟩::mE es (k+1)
theorem zb:∀(es) (k),(mE es k).length=es.length
 |[],_=>rfl
 |e::es,k=>by simp[mE,zb es (k+1)]
theorem iH:∀(es) (k i) (h:i<es.length),(mE es k)[i]? =some ⟨kv es[i].1,es[i].2,k+i⟩
 |[],_,_,h=>by simp at h
 |e::es,k,0,_=>by simp[mE]
 |e::es,k,i+1,h=>by
  rw[mE,List.getElem?_cons_succ,iH es (k+1) i (by simpa using h)];simp;omega
theorem JF {es k x} (h:x∈mE es k):∃i,∃h:i<es.length,x=⟨kv es[i].1,es[i].2,k+i⟩:=by
 obtain⟨i,hi,e⟩:=iC.1 h;have hl:i<es.length:=by rw[zb]at hi;exact hi
 have:=iH es k i hl;rw[kC hi,e]at this;exact⟨i,hl,by simpa using this⟩
theorem Rm:∀(es) (k) (e),mE (es++[e]) k=mE es k++[⟨kv e.1,e.2,k+es.length⟩]
 |[],_,_=>rfl
 |x::es,k,e=>by
  rw[Bc,mE,Rm es (k+1) e,mE];simp;omega
theorem Rn:∀(es) (k i) (h:i<es.length) (v),mE (es.set i (es[i].1,v)) k=(mE es k).set i ⟨kv es[i].1,v,k+i⟩
 |[],_,_,h,_=>by simp at h
 |x::es,k,0,_,v=>by simp[mE]
 |x::es,k,i+1,h,v=>by
  rw[Ap,mE,mE,Ap];have:=Rn es (k+1) i (by simpa using h) v;simp only[Cj];rw[this,show k+1+i=k+(i+1)from om]
theorem Lx:∀(es) (k),(mE es k).map (·.born)=List.range' k es.length
 |[],_=>rfl
 |e::es,k=>by simp[mE,Lx es (k+1),List.range'_succ]
theorem F8 (es k):((mE es k).map (·.born)).Nodup:=by
 rw[Lx];exact List.nodup_range'
structure aZ (w:World) (b:Nat) (es:List (aU×Value)):Prop where
 blk:w.heap[b]? =some (.map (mE es 0).toArray es.length)
 dup:(es.map (·.1)).Nodup
 small:∀e∈es,jS e.1
theorem aZ.lt {w b es} (h:aZ w b es):b<w.heap.size:=(Ge.1 h.blk).1
theorem aZ.at_ {w w' b es} (h:aZ w b es) (e:w'.heap[b]? =w.heap[b]?):aZ w' b es:=⟨e.trans h.blk,h.dup,h.small⟩
theorem aZ.made (w:World):aZ (w.alloc (.map #[] 0)) w.heap.size []:=⟨(MapKept.heap_alloc w _).1,Ah,Ah⟩
theorem aZ.keys {w b es} (h:aZ w b es):∀e∈mE es 0,∃l,keyOf prog 59 e.key=some l:=by
 intro e he;obtain⟨i,hi,rfl⟩:=JF he;exact uh _ (h.small _ (dR hi))
theorem aZ.idx {w b es} (h:aZ w b es) {i j} (hi:i<es.length) (hj:j<es.length) (e:es[i].1=es[j].1):i=j:=by
 exact(List.getElem_inj (h₀:=by simpa using hi) (h₁:=by simpa using hj) h.dup).1 (by simpa using e)
theorem aZ.hit {w b es} (h:aZ w b es) (w') {i} (hi:i<es.length):(Instr.findKey 59 (kv es[i].1) (mE es 0)).run prog w'= .ok (some (i,es[i].2)) w':=by
 obtain⟨l,hl⟩:=uh es[i].1 (h.small _ (dR hi));rcases za.find w' hl (mE es 0) h.keys with⟨_,h2⟩|⟨j,e,h1,h2,h3⟩
 ·exact absurd rfl (h2 _ (List.mem_of_getElem? (iH es 0 i hi)))
 ·have hj:j<es.length:=by have:=(l5.1 h2).1;rwa[zb]at this
  rw[iH es 0 j hj]at h2;have e1:e=⟨kv es[j].1,es[j].2,0+j⟩:=by simpa using h2.symm
  rw[e1]at h3;obtain rfl:j=i:=h.idx hj hi (Rl h3);rw[h1,e1]
theorem aZ.miss {w b es} (h:aZ w b es) (w') {x} (hx:jS x) (hn:x∉es.map (·.1)):(Instr.findKey 59 (kv x) (mE es 0)).run prog w'= .ok none w':=by
 obtain⟨l,hl⟩:=uh x hx;rcases za.find w' hl (mE es 0) h.keys with⟨h1,_⟩|⟨j,e,h1,h2,h3⟩
 ·exact h1
 ·exfalso;have hj:j<es.length:=by have:=(l5.1 h2).1;rwa[zb]at this
  rw[iH es 0 j hj]at h2;have e1:e=⟨kv es[j].1,es[j].2,0+j⟩:=by simpa using h2.symm
  rw[e1]at h3;exact hn (dV.2 ⟨es[j],dR hj,Rl h3⟩)
theorem ui (w em) {x} (hx:jS x):(Instr.checkKey em 10000 59 (kv x)).run prog w= .ok () w:=by
 obtain⟨l,hl⟩:=uh x hx;exact za.check w em hl
theorem Ro (w) {x} (hx:jS x):(Instr.keyThatStays (kv x) (kv x)).run prog w= .ok (kv x) w:=by
 obtain⟨l,hl⟩:=uh x hx;exact za.stays w hl
theorem aZ.lookup {w b es} (h:aZ w b es) {i} (hi:i<es.length):(Instr.lookup 156 (.map (some b)) (kv es[i].1) false).run prog w= .ok es[i].2 w:=by
 simp[Instr.lookup,Ee underlying156,MapKept.run_getObj_map h.blk,ui w _ (h.small _ (dR hi)),h.hit w hi,Result.andThen]
theorem vX {w b o} (h:w.heap[b]? =some o):setBlock w b o=w:=by
 obtain⟨hlt,e⟩:=Ge.1 h;unfold setBlock;have:w.heap.setIfInBounds b o=w.heap:=by
  rw[Array.setIfInBounds,dif_pos hlt,←e];simp
 rw[this]
theorem aZ.entry {w b es} (h:aZ w b es) {i} (hi:i<es.length):(Instr.mapEntry 156 (.map (some b)) (kv es[i].1)).run prog w= .ok (.tuple #[es[i].2,.int .i64 i]) w:=by
 have hs:=h.small _ (dR hi);have hsame:(mE es 0).modify i (fun e=>{key:=kv es[i].1,val:=e.val,born:=e.born})=mE es 0:=by
  rw[ChangeMaps.modify_eq_set _ _ _ _ (iH es 0 i hi)];exact WideElems.set_self _ _ _ (iH es 0 i hi)
 have hset:setBlock w b (.map (mE es 0).toArray es.length)=w:=vX h.blk;unfold setBlock at hset;simp[Instr.mapEntry,Ee underlying156,MapKept.run_getObj_map h.blk,ui w _ hs,h.hit w hi,Ro w hs,iH es 0 i hi,hsame,MapKept.run_setObj_map _ h.blk,Result.andThen,goInt,hset]
theorem aZ.fresh {w b es} (h:aZ w b es) {x} (hx:jS x) (hn:x∉es.map (·.1)):
  (Instr.mapEntry 156 (.map (some b)) (kv x)).run prog w= .ok (.tuple #[.slice none 0 0,.int .i64 es.length]) (setBlock w b (.map (mE (es++[(x,.slice none 0 0)]) 0).toArray (es.length+1))):=by
 simp[Instr.mapEntry,Ee underlying156,MapKept.run_getObj_map h.blk,ui w _ hx,h.miss w hx hn,Rm,MapKept.run_setObj_map _ h.blk,Result.andThen,goInt,setBlock]
theorem aZ.push {w b es} (h:aZ w b es) {x} (hx:jS x) (hn:x∉es.map (·.1)) (v):
  aZ (setBlock w b (.map (mE (es++[(x,v)]) 0).toArray (es.length+1))) b (es++[(x,v)]):=by
 refine⟨by rw[La];exact heap_setBlock_same h.blk _,?_,fun e he=>?_⟩
 ·rw[dN];refine List.nodup_append.2 ⟨h.dup,Ah,fun a ha c hc=>?_⟩;simp only[AJ,List.map_nil,iP]at hc;rw[hc];exact fun e=>hn (e▸ha)
 ·rcases gY.1 he with h1|h1
  ·exact h.small e h1
  ·rw[iP.1 h1];exact hx
theorem aZ.store {w b es} (h:aZ w b es) {i} (hi:i<es.length) (v):
  (Instr.entryStore 156 (.map (some b)) (.int .i64 i) v).run prog w= .ok () (setBlock w b (.map (mE (es.set i (es[i].1,v)) 0).toArray es.length)):=by
 have hidx:(mE es 0).toArray.findIdx? (fun e=>((e.born:Nat):Int)==((i:Nat):Int))=some i:=by
  rw[WideElems.findIdx_arr];have:=WideElems.findIdx_born (F8 es 0) (iH es 0 i hi);simpa using this
 have hmod:(mE es 0).toArray.modify i (fun e=>{e with val:=v})=(mE (es.set i (es[i].1,v)) 0).toArray:=by
  apply Array.ext';rw[Array.toList_modify,ChangeMaps.modify_eq_set _ _ _ _ (iH es 0 i hi),Rn es 0 i hi]
 simp[Instr.entryStore,MapKept.run_getObj_map h.blk,asInt,asIntOf,hidx,hmod,MapKept.run_setObj_map _ h.blk,Result.andThen,setBlock]
theorem aZ.put {w w' b es} (h:aZ w b es) {i} (hi:i<es.length) (v) (hw:w'.heap[b]? =w.heap[b]?):
  aZ (setBlock w' b (.map (mE (es.set i (es[i].1,v)) 0).toArray es.length)) b (es.set i (es[i].1,v)):=by
 have hm:(es.set i (es[i].1,v)).map (·.1)=es.map (·.1):=by
  rw[Ex];have:(es.map (·.1))[i]? =some es[i].1:=by simp[hi]
  exact WideElems.set_self _ _ _ this
 refine⟨by rw[List.length_set];exact heap_setBlock_same (hw.trans h.blk) _,by rw[hm];exact h.dup,fun e he=>?_⟩;have:e.1∈es.map (·.1):=by rw[←hm];exact dV.2 ⟨e,he,rfl⟩
 obtain⟨e',he',e1⟩:=dV.1 this;rw[←e1];exact h.small e' he'
end
end
section
section
open Go.RowKit Go.Shelf
def Rp (W:World) (r:Nat):Prop:=∃m s se c,W.heap[r]? =some (.mapIter m s se c)
def Rq (B:Nat) {β:Type} (J:β→World→Prop):Prop:=
 ∀s W W' row,J s W→W.grownBy W' row→(∀r,row=some r→B≤r∧Rp W r)→J s W'
def ze {α:Type} (n:Nat) (P:Program) (gf:Nat) (lb:Array Value) (encs:α→Array Value) (Kp:World→World→Prop) (Pre Full:List α→Prop) (w:World):Prop:=
 ∀(l:Nat) (J Jx:List α→World→Prop) (W:World),Kp w W→Rq w.heap.size J→Rq w.heap.size Jx→
  (∀pre x W1,J pre W1→Pre (pre++[x])→YieldAt Fence.wide (n-1) P l (encs x) W1 fun e W'=>
   (e= .returned (.bool true)∧J (pre++[x]) W'∧Kp W1 W')∨(e= .returned (.bool false)∧Jx (pre++[x]) W'))→
  J [] W→
  CallsIn Fence.wide n P gf (#[.func (.yield l) #[] #[]]++lb) W fun e W'=>(∃v,e= .returned v)∧((∃L,Full L∧J L W')∨(∃pre,Jx pre W'))
theorem NS {α:Type} {n:Nat} {P:Program} {g:Operand} {ps:Array Tmp} {assign body:Code} {Q:Exit→Act→World→Prop} {a:Act} {w:World}
  (h1:1≤n) {gf:Nat} {lb:Array Value} (hg:a.eval g= .func (.func gf) #[] lb) (eg:∀args w,(callFunc gf args).run P w= .ok (.enter gf args) w)
  {encs:α→Array Value} {Kp:World→World→Prop} {Pre Full:List α→Prop} (hseq:∀o,ze (n-1) P gf lb encs Kp Pre Full (w.alloc o))
  (hKt:∀{A B C:World},Kp A B→Kp B C→Kp A C)
  (hKb:∀(W W':World) (row:Option Nat),w.heap.size≤W.heap.size→W.grownBy W' row→(∀r,row=some r→w.heap.size≤r∧∃L,W.heap[r]? =some (.loop L))→Kp W W')
  (hps:∀x,(encs x).size=ps.size)
  (I:List α→World→Prop) (Ix:Code→List α→World→Prop) (M:List α→α→Act→World→Prop)
  (hI:aI w.heap.size (fun _=>False) I) (hIx:∀c,aI w.heap.size (fun _=>False) (Ix c)) (hM:∀pre x a,aI w.heap.size (fun _=>False) (fun(_:Unit) W=>M pre x a W)) (h0:I [] w)
  (hassign:∀(l:Nat) (pre:List α) (x:α) (W:World),I pre W→Pre (pre++[x])→w.heap.size≤W.heap.size→
   assign.wpIn (Fence.wide.inRound l) (n-1-1) P (Exit.then (fun a₁ W₁=>KeepsFrom w.heap.size W W₁∧Kp W W₁∧M pre x a₁ W₁) (fun _ _ _=>False))
    {tmps:=(ps.zip (encs x)).foldl (fun t (p,v)=>t.setIfInBounds p v) a.tmps,defers:=[]} W)
  (hbody:∀(l:Nat) (pre:List α) (x:α) (a₁:Act) (W:World),M pre x a₁ W→Pre (pre++[x])→w.heap.size≤W.heap.size→
   body.wpIn (Fence.wide.inRound l) (n-1-1) P (x8 w.heap.size Kp I Ix (pre++[x]) W) a₁ W)
  (hdone:∀(D:Nat) (W:World),w.heap.size≤D→(∃L,Full L∧I L W)→W.heap[D]? =some (.deferred (some []))→Q .normal {a with defers:={target:= .collected D,args:= #[]}::a.defers} W)
  (hstop:∀(D:Nat) (c:Code) (pre:List α) (W:World),w.heap.size≤D→Ix c pre W→W.heap[D]? =some (.deferred (some []))→c.wpIn Fence.wide n P Q {a with defers:={target:= .collected D,args:= #[]}::a.defers} W):
  (Code.rangeFunc g ps assign body).wpIn Fence.wide n P Q a w:=by
 refine wpIn_rangeFunc fun fn hfn=>?_
 obtain⟨rec,hrec⟩:∃rec:LoopState→Option Code→Loop,rec=fun st pe=>{state:=st,pending:=pe,fn,tmps:=a.tmps,params:=ps,assign,body,defers:=w.heap.size}:=⟨_,rfl⟩
 obtain⟨l,hl0⟩:∃l,l=w.heap.size+1:=⟨_,rfl⟩
 obtain⟨D,hD0⟩:∃D,D=w.heap.size:=⟨_,rfl⟩
 obtain⟨W1,hW1⟩:∃W1,W1=(w.alloc (.deferred (some []))).alloc (.loop (rec .ready none)):=⟨_,rfl⟩
 have hsz1:W1.heap.size=w.heap.size+2:=by rw[hW1];simp
 have hL1:W1.heap[l]? =some (.loop (rec .ready none)):=by
  rw[hW1,hl0];have:=AL (w.alloc (.deferred (some []))) (.loop (rec .ready none));rwa[AV]at this
 have hK1:W1.heap[D]? =some (.deferred (some [])):=by
  rw[hW1,hD0];exact(Ay _ _ _ Ah).trans (AL w _)
 have hgr:w.grownBy W1 none:=by
  rw[hW1];exact⟨rfl,rfl,rfl,by simp;omega,fun k hk _=>(Ay _ _ _ (by simp;omega)).trans (Ay _ _ _ hk)⟩
 have hI1:I [] W1:=hI _ _ _ _ h0 hgr (fun r e=>by cases e);refine⟨l,[{target:= .collected D,args:= #[]}],W1,{target:= .fn (.func gf) lb,args:= #[.func (.yield l) #[] #[]]},W1,gf,#[.func (.yield l) #[] #[]]++lb,W1,?_,?_,fun _ _=>trivial,?_,fun _=>h1,?_⟩
 ·rw[hW1,hl0,hD0,hrec];exact run_enterLoop_outer _ _ _ _ _
 ·simp only[resolve,hg];simp[go_sem]
 ·simp[invoke,go_sem,eg]
 refine(hseq (.deferred (some [])) l
  (fun pre W=>I pre W∧W.heap[l]? =some (.loop (rec .ready none))∧W.heap[D]? =some (.deferred (some [])))
  (fun pre W=>∃c,Ix c pre W∧W.heap[l]? =some (.loop (rec .done (some c)))∧W.heap[D]? =some (.deferred (some [])))
  W1 (hKb (w.alloc (.deferred (some []))) _ none Ah (by rw[hW1];exact Ga _ _ none) (fun r e=>by cases e)) ?_ ?_ ?_ ⟨hI1,hL1,hK1⟩).mono ?_
 ·rintro s X Y row ⟨hi,hx,hd⟩ hg' hr;have hlx:=(Ge.1 hx).1;have Na:=(Ge.1 hd).1;exact⟨hI s X Y row hi hg' (fun r e=> .inr ⟨(by have:=(hr r e).1;simp at this;omega),by obtain⟨m,s1,se,c1,hm⟩:=(hr r e).2;exact⟨_,hm,rfl⟩⟩),(hg'.block l hlx (fun e=>by obtain⟨m,s1,se,c1,hm⟩:=(hr l e.symm).2;rw[hx]at hm;cases hm)).trans hx,(hg'.block D Na (fun e=>by obtain⟨m,s1,se,c1,hm⟩:=(hr D e.symm).2;rw[hd]at hm;cases hm)).trans hd⟩
 ·rintro s X Y row ⟨c,hi,hx,hd⟩ hg' hr;have hlx:=(Ge.1 hx).1;have Na:=(Ge.1 hd).1;exact⟨c,hIx c s X Y row hi hg' (fun r e=> .inr ⟨(by have:=(hr r e).1;simp at this;omega),by obtain⟨m,s1,se,c1,hm⟩:=(hr r e).2;exact⟨_,hm,rfl⟩⟩),(hg'.block l hlx (fun e=>by obtain⟨m,s1,se,c1,hm⟩:=(hr l e.symm).2;rw[hx]at hm;cases hm)).trans hx,(hg'.block D Na (fun e=>by obtain⟨m,s1,se,c1,hm⟩:=(hr D e.symm).2;rw[hd]at hm;cases hm)).trans hd⟩
 ·
  rintro pre x W ⟨hi,hx,hd⟩ hpre;have hlx:l<W.heap.size:=(Ge.1 hx).1;have hy:=run_yield (P:=P) (args:=encs x) hx (by rw[hrec];exact hps x);have e1:(rec .ready none).fn=fn:=by rw[hrec]
  have e2:(rec .ready none).params=ps:=by rw[hrec]
  have e3:(rec .ready none).tmps=a.tmps:=by rw[hrec]
  have e4:(rec .ready none).assign=assign:=by rw[hrec]
  have e5:(rec .ready none).body=body:=by rw[hrec]
  rw[e1,e2,e3,e4,e5]at hy;refine⟨fn,_,assign,body,hy,roundIn_of_wpIn hfn (wpIn_mono (hassign l pre x W hi hpre om) ?_)⟩;rintro e a₁ W₁ hq;cases e with
  |normal=>
   obtain⟨hk1,hp1,hm1⟩:=hq;have hx1:=hk1.same l _ om hx rfl;have hd1:=hk1.same D _ om hd rfl;have hl1:=(Ge.1 hx1).1;refine⟨_,run_beginRound hx1 (by rw[hrec]),?_⟩;obtain⟨W₂,UO⟩:∃W₂,W₂=W₁.putObj l (.loop {rec .ready none with state:= .busy}):=⟨_,rfl⟩
   rw[←UO];have hg2:W₁.grownBy W₂ (some l):=by rw[UO];exact Bn W₁ l _
   have hx2:W₂.heap[l]? =some (.loop {rec .ready none with state:= .busy}):=by rw[UO];exact World.putObj_heap_same hl1
   have hd2:W₂.heap[D]? =some (.deferred (some [])):=by rw[UO];exact(Cf om).trans hd1
   have hm2:M pre x a₁ W₂:=hM pre x a₁ () _ _ _ hm1 hg2 (fun r e=>by cases e;exact .inr ⟨om,_,hx1,rfl⟩);have hp2:Kp W W₂:=hKt hp1 (hKb _ _ _ om hg2 (fun r e=>by cases e;exact⟨om,_,hx1⟩));have hz2:w.heap.size≤W₂.heap.size:=by have:=hg2.size;omega
   refine wpIn_mono (hbody l pre x a₁ W₂ hm2 hpre hz2) ?_;have fin:∀(jump:Option Code) (W3:World),KeepsFrom w.heap.size W₂ W3→∃W4,(Instr.endRound l jump).run P W3= .ok (.bool jump.isNone) W4∧W3.grownBy W4 (some l)∧W3.heap[l]? =some (.loop {rec .ready none with state:= .busy})∧
     W4.heap[l]? =some (.loop (rec (if jump.isNone then .ready else .done) jump))∧W4.heap[D]? =some (.deferred (some [])):=by
    intro jump W3 hk3;have hx3:=hk3.same l _ om hx2 rfl;have hd3:=hk3.same D _ om hd2 rfl;have hl3:=(Ge.1 hx3).1;refine⟨_,run_endRound jump hx3,Bn W3 l _,hx3,?_,(Cf om).trans hd3⟩;rw[World.putObj_heap_same hl3,hrec]
   rintro e a3 W3 hp;cases e with
   |normal=>
    obtain⟨hk3,hp3,hi3⟩:=hp;obtain⟨W4,hr4,hg4,hx3,hx4,hd4⟩:=fin none W3 hk3;refine⟨_,W4,hr4,.inl ⟨rfl,⟨hI _ _ _ _ hi3 hg4 (fun r e=>by cases e;exact .inr ⟨om,_,hx3,rfl⟩),hx4,hd4⟩,hKt (hKt hp2 hp3) (hKb _ _ _ (by have:=(Ge.1 hx3).1;omega) hg4 (fun r e=>by cases e;exact⟨om,_,hx3⟩))⟩⟩
   |ret=>
    obtain⟨hk3,hi3⟩:=hp;obtain⟨W4,hr4,hg4,hx3,hx4,hd4⟩:=fin (some .ret) W3 hk3;exact⟨_,W4,hr4,.inr ⟨rfl,.ret,hIx _ _ _ _ _ hi3 hg4 (fun r e=>by cases e;exact .inr ⟨om,_,hx3,rfl⟩),hx4,hd4⟩⟩
   |exit id=>
    obtain⟨hk3,hi3⟩:=hp;obtain⟨W4,hr4,hg4,hx3,hx4,hd4⟩:=fin (some (.exit id)) W3 hk3;exact⟨_,W4,hr4,.inr ⟨rfl,.exit id,hIx _ _ _ _ _ hi3 hg4 (fun r e=>by cases e;exact .inr ⟨om,_,hx3,rfl⟩),hx4,hd4⟩⟩
   |goto t=>
    obtain⟨hk3,hi3⟩:=hp;obtain⟨W4,hr4,hg4,hx3,hx4,hd4⟩:=fin (some (.goto t)) W3 hk3;exact⟨_,W4,hr4,.inr ⟨rfl,.goto t,hIx _ _ _ _ _ hi3 hg4 (fun r e=>by cases e;exact .inr ⟨om,_,hx3,rfl⟩),hx4,hd4⟩⟩
   |panic ch=>exact hp.elim
   |outgrown=>exact hp.elim
  |exit id=>exact hq.elim
  |goto t=>exact hq.elim
  |ret=>exact hq.elim
  |panic chain=>exact hq.elim
  |outgrown=>exact hq.elim
 ·
  rintro e W2 ⟨⟨v,rfl⟩,(⟨L,hL,hi,hx,hd⟩|⟨pre,c,hi,hx,hd⟩)⟩
  ·have hend:=run_endLoop (P:=P) hx (by rw[hrec];simp);have e6:(rec .ready none).pending=none:=by rw[hrec]
   rw[e6]at hend;refine⟨none,_,hend,hdone D _ om ⟨L,hL,hI _ _ _ _ hi (Bn W2 l _) (fun r e=>by cases e;exact .inr ⟨om,_,hx,rfl⟩)⟩ ((Cf om).trans hd)⟩
  ·have hend:=run_endLoop (P:=P) hx (by rw[hrec];simp);have e6:(rec .done (some c)).pending=some c:=by rw[hrec]
   rw[e6]at hend;refine⟨some c,_,hend,hstop D c pre _ om (hIx c _ _ _ _ hi (Bn W2 l _) (fun r e=>by cases e;exact .inr ⟨om,_,hx,rfl⟩)) ((Cf om).trans hd)⟩
end
section
open Go.RowKit Go.Shelf
open Go.ChangeMaps (setBlock heap_setBlock_same heap_setBlock_other)
attribute [local go_sem] Oper.semAt_some
def jA (w:World) (r b:Nat) (es:List (aU×Value)) (pre:List aU) (cnt:Nat):Prop:=
 ∃seen,w.heap[r]? =some (.mapIter (some b) es.length seen es.length)∧(∀i (h:i<es.length),seen.contains i=true↔es[i].1∈pre)∧pre.Nodup∧(∀x∈pre,x∈es.map (·.1))∧(leftOf (mE es 0).toArray seen).size=cnt
theorem jA.left_eq {w r b cnt es pre} (h:jA w r b es pre cnt) (hm:aZ w b es):w.rangeLeft b r=cnt:=by
 obtain⟨seen,hr,_,_,_,hc⟩:=h;simp only[World.rangeLeft,hm.blk,hr];exact hc
theorem jA.at_ {w r b cnt es pre} (h:jA w r b es pre cnt):Rp w r:=by
 obtain⟨seen,hr,_⟩:=h;exact⟨_,_,_,_,hr⟩
theorem JG {w b es} (h:aZ w b es):
  (Instr.range 156 (.map (some b))).run prog w= .ok (.pointer (some ⟨w.heap.size,0,none⟩)) (w.alloc (.mapIter (some b) es.length #[] es.length)):=
 run_range_map w _ _ _ b _ _ underlying156 h.blk
theorem jA.made {w:World} {b es}:jA (w.alloc (.mapIter (some b) es.length #[] es.length)) w.heap.size b es [] (leftOf (mE es 0).toArray #[]).size:=
 ⟨#[],(MapKept.heap_alloc w _).1,fun i h=>Ah,Ah,Ah,rfl⟩
theorem NT {w r b cnt es pre} (hm:aZ w b es) (h:jA w r b es pre cnt) (ty):
  ((∀x,x∈es.map (·.1)→x∈pre)∧(Instr.next (.pointer (some ⟨r,0,none⟩)) false ty).run prog w= .ok (.tuple #[.bool false]) w)∨
  ∃i,∃hi:i<es.length,∃w' cnt',es[i].1∉pre∧(Instr.next (.pointer (some ⟨r,0,none⟩)) false ty).run prog w= .ok (.tuple #[.bool true,kv es[i].1,es[i].2]) w'∧
   jA w' r b es (pre++[es[i].1]) cnt'∧cnt'<cnt∧w.grownBy w' (some r)∧w'.heap.size=w.heap.size∧(Instr.entry (.pointer (some ⟨r,0,none⟩))).run prog w'= .ok (.tuple #[kv es[i].1,es[i].2]) w':=by
 obtain⟨seen,hr,hs,hnd,hin,rfl⟩:=h;have hold:∀x∈(mE es 0).toArray.toList,x.born<es.length:=fun x hx=>by
  obtain⟨i,hi,rfl⟩:=JF (by simpa using hx);simpa using hi
 rcases run_next_at (P:=prog) w ty r b es.length es.length seen (mE es 0).toArray es.length hr hm.blk hold Aj with⟨h0,hrun⟩|⟨e,he,w1,hal,hrun⟩
 ·refine .inl ⟨fun x hx=>?_,hrun⟩;obtain⟨p,hp,rfl⟩:=dV.1 hx;obtain⟨i,hi,rfl⟩:=iC.1 hp;have:=all_seen _ seen h0 ⟨kv es[i].1,es[i].2,0+i⟩ (by simpa using List.mem_of_getElem? (iH es 0 i hi));exact(hs i hi).1 (by simpa using this)
 ·obtain⟨hem,hes⟩:=mem_left he;have afK:=left_shrinks _ seen e he;obtain⟨i,hi,rfl⟩:=JF (by simpa using hem);have hr1:w1.heap[r]? =some (.mapIter (some b) es.length seen es.length):=by rcases hal with rfl|rfl<;>exact hr
  have hb1:w1.heap[b]? =some (.map (mE es 0).toArray es.length):=by rcases hal with rfl|rfl<;>exact hm.blk
  have hne:r≠b:=fun e=>by rw[e,hb1]at hr1;cases hr1
  have Rs:=MapKept.heap_set (o':= .mapIter (some b) es.length (seen.push (0+i)) es.length) hr1;have hset:(setBlock w1 r (.mapIter (some b) es.length (seen.push (0+i)) es.length)).heap[r]? =some (.mapIter (some b) es.length (seen.push (0+i)) es.length):=Rs.1;have hb':(setBlock w1 r (.mapIter (some b) es.length (seen.push (0+i)) es.length)).heap[b]? =some (.map (mE es 0).toArray es.length):=(Rs.2 b (fun e1=>hne e1.symm)).trans hb1;have hnot:es[i].1∉pre:=fun hp=>by
   have:=(hs i hi).2 hp;simp only[bO]at hes;rw[hes]at this;cases this
  refine .inr ⟨i,hi,_,_,hnot,hrun,⟨seen.push (0+i),hset,fun j hj=>?_,?_,?_,rfl⟩,afK,?_,?_,run_entry_at _ r b _ seen (mE es 0).toArray es.length ⟨kv es[i].1,es[i].2,0+i⟩ hset hb' (by simpa using hem) (by simpa using F8 es 0)⟩
  ·rw[contains_push,gY,iP,bO,Bool.or_eq_true,hs j hj];refine or_congr Iff.rfl ?_;constructor
   ·intro h;have:j=i:=by simpa using h
    subst this;rfl
   ·intro h;have:=hm.idx hj hi h;simp[this]
  ·refine List.nodup_append.2 ⟨hnd,Ah,fun a ha c hc=>?_⟩;rw[iP.1 hc];exact fun e=>hnot (e▸ha)
  ·intro x hx;rcases gY.1 hx with h|h
   ·exact hin x h
   ·rw[iP.1 h];exact dV.2 ⟨es[i],dR hi,rfl⟩
  ·rcases hal with rfl|rfl<;>exact⟨rfl,rfl,rfl,by simp[setBlock],fun k _ hk=>Rs.2 k (fun e1=>hk (by rw[e1]))⟩
  ·rcases hal with rfl|rfl<;>simp[setBlock]
def Rt (x:aU):Array Value:= #[kv x]
def Yv (B:Nat) (X Y:World):Prop:=Below B X Y∧∀(r:Nat) m s se c,X.heap[r]? =some (Obj.mapIter m s se c)→Y.heap[r]? =some (Obj.mapIter m s se c)
def VX (es:List (aU×Value)) (l:List aU):Prop:=l.Nodup∧∀x∈l,x∈es.map (·.1)
def oz (es:List (aU×Value)) (l:List aU):Prop:=l.Nodup∧∀x,x∈l↔x∈es.map (·.1)
theorem F9 (n bx b B es w) (hw:Boxed w bx 156 (.map (some b))) (hm:aZ w b es) (hbx:bx<B) (ni:b<B) (hB:B≤w.heap.size):
  ze n prog 135 #[.pointer (some ⟨bx,0,none⟩)] Rt (Yv B) (VX es) (oz es) w:=by
 intro q J Jx W hK hJ hJx bC h0;obtain⟨hK,-⟩:=hK;have hsz:=hK.size;have hW:Boxed W bx 156 (.map (some b)):=(hK.block bx hbx).trans hw;have hM:aZ W b es:=hm.at_ (hK.block b ni);have dh:=Al bC;have hc0:=hW.cell;have HJ:=Al hJ;clear hw hK bC hJ hJx hm;refine Bu.2 ?_;go_enter func135,ntmps135;have hrg:=JG hM;have hM0:aZ (W.alloc (Obj.mapIter (some b) es.length #[] es.length)) b es:=hM.at_ (Ay _ _ _ hM.lt);have hI0:Kept (∃cnt,jA (W.alloc (Obj.mapIter (some b) es.length #[] es.length)) W.heap.size b es [] cnt):=⟨_,jA.made⟩
 have hj0:Kept (J [] (W.alloc (Obj.mapIter (some b) es.length #[] es.length))):=⟨HJ.1 _ _ _ none h0 (Ga _ _ none) (fun r e=>by cases e)⟩
 have hb0:Below B W (W.alloc (Obj.mapIter (some b) es.length #[] es.length)):=(Ae _ W).alloc om _;clear h0 hM;go_wp2;have hBR:B≤W.heap.size:=om;generalize W.alloc (Obj.mapIter (some b) es.length #[] es.length)=W0 at*;clear hrg hc0;generalize hR:W.heap.size=R at*;have HR:=Al hR;clear hR;go_loopw [] (fun wr=>aZ wr b es∧Below B W wr∧Kept (∃pre cnt,jA wr R b es pre cnt∧J pre wr)) (fun wr=>wr.rangeLeft b R)
 case atStart=>exact⟨hM0,hb0,⟨by obtain⟨cnt,h⟩:=hI0.1;exact⟨_,_,h,hj0.1⟩⟩⟩
 case round=>
  clear hM0 hb0 hI0 hj0;obtain⟨hm,hb,hk⟩:=hrel;obtain⟨pre,cnt,hi,hj⟩:=hk.1;have hleft:=hi.left_eq hm;rcases NT hm hi 0 with⟨hall,hrun⟩|⟨i,hil,w1,cnt1,hnot,hrun,hi1,hlt,hg1,hs1,hen⟩
  ·have hF:Kept (oz es pre∧J pre wr):=⟨⟨by obtain⟨_,_,_,h,_⟩:=hi;exact h,fun x=>⟨by obtain⟨_,_,_,_,h,_⟩:=hi;exact h x,hall x⟩⟩,hj⟩
   clear hall hi hj hk hleft;go_wp2;go_end0;exact⟨⟨_,rfl⟩,.inl ⟨_,hF.1.1,hF.1.2⟩⟩
  ·have hj1:=HJ.1 _ _ _ _ hj hg1 (fun r e=>by cases e;exact⟨om,hi.at_⟩);have hm1:aZ w1 b es:=hm.at_ (hg1.block b hm.lt (fun e=>by cases e;omega));have hz1:wr.heap.size≤w1.heap.size:=om;have hb1:Below B W w1:=hb.grown hg1 (by have h1:=hb.size;rw[HR.1]at h1;omega) (fun g e=>by cases e;omega);have acC:=Al hi1;have VY:=Al hj1;have hp:Kept (VX es (pre++[es[i].1])):=⟨by obtain⟨_,_,_,h1,h2,_⟩:=hi1;exact⟨h1,h2⟩⟩
   have HL:=Al (And.intro hleft hlt);clear hi hj hk hs1 hi1 hj1 hg1 hm hb hnot hleft hlt;generalize es[i].2=v at*;generalize es[i].1=x at*;unfold kv at hrun hen;go_upto_region 3 with(fail)
   have hjA:J pre (w1.alloc (Obj.cells #[.string x.n,.string x.v] 59)):=HJ.1 _ _ _ none VY.1 (Ga _ _ none) (fun r e=>by cases e);obtain⟨fn,tmps,assign,body,hy,qx⟩:=dh.1 pre x _ hjA hp.1;unfold Rt kv at hy;have c0:(w1.alloc (Obj.cells #[.string x.n,.string x.v] 59)).cell? ⟨w1.heap.size,0,none⟩=some (.string x.n):=Aq w1 _ _ _ 0;have c1:(w1.alloc (Obj.cells #[.string x.n,.string x.v] 59)).cell? ⟨w1.heap.size,1,none⟩=some (.string x.v):=Aq w1 _ _ _ 1;have hb3:Below B W (w1.alloc (Obj.cells #[.string x.n,.string x.v] 59)):=hb1.alloc (by have h1:=hb1.size;rw[HR.1]at h1;omega) _;have Jy:aZ (w1.alloc (Obj.cells #[.string x.n,.string x.v] 59)) b es:=hm1.at_ (Ay _ _ _ hm1.lt);have hi3:Kept (jA (w1.alloc (Obj.cells #[.string x.n,.string x.v] 59)) R b es (pre++[x]) cnt1):=⟨by
    obtain⟨seen,h1,h2⟩:=acC.1;exact⟨seen,(Ay _ _ _ (Ge.1 h1).1).trans h1,h2⟩⟩
   clear hjA hm1 acC VY hen hrun hb1;generalize w1.heap.size=Z at*;generalize w1.alloc (Obj.cells #[.string x.n,.string x.v] 59)=w3 at*;have H3:=Al (And.intro hb3 Jy);clear hb3 Jy;refine(BM (n:=n)).1 ?_
   gi_wp2
   refine⟨(fun h=>by simp[Fence.wide]at h),qx.mono ?_⟩;rintro e W' (⟨rfl,hj',hb'⟩|⟨rfl,qV⟩)
   ·have B2:=Al hb';have J2:=Al hj';clear hj' hb' c0 c1 hy qx
    gi_wp2
    go_wp2;go_roundw
    case rel=>
     have ZC:aZ W' b es:=H3.1.2.at_ (B2.1.1.block b ni);refine⟨ZC,H3.1.1.trans B2.1.1,⟨_,cnt1,?_,J2.1⟩⟩;obtain⟨seen,h1,h2⟩:=hi3.1;exact⟨seen,B2.1.2 _ _ _ _ _ h1,h2⟩
    case measure=>
     have ZC:aZ W' b es:=H3.1.2.at_ (B2.1.1.block b ni);have hi4:jA W' R b es (pre++[x]) cnt1:=by
      obtain⟨seen,h1,h2⟩:=hi3.1;exact⟨seen,B2.1.2 _ _ _ _ _ h1,h2⟩
     rw[hi4.left_eq ZC,HL.1.1];exact HL.1.2
   ·have X2:=Al qV;clear qV c0 c1 hy qx
    gi_wp2
    go_wp2;exact Bg (Cm rfl _ _ _) rfl ⟨⟨_,rfl⟩,.inr ⟨_,X2.1⟩⟩
end
section
open Go.RowKit Go.Shelf
attribute [local go_sem] Oper.semAt_some
theorem cu {α:Type} [DecidableEq α]:∀(l m:List α),l.Nodup→(∀x∈l,x∈m)→l.length≤m.length
 |[],_,_,_=>bf _
 |a::l,m,hn,hs=>by
  obtain⟨h1,h2⟩:=List.nodup_cons.1 hn;have ha:=hs a Ah;have:=cu l (m.erase a) h2 (fun x hx=>(List.mem_erase_of_ne (show x≠a from fun e=>h1 (by rw[←e];exact hx))).2 (hs x (by simp[hx])));rw[List.length_erase_of_mem ha]at this;have:=List.length_pos_of_mem ha;simp only[Lc];omega
def vY (w:World) (pre:List aU) (W:World):Prop:=
 ∃A n c,Boxed W w.heap.size 54 (.slice A n c)∧aJ W (w.heap.size+1) A n c pre∧Below w.heap.size w W
theorem vY.own {w}:aI (w.heap.size+1) (fun _=>False) (vY w):=by
 rintro s W W' row ⟨A,n,c,hb,ho,hbel⟩ hg hr;have hrow:∀r,row=some r→w.heap.size<r:=fun r e=>by
  rcases hr r e with h|⟨h,_⟩
  ·exact h.elim
  ·omega
 refine⟨A,n,c,hb.kept hg (fun e=>by have:=hrow _ e.symm;omega),eG ho hg (fun r e=>?_),hbel.grown hg hbel.size (fun g e=>by have:=hrow g e;omega)⟩;rcases hr r e with h|⟨_,h⟩
 ·exact h.elim
 ·exact .inr h
def qM (W:World) (q:Nat) (x:aU):Prop:=W.heap[q]? =some (Obj.cells #[.string x.n,.string x.v] 59)
theorem qM.own {B W W' q x row} (h:qM W q x) (hg:W.grownBy W' row) (hr:∀r,row=some r→False∨(B≤r∧∃o:Obj,W.heap[r]? =some o∧o.isCells=false)):qM W' q x:=by
 unfold qM at h⊢;rw[hg.block q (Ge.1 h).1]
 ·exact h
 ·intro e;rcases hr q e.symm with h1|⟨_,o,ho,hoc⟩
  ·exact h1
  ·rw[h]at ho;cases ho;cases hoc
theorem qM.cells {W q x} (h:qM W q x):W.cell? ⟨q,0,none⟩=some (.string x.n)∧W.cell? ⟨q,1,none⟩=some (.string x.v):=by
 unfold qM at h;refine⟨?_,?_⟩<;>simp[World.cell?,h]
theorem dH.afL (w:World) (x:aU):Rd (w.alloc (.cells #[.string x.n,.string x.v] 59)) (w.heap.size+1) 2 (some ⟨w.heap.size,0,none⟩) 1 1 [.string x.n,.string x.v]:=
 dH.lit w [x] (0,0) Ah
theorem Yv.others {B W W'} (hb:Below B W W') (hk:KeepsOthers W W'):Yv B W W':=
 ⟨hb,fun r _ _ _ _ h=>hk.same r _ h rfl⟩
theorem vY.push {w W w5 A A4 n c c4 pre x tmp} (hW:w.heap.size+1≤W.heap.size) (hb:Boxed W w.heap.size 54 (.slice A n c)) (ho:aJ W (w.heap.size+1) A n c pre) (hbel:Below w.heap.size w W)
  (hown:w5.ownsRow (w.heap.size+1) 59 2 (.slice A4 (n+1) c4) (n+1) (mQ pre++[.string x.n,.string x.v])) (hg:(W.alloc tmp).grownBy w5 (ab A)):
  KeepsFrom (w.heap.size+1) W (w5.setCell ⟨w.heap.size,0,none⟩ (.slice A4 (n+1) c4))∧Yv w.heap.size W (w5.setCell ⟨w.heap.size,0,none⟩ (.slice A4 (n+1) c4))∧vY w (pre++[x]) (w5.setCell ⟨w.heap.size,0,none⟩ (.slice A4 (n+1) c4)):=by
 have hlt:∀g,ab A=some g→w.heap.size+1≤g:=fun g e=>(ae ho g e).1
 have IQ:∀g,ab A4=some g→w.heap.size+1≤g:=fun g e=>(ae hown g e).1
 have hcl:∀j o,ab A=some j→(W.alloc tmp).heap[j]? =some o→o.isCells=true:=jQ (Oa ho tmp);have gs:=grownBy_setCell' w5 w.heap.size (.slice A4 (n+1) c4);have hb1:Below w.heap.size W w5:=((Ae _ W).alloc om tmp).grown hg (by simp;omega) (fun g e=>by have:=hlt g e;omega);have hb2:Below w.heap.size W (w5.setCell ⟨w.heap.size,0,none⟩ (.slice A4 (n+1) c4)):=hb1.setCell (p:=⟨w.heap.size,0,none⟩) Aj _;have hko:KeepsOthers W (w5.setCell ⟨w.heap.size,0,none⟩ (.slice A4 (n+1) c4)):=((Eu W _).trans (C9 hg hcl)).trans (CB _ _ _);refine⟨hko.from _,Yv.others hb2 hko,A4,n+1,c4,?_,?_,hbel.trans hb2⟩
 ·refine Boxed.set _ ((hb.alloc tmp).kept hg (fun e=>?_));have:=hlt _ e.symm;omega
 ·have e:mQ pre++[.string x.n,.string x.v]=mQ (pre++[x]):=by rw[sO];rfl
  rw[e]at hown;exact eG hown gs (fun r e=> .inl fun e2=>by cases e;have:=IQ _ e2;omega)
theorem uj (bx b es w) (hw:Boxed w bx 156 (.map (some b))) (hm:aZ w b es) (hn:es.length≤1000000):
  Calls prog 183 #[.slice none 0 0,.func (.func 135) #[] #[.pointer (some ⟨bx,0,none⟩)]] w fun e w'=>∃A2 n2 c2 l,e= .returned (.slice A2 n2 c2)∧oz es l∧aJ w' w.heap.size A2 n2 c2 l∧Below w.heap.size w w':=by
 have hbx:=hw.lt;have hbb:=hm.lt;have YV:Kept (∀o o',ze 8 prog 135 #[.pointer (some ⟨bx,0,none⟩)] Rt (Yv w.heap.size) (VX es) (oz es) ((w.alloc o).alloc o')):=
  ⟨fun o o'=>F9 8 bx b w.heap.size es _ ((hw.alloc o).alloc o') (hm.at_ ((Ay _ _ _ (by simp;omega)).trans (Ay _ _ _ hbb))) hbx hbb (by simp;omega)⟩
 have HN:=Al hn;clear hw hm hn;refine(Bu (n:=9)).1 ?_;refine CG func183 rfl trivial ?_ rfl;simp only[ntmps183,Cq,Lc,Ba,Nat.reduceAdd,Nat.reduceSub,Cv,Cx,Da,CJ,AB,Bc];refine BM.2 ?_;go_wp2;have bB:=Bo w 54 (.slice none 0 0);have hsz:(w.alloc (.cells #[.slice none 0 0] 54)).heap.size=w.heap.size+1:=Ah;have g0:Below w.heap.size w (w.alloc (.cells #[.slice none 0 0] 54)):=(Ae _ _).alloc Aj _;have Y4:=YV.1 (.cells #[.slice none 0 0] 54);clear YV;generalize w.alloc (.cells #[.slice none 0 0] 54)=w4 at*;refine(BM (n:=9)).1 ?_;refine NS Ai (gf:=135) (lb:= #[.pointer (some ⟨bx,0,none⟩)]) rfl (BR func135 kr rfl)
  (encs:=Rt) (Kp:=Yv w.heap.size) (Pre:=VX es) (Full:=oz es) Y4
  (fun h k=>⟨h.1.trans k.1,fun r m s se c hr=>k.2 r m s se c (h.2 r m s se c hr)⟩)
  (fun W W' row hW hg hr=>⟨(Ae _ W).grown hg om (fun g e=>by have:=(hr g e).1;omega),fun r m s se c h=>(hg.block r (Ge.1 h).1 (fun e=>by obtain⟨_,L,hL⟩:=hr r e.symm;rw[h]at hL;cases hL)).trans h⟩) (fun _=>rfl)
  (vY w) (fun _ _ _=>False)
  (fun pre x a₁ W=>vY w pre W∧∃q,qM W q x∧
   a₁={tmps:= #[.slice none 0 0,.func (.func 135) #[] #[.pointer (some ⟨bx,0,none⟩)],.pointer (some ⟨w.heap.size,0,none⟩),undef,.slice none 0 0,.pointer (some ⟨q,0,none⟩),.func (.func 135) #[] #[.pointer (some ⟨bx,0,none⟩)],
    kv x,undef,undef,undef,undef,undef],defers:=[]})
  ?hI (fun _ _ _ _ _ h _ _=>h) ?hM ?h0 ?assign ?body ?done ?stop
 case hI=>rw[hsz];exact vY.own
 case hM=>
  rw[hsz];rintro pre p a₁ u W W' row ⟨hI,q,hq,ha⟩ hgr hr;exact⟨vY.own _ _ _ _ hI hgr hr,q,hq.own hgr hr,ha⟩
 case h0=>exact⟨none,0,0,bB,Bb _ _ _ _,g0⟩
 case assign=>
  rintro q pre x W hI hpre hW;unfold Rt kv
  gi_wp2
  have hk:=Eu W (Obj.cells #[.string x.n,.string x.v] 59);exact⟨hk.from _,Yv.others ((Ae _ W).alloc om _) hk,vY.own _ _ _ none hI (Ga _ _ none) (fun r e=>by cases e),W.heap.size,(MapKept.heap_alloc W _).1,rfl⟩
 case body=>
  rintro q pre x a₁ W ⟨⟨A',n',c',hb,ho,hbel⟩,z,hz,rfl⟩ hpre hW;have hl1:n'≤1000000:=by
   have h1:=ho.len;have h2:(pre++[x]).length≤(es.map (·.1)).length:=cu _ _ hpre.1 hpre.2;have h3:=HN.1;simp at h2;omega
  have hcO:=hb.cell;have Hb:=Al hb;have vI:=Al ho;have HB:=Al hbel;have hlo:∀g,ab A'=some g→w.heap.size+1≤g:=fun g e=>(ae ho g e).1
  have Yr:=Al hlo;obtain⟨hz0',hz1'⟩:=hz.cells;clear hb ho hbel hlo hz;unfold kv;obtain⟨i0,hi0,hz0,hz1,hz2⟩:=AY Qv;have h1c:Kept (∀u∈[Value.string x.n,Value.string x.v],u.oneCell'=true):=⟨by simp;exact⟨rfl,rfl⟩⟩
  gi_wp2_with (gi_at_builtin;refine eY _ rfl (.tmp 8) (.tmp 10) _ rfl (w.heap.size+1) 59 i0 (.agg #[.string ByteArray.empty,.string ByteArray.empty]) 2 32 underlying54 hi0 hz0 hz1 hz2 rfl Ai A' n' c' _ rfl (Oa vI.1 _) (W.heap.size+1) _ _ _ [.string x.n,.string x.v] rfl (dH.afL W x) h1c.1 (by unfold maxLen;omega) om (by simp;omega) ?_;intro A4 c4 w5 au af bT;have nD:Boxed w5 w.heap.size 54 (.slice A' n' c'):=(Hb.1.alloc _).kept af (fun e=>by have:=Yr.1 _ e.symm;omega);have UQ:=nD.cell;have UR:=nD.frozen)
  rw[hsz];exact vY.push om Hb.1 vI.1 HB.1 au af
 case done=>
  rintro D W hD ⟨L,hF,A',n',c',hb,ho,hbel⟩ hK;have hc:=hb.cell;have vI:=Al ho;have HB:=Al hbel;have HF:=Al hF;clear ho hbel hF;go_wp2;refine⟨Ah,.inl ⟨_,_,rfl,CV hK,?_⟩⟩;have hgo:W.grownBy (W.putObj D (.deferred none)) (some D):=Bn W D _;have hb2:=eG vI.1 hgo (fun r e=>by cases e;exact .inr ⟨_,hK,rfl⟩);refine⟨_,results_tmp rfl _ _ _,A',n',c',L,rfl,HF.1,?_,HB.1.grown hgo HB.1.size (fun g e=>by cases e;omega)⟩;exact⟨hb2.1,hb2.2.imp id fun⟨g,cap,cur,h1,h2,h3⟩=>⟨g,cap,cur,h1,om,h3⟩⟩
 case stop=>
  rintro D c pre W _ h _;exact h.elim
theorem zf (bx b es w) (hw:Boxed w bx 156 (.map (some b))) (hm:aZ w b es) (hn:es.length≤1000000):
  Calls prog 133 #[.func (.func 135) #[] #[.pointer (some ⟨bx,0,none⟩)]] w fun e w'=>∃A2 n2 c2 l,e= .returned (.slice A2 n2 c2)∧oz es l∧aJ w' w.heap.size A2 n2 c2 l∧Below w.heap.size w w':=by
 have AP:=Al (uj bx b es w hw hm hn);clear hw hm hn;go_enter func133,ntmps133;go_wp2_with (go_at_call 183;refine AP.1.mono ?_;rintro e w1 ⟨A2,n2,c2,l,rfl,hf,ho,hb⟩;have O:=Al ho;have B:=Al hb;have F:=Al hf;clear ho hb hf);go_ret;exact⟨A2,n2,c2,l,rfl,F.1,O.1,B.1⟩
theorem NU (b w):Calls prog 79 #[.map (some b)] w fun e w'=>
  e= .returned (.func (.func 135) #[] #[.pointer (some ⟨w.heap.size,0,none⟩)])∧w'=w.alloc (.cells #[.map (some b)] 156):=by
 go_enter func79,ntmps79;go_wp2;go_ret;exact⟨rfl,rfl⟩
end
end
section
section
open Go.RowKit Go.Shelf
namespace Lb
theorem VZ {a b}:ZL a b<0↔a<0∨(a=0∧b<0):=by
 unfold ZL;split<;>omega
def Gb (x y:aU):Bool:=decide (pc x y<0)
theorem zg {x y}:Gb x y=true↔St.lt x.n y.n=true∨(x.n=y.n∧St.lt x.v y.v=true):=by
 unfold Gb pc;rw[Em,VZ,St.nL,St.nL,St.dM]
theorem LD:ltOf pc=Gb:=by
 funext x y
 rfl
theorem iI (x):Gb x x=false:=by
 apply Dh.2;intro h;rcases zg.1 h with h|⟨_,h⟩<;>exact absurd h (by simp[St.irrefl])
theorem lQ {x y z} (h1:Gb x y=true) (h2:Gb y z=true):Gb x z=true:=by
 rw[zg]at h1 h2⊢;rcases h1 with h1|⟨e1,h1⟩
 ·rcases h2 with h2|⟨e2,h2⟩
  ·exact .inl (St.trans h1 h2)
  ·exact .inl (by rw[←e2];exact h1)
 ·rcases h2 with h2|⟨e2,h2⟩
  ·exact .inl (by rw[e1];exact h2)
  ·exact .inr ⟨e1.trans e2,St.trans h1 h2⟩
theorem xz {x y} (h:x≠y):Gb x y=true∨Gb y x=true:=by
 simp only[zg];by_cases hn:x.n=y.n
 ·have hv:x.v≠y.v:=fun e=>h (by cases x;cases y;simp_all)
  cases a:St.lt x.v y.v with
  |true=>exact .inl (.inr ⟨hn,rfl⟩)
  |false=>
   cases b:St.lt y.v x.v with
   |true=>exact .inr (.inr ⟨hn.symm,rfl⟩)
   |false=>exact absurd (St.total a b) hv
 ·cases a:St.lt x.n y.n with
  |true=>exact .inl (.inl rfl)
  |false=>
   cases b:St.lt y.n x.n with
   |true=>exact .inr (.inl rfl)
   |false=>exact absurd (St.total a b) hn
theorem JH {x y z} (h1:Gb x y=false) (h2:Gb y z=false):Gb x z=false:=by
 apply Dh.2;intro h;by_cases e:y=z
 ·subst e;rw[h1]at h;cases h
 ·rcases xz e with h3|h3
  ·rw[h2]at h3;cases h3
  ·rw[lQ h h3]at h1;cases h1
theorem swo:Sort.SWO (ltOf pc):=by
 rw[LD];exact⟨iI,fun x y z h1 h2=>lQ h1 h2,fun x y z h1 h2=>JH h1 h2⟩
end Lb
namespace Lb
theorem zh (x):(mi x).length=2:=rfl
theorem LH (x):∀v∈mi x,v.oneCell'=true:=by
 intro v hv;simp[mi]at hv;rcases hv with rfl|rfl<;>rfl
theorem flat_get (l t) (ht:t<l.length*2):(mQ l)[t]? =some ((Sort.flatK mi 2 l.toArray)[t]!):=by
 have hq:t/2<l.length:=om;have e:=lD l (t/2) (t%2) hq om;rw[show t/2*2+t%2=t from om]at e;rw[e,Sort.get_flatK _ _ _ _ (by simpa using ht)];have hx:l.toArray[t/2]! =l[t/2]:=by simp[hq]
 rw[hx];have h2:t%2< (mi l[t/2]).length:=by rw[zh];omega
 rw[kC h2];simp[h2]
theorem xA {w base g n c l} (h:aJ w base (some ⟨g,0,none⟩) n c l):Sort.HoldsK mi 2 w g 0 l.toArray:=by
 intro j hj;have hn:=h.len;rw[Sort.size_flatK]at hj;have hj':j<l.length*2:=by simpa using hj
 rw[bO];refine⟨?_,AX h j⟩;rw[Bq h j om,flat_get l j hj']
 rfl
theorem Gc {w g B n c d} (hB:g<B) (hc:n≤c) (hm:c≤maxLen) (hn:d.size=n) (h:Sort.HoldsK mi 2 w g 0 d):dH w B (some ⟨g,0,none⟩) n c d.toList:=by
 refine⟨hc,hm,by rw[dW];simp[hn],fun _=>⟨g,0,rfl,hB,fun i u hu=>?_⟩⟩;have hi:i<d.size*2:=by
  have:=(l5.1 hu).1;rw[dW]at this;simpa using this
 have h1:=(h i (by rw[Sort.size_flatK];exact hi)).1;have h2:=flat_get d.toList i (by simpa using hi);rw[show d.toList.toArray=d from Ah]at h2;rw[h1,←hu,h2]
 rfl
end Lb
theorem gP {w base g m d os} (hg:base≤g) (hb:base≤w.heap.size):Below base w (sortWorldK mi 2 w g 0 m d os):=by
 refine⟨rfl,rfl,rfl,?_,fun k hk=>?_⟩
 ·unfold sortWorldK Sort.putRowK Sort.putRow Sort.mapBlock;rw[Sort.size_grow];simp[Sort.ahead]
 ·unfold sortWorldK Sort.putRowK Sort.putRow Sort.mapBlock;have hsz:k< ((Sort.ahead w m).heap.modify g (Sort.onCells (Sort.putCells id 0 (Sort.flatK mi 2 d)))).size:=by simp[Sort.ahead];omega
  rw[Sort.heap_grow_old _ _ hsz];simp[Sort.ahead,DU,show g≠k from om]
theorem NV (g n c base l w) (ho:aJ w base (some ⟨g,0,none⟩) n c l) (hb:base≤w.heap.size) (hn:n≤4398046511104):
  Calls prog 134 #[.slice (some ⟨g,0,none⟩) n c,.func (.func 80) #[] #[]] w fun e w'=>
   e= .returned (.tuple #[])∧∃d:Array aU,Sort.PermIn 0 l.toArray.size l.toArray d∧Sort.SortedIn Lb.Gb 0 l.toArray.size d∧dH w' w.heap.size (some ⟨g,0,none⟩) n c d.toList∧Below base w w':=by
 have hlen:=ho.len;have hgl:=ae ho g rfl;have hrd:=ho.rd;have eg:∀args w,(callFunc 80 args).run prog w= .ok (.enter 80 args) w:=BR func80 kr rfl;have hH:=Lb.xA ho;have hcmp:CmpLays prog 80 #[] mi 2 Lb.pc g 0 l.toArray.size w:=by
  intro m os dk hdk x y;exact(ow x y _).mono fun e w' ⟨h1,q,os',h2⟩=>⟨h1,q,os',h2⟩
 have ig:=AnyQ.slices_SortFunc Tryz.sortL 2 Tryz.isAgg59 Tryz.sizeOf59 mi Lb.zh Lb.LH Lb.pc Lb.swo 80 #[] g 0 c l.toArray w eg hcmp hH hgl.2 (by simp;omega)
 change Calls prog 134 _ _ _ at ig
 rw[show l.toArray.size=n by simp[hlen]]at ig⊢;refine ig.mono fun e w' ⟨h1,d,m,os,h2,h3,h4⟩=>⟨h1,d,h2,by rw[←Lb.LD];exact h3,?_,by rw[h4];exact gP hgl.1 hb⟩
 rw[h4];have hds:d.size=n:=by have:=h2.1;simp at this;omega
 exact Lb.Gc hgl.2 hrd.1 hrd.2.1 hds (holdsK_sortWorldK_c mi 2 w g 0 l.toArray d m os hH hgl.2 (by simp;omega))
theorem JI (A c fv w):
  Calls prog 134 #[.slice A 0 c,fv] w fun e w'=>e= .returned (.tuple #[])∧w'=w:=
 AnyF.slices_SortFunc_none Tryz.sortL A c fv w
end
end
section
section
open Go.RowKit Go.Shelf
namespace Lb
def kS (l:List aU):Prop:=l.Pairwise fun x y=>Gb x y=true
theorem qN {l:List aU} {d} (hp:Sort.PermIn 0 l.toArray.size l.toArray d):d.toList.Perm l:=by
 have h:=hp.2.2;have h1:=hp.1;rw[←h1,Array.extract_size]at h;rw[h1,Array.extract_size]at h;simpa using h
theorem zi {l:List aU} {d} (hp:Sort.PermIn 0 l.toArray.size l.toArray d) (hs:Sort.SortedIn Gb 0 l.toArray.size d) (hn:l.Nodup):kS d.toList:=by
 have hperm:=qN hp;have hnd:d.toList.Nodup:=hperm.nodup_iff.2 hn;have hsz:=hp.1;unfold kS;rw[AF];intro i j hi hj hij;have hi':i<d.size:=by simpa using hi
 have hj':j<d.size:=by simpa using hj
 have h:=hs i j (bf _) hij om;rw[show d[j]! =d[j]by simp[hj'],show d[i]! =d[i]by simp[hi']]at h;have hne:d.toList[i]≠d.toList[j]:=(AF.1 hnd) i j hi hj hij;simp only[Array.getElem_toList]at hne⊢;rcases xz hne with h1|h1
 ·exact h1
 ·rw[h]at h1;cases h1
end Lb
theorem uk (bx b es w) (hw:Boxed w bx 156 (.map (some b))) (hm:aZ w b es) (hn:es.length≤1000000):
  Calls prog 78 #[.func (.func 135) #[] #[.pointer (some ⟨bx,0,none⟩)],.func (.func 80) #[] #[]] w fun e w'=>
   ∃A2 n2 c2 l,e= .returned (.slice A2 n2 c2)∧oz es l∧Lb.kS l∧dH w' w'.heap.size A2 n2 c2 l∧Below w.heap.size w w':=by
 have CO:=Al (zf bx b es w hw hm hn);have SO:Kept (∀(w1:World) A2 n2 c2 l,oz es l→aJ w1 w.heap.size A2 n2 c2 l→Below w.heap.size w w1→Calls prog 134 #[.slice A2 n2 c2,.func (.func 80) #[] #[]] w1 fun e w'=>e= .returned (.tuple #[])∧∃l,oz es l∧Lb.kS l∧dH w' w'.heap.size A2 n2 c2 l∧Below w.heap.size w w'):=⟨by
  intro w1 A2 n2 c2 l hf ho hb;have hln:=ho.len;have hle:l.length≤(es.map (·.1)).length:=cu _ _ hf.1 (fun x hx=>(hf.2 x).1 hx);rw[fM]at hle;rcases lY n2 with h0|h0
  ·subst h0;obtain rfl:l=[]:=qU hln.symm;exact(JI A2 c2 _ w1).mono fun e w' ⟨h1,h2⟩=>⟨h1,[],hf,List.Pairwise.nil,by rw[h2];exact ho.rd,by rw[h2];exact hb⟩
  ·obtain⟨g,rfl,hg1,hg2⟩:=gG ho h0;refine(NV g n2 c2 w.heap.size l w1 ho hb.size om).mono ?_;rintro e w' ⟨h1,d,h2,h3,h4,h5⟩;have hp:=Lb.qN h2;exact⟨h1,d.toList,⟨hp.nodup_iff.2 hf.1,fun x=>(hp.mem_iff).trans (hf.2 x)⟩,Lb.zi h2 h3 hf.1,h4.more h5.size,hb.trans h5⟩⟩
 clear hw hm hn;go_enter func78,ntmps78;go_wp2_with (first
  |(go_at_call 133;refine CO.1.mono ?_;rintro e w1 ⟨A2,n2,c2,l,rfl,hf,ho,hb⟩;have O:=Al ho;have B:=Al hb;have F:=Al hf;clear ho hb hf)
  |(go_at_call 134;refine(SO.1 w1 A2 n2 c2 l F.1 O.1 B.1).mono ?_;rintro e w2 ⟨rfl,hr⟩;have R:=Al hr;clear hr))
 go_ret;obtain⟨l2,h1,h2,h3,h4⟩:=R.1;exact⟨A2,n2,c2,l2,rfl,h1,h2,h3,h4⟩
end
section
namespace Ps
def gT:List (List aU)→Nat→List (aU×Int)
 |[],_=>[]
 |m::M,k=>m.map (fun x=>(x,(k:Int)))++gT M (k+1)
def fE (x:aU) (P:List (aU×Int)):List Int:=(P.filter fun p=>decide (p.1=x)).map (·.2)
theorem lS (x P Q):fE x (P++Q)=fE x P++fE x Q:=by simp[fE]
theorem zk (x v):fE x [(x,v)]=[v]:=by simp[fE]
theorem um {x y} (h:y≠x) (v):fE x [(y,v)]=[]:=by simp[fE,h]
theorem Gd {x P} (h:x∉P.map (·.1)):fE x P=[]:=by
 unfold fE;rw[List.map_eq_nil_iff,List.filter_eq_nil_iff];intro p hp e;exact h (dV.2 ⟨p,hp,by simpa using e⟩)
structure zl (P:List (aU×Int)) (E:List eX):Prop where
 srt:Lb.kS (E.map (·.1))
 mem:∀x,x∈E.map (·.1)↔x∈P.map (·.1)
 fE:∀e∈E,e.2=fE e.1 P
theorem xB:∀{a b},Lb.kS a→Lb.kS b→(∀x,x∈a↔x∈b)→a=b
 |[],[],_,_,_=>rfl
 |[],y::b,_,_,h=>absurd ((h y).2 Ah) Ah
 |x::a,[],_,_,h=>absurd ((h x).1 Ah) Ah
 |x::a,y::b,ha,hb,h=>by
  obtain⟨ha1,ha2⟩:=BH.1 ha;obtain⟨hb1,hb2⟩:=BH.1 hb;have e:x=y:=by
   rcases iW.1 ((h x).1 Ah)with e|h1
   ·exact e
   ·rcases iW.1 ((h y).2 Ah)with e|h2
    ·exact e.symm
    ·have:=Lb.lQ (ha1 y h2) (hb1 x h1);rw[Lb.iI]at this;cases this
  subst e;rw[xB ha2 hb2 fun z=>?_];constructor
  ·intro hz;rcases iW.1 ((h z).1 (by simp[hz]))with e|h1
   ·subst e;have:=ha1 z hz;rw[Lb.iI]at this;cases this
   ·exact h1
  ·intro hz;rcases iW.1 ((h z).2 (by simp[hz]))with e|h1
   ·subst e;have:=hb1 z hz;rw[Lb.iI]at this;cases this
   ·exact h1
theorem LJ:∀{E E':List eX},E.map (·.1)=E'.map (·.1)→(∀e∈E,∀e'∈E',e.1=e'.1→e.2=e'.2)→E=E'
 |[],[],_,_=>rfl
 |[],_::_,h,_=>by simp at h
 |_::_,[],h,_=>by simp at h
 |a::E,b::E',h,hs=>by
  simp only[AJ,List.cons.injEq]at h;rw[LJ h.2 fun e he e' he'=>hs e (by simp[he]) e' (by simp[he'])];have:=hs a Ah b Ah h.1;rw[show a=b from BC h.1 this]
theorem zl.uniq {P E E'} (h:zl P E) (h':zl P E'):E=E':=
 LJ (xB h.srt h'.srt fun x=>(h.mem x).trans (h'.mem x).symm) fun e he e' he' hx=>by rw[h.fE e he,h'.fE e' he',hx]
def PK (P:List (aU×Int)) (es:List eX):Prop:=(∀x,x∈es.map (·.1)↔x∈P.map (·.1))∧∀e∈es,e.2=fE e.1 P
theorem PK.nil:PK [] []:=⟨Ah,Ah⟩
theorem PK.hit {P es} (h:PK P es) (hd:(es.map (·.1)).Nodup) {i} (hi:i<es.length) (v):
  PK (P++[(es[i].1,v)]) (es.set i (es[i].1,es[i].2++[v])):=by
 have hk:(es.set i (es[i].1,es[i].2++[v])).map (·.1)=es.map (·.1):=by
  rw[Ex];apply CW Ah;intro j h1 h2;rw[List.getElem_set];split
  ·next e=>subst e;simp
  ·rfl
 refine⟨fun x=>?_,fun e he=>?_⟩
 ·rw[hk,h.1,dN,gY];refine⟨.inl,fun hx=>?_⟩;rcases hx with hx|hx
  ·exact hx
  ·have hx2:x=es[i].1:=by simpa using hx
   rw[hx2];exact(h.1 _).1 (dV.2 ⟨es[i],dR hi,rfl⟩)
 ·obtain⟨j,hj,rfl⟩:=iC.1 he;rw[List.getElem_set];have hj':j<es.length:=by simpa using hj
  split
  ·next e=>
   show es[i].2++[v]=fE es[i].1 _;rw[lS,zk,←h.2 _ (dR hi)]
  ·next e=>
   have hne:es[i].1≠es[j].1:=fun e1=>e ((List.getElem_inj (h₀:=by simpa using hi) (h₁:=by simpa using hj') hd).1 (by simpa using e1))
   rw[lS,um hne,Bh];exact h.2 _ (dR hj')
theorem PK.fresh {P es} (h:PK P es) {x} (hx:x∉es.map (·.1)) (v):PK (P++[(x,v)]) (es++[(x,[v])]):=by
 refine⟨fun y=>?_,fun e he=>?_⟩
 ·rw[dN,dN,gY,gY,h.1];simp
 ·rcases gY.1 he with h1|h1
  ·have hne:x≠e.1:=fun e1=>hx (by rw[e1];exact dV.2 ⟨e,h1,rfl⟩)
   rw[lS,um hne,Bh];exact h.2 e h1
  ·rw[iP.1 h1];show[v]=fE x _;rw[lS,zk,Gd fun hp=>hx ((h.1 x).2 hp)]
   rfl
end Ps
end
end
section
section
open Go.RowKit
def l8 (w:World) (B:Nat) (A:Option Addr) (n c:Nat) (LL:List (List aU)):Prop:=
 ∃vs:List Value,Rd w B 1 A n c vs∧vs.length=LL.length∧∀(i:Nat) (l:List aU),LL[i]? =some l→∃A' n' c',vs[i]? =some (.slice A' n' c')∧dH w B A' n' c' l
section
variable {w w':World} {B n c:Nat} {A:Option Addr} {LL:List (List aU)}
theorem l8.below (h:l8 w B A n c LL) (hb:Below B w w'):l8 w' B A n c LL:=by
 obtain⟨vs,h1,h2,h3⟩:=h;refine⟨vs,h1.below hb,h2,fun i l hl=>?_⟩;obtain⟨A',n',c',e,hr⟩:=h3 i l hl;exact⟨A',n',c',e,hr.below hb⟩
theorem l8.more {B'} (h:l8 w B A n c LL) (hB:B≤B'):l8 w B' A n c LL:=by
 obtain⟨vs,h1,h2,h3⟩:=h;refine⟨vs,h1.more hB,h2,fun i l hl=>?_⟩;obtain⟨A',n',c',e,hr⟩:=h3 i l hl;exact⟨A',n',c',e,hr.more hB⟩
theorem l8.len (h:l8 w B A n c LL):n=LL.length:=by
 obtain⟨vs,h1,h2,_⟩:=h;have:=h1.2.2.1;omega
theorem l8.cap (h:l8 w B A n c LL):n≤c∧c≤maxLen:=by
 obtain⟨vs,h1,_⟩:=h;exact⟨h1.1,h1.2.1⟩
theorem l8.at_ {k} (h:l8 w B A n c LL) (hk:k<LL.length):
  ∃b off A' n' c',A=some ⟨b,off,none⟩∧b<B∧w.cell? ⟨b,off+k,none⟩=some (.slice A' n' c')∧dH w B A' n' c' LL[k]:=by
 have hn:=h.len;obtain⟨vs,h1,h2,h3⟩:=h;obtain⟨b,off,u,e,hb,hu,hc⟩:=h1.at_ (k:=k) om;obtain⟨A',n',c',e',hr⟩:=h3 k LL[k] (kC hk);rw[hu]at e'
 injection e' with e'
 subst e';exact⟨b,off,A',n',c',e,hb,hc,hr⟩
end
theorem Rv:(prog.info? 54).map (fun i=>(i.zero,i.size,i.bytes))=some (some (.slice none 0 0),1,24):=kr
end
end
section
section
open Go.RowKit Go.Shelf
namespace Ps
def wt (M:List (List aU)):Nat:=(M.map fun m=>1+m.length).sum
def Sets (M:List (List aU)):Prop:=(∀m∈M,Lb.aN m∧Lb.Fit m)∧wt M≤1000000
theorem JJ (M):M.length≤wt M:=by
 unfold wt
 induction M with
 |nil=>simp
 |cons m M ih=>simp only[AJ,Bv,Lc];omega
end Ps
end
end
end Go.Proofs.YtongopommlghgaaGreatDoor
