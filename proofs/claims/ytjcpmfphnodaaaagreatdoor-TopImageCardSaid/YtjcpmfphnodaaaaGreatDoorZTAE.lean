/- Part 5. -/
import Derived.Test.YtjcpmfphnodaaaaGreatDoorZTAD
import Derived.Lib.SmallJoins
namespace Go.Proofs.YtjcpmfphnodaaaaGreatDoor
set_option maxRecDepth 100000
set_option maxHeartbeats 0
open _root_.Go.Proofs.Tryz
section
section
open Go.RowKit Go.Shelf
namespace Ly
def gJ (m:Nat→Nat) (k:Nat):List UInt8:=(List.range k).flatMap fun i=>Vi.enc (m i)
theorem kJ (m) (k):gJ m (k+1)=gJ m k++Vi.enc (m k):=by unfold gJ;rw[List.range_succ,oV];simp
theorem xW (m) (hm:∀i,m i≤140737488355328) (k):(gJ m k).length≤10*k:=by
 induction k with
 |zero=>simp[gJ]
 |succ k ih=>
  have:=Vi.bC (m k) (by have:=hm k;omega);rw[kJ,La];omega
def jF (m:Nat→Nat):Array Value:= #[.int .i64 (m 0:Int),.int .i64 (m 1:Int),.int .i64 (m 2:Int),.int .i64 (m 3:Int),.int .i64 (m 4:Int)]
theorem aB (m) (k) (h:k<5):(jF m)[k]? =some (.int .i64 (m k:Int)):=by
 match k,h with
 |0,_=>rfl
 |1,_=>rfl
 |2,_=>rfl
 |3,_=>rfl
 |4,_=>rfl
end Ly
theorem nH (m) (w) (hm:∀i,m i≤140737488355328):
  Calls prog 90 #[.agg (Ly.jF m)] w fun e w'=>∃A n c,e= .returned (.slice A n c)∧ah w' w.heap.size A n c (Ly.gJ m 4)∧Below w.heap.size w w':=by
 obtain⟨W1,hW1⟩:∃W1,W1=w.alloc (.cells (Ly.jF m) 128):=⟨_,rfl⟩
 have hb0:Kept (Below w.heap.size w W1):=⟨by rw[hW1];exact(Ae _ w).alloc Ai _⟩
 have hz0:Kept (W1.heap.size=w.heap.size+1):=⟨by rw[hW1];simp⟩
 have hz1:w.heap.size<W1.heap.size:=by rw[hz0.1];omega
 have hcl:Kept (∀k,k<5→W1.cell? ⟨w.heap.size,k,none⟩=some (.int .i64 (m k:Int))):=⟨fun k hk=>by rw[hW1];exact(Au w _ _ _ k).trans (Ly.aB m k hk)⟩
 have HW:Kept (w.alloc (.cells #[.int .i64 (m 0:Int),.int .i64 (m 1:Int),.int .i64 (m 2:Int),.int .i64 (m 3:Int),.int .i64 (m 4:Int)] 128)=W1):=⟨hW1.symm⟩
 clear hW1;show Calls _ _ #[.agg #[.int .i64 (m 0:Int),.int .i64 (m 1:Int),.int .i64 (m 2:Int),.int .i64 (m 3:Int),.int .i64 (m 4:Int)]] _ _;go_enter func90,ntmps90;go_upto_region 2 with fail;rw[HW.1];go_wp2;go_loopw [3,8] (fun o i wr=>∃k:Nat,k≤4∧i= .int .i64 k∧∃A n c,o= .slice A n c∧ah wr W1.heap.size A n c (Ly.gJ m k)∧Below W1.heap.size W1 wr) (fun _ i _=>4-(intOf i).toNat)
 case atStart=>exact⟨0,om,rfl,none,0,0,rfl,ah.nil _ _,Ae _ _⟩
 case round=>
  obtain⟨k,hk,rfl,A,n,c,rfl,ho,hb⟩:=hrel;by_cases hlt:k<4
  ·have hc:=(hb.cell (p:=⟨w.heap.size,k,none⟩) hz1).trans (hcl.1 k om);have hmk:=hm k;have aiM:(m k:Int)≤140737488355328:=om;have hn:n≤100:=by have h1:=ho.len;have h2:=Ly.xW m hm k;omega
   have hs:=Aj (Ly.kJ m k);have Ho:=Aj ho;have Hb:=Aj hb;have hz:=hb.size;clear ho hb;generalize m k=x at*;go_wp2_with (go_at_call 145;refine(dh A n c W1.heap.size x _ wr Ho.1 hz om om).mono ?_;rintro r w2 ⟨A2,n2,c2,rfl,ho2,hg2,-⟩;have o2:=Aj ho2;have b2:=Aj (Hb.1.trans (aF Ho.1 hz hg2));clear ho2 hg2);go_roundw
   case rel=>exact⟨k+1,om,by go_num,A2,n2,c2,rfl,by rw[hs.1];exact o2.1,b2.1⟩
   case measure=>simp[intOf];omega
  ·obtain rfl:k=4:=by omega
   have Ho:=Aj ho;have Hb:=Aj hb;clear ho hb;go_wp2;go_ret;exact⟨A,n,c,rfl,Ho.1.base om,hb0.1.trans (Hb.1.mono om)⟩
end
end
section
section
open Go.RowKit Go.Shelf
theorem vC (w) (ty) (base B B2) (A) (n c) (l) (hv:aN w B A n c l) (S) (m d) (k) (hr:aN w B2 S m d k)
  (hn:0<n) (hc:c<n+m) (hlen:n+m≤140737488355328) (hb:base≤w.heap.size):
  ∃c2 w',(Builtin.append_ #[22,22] ty #[.slice A n c,.slice S m d]).run prog w= .ok (.slice (some ⟨w.heap.size,0,none⟩) (n+m) c2) w'∧ah w' base (some ⟨w.heap.size,0,none⟩) (n+m) c2 (l++k)∧Below w.heap.size w w':=by
 obtain⟨i0,hi0,hz0,hz1,hz2⟩:=AX JN;have hnc:=hv.1;obtain⟨b,off,rfl,_,hcl⟩:=hv.2.2.2 hn;obtain⟨b2,vD,rfl,_,XC⟩:=hr.2.2.2 om;have h1:=hv.2.2.1;have h2:=hr.2.2.1;rw[CV]at h1 h2;have hrun:=run_append_grow (P:=prog) w 22 ty 5 i0 (.int .u8 0) underlying22 hi0 hz0 ⟨b,off,none⟩ n c (iW l) (by rw[hz1,CV];exact h1) (fun j v hj=>by rw[add_plain];exact hcl j v hj)
  ⟨b2,vD,none⟩ m d (iW k) (by rw[hz1,CV];exact h2) (fun j v hj=>by rw[add_plain];exact XC j v hj) om om (growslice_fits om (by rw[hz2];omega))
 have hge:=grownCap_ge w (n+m) c 5;have hle:=grownCap_le_maxLen w (n+m) c 5 (by unfold maxLen;omega);refine⟨_,_,hrun,⟨by rw[dO,La,CV,←dO l,←dO k,h1,h2],.inr ⟨w.heap.size,_,_,rfl,hb,Av w.drew _,hge,hle,?_,?_⟩⟩,((Ae _ w).drew).alloc Ai _⟩
 ·simp only[Array.size_append,Ca,size_zeroCells,h1,h2];simp[Value.cells];omega
 ·simp only[Array.toList_append,Af];rw[←Af,←jy,CV,show n+m=(iW (l++k)).length by rw[dO,La,←dO l,←dO k,h1,h2]];exact Dv
def Up (w:World) (base:Nat) (A:Option Addr) (n c:Nat) (l:List UInt8):Prop:=ah w base A n c l∨(0<n∧c=n∧aN w w.heap.size A n c l)
theorem Up.keep {w w'} {base n c} {A} {l} (h:Up w base A n c l) (hb:Below w.heap.size w w'):Up w' base A n c l:=by
 rcases h with h|h
 ·exact .inl (ah.keep h hb)
 ·exact .inr ⟨h.1,h.2.1,(h.2.2.below hb).more hb.size⟩
theorem zZ {w} {ops} {rest} {o} {a} {Q} (hgd:Region.wanted o (yielded ops a.tmps)=true) (s x)
  (ho:o.op= .call {callee:= .builtin .append,args:= #[s,x],argTypes:= #[22,22]})
  (base) (A) (n c) (l) (hs:a.eval s= .slice A n c) (hown:Up w base A n c l)
  (B) (S) (m d) (k) (hx:a.eval x= .slice S m d) (hr:aN w B S m d k) (hm:0<m)
  (hlen:n+m≤140737488355328) (hbase:base≤w.heap.size)
  (h:∀A2 c2 w',ah w' base A2 (n+m) c2 (l++k)→Below base w w'→wpList prog ops Q rest (a.put o.dst (.slice A2 (n+m) c2)) w'):wpList prog ops Q (o::rest) a w:=by
 rcases hown with hown|⟨hn,hc,hv⟩
 ·exact bR hgd s x ho base A n c l hs hown B S m d k hx hr hlen hbase fun A2 c2 w' h1 h2 _=>h A2 c2 w' h1 (aF hown hbase h2)
 ·obtain⟨c2,w',hrun,h1,h2⟩:=vC w o.type base w.heap.size B A n c l hv S m d k hr hn om hlen hbase;refine wpList_step fun K hK=>?_
  rw[Ps0 hgd];unfold Oper.wp execOp;simp only[ho,resolve,invoke,builtin,Sem.run_bind,Sem.run_pure,Result.andThen_ok,List.map_toArray,AA,List.map_nil,hs,hx,hrun];exact hK _ _ (h _ c2 w' h1 (h2.mono hbase))
theorem gY (A Sd) (n c nd cd base B) (l d) (id) (w) (ho:Up w base A n c l) (hd:aN w B Sd nd cd d) (hBd:B≤w.heap.size) (ht:eD w) (hB:base≤w.heap.size) (hn:n+nd≤140737488353000):
  Calls prog 89 #[.slice A n c,.agg #[.int .u8 (id.toNat:Int),.slice Sd nd cd]] w fun e w'=>∃A3 n3 c3,e= .returned (.slice A3 n3 c3)∧ah w' base A3 n3 c3 (l++Wr.frame id d)∧Below base w w':=by
 have Ho:=Aj ho;have hdl:=Aj hd.len;have hlc:=hd.1;have hcm:=hd.2.1;unfold maxLen at hcm;have bx:Below w.heap.size w (w.alloc (.cells #[.int .u8 (id.toNat:Int),.slice Sd nd cd] 182)):=(Ae _ w).alloc Ai _;have bx2:Below w.heap.size w ((w.alloc (.cells #[.int .u8 (id.toNat:Int),.slice Sd nd cd] 182)).alloc (.cells #[.int .u8 (id.toNat:Int)] 5)):=bx.alloc sm _;have kc:=bJ _ B Sd nd cd d (hd.below (bx2.mono hBd));have lo:=ah.Xv (w.alloc (.cells #[.int .u8 (id.toNat:Int),.slice Sd nd cd] 182)) (.int .u8 (id.toNat:Int)) id rfl;rw[AO]at lo;have LO:=Aj lo;have BX2:=Aj bx2;have hfr:Kept (Wr.frame id d=aL.app ([id]++Wr.str d)):=⟨rfl⟩
 have hfl:=Aj (Wr.lq id d (by have:=hdl.1;omega));have hfe:=Aj (Wr.jE id d);have hsl:=Aj (Wr.rC d (by have:=hdl.1;omega));have hsz:(⟨d.toArray⟩:ByteArray).size=nd:=by rw[hdl.1];simp[ByteArray.size]
 have hsz':=Aj hsz;have hdd:Kept ((⟨d.toArray⟩:ByteArray).data.toList=d):=⟨sm⟩
 have hg:=ht.lt;have HT:=Aj ht;have ho2:Kept (∀W,Below w.heap.size w W→Up W base A n c l):=⟨fun W h=>Up.keep Ho.1 h⟩
 clear ho hd bx bx2 lo ht hsz;generalize (⟨d.toArray⟩:ByteArray)=S at*;go_enter func89,ntmps89;go_wp2_with (first
  |(go_at_call 146;refine(jZ _ _ _ (w.heap.size+1) [id] S _ LO.1 sm (by have:=hsz'.1;omega)).mono ?_;rintro e w1 ⟨A1,n1,c1,rfl,ho1,hb1⟩;rw[hdd.1]at ho1;have b1:Below w.heap.size w w1:=BX2.1.trans (hb1.mono om);have hn1:=Aj ho1.len;have R1:=Aj ho1.rd;have T1:Kept (eD w1):=⟨HT.1.below b1⟩;clear ho1 hb1)
  |(go_at_call 91;refine(rY _ _ _ ([id]++Wr.str d) _ _ R1.1 T1.1 Ai (by have h1:=hsl.1;have h2:=hdl.1;simp;omega)).mono ?_;rintro e w2 ⟨A2,n2,c2,rfl,Tx,hb2⟩;have b2:=xR b1 hb2;have hn2:n2≤nd+15:=(by have h1:=Tx.len;have h2:=hfl.1;have h3:=hdl.1;rw[←hfr.1]at h1;omega);have adP:0<n2:=(by have h1:=Tx.len;have h2:=hfe.1;rw[←hfr.1]at h1;omega);have R2:=Aj Tx.rd;have O2:=Aj (ho2.1 _ b2);have z2:=b2.size;clear Tx hb2)
  |(at_builtin;refine zZ rfl (.tmp 5) (.tmp 13) rfl base _ _ _ _ rfl O2.1 _ _ _ _ _ rfl R2.1 adP om om ?_;intro A4 c4 w4 ax aj))
 go_ret;refine⟨A4,_,c4,rfl,?_,(b2.mono hB).trans aj⟩;rw[hfr.1];exact ax
end
end
section
section
open Go.RowKit Go.Shelf
namespace Ly
def head:List UInt8:=[84,83,66,75,1]
def tail:List UInt8:=[75,66,83,84]
def pre (D:Nat→List UInt8) (k:Nat):List UInt8:=head++(List.range k).flatMap fun i=>Wr.frame (UInt8.ofNat (1+i)) (D i)
def off (D:Nat→List UInt8) (i:Nat):Nat:=(pre D i).length
def mk (m:Nat→Nat) (k i:Nat):Nat:=if i<k then m i else 0
def body (D:Nat→List UInt8):List UInt8:=pre D 4++Wr.frame 5 (gJ (off D) 4)
def asm (D:Nat→List UInt8):List UInt8:=aL.app (body D)++tail
theorem gq (D) (k):pre D (k+1)=pre D k++Wr.frame (UInt8.ofNat (1+k)) (D k):=by
 unfold pre;rw[List.range_succ,oV,Af];simp
theorem jc {m m'} (k) (h:∀i,i<k→m i=m' i):gJ m k=gJ m' k:=by
 induction k with
 |zero=>rfl
 |succ k ih=>rw[kJ,kJ,ih (fun i hi=>h i om),h k om]
def tot (D:Nat→List UInt8):Nat→Nat
 |0=>0
 |k+1=>tot D k+(D k).length
theorem DX (D) (k n) (h:k≤n):tot D k≤tot D n:=by
 induction n with
 |zero=>rw[Nat.le_zero.1 h];exact Nr _
 |succ n ih=>
  rcases DD n k with h1|h1
  ·rw[show k=n+1 from om];exact Nr _
  ·have:=ih h1;show _≤tot D n+_;omega
theorem JU (D) (k n) (h:k<n):(D k).length≤tot D n:=by
 have h1:=DX D (k+1) n h;have h2:tot D (k+1)=tot D k+(D k).length:=rfl;omega
theorem sF (D) (hD:tot D 4≤140737488352000):∀k,k≤4→(pre D k).length≤5+15*k+tot D k
 |0,_=>by simp[pre,head]
 |k+1,hk=>by
  have h0:=sF D hD k om;have h1:=Wr.lq (UInt8.ofNat (1+k)) (D k) (by have:=JU D k 4 om;omega);have h2:tot D (k+1)=tot D k+(D k).length:=rfl;rw[gq,La];omega
theorem nI (D) (hD:tot D 4≤140737488352000) (k) (hk:k≤4):(pre D k).length≤140737488352100:=by
 have h1:=sF D hD k hk;have h2:=DX D k 4 hk;omega
theorem xX (m) (k) (h:k<5):(jF (mk m k)).setIfInBounds k (.int .i64 (m k:Int))=jF (mk m (k+1)):=by
 match k,h with
 |0,_=>simp[jF,mk]
 |1,_=>simp[jF,mk]
 |2,_=>simp[jF,mk]
 |3,_=>simp[jF,mk]
 |4,_=>simp[jF,mk]
theorem Ox (k) (h:k<5):((UInt8.ofNat (1+k)).toNat:Int)=1+(k:Int):=by
 rw[Cr];have:(1+k)%2^8=1+k:=om;rw[this];omega
def jd (V:Nat→Value):Array Value:= #[V 0,V 1,V 2,V 3]
theorem bD (V) (k) (h:k<4):(jd V)[k]? =some (V k):=by
 match k,h with
 |0,_=>rfl
 |1,_=>rfl
 |2,_=>rfl
 |3,_=>rfl
end Ly
theorem XD:(prog.info? 22).map (fun i=>(i.zero,i.size,i.bytes))=some (some (.slice none 0 0),1,24):=kr
theorem adQ (T) (hT:prog.underlying T=some (.array 4 22)) (V:Nat→Value) (k:Nat) (h:k<4) (w):(Instr.index T (.agg #[V 0,V 1,V 2,V 3]) (.int .i64 (k:Int))).run prog w= .ok (V k) w:=by
 obtain⟨i0,hi0,hz0,hz1,hz2⟩:=AX XD;unfold Instr.index;have h1:(0:Int)≤(k:Int)∧(k:Int)<4:=om;have h2:[V 0,V 1,V 2,V 3][k]? =some (V k):=by
  match k,h with
  |0,_=>rfl
  |1,_=>rfl
  |2,_=>rfl
  |3,_=>rfl
 simp[asIntOf,run_underlying hT,sizeOf,typeInfo,hi0,hz1,h1,part];rw[Ps0 h,h2]
 rfl
def Four (w:World) (B:Nat) (V:Nat→Value) (D:Nat→List UInt8):Prop:=∀i,i<4→∃A n c,V i= .slice A n c∧aN w B A n c (D i)
theorem Four.below {w w'} {B} {V} {D} (h:Four w B V D) (hb:Below B w w'):Four w' B V D:=fun i hi=>by
 obtain⟨A,n,c,h1,h2⟩:=h i hi;exact⟨A,n,c,h1,h2.below hb⟩
def Ty (w:World) (base lim:Nat) (A:Option Addr) (n c:Nat) (l:List UInt8):Prop:=ah w base A n c l∨(0<n∧c=n∧aN w lim A n c l)
theorem Ty.up {w} {base lim n c} {A} {l} (h:Ty w base lim A n c l) (hl:lim≤w.heap.size):Up w base A n c l:=by
 rcases h with h|h
 ·exact .inl h
 ·exact .inr ⟨h.1,h.2.1,h.2.2.more hl⟩
theorem Ty.len {w} {base lim n c} {A} {l} (h:Ty w base lim A n c l):n=l.length:=by
 rcases h with h|h
 ·exact h.len
 ·exact h.2.2.len
theorem Ty.store {w} {base lim n c g} {A} {l} (h:Ty w base lim A n c l) (h1:lim≤g) (h2:g<base) (k) (v):Ty (w.setCell ⟨g,k,none⟩ v) base lim A n c l:=by
 rcases h with h|h
 ·exact .inl (ah.far h h2 v)
 ·exact .inr ⟨h.1,h.2.1,h.2.2.setCell (p:=⟨g,k,none⟩) h1 v⟩
theorem xY (V) (D) (w) (hV:Four w w.heap.size V D) (hD:Ly.tot D 4≤140737488352000) (ht:eD w):
  Calls prog 42 #[.agg (Ly.jd V)] w fun e w'=>∃A n c,e= .returned (.slice A n c)∧ah w' w.heap.size A n c (Ly.asm D)∧Below w.heap.size w w':=by
 obtain⟨W1,hW1⟩:∃W1,W1=w.alloc (.cells #[V 0,V 1,V 2,V 3] 76):=⟨_,rfl⟩
 obtain⟨W2,hW2⟩:∃W2,W2=W1.alloc (.cells #[.int .u8 84,.int .u8 83,.int .u8 66,.int .u8 75,.int .u8 1] 5 (5,6)):=⟨_,rfl⟩
 obtain⟨W3,hW3⟩:∃W3,W3=W2.alloc (.cells #[.int .i64 0,.int .i64 0,.int .i64 0,.int .i64 0,.int .i64 0] 128):=⟨_,rfl⟩
 have hz1:W1.heap.size=w.heap.size+1:=by rw[hW1];simp
 have hz2:W2.heap.size=W1.heap.size+1:=by rw[hW2];simp
 have hz3:W3.heap.size=W2.heap.size+1:=by rw[hW3];simp
 have kc:(convert 22 22 (.slice (some ⟨W1.heap.size,0,none⟩) 5 5)).run prog (W1.alloc (.cells #[.int .u8 84,.int .u8 83,.int .u8 66,.int .u8 75,.int .u8 1] 5))= .ok (.slice (some ⟨W1.heap.size,0,none⟩) 5 5) W2:=by rw[hW2];exact vk W1 _ 5 5
 have B1:Kept (Below w.heap.size w W1):=⟨by rw[hW1];exact(Ae _ w).alloc Ai _⟩
 have B2:Kept (Below W1.heap.size W1 W2):=⟨by rw[hW2];exact(Ae _ W1).alloc Ai _⟩
 have B3:Kept (Below W2.heap.size W2 W3):=⟨by rw[hW3];exact(Ae _ W2).alloc Ai _⟩
 have hcl:∀k,k<4→W3.cell? ⟨w.heap.size,k,none⟩=some (V k):=fun k hk=>by
  rw[B3.1.cell (p:=⟨w.heap.size,k,none⟩) (by show w.heap.size<_;omega),B2.1.cell (p:=⟨w.heap.size,k,none⟩) (by show w.heap.size<_;omega),hW1];exact(Au w _ _ _ k).trans (Ly.bD V k hk)
 have k0:=hcl 0 om;have k1:=hcl 1 om;have k2:=hcl 2 om;have k3:=hcl 3 om;have hU:Kept (Ty W3 W3.heap.size W2.heap.size (some ⟨W1.heap.size,0,none⟩) 5 5 (Ly.pre D 0)):=⟨.inr ⟨om,rfl,by
  have h:=aN.adH W1 Ly.head (5,6) (by simp[Ly.head]);have h2:aN W2 (W1.heap.size+1) (some ⟨W1.heap.size,0,none⟩) 5 5 Ly.head:=by rw[hW2];exact h
  have h3:Ly.pre D 0=Ly.head:=by simp[Ly.pre]
  rw[h3];exact(h2.below (B3.1.mono om)).more om⟩⟩
 have hA:Kept (W3.heap[W2.heap.size]? =some (.cells (Ly.jF (Ly.mk (Ly.off D) 0)) 128 (0,0))):=⟨by rw[hW3];exact Av W2 _⟩
 have BA:Kept (Below w.heap.size w W3):=⟨xR (xR B1.1 B2.1) B3.1⟩
 have HV:Kept (Four W3 w.heap.size V D):=⟨hV.below BA.1⟩
 have hgt:=ht.lt;have T3:Kept (eD W3):=⟨ht.below BA.1⟩
 have Z1:=Aj hz1;have Z2:=Aj hz2;have Z3:=Aj hz3;have HW1:=Aj hW1.symm;have HW3:=Aj hW3.symm;have hPL:=Aj (Ly.nI D hD);clear hz1 hz2 hz3 hcl hV ht hW1 hW2 hW3 B1 B2 B3;show Calls _ _ #[.agg #[V 0,V 1,V 2,V 3]] _ _;go_enter func42,ntmps42;go_upto_region 1 with fail;rw[HW1.1];go_upto_region 3 with fail;rw[HW3.1];go_wp2;have Oy:W2.heap.size<W3.heap.size:=by rw[Z3.1];omega
 generalize W2.heap.size=g at*;go_loopw [3,10] (fun o i wr=>∃k:Nat,k≤4∧i= .int .i64 k∧∃A3 n3 c3,o= .slice A3 n3 c3∧Ty wr W3.heap.size g A3 n3 c3 (Ly.pre D k)∧wr.heap[g]? =some (.cells (Ly.jF (Ly.mk (Ly.off D) k)) 128 (0,0))∧Below g W3 wr∧W3.heap.size≤wr.heap.size) (fun _ i _=>4-(intOf i).toNat)
 case atStart=>exact⟨0,om,rfl,_,5,5,rfl,hU.1,hA.1,Ae _ _,Nr _⟩
 case round=>
  clear hU hA;obtain⟨k,hk,rfl,A3,n3,c3,rfl,hu,ha,hb3,hz⟩:=hrel;by_cases hlt:k<4
  ·obtain⟨Ak,nk,ck,hVk,hrd⟩:=HV.1 k hlt;have hidx:∀W,(Instr.index 76 (.agg #[V 0,V 1,V 2,V 3]) (.int .i64 (k:Int))).run prog W= .ok (.slice Ak nk ck) W:=fun W=>by rw[←hVk];exact adQ _ underlying76 V k hlt W
   have hck:=Co wr g k _ _ _ ha;rw[Ly.aB _ k om]at hck;have hfk:=Fr wr g k _ _ ha;have Oz:=Ly.Ox k om;have mo:n3=Ly.off D k:=hu.len;have hset:=Ly.xX (Ly.off D) k om;have ha2:(wr.setCell ⟨g,k,none⟩ (.int .i64 (n3:Int))).heap[g]? =some (.cells (Ly.jF (Ly.mk (Ly.off D) (k+1))) 128 (0,0)):=by rw[Ag wr g k _ _ _ ha,mo,hset]
   have hu2:=hu.store (Nr g) Oy k (.int .i64 (n3:Int));have hb4:Below g W3 (wr.setCell ⟨g,k,none⟩ (.int .i64 (n3:Int))):=hb3.setCell (p:=⟨g,k,none⟩) Ai _;have hsz:(wr.setCell ⟨g,k,none⟩ (.int .i64 (n3:Int))).heap.size=wr.heap.size:=sm;have hsum:n3+nk≤140737488352100:=by
    have h1:=hPL.1 (k+1) om;rw[Ly.gq,La,Wr.jE]at h1;have h2:=hrd.len;rw[mo];show(Ly.pre D k).length+nk≤_;omega
   have hd2:aN (wr.setCell ⟨g,k,none⟩ (.int .i64 (n3:Int))) wr.heap.size Ak nk ck (D k):=(hrd.below (hb4.mono (by have h1:=Z1.1;have h2:=Z2.1;omega))).more (by have:=BA.1.size;omega);have ht2:eD (wr.setCell ⟨g,k,none⟩ (.int .i64 (n3:Int))):=T3.1.base (base:=g) (by have h1:=Z1.1;have h2:=Z2.1;omega) hb4;have HS:=gY A3 Ak n3 c3 nk ck W3.heap.size wr.heap.size (Ly.pre D k) (D k) (UInt8.ofNat (1+k)) _ (hu2.up (by rw[hsz];omega)) hd2 (by rw[hsz];exact Nr _) ht2 (by rw[hsz];exact hz) om;rw[Oz,←Ly.gq]at HS;have ZM:=Aj HS;have A2:=Aj ha2;have B4:=Aj hb4;have SZ:=Aj hsz;clear HS ha2 hb4 hsz hu2 hu ha hset mo Oz hb3 hrd hVk hd2 ht2;go_wp2_with (go_at_call 89;refine ZM.1.mono ?_;rintro r w5 ⟨A5,n5,c5,rfl,V8,hb5⟩);go_roundw
   case rel=>exact⟨k+1,om,by go_num,A5,n5,c5,rfl,.inl V8,(hb5.block g Oy).trans A2.1,B4.1.trans (hb5.mono om),by have:=hb5.size;rw[SZ.1]at this;omega⟩
   case measure=>simp[intOf];omega
  ·obtain rfl:k=4:=by omega
   have hm:∀i,Ly.mk (Ly.off D) 4 i≤140737488355328:=fun i=>by
    unfold Ly.mk;split
    ·rename_i hi4
     have h1:=hPL.1 i om;show Ly.off D i≤_;unfold Ly.off;omega
    ·omega
   have hcg:Kept (Ly.gJ (Ly.mk (Ly.off D) 4) 4=Ly.gJ (Ly.off D) 4):=⟨Ly.jc 4 fun i hi=>by unfold Ly.mk;rw[Ps0 hi]⟩
   have XE:=Ly.xW _ hm 4;have a0:=(Co wr g 0 _ _ _ ha).trans (Ly.aB _ 0 om);have a1:=(Co wr g 1 _ _ _ ha).trans (Ly.aB _ 1 om);have a2:=(Co wr g 2 _ _ _ ha).trans (Ly.aB _ 2 om);have a3:=(Co wr g 3 _ _ _ ha).trans (Ly.aB _ 3 om);have a4:=(Co wr g 4 _ _ _ ha).trans (Ly.aB _ 4 om);have HC:=Aj (nH (Ly.mk (Ly.off D) 4) wr hm);rw[hcg.1]at HC XE;unfold Ly.jF at HC;have mo:n3=(Ly.pre D 4).length:=hu.len;have aaw:n3≤140737488352100:=by have h1:=hPL.1 4 om;omega
   have HU:=Aj hu;have B3:=Aj hb3;have Tr:Kept (eD wr):=⟨T3.1.base (base:=g) (by have h1:=Z1.1;have h2:=Z2.1;omega) hb3⟩
   have hwg:w.heap.size≤g:=by have h1:=Z1.1;have h2:=Z2.1;omega
   have adS:Kept (Ly.pre D 4++Wr.frame 5 (Ly.gJ (Ly.off D) 4)=Ly.body D):=⟨rfl⟩
   have hfl:=Aj (Wr.lq 5 (Ly.gJ (Ly.off D) 4) om);have hN3:=Aj mo;have HCL:=Aj XE;clear hu hb3 ha hcg hm mo XE;go_wp2_with (first
    |(go_at_call 90;refine HC.1.mono ?_;rintro r w5 ⟨A5,n5,c5,rfl,V8,hb5⟩;have r5:=Aj V8.rd;have OG:n5≤40:=(by have h1:=V8.len;have h2:=HCL.1;omega);have u5:=Aj (Up.keep (HU.1.up om) hb5);have b5:=Aj hb5;have t5:=Aj (Tr.1.below hb5);have z5:=hb5.size;clear V8 hb5)
    |(go_at_call 89;refine(gY A3 A5 n3 c3 n5 c5 W3.heap.size w5.heap.size (Ly.pre D 4) (Ly.gJ (Ly.off D) 4) 5 w5 u5.1 r5.1 Ai t5.1 om om).mono ?_;rintro r w6 ⟨A6,n6,c6,rfl,ho6,hb6⟩;rw[adS.1]at ho6;have o6:=Aj ho6.rd;have t6:Kept (eD w6):=⟨t5.1.base (base:=W3.heap.size) om hb6⟩;have b6:Kept (Below g wr w6):=⟨(b5.1.mono om).trans (hb6.mono om)⟩;have rD:n6=(Ly.body D).length:=ho6.len;have hl6:Kept (n6≤140737488352200):=⟨by have h1:=hN3.1;have h2:=hfl.1;have h3:=HCL.1;rw[rD];unfold Ly.body;rw[La];omega⟩;have hN6:=Aj rD;clear ho6 hb6 rD)
    |(go_at_call 91;refine(rY _ _ _ (Ly.body D) w6 _ o6.1 t6.1 Ai (by have h1:=hN6.1;have h2:=hl6.1;omega)).mono ?_;rintro r w7 ⟨A7,n7,c7,rfl,ho7,Ma⟩;have o7:=Aj ho7;have b7:=Aj Ma;have z7:=Ma.size;have XF:n7≤140737488352300:=(by have h1:=ho7.len;rw[aL.iY]at h1;have h2:=hN6.1;have h3:=hl6.1;omega);clear ho7 Ma)
    |(at_builtin;refine l9 rfl (.tmp 32) (.const (.string ⟨#[75,66,83,84]⟩)) rfl w6.heap.size _ _ _ _ rfl o7.1 ⟨#[75,66,83,84]⟩ rfl (by have e:(⟨#[75,66,83,84]⟩:ByteArray).size=4:=rfl;omega) om ?_;intro A8 c8 w8 aax XH))
   go_ret;have z6:=b6.1.size;have zB:=BA.1.size;refine⟨A8,_,c8,rfl,(aax.base om),?_⟩;refine BA.1.trans ((B3.1.mono hwg).trans ((b6.1.mono hwg).trans ((b7.1.mono om).trans ((aF o7.1 om XH).mono om))))
end
end
section
section
open Go.RowKit Go.Shelf
namespace Ly
def lit (b s:List UInt8):Int:=if b.take (min b.length s.length)≠s.take (min b.length s.length)then 10 else if b.length<s.length then 3 else 0
end Ly
theorem kK (p a) (l) (e) (A) (n c B) (b) (s) (w) (e1) (he1:e1=if e=0 then Ly.lit b s.data.toList else e) (h:aK w p l a e) (hv:aN w B A n c b) (hs:s.size≤100):
  Calls prog 111 #[.pointer (some ⟨p,0,none⟩),.slice A n c,.string s] w fun r w'=>r= .returned (.tuple #[])∧
   aK w' p l (Wr.take l a e1 ((min b.length s.data.toList.length:Nat):Int)).2.1 (Wr.take l a e1 ((min b.length s.data.toList.length:Nat):Int)).2.2∧w.grownBy w' (some p):=by
 have hn:=Aj hv.len;have hlc:=hv.1;have hcm:=hv.2.1;unfold maxLen at hcm;have hsl:Kept (s.data.toList.length=s.size):=⟨by rw[Array.length_toList];rfl⟩
 have H:=Aj h;have HE:=Aj he1;clear he1;have hex:∀k,(s.extract 0 k).toList=s.data.toList.take k:=fun k=>by rw[ByteArray.toList_eq];simp
 by_cases hlt:n<s.size
 ·have rE:Kept (min b.length s.data.toList.length=n):=⟨by rw[hsl.1,←hn.1];omega⟩
  rw[rE.1];have kc:=fun k=>bJ (w.drewN k) B A n c _ ((hv.take (k:=n) Ai).drewN k)
  have hnm:(n:Int)≤(s.size:Int):=om;have hnl:(n:Int)< (s.size:Int):=om;clear hv h;by_cases heq:b.take n=s.data.toList.take n
  ·have hb:(List.take n b==(s.extract 0 n).toList)=true:=by rw[hex,heq];simp
   have hL:Kept (Ly.lit b s.data.toList=3):=⟨by unfold Ly.lit;rw[rE.1,Ng (by simpa using heq),Ps0 (by rw[hsl.1,←hn.1];exact hlt)]⟩
   have hE1:Kept ((if e=0 then 3 else e)=e1):=⟨by rw[HE.1,hL.1]⟩
   clear heq hex;go_enter func111,ntmps111;go_wp2;go_quiet (fail);go_wp2_with (first
    |(go_at_call 114;refine(bU p a l e 3 _ (by exact H.1)).mono ?_;rintro r w1 ⟨rfl,hr1,hg1⟩;rw[hE1.1]at hr1;have r1:=Aj hr1;have g1:Kept (w.grownBy w1 (some p)):=⟨(Quiet.grown ⟨_,rfl⟩ _).trans hg1⟩;clear hr1 hg1)
    |(go_at_call 115;refine(fZ p a l e1 ((n:Nat):Int) w1 r1.1 om om).mono ?_;rintro r w2 ⟨A2,n2,c2,rfl,-,hr2,hg2⟩))
   go_end0;exact⟨rfl,hr2,g1.1.trans hg2⟩
  ·have hb:(List.take n b==(s.extract 0 n).toList)=false:=by rw[hex];simpa using heq
   have hL:Kept (Ly.lit b s.data.toList=10):=⟨by unfold Ly.lit;rw[rE.1,Ps0 heq]⟩
   have hE1:Kept ((if e=0 then 10 else e)=e1):=⟨by rw[HE.1,hL.1]⟩
   clear heq hex;go_enter func111,ntmps111;go_wp2;go_quiet (fail);go_wp2_with (first
    |(go_at_call 114;refine(bU p a l e 10 _ (by exact H.1)).mono ?_;rintro r w1 ⟨rfl,hr1,hg1⟩;rw[hE1.1]at hr1;have r1:=Aj hr1;have g1:Kept (w.grownBy w1 (some p)):=⟨(Quiet.grown ⟨_,rfl⟩ _).trans hg1⟩;clear hr1 hg1)
    |(go_at_call 115;refine(fZ p a l e1 ((n:Nat):Int) w1 r1.1 om om).mono ?_;rintro r w2 ⟨A2,n2,c2,rfl,-,hr2,hg2⟩))
   go_end0;exact⟨rfl,hr2,g1.1.trans hg2⟩
 ·have rE:Kept (min b.length s.data.toList.length=s.size):=⟨by rw[hsl.1,←hn.1];omega⟩
  rw[rE.1];have kc:=fun k=>bJ (w.drewN k) B A s.size c _ ((hv.take (k:=s.size) om).drewN k)
  have hnm:(s.size:Int)≤(n:Int):=om;have hcm2:(s.size:Int)≤(c:Int):=om;have hto:s.toList=s.data.toList:=ByteArray.toList_eq s;have hft:s.data.toList.take s.size=s.data.toList:=jY (by rw[hsl.1];exact Nr _);clear hv h;rcases DF (show s.size≤n from om)with hq|hq
  ·have hnq:(s.size:Int)< (n:Int):=by omega
   by_cases heq:b.take s.size=s.data.toList.take s.size
   ·have hb:(List.take s.size b==s.toList)=true:=by rw[hto,heq,hft];simp
    have hL:Kept (Ly.lit b s.data.toList=0):=⟨by unfold Ly.lit;rw[rE.1,Ng (by simpa using heq),Ng (by rw[hsl.1,←hn.1];exact hlt)]⟩
    obtain rfl:e1=e:=by rw[HE.1,hL.1];split<;>simp_all
    clear heq hex hto hft;go_enter func111,ntmps111;go_wp2;go_quiet (fail);go_wp2_with (go_at_call 115;refine(fZ p a l e1 ((s.size:Nat):Int) _ (by exact H.1) om om).mono ?_;rintro r w2 ⟨A2,n2,c2,rfl,-,hr2,hg2⟩);go_end0;exact⟨rfl,hr2,(Quiet.grown ⟨_,rfl⟩ _).trans hg2⟩
   ·have hb:(List.take s.size b==s.toList)=false:=by rw[hto,←hft];simpa using heq
    have hL:Kept (Ly.lit b s.data.toList=10):=⟨by unfold Ly.lit;rw[rE.1,Ps0 heq]⟩
    have hE1:Kept ((if e=0 then 10 else e)=e1):=⟨by rw[HE.1,hL.1]⟩
    clear heq hex hto hft;go_enter func111,ntmps111;go_wp2;go_quiet (fail);go_wp2_with (first
     |(go_at_call 114;refine(bU p a l e 10 _ (by exact H.1)).mono ?_;rintro r w1 ⟨rfl,hr1,hg1⟩;rw[hE1.1]at hr1;have r1:=Aj hr1;have g1:Kept (w.grownBy w1 (some p)):=⟨(Quiet.grown ⟨_,rfl⟩ _).trans hg1⟩;clear hr1 hg1)
     |(go_at_call 115;refine(fZ p a l e1 ((s.size:Nat):Int) w1 r1.1 om om).mono ?_;rintro r w2 ⟨A2,n2,c2,rfl,-,hr2,hg2⟩))
    go_end0;exact⟨rfl,hr2,g1.1.trans hg2⟩
  ·obtain rfl:n=s.size:=hq.symm;by_cases heq:b.take s.size=s.data.toList.take s.size
   ·have hb:(List.take s.size b==s.toList)=true:=by rw[hto,heq,hft];simp
    have hL:Kept (Ly.lit b s.data.toList=0):=⟨by unfold Ly.lit;rw[rE.1,Ng (by simpa using heq),Ng (by rw[hsl.1,←hn.1];exact hlt)]⟩
    obtain rfl:e1=e:=by rw[HE.1,hL.1];split<;>simp_all
    clear heq hex hto hft;go_enter func111,ntmps111;go_wp2;go_quiet (fail);go_wp2_with (go_at_call 115;refine(fZ p a l e1 ((s.size:Nat):Int) _ (by exact H.1) om om).mono ?_;rintro r w2 ⟨A2,n2,c2,rfl,-,hr2,hg2⟩);go_end0;exact⟨rfl,hr2,(Quiet.grown ⟨_,rfl⟩ _).trans hg2⟩
   ·have hb:(List.take s.size b==s.toList)=false:=by rw[hto,←hft];simpa using heq
    have hL:Kept (Ly.lit b s.data.toList=10):=⟨by unfold Ly.lit;rw[rE.1,Ps0 heq]⟩
    have hE1:Kept ((if e=0 then 10 else e)=e1):=⟨by rw[HE.1,hL.1]⟩
    clear heq hex hto hft;go_enter func111,ntmps111;go_wp2;go_quiet (fail);go_wp2_with (first
     |(go_at_call 114;refine(bU p a l e 10 _ (by exact H.1)).mono ?_;rintro r w1 ⟨rfl,hr1,hg1⟩;rw[hE1.1]at hr1;have r1:=Aj hr1;have g1:Kept (w.grownBy w1 (some p)):=⟨(Quiet.grown ⟨_,rfl⟩ _).trans hg1⟩;clear hr1 hg1)
     |(go_at_call 115;refine(fZ p a l e1 ((s.size:Nat):Int) w1 r1.1 om om).mono ?_;rintro r w2 ⟨A2,n2,c2,rfl,-,hr2,hg2⟩))
    go_end0;exact⟨rfl,hr2,g1.1.trans hg2⟩
end
end
section
section
open Go.RowKit Go.Shelf
namespace Ly
def st (l:List UInt8) (a:Nat) (e:Int):Nat→Nat×Int
 |0=>(a,e)
 |k+1=>(Wr.jb l (st l a e k).1 (st l a e k).2 (UInt8.ofNat (1+k))).2
def dat (l:List UInt8) (a:Nat) (e:Int) (k:Nat):List UInt8:=(Wr.jb l (st l a e k).1 (st l a e k).2 (UInt8.ofNat (1+k))).1
def a0 (l:List UInt8):Nat:=if lit l head=0 then 5 else 0
def S (l:List UInt8) (k:Nat):Nat×Int:=st l (a0 l) (lit l head) k
def sec (l:List UInt8) (k:Nat):List UInt8:=dat l (a0 l) (lit l head) k
def bG (l:List UInt8) (k:Nat):Nat:=(S l k).1
def pe (l:List UInt8):Int:=
 if(S l 5).2≠0 then(S l 5).2
 else if sec l 4≠gJ (bG l) 4 then 13
 else if l.length-bG l 5<4 then 3
 else if aL.bN (l.take (bG l 5+4))=false then 12
 else if lit (l.drop (bG l 5+4)) tail≠0 then lit (l.drop (bG l 5+4)) tail
 else if bG l 5+8<l.length then 4 else 0
theorem jG (l) (k):S l (k+1)=(Wr.jb l (S l k).1 (S l k).2 (UInt8.ofNat (1+k))).2:=rfl
theorem oW (l) (k):sec l k=(Wr.jb l (S l k).1 (S l k).2 (UInt8.ofNat (1+k))).1:=rfl
def gate (k:Nat) (D:Nat→List UInt8) (i:Nat):List UInt8:=if i<k then D i else[]
theorem Tz (V) (k) (v) (h:k<4):(jd V).setIfInBounds k v=jd (fun i=>if i=k then v else V i):=by
 match k,h with
 |0,_=>simp[jd]
 |1,_=>simp[jd]
 |2,_=>simp[jd]
 |3,_=>simp[jd]
end Ly
def TC (cs:Array Value):Prop:=∀(j:Nat) (x:UInt8),cs[j]?≠some (.int .u8 (x.toNat:Int))
theorem TC.jF (m):TC (Ly.jF m):=fun j x h=>by
 match j with
 |0=>simp[Ly.jF]at h
 |1=>simp[Ly.jF]at h
 |2=>simp[Ly.jF]at h
 |3=>simp[Ly.jF]at h
 |4=>simp[Ly.jF]at h
 |k+5=>simp[Ly.jF]at h
theorem TC.jd (V) (h:∀i,i<4→∃A n c,V i= .slice A n c):TC (Ly.jd V):=fun j x hj=>by
 obtain⟨A0,n0,c0,h0⟩:=h 0 om;obtain⟨A1,n1,c1,h1⟩:=h 1 om;obtain⟨A2,n2,c2,h2⟩:=h 2 om;obtain⟨A3,n3,c3,h3⟩:=h 3 om
 match j with
 |0=>simp[Ly.jd,h0]at hj
 |1=>simp[Ly.jd,h1]at hj
 |2=>simp[Ly.jd,h2]at hj
 |3=>simp[Ly.jd,h3]at hj
 |k+4=>simp[Ly.jd]at hj
theorem aN.aay {w} {B n c g} {A} {l} (h:aN w B A n c l) {cs} {t} {fr} (hg:w.heap[g]? =some (.cells cs t fr)) (hn:TC cs) (k) (v):aN (w.setCell ⟨g,k,none⟩ v) B A n c l:=by
 refine⟨h.1,h.2.1,h.2.2.1,fun h0=>?_⟩;obtain⟨b,off,e,hb,hc⟩:=h.2.2.2 h0;refine⟨b,off,e,hb,fun i u hu=>?_⟩;have h1:=hc i u hu;have hne:b≠g:=by
  rintro rfl;rw[Co w b (off+i) _ _ _ hg]at h1;simp only[iW,Cb]at hu;obtain⟨z,_,hz⟩:=Cy.1 hu;rw[←hz]at h1;exact hn _ z h1
 exact(Bh w ⟨g,k,none⟩ ⟨b,off+i,none⟩ v (fun e=>by injection e with e1 _ _;exact hne e1.symm)).trans h1
theorem aK.store {w} {p a g} {l} {e} (h:aK w p l a e) {cs} {t} {fr} (hg:w.heap[g]? =some (.cells cs t fr)) (hn:TC cs) (hne:g≠p) (k) (v):aK (w.setCell ⟨g,k,none⟩ v) p l a e:=by
 obtain⟨A,n,c,h1,h2,h3,h4⟩:=h;exact⟨A,n,c,(AF w ⟨g,k,none⟩ v p (fun e=>hne e.symm)).trans h1,h2.aay hg hn k v,h3,h4⟩
theorem ah.past {w w'} {base n c q} {A} {l} (h:ah w base A n c l) (hg:w.grownBy w' (some q)) (hq:q<base):ah w' base A n c l:=
 af h hg (by
  rcases hA:ab A with _|g
  ·exact .inl rfl
  ·refine .inr fun e=>?_
   have:=(ae h g hA).1;have:=Oj e;omega)
def aV (w:World) (base:Nat) (V:Nat→Value) (D:Nat→List UInt8):Prop:=∀i,i<4→∃A n c,V i= .slice A n c∧ah w base A n c (D i)
theorem aV.form {w} {base} {V} {D} (h:aV w base V D):∀i,i<4→∃A n c,V i= .slice A n c:=fun i hi=>by obtain⟨A,n,c,h1,_⟩:=h i hi;exact⟨A,n,c,h1⟩
theorem aV.grown {w w'} {base g} {V} {D} (h:aV w base V D) (hg:w.grownBy w' (some g)) (h1:g<base):aV w' base V D:=fun i hi=>by
 obtain⟨A,n,c,h2,h3⟩:=h i hi;exact⟨A,n,c,h2,ah.past h3 hg h1⟩
theorem aV.below {w w'} {base} {V} {D} (h:aV w base V D) (hb:Below w.heap.size w w'):aV w' base V D:=fun i hi=>by
 obtain⟨A,n,c,h2,h3⟩:=h i hi;exact⟨A,n,c,h2,ah.keep h3 hb⟩
theorem aV.put {w} {base k} {V} {D} (h:aV w base V (Ly.gate k D)) {A} {n c} (ho:ah w base A n c (D k)):aV w base (fun i=>if i=k then .slice A n c else V i) (Ly.gate (k+1) D):=fun i hi=>by
 by_cases he:i=k
 ·subst he;exact⟨A,n,c,sm,by unfold Ly.gate;rw[Ps0 om];exact ho⟩
 ·obtain⟨A',n',c',h1,h2⟩:=h i hi;refine⟨A',n',c',by simp[he,h1],?_⟩;unfold Ly.gate at h2⊢;by_cases hk:i<k
  ·rw[Ps0 hk]at h2;rw[Ps0 om];exact h2
  ·rw[Ng hk]at h2;rw[Ng om];exact h2
end
end
section
section
open Go.RowKit Go.Shelf
theorem iH {P:Program} {fn:Func} {a b u:Tmp} {T1 T2:TypeId} (h:fn.results= #[.cell a T1,.cell b T2,.tmp u]) (tmps:Array Value) (w:World) (g1 g2:Nat) (cs1 cs2:Array Value) (t1 t2:TypeId) (f1 f2:Nat×Nat) (d1 d2:TypeDesc)
  (ha:tmps.getD a undef= .pointer (some ⟨g1,0,none⟩)) (hb:tmps.getD b undef= .pointer (some ⟨g2,0,none⟩)) (hg1:w.heap[g1]? =some (.cells cs1 t1 f1)) (hg2:w.heap[g2]? =some (.cells cs2 t2 f2))
  (hu1:P.underlying T1=some d1) (hd1:(match d1 with| .struct _| .array _ _=>true|_=>false)=true) (hi1:(P.info? T1).map (·.size)=some cs1.size)
  (hu2:P.underlying T2=some d2) (hd2:(match d2 with| .struct _| .array _ _=>true|_=>false)=true) (hi2:(P.info? T2).map (·.size)=some cs2.size):
  (results fn tmps).run P w= .ok (.tuple #[.agg cs1,.agg cs2,tmps.getD u undef]) w:=by
 have ha':tmps[a]?.getD undef= .pointer (some ⟨g1,0,none⟩):=by simpa using ha
 have hb':tmps[b]?.getD undef= .pointer (some ⟨g2,0,none⟩):=by simpa using hb
 simp[results,h,ha',hb',asAddr,run_loadVar_row w g1 t1 T1 cs1 f1 d1 hg1 hu1 hd1 hi1,run_loadVar_row w g2 t2 T2 cs2 f2 d2 hg2 hu2 hd2 hi2]
theorem cu {P:Program} {fn:Func} {a u:Tmp} {T1:TypeId} (h:fn.results= #[.cell a T1,.tmp u]) (tmps:Array Value) (w:World) (g1:Nat) (cs1:Array Value) (t1:TypeId) (f1:Nat×Nat) (d1:TypeDesc)
  (ha:tmps.getD a undef= .pointer (some ⟨g1,0,none⟩)) (hg1:w.heap[g1]? =some (.cells cs1 t1 f1))
  (hu1:P.underlying T1=some d1) (hd1:(match d1 with| .struct _| .array _ _=>true|_=>false)=true) (hi1:(P.info? T1).map (·.size)=some cs1.size):
  (results fn tmps).run P w= .ok (.tuple #[.agg cs1,tmps.getD u undef]) w:=by
 have ha':tmps[a]?.getD undef= .pointer (some ⟨g1,0,none⟩):=by simpa using ha
 simp[results,h,ha',asAddr,run_loadVar_row w g1 t1 T1 cs1 f1 d1 hg1 hu1 hd1 hi1]
def j6 (w:World) (g:Nat) (a b c d:Value):World:=(((w.setCell ⟨g,0,none⟩ a).setCell ⟨g,1,none⟩ b).setCell ⟨g,2,none⟩ c).setCell ⟨g,3,none⟩ d
def OH (w:World) (g:Nat) (a b c d e:Value):World:=((((w.setCell ⟨g,0,none⟩ a).setCell ⟨g,1,none⟩ b).setCell ⟨g,2,none⟩ c).setCell ⟨g,3,none⟩ d).setCell ⟨g,4,none⟩ e
theorem nJ (w) (g) (a b c d) {cs} {t} (h:w.heap[g]? =some (.cells cs t (0,0))) (hs:cs.size=4):(j6 w g a b c d).heap[g]? =some (.cells #[a,b,c,d] t (0,0)):=by
 unfold j6;rw[Ag _ g 3 _ t _ (Ag _ g 2 _ t _ (Ag _ g 1 _ t _ (Ag w g 0 _ t _ h)))];obtain⟨L,rfl⟩:∃L:List Value,cs=L.toArray:=⟨cs.toList,sm⟩
 match L,hs with
 |[_,_,_,_],_=>rfl
theorem DY (w) (g) (a b c d e) {cs} {t} (h:w.heap[g]? =some (.cells cs t (0,0))) (hs:cs.size=5):(OH w g a b c d e).heap[g]? =some (.cells #[a,b,c,d,e] t (0,0)):=by
 unfold OH;rw[Ag _ g 4 _ t _ (Ag _ g 3 _ t _ (Ag _ g 2 _ t _ (Ag _ g 1 _ t _ (Ag w g 0 _ t _ h))))];obtain⟨L,rfl⟩:∃L:List Value,cs=L.toArray:=⟨cs.toList,sm⟩
 match L,hs with
 |[_,_,_,_,_],_=>rfl
theorem dm (w:World) (g) (a b c d):w.grownBy (j6 w g a b c d) (some g):=
 (((ag w ⟨g,0,none⟩ a).trans (ag _ ⟨g,1,none⟩ b)).trans (ag _ ⟨g,2,none⟩ c)).trans (ag _ ⟨g,3,none⟩ d)
theorem gZ (w:World) (g) (a b c d e):w.grownBy (OH w g a b c d e) (some g):=
 ((((ag w ⟨g,0,none⟩ a).trans (ag _ ⟨g,1,none⟩ b)).trans (ag _ ⟨g,2,none⟩ c)).trans (ag _ ⟨g,3,none⟩ d)).trans (ag _ ⟨g,4,none⟩ e)
theorem lu (w) (g) (a b c d):(j6 w g a b c d).heap.size=w.heap.size:=by simp[j6]
theorem aV.drew {w} {base} {V} {D} (h:aV w base V D):aV w.drew base V D:=h
theorem DZ {w:World} {g:Nat} {x} (h:w.heap[g]? =x):w.drew.heap[g]? =x:=h
namespace Ly
def gH (l:List UInt8) (i:Nat):List UInt8:=if pe l=0 then sec l i else[]
def TD (l:List UInt8) (i:Nat):Nat:=if pe l=0 then bG l i else 0
end Ly
end
end
end Go.Proofs.YtjcpmfphnodaaaaGreatDoor
