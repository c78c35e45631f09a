/- Part 3. -/
import Derived.Test.YtongopommlghgaaGreatDoorZJAB
import Derived.Lib.SmallJoins
namespace Go.Proofs.YtongopommlghgaaGreatDoor
set_option maxRecDepth 100000
set_option maxHeartbeats 0
open _root_.Go.Proofs.Tryz
section
section
open Go.RowKit Go.Shelf
namespace Ly
def ig (m:Nat→Nat) (k:Nat):List UInt8:=(List.range k).flatMap fun i=>Vi.enc (m i)
theorem kH (m k):ig m (k+1)=ig m k++Vi.enc (m k):=by unfold ig;rw[List.range_succ,nH];simp
theorem ym (m) (hm:∀i,m i≤140737488355328) (k):(ig m k).length≤10*k:=by
 induction k with
 |zero=>simp[ig]
 |succ k ih=>
  have:=Vi.bF (m k) (by have:=hm k;omega);rw[kH,La];omega
def jZ (m:Nat→Nat):Array Value:= #[.int .i64 (m 0:Int),.int .i64 (m 1:Int),.int .i64 (m 2:Int),.int .i64 (m 3:Int),.int .i64 (m 4:Int)]
theorem aC (m k) (h:k<5):(jZ m)[k]? =some (.int .i64 (m k:Int)):=by
 match k,h with
 |0,_=>rfl
 |1,_=>rfl
 |2,_=>rfl
 |3,_=>rfl
 |4,_=>rfl
end Ly
theorem nI (m w) (hm:∀i,m i≤140737488355328):
  Calls prog 90 #[.agg (Ly.jZ m)] w fun e w'=>∃A n c,e= .returned (.slice A n c)∧ah w' w.heap.size A n c (Ly.ig m 4)∧Below w.heap.size w w':=by
 obtain⟨W1,hW1⟩:∃W1,W1=w.alloc (.cells (Ly.jZ m) 128):=⟨_,rfl⟩
 have hb0:Kept (Below w.heap.size w W1):=⟨by rw[hW1];exact(Ae _ w).alloc Aj _⟩
 have hz0:Kept (W1.heap.size=w.heap.size+1):=⟨by rw[hW1];simp⟩
 have hz1:w.heap.size<W1.heap.size:=by rw[hz0.1];omega
 have hcl:Kept (∀k,k<5→W1.cell? ⟨w.heap.size,k,none⟩=some (.int .i64 (m k:Int))):=⟨fun k hk=>by rw[hW1];exact(Aq w _ _ _ k).trans (Ly.aC m k hk)⟩
 have HW:Kept (w.alloc (.cells #[.int .i64 (m 0:Int),.int .i64 (m 1:Int),.int .i64 (m 2:Int),.int .i64 (m 3:Int),.int .i64 (m 4:Int)] 128)=W1):=⟨hW1.symm⟩
 clear hW1;show Calls _ _ #[.agg #[.int .i64 (m 0:Int),.int .i64 (m 1:Int),.int .i64 (m 2:Int),.int .i64 (m 3:Int),.int .i64 (m 4:Int)]] _ _;go_enter func90,ntmps90;go_upto_region 2 with fail;rw[HW.1];go_wp2;go_loopw [3,8] (fun o i wr=>∃k:Nat,k≤4∧i= .int .i64 k∧∃A n c,o= .slice A n c∧ah wr W1.heap.size A n c (Ly.ig m k)∧Below W1.heap.size W1 wr) (fun _ i _=>4-(intOf i).toNat)
 case atStart=>exact⟨0,om,rfl,none,0,0,rfl,ah.nil _ _,Ae _ _⟩
 case round=>
  obtain⟨k,hk,rfl,A,n,c,rfl,ho,hb⟩:=hrel;by_cases hlt:k<4
  ·have hc:=(hb.cell (p:=⟨w.heap.size,k,none⟩) hz1).trans (hcl.1 k om);have hmk:=hm k;have akj:(m k:Int)≤140737488355328:=om;have hn:n≤100:=by have h1:=ho.len;have h2:=Ly.ym m hm k;omega
   have hs:=Al (Ly.kH m k);have Ho:=Al ho;have Hb:=Al hb;have hz:=hb.size;clear ho hb;generalize m k=x at*;go_wp2_with (go_at_call 145;refine(di A n c W1.heap.size x _ wr Ho.1 hz om om).mono ?_;rintro r w2 ⟨A2,n2,c2,rfl,ho2,hg2,-⟩;have o2:=Al ho2;have b2:=Al (Hb.1.trans (aF Ho.1 hz hg2));clear ho2 hg2);go_roundw
   case rel=>exact⟨k+1,om,by go_num,A2,n2,c2,rfl,by rw[hs.1];exact o2.1,b2.1⟩
   case measure=>simp[intOf];omega
  ·obtain rfl:k=4:=by omega
   have Ho:=Al ho;have Hb:=Al hb;clear ho hb;go_wp2;go_ret;exact⟨A,n,c,rfl,Ho.1.base om,hb0.1.trans (Hb.1.mono om)⟩
end
end
section
section
open Go.RowKit Go.Shelf
theorem vL (w ty base B B2 A n c l) (hv:aY w B A n c l) (S m d k) (hr:aY w B2 S m d k)
  (hn:0<n) (hc:c<n+m) (hlen:n+m≤140737488355328) (hb:base≤w.heap.size):
  ∃c2 w',(Builtin.append_ #[22,22] ty #[.slice A n c,.slice S m d]).run prog w= .ok (.slice (some ⟨w.heap.size,0,none⟩) (n+m) c2) w'∧ah w' base (some ⟨w.heap.size,0,none⟩) (n+m) c2 (l++k)∧Below w.heap.size w w':=by
 obtain⟨i0,hi0,hz0,hz1,hz2⟩:=AY KH;have hnc:=hv.1;obtain⟨b,off,rfl,_,hcl⟩:=hv.2.2.2 hn;obtain⟨b2,vM,rfl,_,Ze⟩:=hr.2.2.2 om;have h1:=hv.2.2.1;have h2:=hr.2.2.1;rw[Dp]at h1 h2;have hrun:=run_append_grow (P:=prog) w 22 ty 5 i0 (.int .u8 0) underlying22 hi0 hz0 ⟨b,off,none⟩ n c (jX l) (by rw[hz1,Dp];exact h1) (fun j v hj=>by rw[add_plain];exact hcl j v hj)
  ⟨b2,vM,none⟩ m d (jX k) (by rw[hz1,Dp];exact h2) (fun j v hj=>by rw[add_plain];exact Ze j v hj) om om (growslice_fits om (by rw[hz2];omega))
 have hge:=grownCap_ge w (n+m) c 5;have hle:=grownCap_le_maxLen w (n+m) c 5 (by unfold maxLen;omega);refine⟨_,_,hrun,⟨by rw[dU,La,Dp,←dU l,←dU k,h1,h2],.inr ⟨w.heap.size,_,_,rfl,hb,Aw w.drew _,hge,hle,?_,?_⟩⟩,((Ae _ w).drew).alloc Aj _⟩
 ·simp only[Array.size_append,Cq,size_zeroCells,h1,h2];simp[Value.cells];omega
 ·simp only[Array.toList_append,Af];rw[←Af,←jG,Dp,show n+m=(jX (l++k)).length by rw[dU,La,←dU l,←dU k,h1,h2]];exact List.take_left
def Up (w:World) (base:Nat) (A:Option Addr) (n c:Nat) (l:List UInt8):Prop:=ah w base A n c l∨(0<n∧c=n∧aY w w.heap.size A n c l)
theorem Up.keep {w w' base n c A l} (h:Up w base A n c l) (hb:Below w.heap.size w w'):Up w' base A n c l:=by
 rcases h with h|h
 ·exact .inl (ah.keep h hb)
 ·exact .inr ⟨h.1,h.2.1,(h.2.2.below hb).more hb.size⟩
theorem EW {w ops rest o a Q} (hgd:Region.wanted o (yielded ops a.tmps)=true) (s x)
  (ho:o.op= .call {callee:= .builtin .append,args:= #[s,x],argTypes:= #[22,22]})
  (base A n c l) (hs:a.eval s= .slice A n c) (hown:Up w base A n c l)
  (B S m d k) (hx:a.eval x= .slice S m d) (hr:aY w B S m d k) (hm:0<m)
  (hlen:n+m≤140737488355328) (hbase:base≤w.heap.size)
  (h:∀A2 c2 w',ah w' base A2 (n+m) c2 (l++k)→Below base w w'→wpList prog ops Q rest (a.put o.dst (.slice A2 (n+m) c2)) w'):wpList prog ops Q (o::rest) a w:=by
 rcases hown with hown|⟨hn,hc,hv⟩
 ·exact eB hgd s x ho base A n c l hs hown B S m d k hx hr hlen hbase fun A2 c2 w' h1 h2 _=>h A2 c2 w' h1 (aF hown hbase h2)
 ·obtain⟨c2,w',hrun,h1,h2⟩:=vL w o.type base w.heap.size B A n c l hv S m d k hr hn om hlen hbase;refine wpList_step fun K hK=>?_
  rw[Ps0 hgd];unfold Oper.wp execOp;simp only[ho,resolve,invoke,builtin,Sem.run_bind,Sem.run_pure,Result.andThen_ok,List.map_toArray,AJ,List.map_nil,hs,hx,hrun];exact hK _ _ (h _ c2 w' h1 (h2.mono hbase))
theorem iy (A Sd n c nd cd base B l d id w) (ho:Up w base A n c l) (hd:aY w B Sd nd cd d) (hBd:B≤w.heap.size) (ht:gH w) (hB:base≤w.heap.size) (hn:n+nd≤140737488353000):
  Calls prog 89 #[.slice A n c,.agg #[.int .u8 (id.toNat:Int),.slice Sd nd cd]] w fun e w'=>∃A3 n3 c3,e= .returned (.slice A3 n3 c3)∧ah w' base A3 n3 c3 (l++Wr.frame id d)∧Below base w w':=by
 have Ho:=Al ho;have hdl:=Al hd.len;have hlc:=hd.1;have hcm:=hd.2.1;unfold maxLen at hcm;have bx:Below w.heap.size w (w.alloc (.cells #[.int .u8 (id.toNat:Int),.slice Sd nd cd] 182)):=(Ae _ w).alloc Aj _;have bx2:Below w.heap.size w ((w.alloc (.cells #[.int .u8 (id.toNat:Int),.slice Sd nd cd] 182)).alloc (.cells #[.int .u8 (id.toNat:Int)] 5)):=bx.alloc Ah _;have kc:=bJ _ B Sd nd cd d (hd.below (bx2.mono hBd));have lo:=ah.Y8 (w.alloc (.cells #[.int .u8 (id.toNat:Int),.slice Sd nd cd] 182)) (.int .u8 (id.toNat:Int)) id rfl;rw[AV]at lo;have LO:=Al lo;have BX2:=Al bx2;have hfr:Kept (Wr.frame id d=bP.app ([id]++Wr.str d)):=⟨rfl⟩
 have hfl:=Al (Wr.lq id d (by have:=hdl.1;omega));have hfe:=Al (Wr.jH id d);have hsl:=Al (Wr.rE d (by have:=hdl.1;omega));have hsz:(⟨d.toArray⟩:ByteArray).size=nd:=by rw[hdl.1];simp[ByteArray.size]
 have hsz':=Al hsz;have hdd:Kept ((⟨d.toArray⟩:ByteArray).data.toList=d):=⟨Ah⟩
 have hg:=ht.lt;have HT:=Al ht;have ho2:Kept (∀W,Below w.heap.size w W→Up W base A n c l):=⟨fun W h=>Up.keep Ho.1 h⟩
 clear ho hd bx bx2 lo ht hsz;generalize (⟨d.toArray⟩:ByteArray)=S at*;go_enter func89,ntmps89;go_wp2_with (first
  |(go_at_call 146;refine(jY _ _ _ (w.heap.size+1) [id] S _ LO.1 Ah (by have:=hsz'.1;omega)).mono ?_;rintro e w1 ⟨A1,n1,c1,rfl,ho1,hb1⟩;rw[hdd.1]at ho1;have b1:Below w.heap.size w w1:=BX2.1.trans (hb1.mono om);have hn1:=Al ho1.len;have R1:=Al ho1.rd;have T1:Kept (gH w1):=⟨HT.1.below b1⟩;clear ho1 hb1)
  |(go_at_call 91;refine(sF _ _ _ ([id]++Wr.str d) _ _ R1.1 T1.1 Aj (by have h1:=hsl.1;have h2:=hdl.1;simp;omega)).mono ?_;rintro e w2 ⟨A2,n2,c2,rfl,U4,hb2⟩;have b2:=yc b1 hb2;have hn2:n2≤nd+15:=(by have h1:=U4.len;have h2:=hfl.1;have h3:=hdl.1;rw[←hfr.1]at h1;omega);have Zf:0<n2:=(by have h1:=U4.len;have h2:=hfe.1;rw[←hfr.1]at h1;omega);have R2:=Al U4.rd;have O2:=Al (ho2.1 _ b2);have z2:=b2.size;clear U4 hb2)
  |(at_builtin;refine EW rfl (.tmp 5) (.tmp 13) rfl base _ _ _ _ rfl O2.1 _ _ _ _ _ rfl R2.1 Zf om om ?_;intro A4 c4 w4 au af))
 go_ret;refine⟨A4,_,c4,rfl,?_,(b2.mono hB).trans af⟩;rw[hfr.1];exact au
end
end
section
section
open Go.RowKit Go.Shelf
namespace Ly
def head:List UInt8:=[84,83,66,75,1]
def tail:List UInt8:=[75,66,83,84]
def pre (D:Nat→List UInt8) (k:Nat):List UInt8:=head++(List.range k).flatMap fun i=>Wr.frame (UInt8.ofNat (1+i)) (D i)
def off (D:Nat→List UInt8) (i:Nat):Nat:=(pre D i).length
def mk (m:Nat→Nat) (k i:Nat):Nat:=if i<k then m i else 0
def body (D:Nat→List UInt8):List UInt8:=pre D 4++Wr.frame 5 (ig (off D) 4)
def asm (D:Nat→List UInt8):List UInt8:=bP.app (body D)++tail
theorem iA (D k):pre D (k+1)=pre D k++Wr.frame (UInt8.ofNat (1+k)) (D k):=by
 unfold pre;rw[List.range_succ,nH,Af];simp
theorem lu {m m'} (k) (h:∀i,i<k→m i=m' i):ig m k=ig m' k:=by
 induction k with
 |zero=>rfl
 |succ k ih=>rw[kH,kH,ih (fun i hi=>h i om),h k om]
def tot (D:Nat→List UInt8):Nat→Nat
 |0=>0
 |k+1=>tot D k+(D k).length
theorem EY (D k n) (h:k≤n):tot D k≤tot D n:=by
 induction n with
 |zero=>rw[Nat.le_zero.1 h];exact Nr _
 |succ n ih=>
  rcases Cy n k with h1|h1
  ·rw[show k=n+1 from om];exact Nr _
  ·have:=ih h1;show _≤tot D n+_;omega
theorem KR (D k n) (h:k<n):(D k).length≤tot D n:=by
 have h1:=EY D (k+1) n h;have h2:tot D (k+1)=tot D k+(D k).length:=rfl;omega
theorem sJ (D) (hD:tot D 4≤140737488352000):∀k,k≤4→(pre D k).length≤5+15*k+tot D k
 |0,_=>by simp[pre,head]
 |k+1,hk=>by
  have h0:=sJ D hD k om;have h1:=Wr.lq (UInt8.ofNat (1+k)) (D k) (by have:=KR D k 4 om;omega);have h2:tot D (k+1)=tot D k+(D k).length:=rfl;rw[iA,La];omega
theorem nJ (D) (hD:tot D 4≤140737488352000) (k) (hk:k≤4):(pre D k).length≤140737488352100:=by
 have h1:=sJ D hD k hk;have h2:=EY D k 4 hk;omega
theorem yo (m k) (h:k<5):(jZ (mk m k)).setIfInBounds k (.int .i64 (m k:Int))=jZ (mk m (k+1)):=by
 match k,h with
 |0,_=>simp[jZ,mk]
 |1,_=>simp[jZ,mk]
 |2,_=>simp[jZ,mk]
 |3,_=>simp[jZ,mk]
 |4,_=>simp[jZ,mk]
theorem Qg (k) (h:k<5):((UInt8.ofNat (1+k)).toNat:Int)=1+(k:Int):=by
 rw[DR];have:(1+k)%2^8=1+k:=om;rw[this];omega
def jl (V:Nat→Value):Array Value:= #[V 0,V 1,V 2,V 3]
theorem bG (V k) (h:k<4):(jl V)[k]? =some (V k):=by
 match k,h with
 |0,_=>rfl
 |1,_=>rfl
 |2,_=>rfl
 |3,_=>rfl
end Ly
theorem Zg:(prog.info? 22).map (fun i=>(i.zero,i.size,i.bytes))=some (some (.slice none 0 0),1,24):=kr
theorem afl (T) (hT:prog.underlying T=some (.array 4 22)) (V:Nat→Value) (k:Nat) (h:k<4) (w):(Instr.index T (.agg #[V 0,V 1,V 2,V 3]) (.int .i64 (k:Int))).run prog w= .ok (V k) w:=by
 obtain⟨i0,hi0,hz0,hz1,hz2⟩:=AY Zg;unfold Instr.index;have h1:(0:Int)≤(k:Int)∧(k:Int)<4:=om;have h2:[V 0,V 1,V 2,V 3][k]? =some (V k):=by
  match k,h with
  |0,_=>rfl
  |1,_=>rfl
  |2,_=>rfl
  |3,_=>rfl
 simp[asIntOf,Ee hT,sizeOf,typeInfo,hi0,hz1,h1,part];rw[Ps0 h,h2]
 rfl
def Four (w:World) (B:Nat) (V:Nat→Value) (D:Nat→List UInt8):Prop:=∀i,i<4→∃A n c,V i= .slice A n c∧aY w B A n c (D i)
theorem Four.below {w w' B V D} (h:Four w B V D) (hb:Below B w w'):Four w' B V D:=fun i hi=>by
 obtain⟨A,n,c,h1,h2⟩:=h i hi;exact⟨A,n,c,h1,h2.below hb⟩
def U5 (w:World) (base lim:Nat) (A:Option Addr) (n c:Nat) (l:List UInt8):Prop:=ah w base A n c l∨(0<n∧c=n∧aY w lim A n c l)
theorem U5.up {w base lim n c A l} (h:U5 w base lim A n c l) (hl:lim≤w.heap.size):Up w base A n c l:=by
 rcases h with h|h
 ·exact .inl h
 ·exact .inr ⟨h.1,h.2.1,h.2.2.more hl⟩
theorem U5.len {w base lim n c A l} (h:U5 w base lim A n c l):n=l.length:=by
 rcases h with h|h
 ·exact h.len
 ·exact h.2.2.len
theorem U5.store {w base lim n c g A l} (h:U5 w base lim A n c l) (h1:lim≤g) (h2:g<base) (k v):U5 (w.setCell ⟨g,k,none⟩ v) base lim A n c l:=by
 rcases h with h|h
 ·exact .inl (ah.far h h2 v)
 ·exact .inr ⟨h.1,h.2.1,h.2.2.setCell (p:=⟨g,k,none⟩) h1 v⟩
theorem yt (V D w) (hV:Four w w.heap.size V D) (hD:Ly.tot D 4≤140737488352000) (ht:gH w):
  Calls prog 42 #[.agg (Ly.jl V)] w fun e w'=>∃A n c,e= .returned (.slice A n c)∧ah w' w.heap.size A n c (Ly.asm D)∧Below w.heap.size w w':=by
 obtain⟨W1,hW1⟩:∃W1,W1=w.alloc (.cells #[V 0,V 1,V 2,V 3] 76):=⟨_,rfl⟩
 obtain⟨W2,hW2⟩:∃W2,W2=W1.alloc (.cells #[.int .u8 84,.int .u8 83,.int .u8 66,.int .u8 75,.int .u8 1] 5 (5,6)):=⟨_,rfl⟩
 obtain⟨W3,hW3⟩:∃W3,W3=W2.alloc (.cells #[.int .i64 0,.int .i64 0,.int .i64 0,.int .i64 0,.int .i64 0] 128):=⟨_,rfl⟩
 have hz1:W1.heap.size=w.heap.size+1:=by rw[hW1];simp
 have hz2:W2.heap.size=W1.heap.size+1:=by rw[hW2];simp
 have hz3:W3.heap.size=W2.heap.size+1:=by rw[hW3];simp
 have kc:(convert 22 22 (.slice (some ⟨W1.heap.size,0,none⟩) 5 5)).run prog (W1.alloc (.cells #[.int .u8 84,.int .u8 83,.int .u8 66,.int .u8 75,.int .u8 1] 5))= .ok (.slice (some ⟨W1.heap.size,0,none⟩) 5 5) W2:=by rw[hW2];exact vF W1 _ 5 5
 have B1:Kept (Below w.heap.size w W1):=⟨by rw[hW1];exact(Ae _ w).alloc Aj _⟩
 have B2:Kept (Below W1.heap.size W1 W2):=⟨by rw[hW2];exact(Ae _ W1).alloc Aj _⟩
 have B3:Kept (Below W2.heap.size W2 W3):=⟨by rw[hW3];exact(Ae _ W2).alloc Aj _⟩
 have hcl:∀k,k<4→W3.cell? ⟨w.heap.size,k,none⟩=some (V k):=fun k hk=>by
  rw[B3.1.cell (p:=⟨w.heap.size,k,none⟩) (by show w.heap.size<_;omega),B2.1.cell (p:=⟨w.heap.size,k,none⟩) (by show w.heap.size<_;omega),hW1];exact(Aq w _ _ _ k).trans (Ly.bG V k hk)
 have k0:=hcl 0 om;have k1:=hcl 1 om;have k2:=hcl 2 om;have k3:=hcl 3 om;have hU:Kept (U5 W3 W3.heap.size W2.heap.size (some ⟨W1.heap.size,0,none⟩) 5 5 (Ly.pre D 0)):=⟨.inr ⟨om,rfl,by
  have h:=aY.afe W1 Ly.head (5,6) (by simp[Ly.head]);have h2:aY W2 (W1.heap.size+1) (some ⟨W1.heap.size,0,none⟩) 5 5 Ly.head:=by rw[hW2];exact h
  have h3:Ly.pre D 0=Ly.head:=by simp[Ly.pre]
  rw[h3];exact(h2.below (B3.1.mono om)).more om⟩⟩
 have hA:Kept (W3.heap[W2.heap.size]? =some (.cells (Ly.jZ (Ly.mk (Ly.off D) 0)) 128 (0,0))):=⟨by rw[hW3];exact Aw W2 _⟩
 have BA:Kept (Below w.heap.size w W3):=⟨yc (yc B1.1 B2.1) B3.1⟩
 have HV:Kept (Four W3 w.heap.size V D):=⟨hV.below BA.1⟩
 have hgt:=ht.lt;have T3:Kept (gH W3):=⟨ht.below BA.1⟩
 have Z1:=Al hz1;have Z2:=Al hz2;have Z3:=Al hz3;have HW1:=Al hW1.symm;have HW3:=Al hW3.symm;have hPL:=Al (Ly.nJ D hD);clear hz1 hz2 hz3 hcl hV ht hW1 hW2 hW3 B1 B2 B3;show Calls _ _ #[.agg #[V 0,V 1,V 2,V 3]] _ _;go_enter func42,ntmps42;go_upto_region 1 with fail;rw[HW1.1];go_upto_region 3 with fail;rw[HW3.1];go_wp2;have Qh:W2.heap.size<W3.heap.size:=by rw[Z3.1];omega
 generalize W2.heap.size=g at*;go_loopw [3,10] (fun o i wr=>∃k:Nat,k≤4∧i= .int .i64 k∧∃A3 n3 c3,o= .slice A3 n3 c3∧U5 wr W3.heap.size g A3 n3 c3 (Ly.pre D k)∧wr.heap[g]? =some (.cells (Ly.jZ (Ly.mk (Ly.off D) k)) 128 (0,0))∧Below g W3 wr∧W3.heap.size≤wr.heap.size) (fun _ i _=>4-(intOf i).toNat)
 case atStart=>exact⟨0,om,rfl,_,5,5,rfl,hU.1,hA.1,Ae _ _,Nr _⟩
 case round=>
  clear hU hA;obtain⟨k,hk,rfl,A3,n3,c3,rfl,hu,ha,hb3,hz⟩:=hrel;by_cases hlt:k<4
  ·obtain⟨Ak,nk,ck,hVk,hrd⟩:=HV.1 k hlt;have hidx:∀W,(Instr.index 76 (.agg #[V 0,V 1,V 2,V 3]) (.int .i64 (k:Int))).run prog W= .ok (.slice Ak nk ck) W:=fun W=>by rw[←hVk];exact afl _ underlying76 V k hlt W
   have hck:=Co wr g k _ _ _ ha;rw[Ly.aC _ k om]at hck;have hfk:=Fr wr g k _ _ ha;have Qi:=Ly.Qg k om;have rD:n3=Ly.off D k:=hu.len;have hset:=Ly.yo (Ly.off D) k om;have ha2:(wr.setCell ⟨g,k,none⟩ (.int .i64 (n3:Int))).heap[g]? =some (.cells (Ly.jZ (Ly.mk (Ly.off D) (k+1))) 128 (0,0)):=by rw[Ag wr g k _ _ _ ha,rD,hset]
   have hu2:=hu.store (Nr g) Qh k (.int .i64 (n3:Int));have hb4:Below g W3 (wr.setCell ⟨g,k,none⟩ (.int .i64 (n3:Int))):=hb3.setCell (p:=⟨g,k,none⟩) Aj _;have hsz:(wr.setCell ⟨g,k,none⟩ (.int .i64 (n3:Int))).heap.size=wr.heap.size:=Ah;have hsum:n3+nk≤140737488352100:=by
    have h1:=hPL.1 (k+1) om;rw[Ly.iA,La,Wr.jH]at h1;have h2:=hrd.len;rw[rD];show(Ly.pre D k).length+nk≤_;omega
   have hd2:aY (wr.setCell ⟨g,k,none⟩ (.int .i64 (n3:Int))) wr.heap.size Ak nk ck (D k):=(hrd.below (hb4.mono (by have h1:=Z1.1;have h2:=Z2.1;omega))).more (by have:=BA.1.size;omega);have ht2:gH (wr.setCell ⟨g,k,none⟩ (.int .i64 (n3:Int))):=T3.1.base (base:=g) (by have h1:=Z1.1;have h2:=Z2.1;omega) hb4;have HS:=iy A3 Ak n3 c3 nk ck W3.heap.size wr.heap.size (Ly.pre D k) (D k) (UInt8.ofNat (1+k)) _ (hu2.up (by rw[hsz];omega)) hd2 (by rw[hsz];exact Nr _) ht2 (by rw[hsz];exact hz) om;rw[Qi,←Ly.iA]at HS;have HS':=Al HS;have A2:=Al ha2;have B4:=Al hb4;have SZ:=Al hsz;clear HS ha2 hb4 hsz hu2 hu ha hset rD Qi hb3 hrd hVk hd2 ht2;go_wp2_with (go_at_call 89;refine HS'.1.mono ?_;rintro r w5 ⟨A5,n5,c5,rfl,ho5,hb5⟩);go_roundw
   case rel=>exact⟨k+1,om,by go_num,A5,n5,c5,rfl,.inl ho5,(hb5.block g Qh).trans A2.1,B4.1.trans (hb5.mono om),by have:=hb5.size;rw[SZ.1]at this;omega⟩
   case measure=>simp[intOf];omega
  ·obtain rfl:k=4:=by omega
   have hm:∀i,Ly.mk (Ly.off D) 4 i≤140737488355328:=fun i=>by
    unfold Ly.mk;split
    ·rename_i hi4
     have h1:=hPL.1 i om;show Ly.off D i≤_;unfold Ly.off;omega
    ·omega
   have hcg:Kept (Ly.ig (Ly.mk (Ly.off D) 4) 4=Ly.ig (Ly.off D) 4):=⟨Ly.lu 4 fun i hi=>by unfold Ly.mk;rw[Ps0 hi]⟩
   have Zh:=Ly.ym _ hm 4;have a0:=(Co wr g 0 _ _ _ ha).trans (Ly.aC _ 0 om);have a1:=(Co wr g 1 _ _ _ ha).trans (Ly.aC _ 1 om);have a2:=(Co wr g 2 _ _ _ ha).trans (Ly.aC _ 2 om);have a3:=(Co wr g 3 _ _ _ ha).trans (Ly.aC _ 3 om);have a4:=(Co wr g 4 _ _ _ ha).trans (Ly.aC _ 4 om);have HC:=Al (nI (Ly.mk (Ly.off D) 4) wr hm);rw[hcg.1]at HC Zh;unfold Ly.jZ at HC;have rD:n3=(Ly.pre D 4).length:=hu.len;have U6:n3≤140737488352100:=by have h1:=hPL.1 4 om;omega
   have HU:=Al hu;have B3:=Al hb3;have Tr:Kept (gH wr):=⟨T3.1.base (base:=g) (by have h1:=Z1.1;have h2:=Z2.1;omega) hb3⟩
   have hwg:w.heap.size≤g:=by have h1:=Z1.1;have h2:=Z2.1;omega
   have afn:Kept (Ly.pre D 4++Wr.frame 5 (Ly.ig (Ly.off D) 4)=Ly.body D):=⟨rfl⟩
   have hfl:=Al (Wr.lq 5 (Ly.ig (Ly.off D) 4) om);have hN3:=Al rD;have HCL:=Al Zh;clear hu hb3 ha hcg hm rD Zh;go_wp2_with (first
    |(go_at_call 90;refine HC.1.mono ?_;rintro r w5 ⟨A5,n5,c5,rfl,ho5,hb5⟩;have r5:=Al ho5.rd;have Qj:n5≤40:=(by have h1:=ho5.len;have h2:=HCL.1;omega);have u5:=Al (Up.keep (HU.1.up om) hb5);have b5:=Al hb5;have t5:=Al (Tr.1.below hb5);have z5:=hb5.size;clear ho5 hb5)
    |(go_at_call 89;refine(iy A3 A5 n3 c3 n5 c5 W3.heap.size w5.heap.size (Ly.pre D 4) (Ly.ig (Ly.off D) 4) 5 w5 u5.1 r5.1 Aj t5.1 om om).mono ?_;rintro r w6 ⟨A6,n6,c6,rfl,ho6,hb6⟩;rw[afn.1]at ho6;have o6:=Al ho6.rd;have t6:Kept (gH w6):=⟨t5.1.base (base:=W3.heap.size) om hb6⟩;have b6:Kept (Below g wr w6):=⟨(b5.1.mono om).trans (hb6.mono om)⟩;have rF:n6=(Ly.body D).length:=ho6.len;have hl6:Kept (n6≤140737488352200):=⟨by have h1:=hN3.1;have h2:=hfl.1;have h3:=HCL.1;rw[rF];unfold Ly.body;rw[La];omega⟩;have hN6:=Al rF;clear ho6 hb6 rF)
    |(go_at_call 91;refine(sF _ _ _ (Ly.body D) w6 _ o6.1 t6.1 Aj (by have h1:=hN6.1;have h2:=hl6.1;omega)).mono ?_;rintro r w7 ⟨A7,n7,c7,rfl,ho7,Nn⟩;have o7:=Al ho7;have b7:=Al Nn;have z7:=Nn.size;have Ya:n7≤140737488352300:=(by have h1:=ho7.len;rw[bP.jg]at h1;have h2:=hN6.1;have h3:=hl6.1;omega);clear ho7 Nn)
    |(at_builtin;refine mh rfl (.tmp 32) (.const (.string ⟨#[75,66,83,84]⟩)) rfl w6.heap.size _ _ _ _ rfl o7.1 ⟨#[75,66,83,84]⟩ rfl (by have e:(⟨#[75,66,83,84]⟩:ByteArray).size=4:=rfl;omega) om ?_;intro A8 c8 w8 ab4 Zi))
   go_ret;have z6:=b6.1.size;have zB:=BA.1.size;refine⟨A8,_,c8,rfl,(ab4.base om),?_⟩;refine BA.1.trans ((B3.1.mono hwg).trans ((b6.1.mono hwg).trans ((b7.1.mono om).trans ((aF o7.1 om Zi).mono om))))
end
end
section
section
open Go.RowKit Go.Shelf
namespace Ly
def lit (b s:List UInt8):Int:=if b.take (min b.length s.length)≠s.take (min b.length s.length)then 10 else if b.length<s.length then 3 else 0
end Ly
theorem kJ (p a l e A n c B b s w e1) (he1:e1=if e=0 then Ly.lit b s.data.toList else e) (h:aK w p l a e) (hv:aY w B A n c b) (hs:s.size≤100):
  Calls prog 111 #[.pointer (some ⟨p,0,none⟩),.slice A n c,.string s] w fun r w'=>r= .returned (.tuple #[])∧
   aK w' p l (Wr.take l a e1 ((min b.length s.data.toList.length:Nat):Int)).2.1 (Wr.take l a e1 ((min b.length s.data.toList.length:Nat):Int)).2.2∧w.grownBy w' (some p):=by
 have hn:=Al hv.len;have hlc:=hv.1;have hcm:=hv.2.1;unfold maxLen at hcm;have hsl:Kept (s.data.toList.length=s.size):=⟨by rw[Array.length_toList];rfl⟩
 have H:=Al h;have HE:=Al he1;clear he1;have hex:∀k,(s.extract 0 k).toList=s.data.toList.take k:=fun k=>by rw[ByteArray.toList_eq];simp
 by_cases hlt:n<s.size
 ·have vz:Kept (min b.length s.data.toList.length=n):=⟨by rw[hsl.1,←hn.1];omega⟩
  rw[vz.1];have kc:=fun k=>bJ (w.drewN k) B A n c _ ((hv.take (k:=n) Aj).drewN k)
  have hnm:(n:Int)≤(s.size:Int):=om;have hnl:(n:Int)< (s.size:Int):=om;clear hv h;by_cases heq:b.take n=s.data.toList.take n
  ·have hb:(List.take n b==(s.extract 0 n).toList)=true:=by rw[hex,heq];simp
   have hL:Kept (Ly.lit b s.data.toList=3):=⟨by unfold Ly.lit;rw[vz.1,Ng (by simpa using heq),Ps0 (by rw[hsl.1,←hn.1];exact hlt)]⟩
   have hE1:Kept ((if e=0 then 3 else e)=e1):=⟨by rw[HE.1,hL.1]⟩
   clear heq hex;go_enter func111,ntmps111;go_wp2;go_quiet (fail);go_wp2_with (first
    |(go_at_call 114;refine(dm p a l e 3 _ (by exact H.1)).mono ?_;rintro r w1 ⟨rfl,hr1,hg1⟩;rw[hE1.1]at hr1;have r1:=Al hr1;have g1:Kept (w.grownBy w1 (some p)):=⟨(Quiet.grown ⟨_,rfl⟩ _).trans hg1⟩;clear hr1 hg1)
    |(go_at_call 115;refine(jk p a l e1 ((n:Nat):Int) w1 r1.1 om om).mono ?_;rintro r w2 ⟨A2,n2,c2,rfl,-,hr2,hg2⟩))
   go_end0;exact⟨rfl,hr2,g1.1.trans hg2⟩
  ·have hb:(List.take n b==(s.extract 0 n).toList)=false:=by rw[hex];simpa using heq
   have hL:Kept (Ly.lit b s.data.toList=10):=⟨by unfold Ly.lit;rw[vz.1,Ps0 heq]⟩
   have hE1:Kept ((if e=0 then 10 else e)=e1):=⟨by rw[HE.1,hL.1]⟩
   clear heq hex;go_enter func111,ntmps111;go_wp2;go_quiet (fail);go_wp2_with (first
    |(go_at_call 114;refine(dm p a l e 10 _ (by exact H.1)).mono ?_;rintro r w1 ⟨rfl,hr1,hg1⟩;rw[hE1.1]at hr1;have r1:=Al hr1;have g1:Kept (w.grownBy w1 (some p)):=⟨(Quiet.grown ⟨_,rfl⟩ _).trans hg1⟩;clear hr1 hg1)
    |(go_at_call 115;refine(jk p a l e1 ((n:Nat):Int) w1 r1.1 om om).mono ?_;rintro r w2 ⟨A2,n2,c2,rfl,-,hr2,hg2⟩))
   go_end0;exact⟨rfl,hr2,g1.1.trans hg2⟩
 ·have vz:Kept (min b.length s.data.toList.length=s.size):=⟨by rw[hsl.1,←hn.1];omega⟩
  rw[vz.1];have kc:=fun k=>bJ (w.drewN k) B A s.size c _ ((hv.take (k:=s.size) om).drewN k)
  have hnm:(s.size:Int)≤(n:Int):=om;have hcm2:(s.size:Int)≤(c:Int):=om;have hto:s.toList=s.data.toList:=ByteArray.toList_eq s;have hft:s.data.toList.take s.size=s.data.toList:=jc (by rw[hsl.1];exact Nr _);clear hv h;rcases(show(s.size:Int)< (n:Int)∨n=s.size from om)with hnq|rfl
  all_goals
   by_cases heq:b.take s.size=s.data.toList.take s.size
   ·have hb:(List.take s.size b==s.toList)=true:=by rw[hto,heq,hft];simp
    have hL:Kept (Ly.lit b s.data.toList=0):=⟨by unfold Ly.lit;rw[vz.1,Ng (by simpa using heq),Ng (by rw[hsl.1,←hn.1];exact hlt)]⟩
    obtain rfl:e1=e:=by rw[HE.1,hL.1];split<;>simp_all
    clear heq hex hto hft;go_enter func111,ntmps111;go_wp2;go_quiet (fail);go_wp2_with (go_at_call 115;refine(jk p a l e1 ((s.size:Nat):Int) _ (by exact H.1) om om).mono ?_;rintro r w2 ⟨A2,n2,c2,rfl,-,hr2,hg2⟩);go_end0;exact⟨rfl,hr2,(Quiet.grown ⟨_,rfl⟩ _).trans hg2⟩
   ·have hb:(List.take s.size b==s.toList)=false:=by rw[hto,←hft];simpa using heq
    have hL:Kept (Ly.lit b s.data.toList=10):=⟨by unfold Ly.lit;rw[vz.1,Ps0 heq]⟩
    have hE1:Kept ((if e=0 then 10 else e)=e1):=⟨by rw[HE.1,hL.1]⟩
    clear heq hex hto hft;go_enter func111,ntmps111;go_wp2;go_quiet (fail);go_wp2_with (first
     |(go_at_call 114;refine(dm p a l e 10 _ (by exact H.1)).mono ?_;rintro r w1 ⟨rfl,hr1,hg1⟩;rw[hE1.1]at hr1;have r1:=Al hr1;have g1:Kept (w.grownBy w1 (some p)):=⟨(Quiet.grown ⟨_,rfl⟩ _).trans hg1⟩;clear hr1 hg1)
     |(go_at_call 115;refine(jk p a l e1 ((s.size:Nat):Int) w1 r1.1 om om).mono ?_;rintro r w2 ⟨A2,n2,c2,rfl,-,hr2,hg2⟩))
    go_end0;exact⟨rfl,hr2,g1.1.trans hg2⟩
end
end
section
section
open Go.RowKit Go.Shelf
namespace Ly
def st (l:List UInt8) (a:Nat) (e:Int):Nat→Nat×Int
 |0=>(a,e)
 |k+1=>(Wr.mJ l (st l a e k).1 (st l a e k).2 (UInt8.ofNat (1+k))).2
def dat (l:List UInt8) (a:Nat) (e:Int) (k:Nat):List UInt8:=(Wr.mJ l (st l a e k).1 (st l a e k).2 (UInt8.ofNat (1+k))).1
def a0 (l:List UInt8):Nat:=if lit l head=0 then 5 else 0
def S (l:List UInt8) (k:Nat):Nat×Int:=st l (a0 l) (lit l head) k
def sec (l:List UInt8) (k:Nat):List UInt8:=dat l (a0 l) (lit l head) k
def dL (l:List UInt8) (k:Nat):Nat:=(S l k).1
def pe (l:List UInt8):Int:=
 if(S l 5).2≠0 then(S l 5).2
 else if sec l 4≠ig (dL l) 4 then 13
 else if l.length-dL l 5<4 then 3
 else if bP.bN (l.take (dL l 5+4))=false then 12
 else if lit (l.drop (dL l 5+4)) tail≠0 then lit (l.drop (dL l 5+4)) tail
 else if dL l 5+8<l.length then 4 else 0
theorem oW (l k):S l (k+1)=(Wr.mJ l (S l k).1 (S l k).2 (UInt8.ofNat (1+k))).2:=rfl
theorem sK (l k):sec l k=(Wr.mJ l (S l k).1 (S l k).2 (UInt8.ofNat (1+k))).1:=rfl
def gate (k:Nat) (D:Nat→List UInt8) (i:Nat):List UInt8:=if i<k then D i else[]
theorem U7 (V k v) (h:k<4):(jl V).setIfInBounds k v=jl (fun i=>if i=k then v else V i):=by
 match k,h with
 |0,_=>simp[jl]
 |1,_=>simp[jl]
 |2,_=>simp[jl]
 |3,_=>simp[jl]
end Ly
def U8 (cs:Array Value):Prop:=∀(j:Nat) (x:UInt8),cs[j]?≠some (.int .u8 (x.toNat:Int))
theorem U8.jZ (m):U8 (Ly.jZ m):=fun j x h=>by
 match j with
 |0=>simp[Ly.jZ]at h
 |1=>simp[Ly.jZ]at h
 |2=>simp[Ly.jZ]at h
 |3=>simp[Ly.jZ]at h
 |4=>simp[Ly.jZ]at h
 |k+5=>simp[Ly.jZ]at h
theorem U8.jl (V) (h:∀i,i<4→∃A n c,V i= .slice A n c):U8 (Ly.jl V):=fun j x hj=>by
 obtain⟨A0,n0,c0,h0⟩:=h 0 om;obtain⟨A1,n1,c1,h1⟩:=h 1 om;obtain⟨A2,n2,c2,h2⟩:=h 2 om;obtain⟨A3,n3,c3,h3⟩:=h 3 om
 match j with
 |0=>simp[Ly.jl,h0]at hj
 |1=>simp[Ly.jl,h1]at hj
 |2=>simp[Ly.jl,h2]at hj
 |3=>simp[Ly.jl,h3]at hj
 |k+4=>simp[Ly.jl]at hj
theorem aY.ab5 {w B n c g A l} (h:aY w B A n c l) {cs t fr} (hg:w.heap[g]? =some (.cells cs t fr)) (hn:U8 cs) (k v):aY (w.setCell ⟨g,k,none⟩ v) B A n c l:=by
 refine⟨h.1,h.2.1,h.2.2.1,fun h0=>?_⟩;obtain⟨b,off,e,hb,hc⟩:=h.2.2.2 h0;refine⟨b,off,e,hb,fun i u hu=>?_⟩;have h1:=hc i u hu;have hne:b≠g:=by
  rintro rfl;rw[Co w b (off+i) _ _ _ hg]at h1;simp only[jX,Df]at hu;obtain⟨z,_,hz⟩:=DC.1 hu;rw[←hz]at h1;exact hn _ z h1
 exact(AO w ⟨g,k,none⟩ ⟨b,off+i,none⟩ v (fun e=>by injection e with e1 _ _;exact hne e1.symm)).trans h1
theorem aK.store {w p a g l e} (h:aK w p l a e) {cs t fr} (hg:w.heap[g]? =some (.cells cs t fr)) (hn:U8 cs) (hne:g≠p) (k v):aK (w.setCell ⟨g,k,none⟩ v) p l a e:=by
 obtain⟨A,n,c,h1,h2,h3,h4⟩:=h;exact⟨A,n,c,(AQ w ⟨g,k,none⟩ v p (fun e=>hne e.symm)).trans h1,h2.ab5 hg hn k v,h3,h4⟩
theorem ah.past {w w' base n c q A l} (h:ah w base A n c l) (hg:w.grownBy w' (some q)) (hq:q<base):ah w' base A n c l:=
 ag h hg (by
  rcases hA:ab A with _|g
  ·exact .inl rfl
  ·refine .inr fun e=>?_
   have:=(ae h g hA).1;have:=Oj e;omega)
def bQ (w:World) (base:Nat) (V:Nat→Value) (D:Nat→List UInt8):Prop:=∀i,i<4→∃A n c,V i= .slice A n c∧ah w base A n c (D i)
theorem bQ.form {w base V D} (h:bQ w base V D):∀i,i<4→∃A n c,V i= .slice A n c:=fun i hi=>by obtain⟨A,n,c,h1,_⟩:=h i hi;exact⟨A,n,c,h1⟩
theorem bQ.grown {w w' base g V D} (h:bQ w base V D) (hg:w.grownBy w' (some g)) (h1:g<base):bQ w' base V D:=fun i hi=>by
 obtain⟨A,n,c,h2,h3⟩:=h i hi;exact⟨A,n,c,h2,ah.past h3 hg h1⟩
theorem bQ.below {w w' base V D} (h:bQ w base V D) (hb:Below w.heap.size w w'):bQ w' base V D:=fun i hi=>by
 obtain⟨A,n,c,h2,h3⟩:=h i hi;exact⟨A,n,c,h2,ah.keep h3 hb⟩
theorem bQ.put {w base k V D} (h:bQ w base V (Ly.gate k D)) {A n c} (ho:ah w base A n c (D k)):bQ w base (fun i=>if i=k then .slice A n c else V i) (Ly.gate (k+1) D):=fun i hi=>by
 by_cases he:i=k
 ·subst he;exact⟨A,n,c,Ah,by unfold Ly.gate;rw[Ps0 om];exact ho⟩
 ·obtain⟨A',n',c',h1,h2⟩:=h i hi;refine⟨A',n',c',by simp[he,h1],?_⟩;unfold Ly.gate at h2⊢;by_cases hk:i<k
  ·rw[Ps0 hk]at h2;rw[Ps0 om];exact h2
  ·rw[Ng hk]at h2;rw[Ng om];exact h2
end
end
section
section
open Go.RowKit Go.Shelf
theorem iQ {P:Program} {fn:Func} {a b u:Tmp} {T1 T2:TypeId} (h:fn.results= #[.cell a T1,.cell b T2,.tmp u]) (tmps:Array Value) (w:World) (g1 g2:Nat) (cs1 cs2:Array Value) (t1 t2:TypeId) (f1 f2:Nat×Nat) (d1 d2:TypeDesc)
  (ha:tmps.getD a undef= .pointer (some ⟨g1,0,none⟩)) (hb:tmps.getD b undef= .pointer (some ⟨g2,0,none⟩)) (hg1:w.heap[g1]? =some (.cells cs1 t1 f1)) (hg2:w.heap[g2]? =some (.cells cs2 t2 f2))
  (hu1:P.underlying T1=some d1) (hd1:(match d1 with| .struct _| .array _ _=>true|_=>false)=true) (hi1:(P.info? T1).map (·.size)=some cs1.size)
  (hu2:P.underlying T2=some d2) (hd2:(match d2 with| .struct _| .array _ _=>true|_=>false)=true) (hi2:(P.info? T2).map (·.size)=some cs2.size):
  (results fn tmps).run P w= .ok (.tuple #[.agg cs1,.agg cs2,tmps.getD u undef]) w:=by
 have ha':tmps[a]?.getD undef= .pointer (some ⟨g1,0,none⟩):=by simpa using ha
 have hb':tmps[b]?.getD undef= .pointer (some ⟨g2,0,none⟩):=by simpa using hb
 simp[results,h,ha',hb',asAddr,run_loadVar_row w g1 t1 T1 cs1 f1 d1 hg1 hu1 hd1 hi1,run_loadVar_row w g2 t2 T2 cs2 f2 d2 hg2 hu2 hd2 hi2]
theorem cO {P:Program} {fn:Func} {a u:Tmp} {T1:TypeId} (h:fn.results= #[.cell a T1,.tmp u]) (tmps:Array Value) (w:World) (g1:Nat) (cs1:Array Value) (t1:TypeId) (f1:Nat×Nat) (d1:TypeDesc)
  (ha:tmps.getD a undef= .pointer (some ⟨g1,0,none⟩)) (hg1:w.heap[g1]? =some (.cells cs1 t1 f1))
  (hu1:P.underlying T1=some d1) (hd1:(match d1 with| .struct _| .array _ _=>true|_=>false)=true) (hi1:(P.info? T1).map (·.size)=some cs1.size):
  (results fn tmps).run P w= .ok (.tuple #[.agg cs1,tmps.getD u undef]) w:=by
 have ha':tmps[a]?.getD undef= .pointer (some ⟨g1,0,none⟩):=by simpa using ha
 simp[results,h,ha',asAddr,run_loadVar_row w g1 t1 T1 cs1 f1 d1 hg1 hu1 hd1 hi1]
def j5 (w:World) (g:Nat) (a b c d:Value):World:=(((w.setCell ⟨g,0,none⟩ a).setCell ⟨g,1,none⟩ b).setCell ⟨g,2,none⟩ c).setCell ⟨g,3,none⟩ d
def Qk (w:World) (g:Nat) (a b c d e:Value):World:=((((w.setCell ⟨g,0,none⟩ a).setCell ⟨g,1,none⟩ b).setCell ⟨g,2,none⟩ c).setCell ⟨g,3,none⟩ d).setCell ⟨g,4,none⟩ e
theorem nK (w g a b c d) {cs t} (h:w.heap[g]? =some (.cells cs t (0,0))) (hs:cs.size=4):(j5 w g a b c d).heap[g]? =some (.cells #[a,b,c,d] t (0,0)):=by
 unfold j5;rw[Ag _ g 3 _ t _ (Ag _ g 2 _ t _ (Ag _ g 1 _ t _ (Ag w g 0 _ t _ h)))];obtain⟨L,rfl⟩:∃L:List Value,cs=L.toArray:=⟨cs.toList,Ah⟩
 match L,hs with
 |[_,_,_,_],_=>rfl
theorem EZ (w g a b c d e) {cs t} (h:w.heap[g]? =some (.cells cs t (0,0))) (hs:cs.size=5):(Qk w g a b c d e).heap[g]? =some (.cells #[a,b,c,d,e] t (0,0)):=by
 unfold Qk;rw[Ag _ g 4 _ t _ (Ag _ g 3 _ t _ (Ag _ g 2 _ t _ (Ag _ g 1 _ t _ (Ag w g 0 _ t _ h))))];obtain⟨L,rfl⟩:∃L:List Value,cs=L.toArray:=⟨cs.toList,Ah⟩
 match L,hs with
 |[_,_,_,_,_],_=>rfl
theorem dx (w:World) (g a b c d):w.grownBy (j5 w g a b c d) (some g):=
 (((ak w ⟨g,0,none⟩ a).trans (ak _ ⟨g,1,none⟩ b)).trans (ak _ ⟨g,2,none⟩ c)).trans (ak _ ⟨g,3,none⟩ d)
theorem iB (w:World) (g a b c d e):w.grownBy (Qk w g a b c d e) (some g):=
 ((((ak w ⟨g,0,none⟩ a).trans (ak _ ⟨g,1,none⟩ b)).trans (ak _ ⟨g,2,none⟩ c)).trans (ak _ ⟨g,3,none⟩ d)).trans (ak _ ⟨g,4,none⟩ e)
theorem lC (w g a b c d):(j5 w g a b c d).heap.size=w.heap.size:=by simp[j5]
theorem bQ.drew {w base V D} (h:bQ w base V D):bQ w.drew base V D:=h
theorem E8 {w:World} {g:Nat} {x} (h:w.heap[g]? =x):w.drew.heap[g]? =x:=h
namespace Ly
def mK (l:List UInt8) (i:Nat):List UInt8:=if pe l=0 then sec l i else[]
def U9 (l:List UInt8) (i:Nat):Nat:=if pe l=0 then dL l i else 0
end Ly
end
end
section
open Go.RowKit Go.Shelf
theorem Ly.E9 (l a) (s:List UInt8) (e) (ha:a≤l.length) (h:e=0→s.length≤l.length-a):
  (Wr.take l a e ((min (l.drop a).length s.length:Nat):Int)).2=if e=0 then(a+s.length,0)else(a,e):=by
 unfold Wr.take;by_cases he:e=0
 ·have h1:=h he;have hm:min (l.drop a).length s.length=s.length:=by rw[kz];omega
  rw[Ng (by simpa using he),hm,Ng om,Ng om,Ps0 he,lZ]
 ·rw[Ps0 he,Ng he]
theorem Ly.sM {b s} (h:Ly.lit b s=0):s.length≤b.length:=by
 unfold Ly.lit at h;split at h
 ·omega
 ·split at h
  ·omega
  ·omega
theorem Ly.afp (l) (h:l.length≤140737488354000) (k):(Ly.S l k).1≤l.length:=by
 induction k with
 |zero=>
  show Ly.a0 l≤_;unfold Ly.a0;split
  ·rename_i h0
   have:=Ly.sM h0;exact this
  ·omega
 |succ k ih=>
  rw[Ly.oW];generalize Ly.S l k=s at*;obtain⟨a,e⟩:=s;unfold Wr.mJ;simp only at ih⊢;by_cases he:e=0
  ·subst he;rw[Ng Ah];by_cases h0:(Wr.aL l a (UInt8.ofNat (1+k))).2.2=0
   ·rw[Ng (by simpa using h0)];have:=Wr.qz h0;simp only;omega
   ·rw[Ps0 h0];exact ih
  ·rw[Ps0 he];exact ih
theorem Np (A n c l w) (hv:aY w w.heap.size A n c l) (hnb:n≤140737488353000) (ht:gH w):
  Calls prog 64 #[.slice A n c] w fun r w'=>∃V M,r= .returned (.tuple #[.agg (Ly.jl V),.agg (Ly.jZ M),.int .i64 (Ly.pe l)])∧bQ w' w.heap.size V (Ly.mK l)∧(∀i,i<5→M i=Ly.U9 l i)∧Below w.heap.size w w':=by
 have hlc:=hv.1;have hcm:=hv.2.1;unfold maxLen at hcm;have hn:=Al hv.len;obtain⟨W4,IG⟩:∃W4,W4=(((w.alloc (.cells #[.slice none 0 0,.slice none 0 0,.slice none 0 0,.slice none 0 0] 76)).alloc (.cells #[.int .i64 0,.int .i64 0,.int .i64 0,.int .i64 0,.int .i64 0] 128)).alloc
  (.cells #[.slice none 0 0,.slice none 0 0,.slice none 0 0,.slice none 0 0] 76)).alloc (.cells #[.int .i64 0,.int .i64 0,.int .i64 0,.int .i64 0,.int .i64 0] 128):=⟨_,rfl⟩
 have yu:W4.heap.size=w.heap.size+4:=by rw[IG];simp
 have hb4:Below w.heap.size w W4:=by rw[IG];exact((((Ae _ w).alloc Aj _).alloc Ah _).alloc (by simp;omega) _).alloc (by simp;omega) _
 have hg2:W4.heap[w.heap.size]? =some (.cells (Ly.jl fun _=> .slice none 0 0) 76 (0,0)):=by
  rw[IG];rw[heap_alloc_old _ _ (by simp;omega),heap_alloc_old _ _ (by simp;omega),heap_alloc_old _ _ Ah,Aw];rfl
 have hg3:W4.heap[w.heap.size+1]? =some (.cells (Ly.jZ fun _=>0) 128 (0,0)):=by
  rw[IG];rw[heap_alloc_old _ _ Ah,heap_alloc_old _ _ Ah];have h:=Aw (w.alloc (.cells #[.slice none 0 0,.slice none 0 0,.slice none 0 0,.slice none 0 0] 76)) (.cells #[.int .i64 0,.int .i64 0,.int .i64 0,.int .i64 0,.int .i64 0] 128);rw[AV]at h;exact h
 have hg5:W4.heap[w.heap.size+1+1]? =some (.cells (Ly.jl fun _=> .slice none 0 0) 76 (0,0)):=by
  rw[IG];rw[heap_alloc_old _ _ Ah];have h:=Aw ((w.alloc (.cells #[.slice none 0 0,.slice none 0 0,.slice none 0 0,.slice none 0 0] 76)).alloc (.cells #[.int .i64 0,.int .i64 0,.int .i64 0,.int .i64 0,.int .i64 0] 128)) (.cells #[.slice none 0 0,.slice none 0 0,.slice none 0 0,.slice none 0 0] 76);rw[AV,AV]at h;exact h
 have PG:W4.heap[w.heap.size+1+1+1]? =some (.cells (Ly.jZ (Ly.mk (Ly.dL l) 0)) 128 (0,0)):=by
  rw[IG];have h:=Aw (((w.alloc (.cells #[.slice none 0 0,.slice none 0 0,.slice none 0 0,.slice none 0 0] 76)).alloc (.cells #[.int .i64 0,.int .i64 0,.int .i64 0,.int .i64 0,.int .i64 0] 128)).alloc (.cells #[.slice none 0 0,.slice none 0 0,.slice none 0 0,.slice none 0 0] 76)) (.cells #[.int .i64 0,.int .i64 0,.int .i64 0,.int .i64 0,.int .i64 0] 128);rw[AV,AV,AV]at h;exact h
 have HW:=Al IG.symm;have Z4:=Al yu;have B4:=Al hb4;have V4:=Al (hv.below hb4);have T4:=Al (ht.below hb4);have G2:=Al hg2;have G3:=Al hg3;have G5:=Al hg5;have G6:=Al PG;have hgt:=ht.lt;have hSl:=Al (Ly.afp l (by have:=hn.1;omega));have hTL:=Al (Ly.E9 l 0 Ly.head (Ly.lit l Ly.head) (bf _) (fun h=>by have:=Ly.sM h;omega));rw[Ct]at hTL;have ab6:w.heap.size≤W4.heap.size:=om;clear hv ht IG yu hb4 hg2 hg3 hg5 PG;go_enter func64,ntmps64;go_upto_region 3 with fail;rw[HW.1];have hgs:Kept (W4.heap.size=w.heap.size+1+1+1+1):=⟨by rw[Z4.1]⟩
 generalize PG:w.heap.size+1+1+1=g6 at*;generalize hg5:w.heap.size+1+1=g5 at*;generalize hg3:w.heap.size+1=g3 at*;generalize hg2:w.heap.size=g2 at*;have ah0:g2<g3:=om;have ah1:g3<g5:=om;have ah2:g5<g6:=om;have X8:g6<W4.heap.size:=by rw[hgs.1];omega
 have E2:=Al hg2;clear PG hg5 hg3 hgs Z4 hg2;go_upto_region 5 with(first
  |(go_at_call 110;refine(dK A n c g2 l W4 V4.1 ab6 om).mono ?_;rintro r w5 ⟨p,rfl,hp1,hp2,UA,hb5⟩;have r5:=Al UA;have b5:=Al hb5;have z5:=hb5.size;clear UA hb5)
  |(go_at_call 111;refine(kJ p 0 l 0 A n c g2 l ⟨#[84,83,66,75,1]⟩ w5 (Ly.lit l Ly.head) rfl r5.1 (V4.1.below (b5.1.mono ab6)) Ai).mono ?_;rintro r w6 ⟨rfl,hr6,PG⟩;have r6:=Al hr6;have gr6:=Al PG;have z6:=PG.size;clear hr6 PG))
 have r6':aK w6 p l (Wr.take l 0 (Ly.lit l Ly.head) ((min l.length Ly.head.length:Nat):Int)).2.1 (Wr.take l 0 (Ly.lit l Ly.head) ((min l.length Ly.head.length:Nat):Int)).2.2:=r6.1;rw[hTL.1]at r6';have hp0:W4.heap.size≤p:=hp1;have R6:Kept (aK w6 p l (Ly.S l 0).1 (Ly.S l 0).2):=⟨by
  have h:=r6';show aK w6 p l (Ly.a0 l) (Ly.lit l Ly.head);unfold Ly.a0;by_cases h0:Ly.lit l Ly.head=0
  ·rw[Ps0 h0]at h⊢;rw[h0];exact h
  ·rw[Ng h0]at h⊢;exact h⟩
 have B6:Kept (Below W4.heap.size W4 w6):=⟨b5.1.trans (EU gr6.1 hp0 z5)⟩
 have F6:Kept (bQ w6 w6.heap.size (fun _=> .slice none 0 0) (Ly.gate 0 (Ly.sec l))):=⟨fun i hi=>⟨none,0,0,rfl,ah.nil _ _⟩⟩
 have H5:Kept (w6.heap[g5]? =some (.cells (Ly.jl fun _=> .slice none 0 0) 76 (0,0))):=⟨(B6.1.block g5 om).trans G5.1⟩
 have H6:Kept (w6.heap[g6]? =some (.cells (Ly.jZ (Ly.mk (Ly.dL l) 0)) 128 (0,0))):=⟨(B6.1.block g6 om).trans G6.1⟩
 have Va:p<w6.heap.size:=om;have akm:W4.heap.size≤w6.heap.size:=B6.1.size;have D4:Kept (Below g5 W4 w6):=⟨B6.1.mono om⟩
 clear r6' r6 r5 b5 gr6 B6 G5 G6 hTL;generalize ab7:w6.heap.size=base at*;have hzb:base≤w6.heap.size:=by rw[ab7];exact Nr _
 clear ab7;go_wp2;go_loopw [17] (fun i wr=>∃k:Nat,k≤4∧i= .int .i64 k∧aK wr p l (Ly.S l k).1 (Ly.S l k).2∧wr.heap[g6]? =some (.cells (Ly.jZ (Ly.mk (Ly.dL l) k)) 128 (0,0))∧
  (∃V,wr.heap[g5]? =some (.cells (Ly.jl V) 76 (0,0))∧bQ wr base V (Ly.gate k (Ly.sec l)))∧Below g5 W4 wr∧base≤wr.heap.size) (fun i _=>4-(intOf i).toNat)
 case atStart=>exact⟨0,om,rfl,R6.1,H6.1,⟨_,H5.1,F6.1⟩,D4.1,hzb⟩
 case round=>
  clear R6 H6 H5 F6 D4;obtain⟨k,hk,rfl,hr,ha,⟨V,hs,hf⟩,hb,hz⟩:=hrel;by_cases hlt:k<4
  ·have hck:=(Co wr g6 k _ _ _ ha).trans (Ly.aC _ k om);have hfk:=Fr wr g6 k _ _ ha;have hak:Ly.dL l k=(Ly.S l k).1:=rfl;have hset:=Ly.yo (Ly.dL l) k om;have hsu:=Ly.oW l k;have hse:=Ly.sK l k;have Qi:=Ly.Qg k om;rw[hak]at hset;have hSk:=hSl.1 k;obtain⟨s,hSs⟩:∃s,Ly.S l k=s:=⟨_,rfl⟩
   rw[hSs]at hr hset hsu hse hSk;obtain⟨a,e⟩:=s;simp only at hr hset hsu hse hSk;have rF:g6≠p:=om;have Qj:g5≠p:=om;have hr1:=hr.store ha (U8.jZ _) rF k (.int .i64 (a:Int));have ha1:(wr.setCell ⟨g6,k,none⟩ (.int .i64 (a:Int))).heap[g6]? =some (.cells (Ly.jZ (Ly.mk (Ly.dL l) (k+1))) 128 (0,0)):=by rw[Ag wr g6 k _ _ _ ha,hset]
   have hs1:=(AQ wr ⟨g6,k,none⟩ (.int .i64 (a:Int)) g5 (by show g5≠g6;omega)).trans hs;have hf1:=hf.grown (ak wr ⟨g6,k,none⟩ (.int .i64 (a:Int))) (by show g6<base;omega);have hb1:Below g5 W4 (wr.setCell ⟨g6,k,none⟩ (.int .i64 (a:Int))):=hb.setCell (p:=⟨g6,k,none⟩) (by show g5≤g6;omega) _;have hz1:(wr.setCell ⟨g6,k,none⟩ (.int .i64 (a:Int))).heap.size=wr.heap.size:=Ah;have ht1:gH (wr.setCell ⟨g6,k,none⟩ (.int .i64 (a:Int))):=T4.1.base (base:=g5) om hb1;have HS:=qA p a l e (UInt8.ofNat (1+k)) _ hr1 ht1;rw[Qi,←hse,←hsu]at HS;rw[hz1]at HS;have HR:=Al hr;have HS':=Al HS;have A1:=Al ha1;have S1:=Al hs1;have F1:=Al hf1;have C1:=Al hb1;have Z1:=Al hz1;have afr:Kept (∀W,bQ W base V (Ly.gate k (Ly.sec l))→∀A n c,ah W base A n c (Ly.sec l k)→bQ W base (fun i=>if i=k then .slice A n c else V i) (Ly.gate (k+1) (Ly.sec l))):=⟨fun W h A n c ho=>h.put ho⟩
   clear hr hr1 ha ha1 hs hs1 hf hf1 hb hb1 hz1 ht1 HS hSs hset hsu hse hak Qi;go_wp2_with (first
    |(go_at_call 112;refine(iX p a l e wr HR.1).mono ?_;rintro r w7 ⟨rfl,rfl⟩)
    |(go_at_call 113;refine HS'.1.mono ?_;rintro r w8 ⟨A3,n3,c3,rfl,Yb,hr8,rG⟩;have Yc:=Al ((rG.block g6 (by rw[Z1.1];omega) (fun e=>rF (Oj e))).trans A1.1);have s8:=Al ((rG.block g5 (by rw[Z1.1];omega) (fun e=>Qj (Oj e))).trans S1.1);have f8:=Al (afr.1 _ (F1.1.grown rG Va) A3 n3 c3 (ah.base Yb hz));have b8:=Al (C1.1.grown rG (by rw[Z1.1];omega) (fun g e=>by cases e;omega));have hfm:=Al ((F1.1.grown rG Va).form);have z8:=rG.size;rw[Z1.1]at z8;have c8:=(Co w8 g5 k _ _ _ s8.1).trans (Ly.bG V k hlt);have q8:=Fr w8 g5 k _ _ s8.1;have r8:=Al hr8;clear Yb hr8 rG))
   go_roundw
   case rel=>
    refine⟨k+1,om,by go_num,r8.1.store s8.1 (U8.jl V hfm.1) Qj k _,(AQ w8 ⟨g5,k,none⟩ _ g6 (by show g6≠g5;omega)).trans Yc.1,⟨fun i=>if i=k then .slice A3 n3 c3 else V i,?_,f8.1.grown (ak w8 ⟨g5,k,none⟩ _) (by show g5<base;omega)⟩,b8.1.setCell (p:=⟨g5,k,none⟩) Aj _,by simp;omega⟩;rw[Ag w8 g5 k _ _ _ s8.1,Ly.U7 V k _ hlt]
   case measure=>simp[intOf];omega
  ·obtain rfl:k=4:=by omega
   have hck:=(Co wr g6 4 _ _ _ ha).trans (Ly.aC _ 4 om);have hfk:=Fr wr g6 4 _ _ ha;have hset:=Ly.yo (Ly.dL l) 4 om;have hsu:=Ly.oW l 4;have hse:=Ly.sK l 4;have hak:Ly.dL l 4=(Ly.S l 4).1:=rfl;rw[hak]at hset;have hSk:=hSl.1 4;have hS5:=hSl.1 5;obtain⟨s,hSs⟩:∃s,Ly.S l 4=s:=⟨_,rfl⟩
   rw[hSs]at hr hset hsu hse hSk;obtain⟨a,e⟩:=s;simp only at hr hset hsu hse hSk;have rF:g6≠p:=om;have Qj:g5≠p:=om;have hr1:=hr.store ha (U8.jZ _) rF 4 (.int .i64 (a:Int));have ha1:(wr.setCell ⟨g6,4,none⟩ (.int .i64 (a:Int))).heap[g6]? =some (.cells (Ly.jZ (Ly.mk (Ly.dL l) 5)) 128 (0,0)):=by rw[Ag wr g6 4 _ _ _ ha,hset]
   have hs1:=(AQ wr ⟨g6,4,none⟩ (.int .i64 (a:Int)) g5 (by show g5≠g6;omega)).trans hs;have hf1:=hf.grown (ak wr ⟨g6,4,none⟩ (.int .i64 (a:Int))) (by show g6<base;omega);have hb1:Below g5 W4 (wr.setCell ⟨g6,4,none⟩ (.int .i64 (a:Int))):=hb.setCell (p:=⟨g6,4,none⟩) (by show g5≤g6;omega) _;have hz1:(wr.setCell ⟨g6,4,none⟩ (.int .i64 (a:Int))).heap.size=wr.heap.size:=Ah;have ht1:gH (wr.setCell ⟨g6,4,none⟩ (.int .i64 (a:Int))):=T4.1.base (base:=g5) om hb1;have HS:=qA p a l e 5 _ hr1 ht1;rw[show(5:UInt8)=UInt8.ofNat (1+4)from rfl,←hse,←hsu,hz1]at HS;have HS':Kept (Calls prog 113 #[.pointer (some ⟨p,0,none⟩),.int .u8 5] (wr.setCell ⟨g6,4,none⟩ (.int .i64 (a:Int))) fun r w'=>∃A3 n3 c3,r= .returned (.slice A3 n3 c3)∧ah w' wr.heap.size A3 n3 c3 (Ly.sec l 4)∧aK w' p l (Ly.S l 5).1 (Ly.S l 5).2∧(wr.setCell ⟨g6,4,none⟩ (.int .i64 (a:Int))).grownBy w' (some p)):=⟨HS⟩
   have HR:=Al hr;have A1:=Al ha1;have S1:=Al hs1;have F1:=Al hf1;have C1:=Al hb1;have Z1:=Al hz1;clear hr hr1 ha ha1 hs hs1 hf hf1 hb hb1 hz1 ht1 HS hSs hset hsu hse hak;go_upto_region 13 with(first
    |(go_at_call 112;refine(iX p a l e wr HR.1).mono ?_;rintro r w7 ⟨rfl,rfl⟩)
    |(go_at_call 113;refine HS'.1.mono ?_;rintro r w8 ⟨A3,n3,c3,rfl,Yb,hr8,rG⟩;have Yc:=Al ((rG.block g6 (by rw[Z1.1];omega) (fun e=>rF (Oj e))).trans A1.1);have s8:=Al ((rG.block g5 (by rw[Z1.1];omega) (fun e=>Qj (Oj e))).trans S1.1);have f8:=Al (F1.1.grown rG Va);have b8:=Al (C1.1.grown rG (by rw[Z1.1];omega) (fun g e=>by cases e;omega));have z8:=rG.size;rw[Z1.1]at z8;have o8:=Al Yb;have r8:=Al hr8;clear Yb hr8 rG))
   clear HR HS' A1 S1 F1 C1 Z1 hck hfk;have hm:∀i,Ly.mk (Ly.dL l) 5 i≤140737488355328:=fun i=>by
    unfold Ly.mk;split
    ·have h1:=hSl.1 i;have h2:=hn.1;show(Ly.S l i).1≤_;omega
    ·omega
   have hcg:Ly.ig (Ly.mk (Ly.dL l) 5) 4=Ly.ig (Ly.dL l) 4:=Ly.lu 4 fun i hi=>by unfold Ly.mk;rw[Ps0 om]
   have hcp:0< (Ly.ig (Ly.dL l) 4).length:=by rw[Ly.kH,La];have:=Vi.cK (Ly.dL l 3);omega
   have HC:=nI (Ly.mk (Ly.dL l) 5) w8 hm;rw[hcg]at HC;have k0:=(Co w8 g6 0 _ _ _ Yc.1).trans (Ly.aC _ 0 om);have k1:=(Co w8 g6 1 _ _ _ Yc.1).trans (Ly.aC _ 1 om);have k2:=(Co w8 g6 2 _ _ _ Yc.1).trans (Ly.aC _ 2 om);have k3:=(Co w8 g6 3 _ _ _ Yc.1).trans (Ly.aC _ 3 om);have k4:=(Co w8 g6 4 _ _ _ Yc.1).trans (Ly.aC _ 4 om);unfold Ly.jZ at HC;have HC':=Al HC;have hpe:Ly.pe l=if(Ly.S l 5).2≠0 then(Ly.S l 5).2 else if Ly.sec l 4≠Ly.ig (Ly.dL l) 4 then 13 else if l.length-(Ly.S l 5).1<4 then 3 else if bP.bN (l.take ((Ly.S l 5).1+4))=false then 12
    else if Ly.lit (l.drop ((Ly.S l 5).1+4)) Ly.tail≠0 then Ly.lit (l.drop ((Ly.S l 5).1+4)) Ly.tail else if(Ly.S l 5).1+8<l.length then 4 else 0:=rfl
   have hsn:(Ly.S l 5).2≠0→Ly.sec l 4=[]:=fun h=>by
    rw[Ly.oW]at h;rw[Ly.sK];revert h;unfold Wr.mJ;by_cases he:(Ly.S l 4).2≠0
    ·rw[Ps0 he];intro _;rfl
    ·rw[Ng he];by_cases h0:(Wr.aL l (Ly.S l 4).1 (UInt8.ofNat (1+4))).2.2≠0
     ·rw[Ps0 h0];intro _;rfl
     ·rw[Ng h0];intro h;exact absurd rfl h
   obtain⟨s5,hs5⟩:∃s,Ly.S l 5=s:=⟨_,rfl⟩
   rw[hs5]at r8 hpe hsn hS5;obtain⟨a5,e5⟩:=s5;simp only at r8 hpe hsn hS5;clear HC hm hcg hs5;have Ql:Kept (∀i,i<5→Ly.mk (Ly.dL l) 5 i=Ly.dL l i):=⟨fun i hi=>by unfold Ly.mk;rw[Ps0 hi]⟩
   generalize Ly.mk (Ly.dL l) 5=m5 at*;generalize hDD:Ly.sec l 4=D at*;generalize hCC:Ly.ig (Ly.dL l) 4=C at*;have hlen:=hn.1;have Vt0:Kept (∀W,Below g2 W4 W→∀k,k≤n→aY W g2 A k c (l.take k)):=⟨fun W h k hk=>(V4.1.below h).take hk⟩
   have Vd0:Kept (∀W,Below g2 W4 W→∀k,k≤n→c≠k→aY W g2 (A.map (·.add k)) (n-k) (c-k) (l.drop k)):=⟨fun W h k hk hc=>by have h1:=(V4.1.below h).drop hk;rw[Ng hc]at h1;exact h1⟩
   have KS:(⟨#[75,66,83,84]⟩:ByteArray).data.toList=Ly.tail:=rfl;have h4t:Ly.tail.length=4:=rfl;have mM:∀x:Int,x≠0→(x !=0)=true∧(x==0)=false:=fun x h=>⟨by simpa using h,by simpa using h⟩
   have htk:∀(a:Nat) (e m:Int),e≠0→Wr.take l a e m=([],a,e):=fun a e m h=>by unfold Wr.take;rw[Ps0 h]
   have hfn:∀(a:Nat) (e:Int),e≠0→Wr.fin l a e=e:=fun a e h=>by unfold Wr.fin;rw[Ps0 h]
   obtain⟨e6,T,n4,a7,e7,e8,e9,a10,e10,er,Vb,Vd,h7n,he9,wP,Zj,acb,SHAPE⟩:∃(e6:Int) (T:List UInt8) (n4 a7:Nat) (e7 e8 e9:Int) (a10:Nat) (e10 er:Int),
     Wr.take l a5 e6 4=(T,a7,e7)∧T.length=n4∧a7≤n∧e9=(if e8=0 then Ly.lit (l.drop a7) (⟨#[75,66,83,84]⟩:ByteArray).data.toList else e8)∧(Wr.take l a7 e9 ((min (l.drop a7).length (⟨#[75,66,83,84]⟩:ByteArray).data.toList.length:Nat):Int)).2=(a10,e10)∧Wr.fin l a10 e10=er∧Ly.pe l=er∧
      (((((D==C)=false∧(if e5=0 then 13 else e5)=e6∧n4=0∧e8=e7)∨((D==C)=true∧e6=e5∧n4=0∧e8=e7)∨((D==C)=true∧e6=e5∧n4=4∧bP.bN (l.take a7)=false∧(if e7=0 then 12 else e7)=e8)∨((D==C)=true∧e6=e5∧n4=4∧bP.bN (l.take a7)=true∧e8=e7))∧(er !=0)=true∧(er==0)=false)∨((D==C)=true∧e6=e5∧n4=4∧bP.bN (l.take a7)=true∧e8=e7∧er=0∧c≠a7)):=by
    by_cases hDC:D=C
    ·obtain rfl:e5=0:=by
      by_cases h:e5=0
      ·exact h
      ·have h1:=hsn h;rw[hDC]at h1;rw[h1]at hcp;simp at hcp
     have hE:(D==C)=true:=by rw[hDC];simp
     have yw:Ly.pe l=if l.length-a5<4 then 3 else if bP.bN (l.take (a5+4))=false then 12 else if Ly.lit (l.drop (a5+4)) Ly.tail≠0 then Ly.lit (l.drop (a5+4)) Ly.tail else if a5+8<l.length then 4 else 0:=by
      rw[hpe,Ng Ah,Ng (by simpa using hDC)]
     by_cases hsh:l.length-a5<4
     ·exact⟨0,[],0,a5,3,3,3,a5,3,3,by unfold Wr.take;rw[Ng Ah,Ng om,Ps0 om],rfl,om,by rw[Ng Ah],by rw[htk _ _ _ Ai],hfn _ _ Ai,by rw[yw,Ps0 hsh],.inl ⟨.inr (.inl ⟨hE,rfl,rfl,rfl⟩),mM _ Ai⟩⟩
     ·have Vb:Wr.take l a5 0 4=((l.drop a5).take 4,a5+4,0):=by unfold Wr.take;rw[Ng Ah,Ng om,Ng om];rfl
      have Vd:((l.drop a5).take 4).length=4:=by rw[jD,kz];omega
      rw[Ng hsh]at yw;by_cases Ve:bP.bN (l.take (a5+4))=false
      ·exact⟨0,_,4,a5+4,0,12,12,a5+4,12,12,Vb,Vd,om,by rw[Ng Ah],by rw[htk _ _ _ Ai],hfn _ _ Ai,by rw[yw,Ps0 Ve],.inl ⟨.inr (.inr (.inl ⟨hE,rfl,rfl,Ve,by rw[Ps0 rfl]⟩)),mM _ Ai⟩⟩
      ·rw[Ng Ve]at yw;have hck:bP.bN (l.take (a5+4))=true:=by simpa using Ve
       by_cases vN:Ly.lit (l.drop (a5+4)) Ly.tail=0
       ·have h4l:=Ly.sM vN;rw[kz]at h4l;rw[Ng (by simpa using vN)]at yw;have wP:(Wr.take l (a5+4) 0 ((min (l.drop (a5+4)).length Ly.tail.length:Nat):Int)).2=(a5+8,0):=by rw[Ly.E9 l (a5+4) Ly.tail 0 om (fun _=>om),Ps0 rfl,h4t]
        by_cases htr:a5+8<l.length
        ·exact⟨0,_,4,a5+4,0,0,0,a5+8,0,4,Vb,Vd,om,by rw[Ps0 rfl,KS,vN],wP,by unfold Wr.fin;rw[Ng Ah,Ps0 htr],by rw[yw,Ps0 htr],.inl ⟨.inr (.inr (.inr ⟨hE,rfl,rfl,hck,rfl⟩)),mM _ Ai⟩⟩
        ·exact⟨0,_,4,a5+4,0,0,0,a5+8,0,0,Vb,Vd,om,by rw[Ps0 rfl,KS,vN],wP,by unfold Wr.fin;rw[Ng Ah,Ng htr],by rw[yw,Ng htr],.inr ⟨hE,rfl,rfl,hck,rfl,rfl,om⟩⟩
       ·rw[Ps0 vN]at yw;exact⟨0,_,4,a5+4,0,0,Ly.lit (l.drop (a5+4)) Ly.tail,a5+4,Ly.lit (l.drop (a5+4)) Ly.tail,_,Vb,Vd,om,by rw[Ps0 rfl,KS],by rw[htk _ _ _ vN],hfn _ _ vN,yw,.inl ⟨.inr (.inr (.inr ⟨hE,rfl,rfl,hck,rfl⟩)),mM _ vN⟩⟩
    ·obtain⟨e6,UC⟩:∃e6,(if e5=0 then 13 else e5)=e6:=⟨_,rfl⟩
     have Qm:e6≠0:=by rw[←UC];split<;>omega
     refine⟨e6,[],0,a5,e6,e6,e6,a5,e6,e6,htk _ _ _ Qm,rfl,om,by rw[Ng Qm],by rw[htk _ _ _ Qm],hfn _ _ Qm,?_,.inl ⟨.inl ⟨by simpa using hDC,UC,rfl,rfl⟩,mM _ Qm⟩⟩;rw[hpe,←UC];by_cases h:e5=0
     ·rw[Ng (by simpa using h),Ps0 hDC,Ps0 h]
     ·rw[Ps0 h,Ng h]
   clear hpe hsn hcp KS h4t mM htk hfn;have hpe:=Al acb;have Vt:Kept (∀W,Below g2 W4 W→aY W g2 A a7 c (l.take a7)):=⟨fun W h=>Vt0.1 W h a7 h7n⟩
   obtain⟨SA,sn,sc,VD,CUT⟩:∃SA sn sc,Kept (∀W,Below g2 W4 W→aY W g2 SA sn sc (l.drop a7))∧((n=c∧a7=c∧SA=A∧sn=0∧sc=0)∨((a7:Int)< (c:Int)∧SA=A.map (·.add a7)∧sn=n-a7∧sc=c-a7)):=by
    by_cases hcn:c=a7
    ·refine⟨A,0,0,⟨fun W h=>?_⟩,.inl ⟨om,om,rfl,rfl,rfl⟩⟩;rw[qW om];exact Rd.nil _ _ 1 0 A (by unfold maxLen;omega)
    ·exact⟨_,_,_,⟨fun W h=>Vd0.1 W h a7 h7n hcn⟩,.inr ⟨om,rfl,rfl,rfl⟩⟩
   have i1:(a7:Int)≤(n:Int):=om;have i3:(a7:Int)≤(c:Int):=om;clear hlen Vt0 Vd0 acb h7n;replace Vb:=Al Vb;replace Vd:=Al Vd;replace he9:=Al he9;replace wP:=Al wP;replace Zj:=Al Zj;rcases CUT with⟨rfl,rfl,rfl,rfl,rfl⟩|⟨i2,rfl,rfl,rfl⟩
   all_goals
    rcases SHAPE with⟨⟨hE,UC,rfl,rfl⟩|⟨hE,rfl,rfl,rfl⟩|⟨hE,rfl,rfl,hck,hk8⟩|⟨hE,rfl,rfl,hck,rfl⟩,hen,yg⟩|⟨hE,rfl,rfl,hck,rfl,rfl,hco⟩
    all_goals
     replace hE:=Al hE
     try replace UC:=Al UC
     try replace hk8:=Al hk8
     try replace hck:=Al hck
     try exact absurd rfl hco
   all_goals
    go_upto_region 20 with(first
     |(go_at_call 90;refine HC'.1.mono ?_;rintro r w9 ⟨A4,n4,c4,rfl,ho4,hb4⟩;have ar9:=Al ((hb4.block g6 om).trans Yc.1);have s9:=Al ((hb4.block g5 om).trans s8.1);have f9:=Al (f8.1.below hb4);have b9:=Al (b8.1.trans (hb4.mono om));have z9:=Lt z8 hb4.size;have r9:=Al (r8.1.below hb4 om);have q9:=Al (ah.keep o8.1 hb4).rd;have t9:=Al ho4.rd;clear ho4 hb4 k0 k1 k2 k3 k4)
     |(go_at_call 18;refine(Qf _ _ _ _ _ _ D C _ w9 _ _ q9.1 t9.1 hE.1).mono ?_;rintro r PH ⟨rfl,rfl⟩;clear q9 t9)
     |(go_at_call 114;refine(dm p _ l _ 13 w9 r9.1).mono ?_;rintro r PH ⟨rfl,Zk,Nq⟩;rw[UC.1]at Zk;have ace:=Al ((Nq.block g6 om (fun e=>rF (Oj e))).trans ar9.1);have s10:=Al ((Nq.block g5 om (fun e=>Qj (Oj e))).trans s9.1);have f10:=Al (f9.1.grown Nq Va);have b10:=Al (b9.1.grown Nq om (fun g e=>by cases e;omega));have z10:=Lt z9 Nq.size;have r10:=Al Zk;clear Zk Nq r9 ar9 s9 f9 b9)
     |(go_at_call 115;refine(jk p _ l _ 4 PH r10.1 om om).mono ?_;rintro r PI ⟨A11,n11,c11,rfl,I5,yx,oZ⟩;rw[Vb.1]at I5 yx;have Qn:=I5.len;simp only at yx;have Qo:=Al ((oZ.block g6 om (fun e=>rF (Oj e))).trans ace.1);have s11:=Al ((oZ.block g5 om (fun e=>Qj (Oj e))).trans s10.1);have f11:=Al (f10.1.grown oZ Va);have b11:=Al (b10.1.grown oZ om (fun g e=>by cases e;omega));have z11:=Lt z10 oZ.size;have r11:=Al yx;obtain rfl:=Qn.trans Vd.1;clear I5 yx oZ Qn r10 ace s10 f10 b10)
     |(go_at_call 115;refine(jk p _ l _ 4 w9 r9.1 om om).mono ?_;rintro r PI ⟨A11,n11,c11,rfl,I5,yx,oZ⟩;rw[Vb.1]at I5 yx;have Qn:=I5.len;simp only at yx;have Qo:=Al ((oZ.block g6 om (fun e=>rF (Oj e))).trans ar9.1);have s11:=Al ((oZ.block g5 om (fun e=>Qj (Oj e))).trans s9.1);have f11:=Al (f9.1.grown oZ Va);have b11:=Al (b9.1.grown oZ om (fun g e=>by cases e;omega));have z11:=Lt z9 oZ.size;have r11:=Al yx;obtain rfl:=Qn.trans Vd.1;clear I5 yx oZ Qn r9 ar9 s9 f9 b9)
     |(go_at_call 112;refine(iX p _ l _ PI r11.1).mono ?_;rintro r Zl ⟨rfl,rfl⟩)
     |(go_at_call 116;refine(wQ _ _ _ _ PI g2 (Vt.1 _ (b11.1.mono om)) (T4.1.base (base:=g5) om b11.1)).mono ?_;rintro r Zl ⟨rfl,rfl⟩;rw[hck.1])
     |(go_at_call 114;refine(dm p _ l _ 12 PI r11.1).mono ?_;rintro r Vf ⟨rfl,Zm,vO⟩;rw[hk8.1]at Zm;have acf:=Al ((vO.block g6 om (fun e=>rF (Oj e))).trans Qo.1);have s13:=Al ((vO.block g5 om (fun e=>Qj (Oj e))).trans s11.1);have f13:=Al (f11.1.grown vO Va);have b13:=Al (b11.1.grown vO om (fun g e=>by cases e;omega));have z13:=Lt z11 vO.size;have r13:=Al Zm;clear Zm vO r11 Qo s11 f11 b11)
     |(go_at_call 112;refine(iX p _ l _ Vf r13.1).mono ?_;rintro r w14 ⟨rfl,rfl⟩)
     |(go_at_call 111;refine(kJ p _ l _ _ _ _ g2 _ ⟨#[75,66,83,84]⟩ Vf e9 he9.1 r13.1 (VD.1 _ (b13.1.mono om)) Ai).mono ?_;rintro r ik ⟨rfl,yz,o9⟩;rw[wP.1]at yz;simp only at yz;have Ns:=Al ((o9.block g6 om (fun e=>rF (Oj e))).trans acf.1);have s15:=Al ((o9.block g5 om (fun e=>Qj (Oj e))).trans s13.1);have f15:=Al (f13.1.grown o9 Va);have b15:=Al (b13.1.grown o9 om (fun g e=>by cases e;omega));have z15:=Lt z13 o9.size;have Vg:=Al yz;clear yz o9 r13 acf s13 f13 b13)
     |(go_at_call 111;refine(kJ p _ l _ _ _ _ g2 _ ⟨#[75,66,83,84]⟩ PI e9 he9.1 r11.1 (VD.1 _ (b11.1.mono om)) Ai).mono ?_;rintro r ik ⟨rfl,yz,o9⟩;rw[wP.1]at yz;simp only at yz;have Ns:=Al ((o9.block g6 om (fun e=>rF (Oj e))).trans Qo.1);have s15:=Al ((o9.block g5 om (fun e=>Qj (Oj e))).trans s11.1);have f15:=Al (f11.1.grown o9 Va);have b15:=Al (b11.1.grown o9 om (fun g e=>by cases e;omega));have z15:=Lt z11 o9.size;have Vg:=Al yz;clear yz o9 r11 Qo s11 f11 b11)
     |(go_at_call 117;refine(gV p _ l _ ik Vg.1).mono ?_;rintro r w16 ⟨rfl,rfl⟩;rw[Zj.1]))
   all_goals first
    |(have hnz:er≠0:=(by simpa using yg);have mO:=(b15.1.block g2 om).trans G2.1;have hg3':=(b15.1.block g3 om).trans G3.1;have x0:=fun k=>Fr ik g2 k _ _ mO;have x1:=fun k=>Fr ik g3 k _ _ hg3';have y0:=(Co ik g2 0 _ _ _ mO).trans (Ly.bG _ 0 om);have y1:=(Co ik g2 1 _ _ _ mO).trans (Ly.bG _ 1 om);have y2:=(Co ik g2 2 _ _ _ mO).trans (Ly.bG _ 2 om);have y3:=(Co ik g2 3 _ _ _ mO).trans (Ly.bG _ 3 om);have u0:=(Co ik g3 0 _ _ _ hg3').trans (Ly.aC _ 0 om);have u1:=(Co ik g3 1 _ _ _ hg3').trans (Ly.aC _ 1 om);have u2:=(Co ik g3 2 _ _ _ hg3').trans (Ly.aC _ 2 om);have u3:=(Co ik g3 3 _ _ _ hg3').trans (Ly.aC _ 3 om);have u4:=(Co ik g3 4 _ _ _ hg3').trans (Ly.aC _ 4 om);have hoS:Kept (∀i,Ly.mK l i=[]):=⟨fun i=>by unfold Ly.mK;rw[hpe.1,Ng hnz]⟩;have hoA:Kept (∀i,Ly.U9 l i=0):=⟨fun i=>by unfold Ly.U9;rw[hpe.1,Ng hnz]⟩;have hre:=Al (EZ (j5 ik g2 (.slice none 0 0) (.slice none 0 0) (.slice none 0 0) (.slice none 0 0)) g3 (.int .i64 0) (.int .i64 0) (.int .i64 0) (.int .i64 0) (.int .i64 0) (((dx ik g2 _ _ _ _).block g3 om (fun e=>by have:=Oj e;omega)).trans hg3') rfl);have hrs:=Al (((iB (j5 ik g2 (.slice none 0 0) (.slice none 0 0) (.slice none 0 0) (.slice none 0 0)) g3 (.int .i64 0) (.int .i64 0) (.int .i64 0) (.int .i64 0) (.int .i64 0)).block g2 (by rw[lC];omega) (fun e=>by have:=Oj e;omega)).trans (nK ik g2 (.slice none 0 0) (.slice none 0 0) (.slice none 0 0) (.slice none 0 0) mO rfl));have hrb:Kept (Below g2 W4 (Qk (j5 ik g2 (.slice none 0 0) (.slice none 0 0) (.slice none 0 0) (.slice none 0 0)) g3 (.int .i64 0) (.int .i64 0) (.int .i64 0) (.int .i64 0) (.int .i64 0))):=⟨((b15.1.mono om).grown (dx ik g2 _ _ _ _) om (fun g e=>by cases e;omega)).grown (iB _ g3 _ _ _ _ _) (by rw[lC];omega) (fun g e=>by cases e;omega)⟩;clear mO hg3';go_wp2;refine Bg (v:= .tuple #[.agg (Ly.jl fun _=> .slice none 0 0),.agg (Ly.jZ fun _=>0),.int .i64 er]) ?_ rfl ⟨fun _=> .slice none 0 0,fun _=>0,by rw[hpe.1],fun i hi=>⟨none,0,0,rfl,by rw[hoS.1];exact ah.nil _ _⟩,fun i hi=>by rw[hoA.1],?_⟩;exact iQ (fn:=Tryz.f64) (a:=2) (b:=3) (u:=4) (T1:=76) (T2:=128) rfl _ _ g2 g3 _ _ _ _ _ _ _ _ rfl rfl hrs.1 hre.1 underlying76 rfl kr underlying128 rfl kr;(rw[E2.1];exact B4.1.trans hrb.1))
    |skip
   have mO:=(b15.1.block g2 om).trans G2.1;have hg3':=(b15.1.block g3 om).trans G3.1;have x0:=fun k=>Fr ik g2 k _ _ mO
   have x1:=fun k=>Fr ik g3 k _ _ hg3'
   have y0:=(Co ik g2 0 _ _ _ mO).trans (Ly.bG _ 0 om);have y1:=(Co ik g2 1 _ _ _ mO).trans (Ly.bG _ 1 om);have y2:=(Co ik g2 2 _ _ _ mO).trans (Ly.bG _ 2 om);have y3:=(Co ik g2 3 _ _ _ mO).trans (Ly.bG _ 3 om);have u0:=(Co ik g3 0 _ _ _ hg3').trans (Ly.aC _ 0 om);have u1:=(Co ik g3 1 _ _ _ hg3').trans (Ly.aC _ 1 om);have u2:=(Co ik g3 2 _ _ _ hg3').trans (Ly.aC _ 2 om);have u3:=(Co ik g3 3 _ _ _ hg3').trans (Ly.aC _ 3 om);have u4:=(Co ik g3 4 _ _ _ hg3').trans (Ly.aC _ 4 om);have v0:=(Co ik g5 0 _ _ _ s15.1).trans (Ly.bG _ 0 om);have v1:=(Co ik g5 1 _ _ _ s15.1).trans (Ly.bG _ 1 om);have v2:=(Co ik g5 2 _ _ _ s15.1).trans (Ly.bG _ 2 om);have v3:=(Co ik g5 3 _ _ _ s15.1).trans (Ly.bG _ 3 om);obtain⟨Aa,na,ca,ea⟩:=f15.1.form 0 om;obtain⟨Ab,nb,cb,eb⟩:=f15.1.form 1 om;obtain⟨Ac,nc,cc,ec⟩:=f15.1.form 2 om;obtain⟨Ad,nd,cd,ed⟩:=f15.1.form 3 om;have har:Kept (Ly.jl V= #[.slice Aa na ca,.slice Ab nb cb,.slice Ac nc cc,.slice Ad nd cd]):=⟨by unfold Ly.jl;rw[ea,eb,ec,ed]⟩
   rw[ea]at v0;rw[eb]at v1;rw[ec]at v2;rw[ed]at v3;clear ea eb ec ed;have m0:=(Co ik g6 0 _ _ _ Ns.1).trans (Ly.aC _ 0 om);have m1:=(Co ik g6 1 _ _ _ Ns.1).trans (Ly.aC _ 1 om);have m2:=(Co ik g6 2 _ _ _ Ns.1).trans (Ly.aC _ 2 om);have m3:=(Co ik g6 3 _ _ _ Ns.1).trans (Ly.aC _ 3 om);have m4:=(Co ik g6 4 _ _ _ Ns.1).trans (Ly.aC _ 4 om);have H2:=Al mO;have H3:=Al hg3';clear mO hg3';have dx0:∀k,ik.drew.frozen? ⟨g2,k,none⟩=false:=x0;have dx1:∀k,ik.drew.frozen? ⟨g3,k,none⟩=false:=x1;go_wp2;go_region;go_wp2;have hre:=E8<|EZ (j5 ik g2 (.slice Aa na ca) (.slice Ab nb cb) (.slice Ac nc cc) (.slice Ad nd cd)) g3 (.int .i64 (m5 0:Int)) (.int .i64 (m5 1:Int)) (.int .i64 (m5 2:Int)) (.int .i64 (m5 3:Int)) (.int .i64 (m5 4:Int)) (((dx ik g2 _ _ _ _).block g3 om (fun e=>by have:=Oj e;omega)).trans H3.1) rfl
   have hrs:=E8<|((iB (j5 ik g2 (.slice Aa na ca) (.slice Ab nb cb) (.slice Ac nc cc) (.slice Ad nd cd)) g3 (.int .i64 (m5 0:Int)) (.int .i64 (m5 1:Int)) (.int .i64 (m5 2:Int)) (.int .i64 (m5 3:Int)) (.int .i64 (m5 4:Int))).block g2 (by rw[lC];omega) (fun e=>by have:=Oj e;omega)).trans (nK ik g2 (.slice Aa na ca) (.slice Ab nb cb) (.slice Ac nc cc) (.slice Ad nd cd) H2.1 rfl)
   have afx:Below g2 W4 (Qk (j5 ik g2 (.slice Aa na ca) (.slice Ab nb cb) (.slice Ac nc cc) (.slice Ad nd cd)) g3 (.int .i64 (m5 0:Int)) (.int .i64 (m5 1:Int)) (.int .i64 (m5 2:Int)) (.int .i64 (m5 3:Int)) (.int .i64 (m5 4:Int))):=((b15.1.mono om).grown (dx ik g2 _ _ _ _) om (fun g e=>by cases e;omega)).grown (iB _ g3 _ _ _ _ _) (by rw[lC];omega) (fun g e=>by cases e;omega);have hrb:=(B4.1.trans afx).drew;have hfo:=bQ.drew<|(f15.1.grown (dx ik g2 (.slice Aa na ca) (.slice Ab nb cb) (.slice Ac nc cc) (.slice Ad nd cd)) om).grown (iB _ g3 (.int .i64 (m5 0:Int)) (.int .i64 (m5 1:Int)) (.int .i64 (m5 2:Int)) (.int .i64 (m5 3:Int)) (.int .i64 (m5 4:Int))) om
   refine Bg (v:= .tuple #[.agg (Ly.jl V),.agg (Ly.jZ m5),.int .i64 0]) ?_ rfl ⟨V,m5,by rw[hpe.1],fun i hi=>?_,fun i hi=>?_,?_⟩
   ·rw[har.1];exact iQ (fn:=Tryz.f64) (a:=2) (b:=3) (u:=4) (T1:=76) (T2:=128) rfl _ _ g2 g3 _ _ _ _ _ _ _ _ rfl rfl hrs hre underlying76 rfl kr underlying128 rfl kr
   ·obtain⟨A',n',c',h1,h2⟩:=hfo i hi;have hg:Ly.gate 4 (Ly.sec l) i=Ly.mK l i:=by unfold Ly.gate Ly.mK;rw[Ps0 hi,hpe.1,Ps0 rfl]
    rw[hg]at h2;exact⟨A',n',c',h1,ah.base h2 (by rw[E2.1];omega)⟩
   ·rw[Ql.1 i hi];unfold Ly.U9;rw[hpe.1,Ps0 rfl]
   ·rw[E2.1];exact hrb
end
section
section
open Go.RowKit Go.Shelf
def Zs (w:World) (g2 g3 g7 g8:Nat):Prop:=w.heap[g2]? =some (.cells (Ly.jl fun _=> .slice none 0 0) 75 (0,0))∧w.heap[g3]? =some (.cells (Ly.jZ fun _=>0) 128 (0,0))∧
 w.heap[g7]? =some (.cells (Ly.jl fun _=> .slice none 0 0) 75 (0,0))∧w.heap[g8]? =some (.cells (Ly.jZ fun _=>0) 128 (0,0))
end
end
section
section
open Go.RowKit Go.Shelf
theorem bQ.lit {w base V D} (h:bQ w base V D):∃Aa na ca Ab nb cb Ac nc cc Ad nd cd,Ly.jl V= #[.slice Aa na ca,.slice Ab nb cb,.slice Ac nc cc,.slice Ad nd cd]:=by
 obtain⟨Aa,na,ca,ea⟩:=h.form 0 om;obtain⟨Ab,nb,cb,eb⟩:=h.form 1 om;obtain⟨Ac,nc,cc,ec⟩:=h.form 2 om;obtain⟨Ad,nd,cd,ed⟩:=h.form 3 om;exact⟨Aa,na,ca,Ab,nb,cb,Ac,nc,cc,Ad,nd,cd,by unfold Ly.jl;rw[ea,eb,ec,ed]⟩
theorem bQ.base {w base base' V D} (h:bQ w base V D) (hb:base'≤base):bQ w base' V D:=fun i hi=>by
 obtain⟨A,n,c,h1,h2⟩:=h i hi;exact⟨A,n,c,h1,ah.base h2 hb⟩
theorem sN (A n c l w) (hv:aY w w.heap.size A n c l) (hnb:n≤140737488353000) (ht:gH w):
  Calls prog 34 #[.slice A n c] w fun r w'=>∃V,r= .returned (.tuple #[.agg (Ly.jl V),.int .i64 (Ly.pe l)])∧bQ w' w.heap.size V (Ly.mK l)∧Below w.heap.size w w':=by
 obtain⟨W1,hW1⟩:∃W1,W1=w.alloc (.cells #[.slice none 0 0,.slice none 0 0,.slice none 0 0,.slice none 0 0] 76):=⟨_,rfl⟩
 have hb1:Below w.heap.size w W1:=by rw[hW1];exact(Ae _ w).alloc Aj _
 have hz1:W1.heap.size=w.heap.size+1:=by rw[hW1];simp
 have hg1:W1.heap[w.heap.size]? =some (.cells (Ly.jl fun _=> .slice none 0 0) 76 (0,0)):=by rw[hW1];exact Aw w _
 have HW:=Al hW1.symm;have Z1:=Al hz1;have G1:=Al hg1;have B1:=Al hb1;have HP:=Al (Np A n c l W1 ((hv.below hb1).more om) hnb (ht.below hb1));clear hv ht hW1 hb1 hz1 hg1;go_enter func34,ntmps34;go_upto_region 1 with fail;rw[HW.1];generalize hg:w.heap.size=g at*;have EG:=Al hg;clear hg;have hgW:g<W1.heap.size:=by rw[Z1.1];omega
 go_upto_region 2 with(go_at_call 64;refine HP.1.mono ?_;rintro r w2 ⟨V,M,rfl,hf,hm,hb⟩;obtain⟨Aa,na,ca,Ab,nb,cb,Ac,nc,cc,Ad,nd,cd,hV⟩:=hf.lit;rw[hV];unfold Ly.jZ;have F2:=Al hf;have M2:=Al hm;have B2:=Al hb;have HV:=Al hV;clear hf hm hb hV)
 have hz2:=B2.1.size;have F3:=Al ((F2.1.below ((Ae _ w2).alloc Aj (.cells #[.slice Aa na ca,.slice Ab nb cb,.slice Ac nc cc,.slice Ad nd cd] 76))).below ((Ae _ _).alloc Aj (.cells #[.int .i64 (M 0:Int),.int .i64 (M 1:Int),.int .i64 (M 2:Int),.int .i64 (M 3:Int),.int .i64 (M 4:Int)] 128)));have B3:Kept (Below W1.heap.size W1 ((w2.alloc (.cells #[.slice Aa na ca,.slice Ab nb cb,.slice Ac nc cc,.slice Ad nd cd] 76)).alloc (.cells #[.int .i64 (M 0:Int),.int .i64 (M 1:Int),.int .i64 (M 2:Int),.int .i64 (M 3:Int),.int .i64 (M 4:Int)] 128))):=⟨(B2.1.alloc hz2 _).alloc (by simp;omega) _⟩
 have v0:∀k,((w2.alloc (.cells #[.slice Aa na ca,.slice Ab nb cb,.slice Ac nc cc,.slice Ad nd cd] 76)).alloc (.cells #[.int .i64 (M 0:Int),.int .i64 (M 1:Int),.int .i64 (M 2:Int),.int .i64 (M 3:Int),.int .i64 (M 4:Int)] 128)).cell? ⟨w2.heap.size,k,none⟩=(#[.slice Aa na ca,.slice Ab nb cb,.slice Ac nc cc,.slice Ad nd cd]:Array Value)[k]?:=fun k=>(AR _ _ ⟨w2.heap.size,k,none⟩ Ah).trans (Aq w2 _ _ _ k)
 have m0:∀k,((w2.alloc (.cells #[.slice Aa na ca,.slice Ab nb cb,.slice Ac nc cc,.slice Ad nd cd] 76)).alloc (.cells #[.int .i64 (M 0:Int),.int .i64 (M 1:Int),.int .i64 (M 2:Int),.int .i64 (M 3:Int),.int .i64 (M 4:Int)] 128)).cell? ⟨w2.heap.size+1,k,none⟩=(#[.int .i64 (M 0:Int),.int .i64 (M 1:Int),.int .i64 (M 2:Int),.int .i64 (M 3:Int),.int .i64 (M 4:Int)]:Array Value)[k]?:=fun k=>by
  have h:=Aq (w2.alloc (.cells #[.slice Aa na ca,.slice Ab nb cb,.slice Ac nc cc,.slice Ad nd cd] 76)) #[.int .i64 (M 0:Int),.int .i64 (M 1:Int),.int .i64 (M 2:Int),.int .i64 (M 3:Int),.int .i64 (M 4:Int)] 128 (0,0) k;rw[AV]at h;exact h
 generalize (w2.alloc (.cells #[.slice Aa na ca,.slice Ab nb cb,.slice Ac nc cc,.slice Ad nd cd] 76)).alloc (.cells #[.int .i64 (M 0:Int),.int .i64 (M 1:Int),.int .i64 (M 2:Int),.int .i64 (M 3:Int),.int .i64 (M 4:Int)] 128)=W3 at*;have hg3:=(B3.1.block g hgW).trans G1.1;have G3:=Al hg3;have v1:=v0 0;simp at v1;have v2:=v0 1;simp at v2;have v3:=v0 2;simp at v3;have v4:=v0 3;simp at v4;clear v0 m0;have x0:=fun k=>Fr W3 g k _ _ hg3
 have y0:=(Co W3 g 0 _ _ _ hg3).trans (Ly.bG _ 0 om);have y1:=(Co W3 g 1 _ _ _ hg3).trans (Ly.bG _ 1 om);have y2:=(Co W3 g 2 _ _ _ hg3).trans (Ly.bG _ 2 om);have y3:=(Co W3 g 3 _ _ _ hg3).trans (Ly.bG _ 3 om);clear hg3;go_wp2;refine Bg (v:= .tuple #[.agg (Ly.jl V),.int .i64 (Ly.pe l)]) ?_ rfl ⟨V,rfl,(F3.1.grown (dx W3 g (.slice Aa na ca) (.slice Ab nb cb) (.slice Ac nc cc) (.slice Ad nd cd)) hgW).base (by rw[EG.1];omega),?_⟩
 ·have hr:=nK W3 g (.slice Aa na ca) (.slice Ab nb cb) (.slice Ac nc cc) (.slice Ad nd cd) G3.1 rfl;rw[HV.1];exact cO (fn:=Tryz.f34) (a:=2) (u:=3) (T1:=76) rfl _ _ g _ _ _ _ rfl hr underlying76 rfl kr
 ·rw[EG.1];exact B1.1.trans ((B3.1.mono om).grown (dx W3 g (.slice Aa na ca) (.slice Ab nb cb) (.slice Ac nc cc) (.slice Ad nd cd)) (by have:=B3.1.size;omega) (fun g' e=>by cases e;exact Nr _))
end
end
section
section
open Go.RowKit
namespace Ly
theorem Nt (D k n) (h:k≤n):∃R,pre D n=pre D k++R:=by
 obtain⟨m,rfl⟩:=Nat.le.dest h;exact⟨_,by unfold pre;rw[List.range_add,nH,←Af]⟩
theorem I6 (D):asm D=body D++(bP.four (bP.sum (body D))++tail):=by unfold asm bP.app;rw[Af]
theorem Fa (D):lit (asm D) head=0:=by
 have h:∃R,asm D=head++R:=⟨_,by rw[I6];unfold body pre;simp only[Af];rfl⟩
 obtain⟨R,h⟩:=h;rw[h];have hl:head.length=5:=rfl;have hm:min (head++R).length head.length=5:=by rw[La];omega
 unfold lit;rw[hm,Ng (by rw[show(5:Nat)=head.length from rfl,List.take_left,List.take_length];simp),Ng (by rw[La];omega)]
theorem Zn (D):S (asm D) 0=(off D 0,0):=by
 show(a0 (asm D),lit (asm D) head)=_;unfold a0;rw[Ps0 (Fa D),Fa]
 rfl
theorem Qp (D) (hD:tot D 4≤140737488352000) (k) (hk:k<4) (h:S (asm D) k=(off D k,0)):S (asm D) (k+1)=(off D (k+1),0)∧sec (asm D) k=D k:=by
 obtain⟨R,hR⟩:=Nt D (k+1) 4 om;have he:asm D=pre D k++Wr.frame (UInt8.ofNat (1+k)) (D k)++(R++Wr.frame 5 (ig (off D) 4)++(bP.four (bP.sum (body D))++tail)):=by
  rw[I6]
  conv=>lhs;arg 1;unfold body
  rw[hR,iA];simp only[Af]
 have hs:=Wr.sI (pre D k) (R++Wr.frame 5 (ig (off D) 4)++(bP.four (bP.sum (body D))++tail)) (D k) (UInt8.ofNat (1+k)) (by have:=KR D k 4 hk;omega);rw[←he]at hs;have ho:(pre D k).length=off D k:=rfl;rw[ho]at hs;rw[oW,sK,h];simp only;rw[hs];refine⟨?_,rfl⟩;simp only[aA,BO];unfold off;rw[iA,La]
theorem Qq (D) (hD:tot D 4≤140737488352000) (k) (hk:k≤4):S (asm D) k=(off D k,0):=by
 induction k with
 |zero=>exact Zn D
 |succ k ih=>exact(Qp D hD k om (ih om)).1
theorem Zo (D) (hD:tot D 4≤140737488352000) (k) (hk:k≤4):off D k≤140737488352100:=nJ D hD k hk
theorem wR (D) (hD:tot D 4≤140737488352000):(ig (off D) 4).length≤40:=by
 have h:ig (off D) 4=ig (mk (off D) 4) 4:=lu 4 fun i hi=>by unfold mk;rw[Ps0 hi]
 rw[h];refine ym _ (fun i=>?_) 4;unfold mk;split
 ·rename_i hi
  have h1:=Zo D hD i om;omega
 ·omega
theorem Zp (D) (hD:tot D 4≤140737488352000):S (asm D) 5=((body D).length,0)∧sec (asm D) 4=ig (off D) 4:=by
 have hc:=wR D hD;have he:asm D=pre D 4++Wr.frame 5 (ig (off D) 4)++(bP.four (bP.sum (body D))++tail):=by rw[I6];rfl
 have hs:=Wr.sI (pre D 4) (bP.four (bP.sum (body D))++tail) (ig (off D) 4) 5 om;rw[←he]at hs;have ho:(pre D 4).length=off D 4:=rfl;rw[ho]at hs;have h4:=Qq D hD 4 om;rw[oW,sK,h4];simp only;rw[show UInt8.ofNat (1+4)=5 from rfl,hs];refine⟨?_,rfl⟩;simp only[aA,BO];unfold body off;rw[La]
theorem Qr (D) (hD:tot D 4≤140737488352000) (k) (hk:k≤4):dL (asm D) k=off D k:=by
 unfold dL;rw[Qq D hD k hk]
theorem yA (D):(asm D).length=(body D).length+8:=by
 unfold asm;rw[La,bP.jg]
 rfl
theorem Qs (D) (hD:tot D 4≤140737488352000):pe (asm D)=0:=by
 obtain⟨h5,h4⟩:=Zp D hD;have ha5:dL (asm D) 5=(body D).length:=by unfold dL;rw[h5]
 have hl:=yA D;have hc:ig (dL (asm D)) 4=ig (off D) 4:=lu 4 fun i hi=>Qr D hD i om
 have ht:(asm D).take ((body D).length+4)=bP.app (body D):=by
  unfold asm;rw[←bP.jg,List.take_left]
 have hd:(asm D).drop ((body D).length+4)=tail:=by
  unfold asm;rw[←bP.jg,Dr]
 have hlt:lit tail tail=0:=Ai;unfold pe;rw[h5,h4,hc,ha5,ht,hd,hlt,bP.KM,hl];simp only[ne_eq,Bz,Dv];rw[Ng om,Ng Ah,Ng om]
theorem Fb (D) (hD:tot D 4≤140737488352000) (k) (hk:k<4):mK (asm D) k=D k:=by
 unfold mK;rw[Ps0 (Qs D hD)];exact(Qp D hD k hk (Qq D hD k om)).2
end Ly
end
end
section
section
open Go.RowKit
theorem Vi.I7 (l):∀(i x y k),Vi.fP l i x=(y,k,0)→∃z,y=x+z*128^i∧i<k∧l.take (k-i)=Vi.enc z∧k-i≤l.length∧(0<i→0<z):=by
 induction l with
 |nil=>intro i x y k h;simp[Vi.fP]at h
 |cons c l ih=>
  intro i x y k h;rw[Vi.bZ]at h;have hc:=c.toNat_lt;split at h
  ·simp at h
  ·split at h
   ·simp at h
   ·rename_i h2
    split at h
    ·rename_i h3
     simp only[aA]at h;obtain⟨rfl,rfl,_⟩:=h;refine⟨c.toNat,by rw[kG h3],om,?_,Ah,fun hi=>om⟩;rw[Vi.xX h3,show i+1-i=1 from om];simp
    ·rename_i h3
     obtain⟨z,h4,h5,h6,h7,h8⟩:=ih _ _ _ _ h;have hz:=h8 om;have e1:(c.toNat%128+z*128)%128=c.toNat%128:=om;have e2:(c.toNat%128+z*128)/128=z:=om;refine⟨c.toNat%128+z*128,?_,om,?_,by simp;omega,fun _=>om⟩
     ·rw[h4,CY,DX,EE z 128,Ej 128,iw]
     ·rw[Vi.IM om,e1,e2,←h6,show k-i=(k-(i+1))+1 from om,Cb]
      congr 1
      rw[show c.toNat%128+128=c.toNat from om];simp
theorem Vi.wS {l} {a x:Nat} {t} (h:Vi.get l (a:Int)=(x,t,0)):(l.drop a).take (t.toNat-a)=Vi.enc x∧a<t.toNat∧t.toNat≤l.length:=by
 have hto:=Vi.iY h;refine⟨?_,om,om⟩;unfold Vi.get at h;split at h
 ·simp at h
 ·simp only at h;split at h
  ·rename_i h0
   rw[lZ]at h h0;obtain⟨r,hr⟩:∃r,Vi.fP (l.drop a) 0 0=r:=⟨_,rfl⟩
   rw[hr]at h h0;obtain⟨y,k,er⟩:=r;simp only at h0;subst h0;simp only[aA,BO]at h;obtain⟨z,h4,h5,h6,h7,h8⟩:=Vi.I7 _ _ _ _ _ hr;have e:t.toNat-a=k:=om;rw[e];rw[Nat.sub_zero]at h6;rw[h6]
   congr 1
   simp at h4;omega
  ·rename_i h0
   simp only[aA]at h;exact absurd h.2.2 h0
end
end
section
section
open Go.RowKit
theorem Vi.Fe (m):∀(l) (i x),(Vi.fP l i x).2.2≠3→Vi.fP (l++m) i x=Vi.fP l i x
 |[],_,_,h=>absurd rfl h
 |c::l,i,x,h=>by
  rw[Vi.bZ]at h;rw[Bc,Vi.bZ,Vi.bZ];by_cases h1:i=9∧1<c.toNat
  ·rw[Ps0 h1,Ps0 h1]
  ·rw[Ng h1]at h⊢;rw[Ng h1];by_cases h2:c.toNat=0∧0<i
   ·rw[Ps0 h2,Ps0 h2]
   ·rw[Ng h2]at h⊢;rw[Ng h2];by_cases h3:c.toNat<128
    ·rw[Ps0 h3,Ps0 h3]
    ·rw[Ng h3]at h⊢;rw[Ng h3];exact Vi.Fe m l _ _ h
theorem Vi.KT (m l:List UInt8) (a) (ha:a≤l.length) (h:(Vi.get l (a:Int)).2.2≠3):Vi.get (l++m) (a:Int)=Vi.get l (a:Int):=by
 have c1:¬((a:Int)<0∨(l.length:Int)< (a:Int)):=om;have c2:¬((a:Int)<0∨((l++m).length:Int)< (a:Int)):=by rw[La];omega
 unfold Vi.get at h⊢;rw[Ng c1]at h;rw[Ng c1,Ng c2];simp only[lZ]at h⊢;have h4:(Vi.fP (l.drop a) 0 0).2.2≠3:=fun h3=>by
  rw[Ng om]at h;exact h h3
 rw[List.drop_append_of_le_length ha,Vi.Fe m (l.drop a) 0 0 h4]
theorem Vh (l m:List UInt8) (a k) (h:a+k≤l.length):((l++m).drop a).take k=(l.drop a).take k:=by
 rw[List.drop_append_of_le_length om,List.take_append_of_le_length (by rw[kz];omega)]
end
end
end Go.Proofs.YtongopommlghgaaGreatDoor
