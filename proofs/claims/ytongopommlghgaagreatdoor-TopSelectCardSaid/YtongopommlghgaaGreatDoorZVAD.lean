/- Part 4. -/
import Derived.Test.YtongopommlghgaaGreatDoorZVAA
import Derived.Sort.Walk0
import Derived.Shelf.Spec.SearchS
import Derived.Shelf.SlSortCmp.QuietGrown
import Derived.Laws.EntriesVeiled
import Derived.Deep.RegionHeld3
namespace Go.Proofs.YtongopommlghgaaGreatDoor
set_option maxRecDepth 100000
set_option maxHeartbeats 0
theorem Dj:type_of% @Go.Calls.grown_of:= @Go.Calls.grown_of
theorem Ej:type_of% @Go.cell_grown:= @Go.cell_grown
open _root_.Go.Proofs.Tryz
section
section
open Go.RowKit
def iv (c:Int):Value:= .int .i64 c
def xm (l:List Int):List Value:=l.map iv
theorem Jf (l):(xm l).length=l.length:=by simp[xm]
theorem yF (l):∀u∈xm l,u.oneCell'=true:=by
 intro u hu;obtain⟨c,_,rfl⟩:=bY.1 hu
 rfl
theorem mX (a b):xm (a++b)=xm a++xm b:=by simp[xm]
def bQ (w:World) (B:Nat) (A:Option Addr) (n c:Nat) (l:List Int):Prop:=Rd w B 1 A n c (xm l)
theorem bQ.len {w B n c A l} (h:bQ w B A n c l):n=l.length:=by have:=h.2.2.1;rw[Jf]at this;omega
section
variable {w w':World} {B n c:Nat} {A:Option Addr} {l:List Int}
theorem bQ.below (h:bQ w B A n c l) (hb:Below B w w'):bQ w' B A n c l:=Rd.below h hb
theorem bQ.more {B'} (h:bQ w B A n c l) (hB:B≤B'):bQ w B' A n c l:=Rd.more h hB
theorem bQ.alloc (h:bQ w B A n c l) (hB:B≤w.heap.size) (o):bQ (w.alloc o) B A n c l:=Rd.alloc h hB o
theorem bQ.drew (h:bQ w B A n c l):bQ w.drew B A n c l:=h
theorem bQ.drewN (h:bQ w B A n c l) (k):bQ (w.drewN k) B A n c l:=h
theorem bQ.setCell (h:bQ w B A n c l) {p} (hB:B≤p.block) (u):bQ (w.setCell p u) B A n c l:=Rd.setCell h hB u
theorem bQ.drop (h:bQ w B A n c l) {k} (hk:k≤n):bQ w B (if c=k then A else A.map (·.add k)) (n-k) (c-k) (l.drop k):=by
 have:=Rd.drop (k:=k) h hk;rwa[C8,xm,←List.map_drop]at this
end
theorem bQ.at_ {w B n c k A l} (h:bQ w B A n c l) (hk:k<l.length):∃b off,A=some ⟨b,off,none⟩∧b<B∧w.cell? ⟨b,off+k,none⟩=some (.int .i64 l[k]):=by
 obtain⟨b,off,u,e,hb,hu,hc⟩:=Rd.at_ h (show k<n by rw[h.len];exact hk);refine⟨b,off,e,hb,?_⟩;rw[hc];simp[xm,hk]at hu;rw[←hu];rfl
def ax (w:World) (base:Nat) (A:Option Addr) (n c:Nat) (l:List Int):Prop:=w.ownsRow base 3 1 (.slice A n c) n (xm l)
theorem ax.rd {w base n c A l} (h:ax w base A n c l):bQ w w.heap.size A n c l:=Rd.bC h
theorem ax.len {w base n c A l} (h:ax w base A n c l):n=l.length:=h.rd.len
theorem xq:(prog.info? 3).map (fun i=>(i.zero,i.size,i.bytes))=some (some (.int .i64 0),1,8):=kr
theorem bT {w ops rest o a Q} (hgd:Region.wanted o (yielded ops a.tmps)=true) (s x)
  (ho:o.op= .call {callee:= .builtin .append,args:= #[s,x],argTypes:= #[62,62]})
  (base A n c l) (hs:a.eval s= .slice A n c) (hown:ax w base A n c l)
  (B S m d k) (hx:a.eval x= .slice S m d) (hr:bQ w B S m d k)
  (hlen:n+m≤17592186044416) (hbase:base≤w.heap.size)
  (h:∀A2 c2 w',ax w' base A2 (n+m) c2 (l++k)→w.grownBy w' (ab A)→(ab A2=ab A∨ab A2=some w.heap.size)→wpList prog ops Q rest (a.put o.dst (.slice A2 (n+m) c2)) w'):wpList prog ops Q (o::rest) a w:=by
 obtain⟨i0,hi0,hz0,hz1,hz2⟩:=AV xq;refine aR w hgd s x _ ho base 3 i0 (.int .i64 0) 1 8 underlying62 hi0 hz0 hz1 hz2 rfl Ah A n c (xm l) hs hown B S m d (xm k) hx hr (yF k) (by unfold maxLen;omega) om hbase ?_;rw[←mX];exact h
theorem ax.made (w:World) (base) (h:base≤w.heap.size):ax (w.alloc (.cells #[] 3)) base (some ⟨w.heap.size,0,none⟩) 0 0 []:=World.ownsRow_made w #[] 0 h sm rfl
theorem bQ.one (w:World) (c):bQ (w.alloc (.cells #[.int .i64 c] 3)) (w.heap.size+1) (some ⟨w.heap.size,0,none⟩) 1 1 [c]:=
 ⟨Nr _,by unfold maxLen;omega,rfl,fun _=>⟨_,0,rfl,om,fun i u hu=>by
  match i,hu with
  |0,hu=>
   simp[xm]at hu;subst hu;exact Ao w _ _ _ 0⟩⟩
theorem bQ.lit (w:World) (l) (h:l.length≤9223372036854775807):bQ (w.alloc (.cells (xm l).toArray 3)) (w.heap.size+1) (some ⟨w.heap.size,0,none⟩) l.length l.length l:=
 ⟨Nr _,by unfold maxLen;omega,by simp[xm],fun _=>⟨_,0,rfl,om,fun i u hu=>by
  rw[cK];exact(Ao w _ _ _ i).trans (by simpa using hu)⟩⟩
end
end
section
section
open Go.RowKit
def sv (c:ByteArray):Value:= .string c
def oO (l:List ByteArray):List Value:=l.map sv
theorem Jg (l):(oO l).length=l.length:=by simp[oO]
theorem Lx (l):∀u∈oO l,u.oneCell'=true:=by
 intro u hu;obtain⟨c,_,rfl⟩:=bY.1 hu
 rfl
theorem mY (a b):oO (a++b)=oO a++oO b:=by simp[oO]
def bK (w:World) (B:Nat) (A:Option Addr) (n c:Nat) (l:List ByteArray):Prop:=Rd w B 1 A n c (oO l)
theorem bK.len {w B n c A l} (h:bK w B A n c l):n=l.length:=by have:=h.2.2.1;rw[Jg]at this;omega
section
variable {w w':World} {B n c:Nat} {A:Option Addr} {l:List ByteArray}
theorem bK.below (h:bK w B A n c l) (hb:Below B w w'):bK w' B A n c l:=Rd.below h hb
theorem bK.more {B'} (h:bK w B A n c l) (hB:B≤B'):bK w B' A n c l:=Rd.more h hB
theorem bK.alloc (h:bK w B A n c l) (hB:B≤w.heap.size) (o):bK (w.alloc o) B A n c l:=Rd.alloc h hB o
theorem bK.grown (h:bK w B A n c l) {row} (hg:w.grownBy w' row) (hB:B≤w.heap.size) (hr:∀g,row=some g→B≤g):bK w' B A n c l:=Rd.grown h hg hB hr
end
theorem bK.at_ {w B n c k A l} (h:bK w B A n c l) (hk:k<l.length):∃b off,A=some ⟨b,off,none⟩∧b<B∧w.cell? ⟨b,off+k,none⟩=some (.string l[k]):=by
 obtain⟨b,off,u,e,hb,hu,hc⟩:=Rd.at_ h (show k<n by rw[h.len];exact hk);refine⟨b,off,e,hb,?_⟩;rw[hc];simp[oO,hk]at hu;rw[←hu];rfl
def aT (w:World) (base:Nat) (A:Option Addr) (n c:Nat) (l:List ByteArray):Prop:=w.ownsRow base 9 1 (.slice A n c) n (oO l)
theorem aT.rd {w base n c A l} (h:aT w base A n c l):bK w w.heap.size A n c l:=Rd.bC h
theorem aT.len {w base n c A l} (h:aT w base A n c l):n=l.length:=h.rd.len
theorem QQ:(prog.info? 9).map (fun i=>(i.zero,i.size,i.bytes))=some (some (.string ByteArray.empty),1,16):=kr
theorem gI {w ops rest o a Q} (hgd:Region.wanted o (yielded ops a.tmps)=true) (s x)
  (ho:o.op= .call {callee:= .builtin .append,args:= #[s,x],argTypes:= #[134,134]})
  (base A n c l) (hs:a.eval s= .slice A n c) (hown:aT w base A n c l)
  (B S m d k) (hx:a.eval x= .slice S m d) (hr:bK w B S m d k)
  (hlen:n+m≤8796093022208) (hbase:base≤w.heap.size)
  (h:∀A2 c2 w',aT w' base A2 (n+m) c2 (l++k)→w.grownBy w' (ab A)→(ab A2=ab A∨ab A2=some w.heap.size)→wpList prog ops Q rest (a.put o.dst (.slice A2 (n+m) c2)) w'):wpList prog ops Q (o::rest) a w:=by
 obtain⟨i0,hi0,hz0,hz1,hz2⟩:=AV QQ;refine aR w hgd s x _ ho base 9 i0 (.string ByteArray.empty) 1 16 underlying134 hi0 hz0 hz1 hz2 rfl Ah A n c (oO l) hs hown B S m d (oO k) hx hr (Lx k) (by unfold maxLen;omega) om hbase ?_;rw[←mY];exact h
theorem bK.one (w:World) (c):bK (w.alloc (.cells #[.string c] 9)) (w.heap.size+1) (some ⟨w.heap.size,0,none⟩) 1 1 [c]:=
 ⟨Nr _,by unfold maxLen;omega,rfl,fun _=>⟨_,0,rfl,om,fun i u hu=>by
  match i,hu with
  |0,hu=>
   simp[oO]at hu;subst hu;exact Ao w _ _ _ 0⟩⟩
theorem bK.lit (w:World) (l) (h:l.length≤9223372036854775807):bK (w.alloc (.cells (oO l).toArray 9)) (w.heap.size+1) (some ⟨w.heap.size,0,none⟩) l.length l.length l:=
 ⟨Nr _,by unfold maxLen;omega,by simp[oO],fun _=>⟨_,0,rfl,om,fun i u hu=>by
  rw[cK];exact(Ao w _ _ _ i).trans (by simpa using hu)⟩⟩
theorem aT.at_ {w base g n c k l} (h:aT w base (some ⟨g,0,none⟩) n c l) (hk:k<l.length):
  w.cell? ⟨g,k,none⟩=some (.string l[k])∧w.frozen? ⟨g,k,none⟩=false:=by
 have hn:=h.len;refine⟨?_,CR h k⟩;rw[C9 h k om];simp[oO,sv,hk]
theorem aT.pos {w base n c A l} (h:aT w base A n c l) (hn:0<n):∃g,A=some ⟨g,0,none⟩∧base≤g∧g<w.heap.size:=nK h hn
end
end
section
section
open Go.RowKit
def tv (c:Int):Value:= .int .i64 c
def yG (l:List Int):List Value:=l.map tv
theorem Jh (l):(yG l).length=l.length:=by simp[yG]
theorem VK (l):∀u∈yG l,u.oneCell'=true:=by
 intro u hu;obtain⟨c,_,rfl⟩:=bY.1 hu
 rfl
theorem Ji (a b):yG (a++b)=yG a++yG b:=by simp[yG]
def vX (w:World) (B:Nat) (A:Option Addr) (n c:Nat) (l:List Int):Prop:=Rd w B 1 A n c (yG l)
theorem vX.len {w B n c A l} (h:vX w B A n c l):n=l.length:=by have:=h.2.2.1;rw[Jh]at this;omega
section
variable {w w':World} {B n c:Nat} {A:Option Addr} {l:List Int}
theorem vX.below (h:vX w B A n c l) (hb:Below B w w'):vX w' B A n c l:=Rd.below h hb
theorem vX.drewN (h:vX w B A n c l) (k):vX (w.drewN k) B A n c l:=h
end
theorem vX.at_ {w B n c k A l} (h:vX w B A n c l) (hk:k<l.length):∃b off,A=some ⟨b,off,none⟩∧b<B∧w.cell? ⟨b,off+k,none⟩=some (.int .i64 l[k]):=by
 obtain⟨b,off,u,e,hb,hu,hc⟩:=Rd.at_ h (show k<n by rw[h.len];exact hk);refine⟨b,off,e,hb,?_⟩;rw[hc];simp[yG,hk]at hu;rw[←hu];rfl
def fB (w:World) (base:Nat) (A:Option Addr) (n c:Nat) (l:List Int):Prop:=w.ownsRow base 2 1 (.slice A n c) n (yG l)
theorem fB.rd {w base n c A l} (h:fB w base A n c l):vX w w.heap.size A n c l:=Rd.bC h
theorem fB.len {w base n c A l} (h:fB w base A n c l):n=l.length:=h.rd.len
theorem acB:(prog.info? 2).map (fun i=>(i.zero,i.size,i.bytes))=some (some (.int .i64 0),1,8):=kr
theorem Fv {w ops rest o a Q} (hgd:Region.wanted o (yielded ops a.tmps)=true) (s x)
  (ho:o.op= .call {callee:= .builtin .append,args:= #[s,x],argTypes:= #[281,281]})
  (base A n c l) (hs:a.eval s= .slice A n c) (hown:fB w base A n c l)
  (B S m d k) (hx:a.eval x= .slice S m d) (hr:vX w B S m d k)
  (hlen:n+m≤17592186044416) (hbase:base≤w.heap.size)
  (h:∀A2 c2 w',fB w' base A2 (n+m) c2 (l++k)→w.grownBy w' (ab A)→(ab A2=ab A∨ab A2=some w.heap.size)→wpList prog ops Q rest (a.put o.dst (.slice A2 (n+m) c2)) w'):wpList prog ops Q (o::rest) a w:=by
 obtain⟨i0,hi0,hz0,hz1,hz2⟩:=AV acB;refine aR w hgd s x _ ho base 2 i0 (.int .i64 0) 1 8 underlying281 hi0 hz0 hz1 hz2 rfl Ah A n c (yG l) hs hown B S m d (yG k) hx hr (VK k) (by unfold maxLen;omega) om hbase ?_;rw[←Ji];exact h
theorem vX.one (w:World) (c):vX (w.alloc (.cells #[.int .i64 c] 2)) (w.heap.size+1) (some ⟨w.heap.size,0,none⟩) 1 1 [c]:=
 ⟨Nr _,by unfold maxLen;omega,rfl,fun _=>⟨_,0,rfl,om,fun i u hu=>by
  match i,hu with
  |0,hu=>
   simp[yG]at hu;subst hu;exact Ao w _ _ _ 0⟩⟩
theorem fB.at_ {w base g n c k l} (h:fB w base (some ⟨g,0,none⟩) n c l) (hk:k<l.length):
  w.cell? ⟨g,k,none⟩=some (.int .i64 l[k])∧w.frozen? ⟨g,k,none⟩=false:=by
 have hn:=h.len;refine⟨?_,CR h k⟩;rw[C9 h k om];simp[yG,tv,hk]
theorem fB.set {w base g n c l} (h:fB w base (some ⟨g,0,none⟩) n c l) (k x):
  fB (w.setCell ⟨g,k,none⟩ (.int .i64 x)) base (some ⟨g,0,none⟩) n c (l.set k x):=by
 have:=Ev h k (.int .i64 x);unfold fB;have e:yG (l.set k x)=(yG l).set k (.int .i64 x):=by simp[yG,tv,List.map_set]
 rw[e];exact this.1
def uv (c:Nat):Value:= .int .u64 (c:Int)
def vK (l:List Nat):List Value:=l.map uv
theorem jL (l):(vK l).length=l.length:=by simp[vK]
theorem VL (l):∀u∈vK l,u.oneCell'=true:=by
 intro u hu;obtain⟨c,_,rfl⟩:=bY.1 hu
 rfl
theorem Jj (a b):vK (a++b)=vK a++vK b:=by simp[vK]
def kF (w:World) (B:Nat) (A:Option Addr) (n c:Nat) (l:List Nat):Prop:=Rd w B 1 A n c (vK l)
theorem kF.len {w B n c A l} (h:kF w B A n c l):n=l.length:=by have:=h.2.2.1;rw[jL]at this;omega
section
variable {w w':World} {B n c:Nat} {A:Option Addr} {l:List Nat}
theorem kF.below (h:kF w B A n c l) (hb:Below B w w'):kF w' B A n c l:=Rd.below h hb
theorem kF.drewN (h:kF w B A n c l) (k):kF (w.drewN k) B A n c l:=h
end
theorem kF.at_ {w B n c k A l} (h:kF w B A n c l) (hk:k<l.length):∃b off,A=some ⟨b,off,none⟩∧b<B∧w.cell? ⟨b,off+k,none⟩=some (.int .u64 (l[k]:Int)):=by
 obtain⟨b,off,u,e,hb,hu,hc⟩:=Rd.at_ h (show k<n by rw[h.len];exact hk);refine⟨b,off,e,hb,?_⟩;rw[hc];simp[vK,hk]at hu;rw[←hu];rfl
def aJ (w:World) (base:Nat) (A:Option Addr) (n c:Nat) (l:List Nat):Prop:=w.ownsRow base 125 1 (.slice A n c) n (vK l)
theorem aJ.rd {w base n c A l} (h:aJ w base A n c l):kF w w.heap.size A n c l:=Rd.bC h
theorem aJ.len {w base n c A l} (h:aJ w base A n c l):n=l.length:=h.rd.len
theorem Yy:(prog.info? 125).map (fun i=>(i.zero,i.size,i.bytes))=some (some (.int .u64 0),1,8):=kr
theorem dJ {w ops rest o a Q} (hgd:Region.wanted o (yielded ops a.tmps)=true) (s x)
  (ho:o.op= .call {callee:= .builtin .append,args:= #[s,x],argTypes:= #[284,284]})
  (base A n c l) (hs:a.eval s= .slice A n c) (hown:aJ w base A n c l)
  (B S m d k) (hx:a.eval x= .slice S m d) (hr:kF w B S m d k)
  (hlen:n+m≤17592186044416) (hbase:base≤w.heap.size)
  (h:∀A2 c2 w',aJ w' base A2 (n+m) c2 (l++k)→w.grownBy w' (ab A)→(ab A2=ab A∨ab A2=some w.heap.size)→wpList prog ops Q rest (a.put o.dst (.slice A2 (n+m) c2)) w'):wpList prog ops Q (o::rest) a w:=by
 obtain⟨i0,hi0,hz0,hz1,hz2⟩:=AV Yy;refine aR w hgd s x _ ho base 125 i0 (.int .u64 0) 1 8 underlying284 hi0 hz0 hz1 hz2 rfl Ah A n c (vK l) hs hown B S m d (vK k) hx hr (VL k) (by unfold maxLen;omega) om hbase ?_;rw[←Jj];exact h
theorem kF.one (w:World) (c:Nat):kF (w.alloc (.cells #[.int .u64 (c:Int)] 125)) (w.heap.size+1) (some ⟨w.heap.size,0,none⟩) 1 1 [c]:=
 ⟨Nr _,by unfold maxLen;omega,rfl,fun _=>⟨_,0,rfl,om,fun i u hu=>by
  match i,hu with
  |0,hu=>
   simp[vK]at hu;subst hu;exact Ao w _ _ _ 0⟩⟩
theorem aJ.at_ {w base g n c k l} (h:aJ w base (some ⟨g,0,none⟩) n c l) (hk:k<l.length):
  w.cell? ⟨g,k,none⟩=some (.int .u64 (l[k]:Int))∧w.frozen? ⟨g,k,none⟩=false:=by
 have hn:=h.len;refine⟨?_,CR h k⟩;rw[C9 h k om];simp[vK,uv,hk]
theorem aJ.set {w base g n c l} (h:aJ w base (some ⟨g,0,none⟩) n c l) (k) (x:Nat):
  aJ (w.setCell ⟨g,k,none⟩ (.int .u64 (x:Int))) base (some ⟨g,0,none⟩) n c (l.set k x):=by
 have:=Ev h k (.int .u64 (x:Int));unfold aJ;have e:vK (l.set k x)=(vK l).set k (.int .u64 (x:Int)):=by simp[vK,uv,List.map_set]
 rw[e];exact this.1
theorem aJ.pos {w base n c A l} (h:aJ w base A n c l) (hn:0<n):∃g,A=some ⟨g,0,none⟩∧base≤g∧g<w.heap.size:=nK h hn
end
end
section
section
open Go.RowKit
def Gr (w w':World):Prop:=∃q os,w'=Sort.grow (w.drewN q) os
theorem Gr.refl (w):Gr w w:=⟨0,#[],by rw[Sort.grow_empty];rfl⟩
theorem Gr.trans {a b c} (h:Gr a b) (h':Gr b c):Gr a c:=by
 obtain⟨q,os,rfl⟩:=h;obtain⟨q',os',rfl⟩:=h';refine⟨q+q',os++os',?_⟩;show Sort.grow (Sort.grow ((a.drewN q).drewN q') os) os'=_;rw[Sort.grow_grow,World.drewN_drewN]
theorem Gr.alloc {a b} (h:Gr a b) (o):Gr a (b.alloc o):=h.trans ⟨0,#[o],by rw[Sort.alloc_eq_grow];rfl⟩
theorem Gr.drew {a b} (h:Gr a b):Gr a b.drew:=h.trans ⟨1,#[],by rw[Sort.grow_empty];rfl⟩
theorem Gr.drewN {a b} (h:Gr a b) (n):Gr a (b.drewN n):=h.trans ⟨n,#[],by rw[Sort.grow_empty]⟩
theorem Gr.size {a b} (h:Gr a b):a.heap.size≤b.heap.size:=by
 obtain⟨q,os,rfl⟩:=h;rw[Sort.size_grow];show a.heap.size≤a.heap.size+_;omega
theorem Gr.below {a b} (h:Gr a b):Below a.heap.size a b:=by
 have hs:=h.size;obtain⟨q,os,rfl⟩:=h;exact⟨rfl,rfl,rfl,hs,fun k hk=>Sort.heap_grow_old _ os hk⟩
theorem Gr.cell {a b} (h:Gr a b) (B o) (hB:B<a.heap.size):b.cell? ⟨B,o,none⟩=a.cell? ⟨B,o,none⟩:=h.below.cell (p:=⟨B,o,none⟩) hB
end
end
section
section
namespace St
def lt (a b:ByteArray):Bool:=Op.bytesLess a.toList b.toList
theorem tl (a:ByteArray):a.toList=a.data.toList:=by
 exact Lib.toList_data a
theorem yH {a b:ByteArray} (h:a.toList=b.toList):a=b:=by
 rw[tl,tl]at h;exact ByteArray.ext (Array.toList_inj.1 h)
theorem lt_iff (a b):lt a b=true↔a.toList<b.toList:=by unfold lt;rw[bytesLess_eq];simp
theorem irrefl (a):lt a a=false:=by
 rw[Cy];intro h;rw[lt_iff]at h;exact List.lt_irrefl _ h
theorem trans {a b c} (h1:lt a b=true) (h2:lt b c=true):lt a c=true:=by
 rw[lt_iff]at*;exact List.lt_trans h1 h2
theorem asymm {a b} (h:lt a b=true):lt b a=false:=by
 rw[Cy];intro h2;have:=trans h h2;rw[irrefl]at this;cases this
theorem total {a b} (h1:lt a b=false) (h2:lt b a=false):a=b:=by
 rw[Cy,ne_eq,lt_iff]at h1 h2;exact yH (List.le_antisymm (List.not_lt.1 h2) (List.not_lt.1 h1))
theorem ntrans {a b c} (h1:lt a b=false) (h2:lt b c=false):lt a c=false:=by
 rw[Cy,ne_eq,lt_iff]at*;rw[List.not_lt]at*;exact List.le_trans h2 h1
theorem eq_iff (a b:ByteArray):(a.toList==b.toList)=decide (a=b):=by
 by_cases h:a=b
 ·subst h;simp
 ·rw[AF h,Cy];intro e;exact h (yH (by simpa using e))
def cmp (a b:ByteArray):Int:=if lt a b then-1 else if lt b a then 1 else 0
theorem dP {a b}:cmp a b=0↔a=b:=by
 unfold cmp;constructor
 ·intro h;by_cases h1:lt a b=true
  ·simp[h1]at h
  ·by_cases h2:lt b a=true
   ·simp[h1,h2]at h
   ·exact total (by simpa using h1) (by simpa using h2)
 ·rintro rfl;simp[irrefl]
theorem yI {a b}:cmp a b<0↔lt a b=true:=by
 unfold cmp;by_cases h1:lt a b=true
 ·simp[h1]
 ·by_cases h2:lt b a=true<;>simp[h1,h2]
end St
end
end
section
section
open Go.RowKit
structure aQ where
 n:ByteArray
 v:ByteArray
instance:DecidableEq aQ:=fun a b=>decidable_of_iff (a.n=b.n∧a.v=b.v) ⟨fun h=>by cases a;cases b;simp_all,fun h=>by rw[h];exact⟨rfl,rfl⟩⟩
instance:Inhabited aQ:=⟨⟨ByteArray.empty,ByteArray.empty⟩⟩
def vY (x:aQ):List Value:=[.string x.n,.string x.v]
def ry (L:List aQ):List Value:=L.flatMap vY
theorem eB (L):(ry L).length=L.length*2:=by
 unfold ry
 induction L with
 |nil=>rfl
 |cons x L ih=>rw[Au,La,ih,Lc];simp[vY];omega
theorem rV (L i k) (h:i<L.length) (hk:k<2):(ry L)[i*2+k]? =(vY L[i])[k]?:=by
 unfold ry
 induction L generalizing i with
 |nil=>simp at h
 |cons x L ih=>
  rw[Au];have hx:(vY x).length=2:=rfl;cases i with
  |zero=>rw[Dk om];simp
  |succ i=>
   rw[Bn om,hx,show(i+1)*2+k-2=i*2+k from om];exact ih i (by simpa using h)
theorem LD (L):∀u∈ry L,u.oneCell'=true:=by
 intro u hu;obtain⟨c,_,hc⟩:=mh.1 hu;simp[vY]at hc;rcases hc with rfl|rfl<;>rfl
theorem tq (a b):ry (a++b)=ry a++ry b:=by simp[ry]
def fO (w:World) (B:Nat) (A:Option Addr) (n c:Nat) (l:List aQ):Prop:=Rd w B 2 A n c (ry l)
theorem fO.len {w B n c A l} (h:fO w B A n c l):n=l.length:=by have:=h.2.2.1;rw[eB]at this;omega
section
variable {w w':World} {B n c:Nat} {A:Option Addr} {l:List aQ}
theorem fO.below (h:fO w B A n c l) (hb:Below B w w'):fO w' B A n c l:=Rd.below h hb
theorem fO.more {B'} (h:fO w B A n c l) (hB:B≤B'):fO w B' A n c l:=Rd.more h hB
end
theorem fO.at_ {w B n c k A l} (h:fO w B A n c l) (hk:k<l.length):∃b off,A=some ⟨b,off,none⟩∧b<B∧w.cell? ⟨b,off+k*2,none⟩=some (.string l[k].n)∧w.cell? ⟨b,off+(k*2+1),none⟩=some (.string l[k].v):=by
 obtain⟨b,off,e,hb,hc⟩:=h.2.2.2 (by have:=h.len;omega);refine⟨b,off,e,hb,hc _ _ ?_,hc _ _ ?_⟩
 ·have:=rV l k 0 hk om;simpa[vY]using this
 ·have:=rV l k 1 hk om;simpa[vY]using this
def bP (w:World) (base:Nat) (A:Option Addr) (n c:Nat) (l:List aQ):Prop:=w.ownsRow base 59 2 (.slice A n c) n (ry l)
theorem bP.rd {w base n c A l} (h:bP w base A n c l):fO w w.heap.size A n c l:=Rd.bC h
theorem bP.len {w base n c A l} (h:bP w base A n c l):n=l.length:=h.rd.len
theorem QR:(prog.info? 59).map (fun i=>(i.zero,i.size,i.bytes))=some (some (.agg #[.string ByteArray.empty,.string ByteArray.empty]),2,32):=kr
theorem qG {w ops rest o a Q} (hgd:Region.wanted o (yielded ops a.tmps)=true) (s x)
  (ho:o.op= .call {callee:= .builtin .append,args:= #[s,x],argTypes:= #[54,54]})
  (base A n c l) (hs:a.eval s= .slice A n c) (hown:bP w base A n c l)
  (B S m d k) (hx:a.eval x= .slice S m d) (hr:fO w B S m d k)
  (hlen:n+m≤4398046511104) (hbase:base≤w.heap.size)
  (h:∀A2 c2 w',bP w' base A2 (n+m) c2 (l++k)→w.grownBy w' (ab A)→(ab A2=ab A∨ab A2=some w.heap.size)→wpList prog ops Q rest (a.put o.dst (.slice A2 (n+m) c2)) w'):wpList prog ops Q (o::rest) a w:=by
 obtain⟨i0,hi0,hz0,hz1,hz2⟩:=AV QR;refine aR w hgd s x _ ho base 59 i0 (.agg #[.string ByteArray.empty,.string ByteArray.empty]) 2 32 underlying54 hi0 hz0 hz1 hz2 rfl Ah A n c (ry l) hs hown B S m d (ry k) hx hr (LD k) (by unfold maxLen;omega) om hbase ?_;rw[←tq];exact h
theorem bP.nil (w base):bP w base none 0 0 []:=⟨rfl,.inl ⟨rfl,rfl⟩⟩
theorem fO.lit (w:World) (l fr) (h:l.length≤9223372036854775807):fO (w.alloc (.cells (ry l).toArray 59 fr)) (w.heap.size+1) (some ⟨w.heap.size,0,none⟩) l.length l.length l:=
 ⟨Nr _,by unfold maxLen;omega,by rw[eB],fun _=>⟨_,0,rfl,om,fun i u hu=>by
  rw[cK];exact(Ao w _ _ _ i).trans (by simpa using hu)⟩⟩
end
end
section
section
open Go.RowKit
abbrev QS:=Int×Nat
def IV (x:QS):List Value:=[.int .i64 x.1,.int .u64 (x.2:Int)]
def lN (L:List QS):List Value:=L.flatMap IV
theorem jM (L):(lN L).length=L.length*2:=by
 unfold lN
 induction L with
 |nil=>rfl
 |cons x L ih=>rw[Au,La,ih,Lc];simp[IV];omega
theorem nS (L i k) (h:i<L.length) (hk:k<2):(lN L)[i*2+k]? =(IV L[i])[k]?:=by
 unfold lN
 induction L generalizing i with
 |nil=>simp at h
 |cons x L ih=>
  rw[Au];have hx:(IV x).length=2:=rfl;cases i with
  |zero=>rw[Dk om];simp
  |succ i=>
   rw[Bn om,hx,show(i+1)*2+k-2=i*2+k from om];exact ih i (by simpa using h)
theorem LH (L):∀u∈lN L,u.oneCell'=true:=by
 intro u hu;obtain⟨c,_,hc⟩:=mh.1 hu;simp[IV]at hc;rcases hc with rfl|rfl<;>rfl
theorem Jk (a b):lN (a++b)=lN a++lN b:=by simp[lN]
theorem jr (x b):lN (x::b)=IV x++lN b:=by simp[lN]
theorem QT (L k):(lN L).drop (k*2)=lN (L.drop k):=by
 induction k generalizing L with
 |zero=>simp
 |succ k ih=>
  cases L with
  |nil=>simp[lN]
  |cons x L=>rw[jr,AY,show(k+1)*2=(k*2+1)+1 from om];simp only[IV,Bb,AY,AA];exact ih L
theorem QU (L k):(lN L).take (k*2)=lN (L.take k):=by
 induction k generalizing L with
 |zero=>simp[lN]
 |succ k ih=>
  cases L with
  |nil=>simp[lN]
  |cons x L=>rw[jr,Cc,jr,show(k+1)*2=(k*2+1)+1 from om];simp only[IV,Bb,Cc,AA];rw[ih L]
def gV (w:World) (B:Nat) (A:Option Addr) (n c:Nat) (l:List QS):Prop:=Rd w B 2 A n c (lN l)
theorem gV.len {w B n c A l} (h:gV w B A n c l):n=l.length:=by have:=h.2.2.1;rw[jM]at this;omega
section
variable {w w':World} {B n c:Nat} {A:Option Addr} {l:List QS}
theorem gV.below (h:gV w B A n c l) (hb:Below B w w'):gV w' B A n c l:=Rd.below h hb
theorem gV.more {B'} (h:gV w B A n c l) (hB:B≤B'):gV w B' A n c l:=Rd.more h hB
theorem gV.alloc (h:gV w B A n c l) (hB:B≤w.heap.size) (o):gV (w.alloc o) B A n c l:=Rd.alloc h hB o
theorem gV.take (h:gV w B A n c l) {k} (hk:k≤n):gV w B A k c (l.take k):=by
 have:=Rd.take (k:=k) h hk;rwa[QU]at this
theorem gV.drop (h:gV w B A n c l) {k} (hk:k≤n):gV w B (if c=k then A else A.map (·.add (k*2))) (n-k) (c-k) (l.drop k):=by
 have:=Rd.drop (k:=k) h hk;rwa[QT]at this
end
theorem gV.at_ {w B n c k A l} (h:gV w B A n c l) (hk:k<l.length):∃b off,A=some ⟨b,off,none⟩∧b<B∧w.cell? ⟨b,off+k*2,none⟩=some (.int .i64 l[k].1)∧w.cell? ⟨b,off+(k*2+1),none⟩=some (.int .u64 (l[k].2:Int)):=by
 obtain⟨b,off,e,hb,hc⟩:=h.2.2.2 (by have:=h.len;omega);refine⟨b,off,e,hb,hc _ _ ?_,hc _ _ ?_⟩
 ·have:=nS l k 0 hk om;simpa[IV]using this
 ·have:=nS l k 1 hk om;simpa[IV]using this
def bq (w:World) (base:Nat) (A:Option Addr) (n c:Nat) (l:List QS):Prop:=w.ownsRow base 127 2 (.slice A n c) n (lN l)
theorem bq.rd {w base n c A l} (h:bq w base A n c l):gV w w.heap.size A n c l:=Rd.bC h
theorem bq.len {w base n c A l} (h:bq w base A n c l):n=l.length:=h.rd.len
theorem LJ:(prog.info? 127).map (fun i=>(i.zero,i.size,i.bytes))=some (some (.agg #[.int .i64 0,.int .u64 0]),2,16):=kr
theorem qH {w ops rest o a Q} (hgd:Region.wanted o (yielded ops a.tmps)=true) (s x)
  (ho:o.op= .call {callee:= .builtin .append,args:= #[s,x],argTypes:= #[55,55]})
  (base A n c l) (hs:a.eval s= .slice A n c) (hown:bq w base A n c l)
  (B S m d k) (hx:a.eval x= .slice S m d) (hr:gV w B S m d k)
  (hlen:n+m≤4398046511104) (hbase:base≤w.heap.size)
  (h:∀A2 c2 w',bq w' base A2 (n+m) c2 (l++k)→w.grownBy w' (ab A)→(ab A2=ab A∨ab A2=some w.heap.size)→wpList prog ops Q rest (a.put o.dst (.slice A2 (n+m) c2)) w'):wpList prog ops Q (o::rest) a w:=by
 obtain⟨i0,hi0,hz0,hz1,hz2⟩:=AV LJ;refine aR w hgd s x _ ho base 127 i0 (.agg #[.int .i64 0,.int .u64 0]) 2 16 underlying55 hi0 hz0 hz1 hz2 rfl Ah A n c (lN l) hs hown B S m d (lN k) hx hr (LH k) (by unfold maxLen;omega) om hbase ?_;rw[←Jk];exact h
theorem bq.nil (w base):bq w base none 0 0 []:=⟨rfl,.inl ⟨rfl,rfl⟩⟩
theorem bq.at_ {w base g n c k l} (h:bq w base (some ⟨g,0,none⟩) n c l) (hk:k<l.length):
  w.cell? ⟨g,k*2,none⟩=some (.int .i64 l[k].1)∧w.cell? ⟨g,k*2+1,none⟩=some (.int .u64 (l[k].2:Int))∧w.frozen? ⟨g,k*2,none⟩=false∧w.frozen? ⟨g,k*2+1,none⟩=false:=by
 have hn:=h.len;refine⟨?_,?_,CR h _,CR h _⟩
 ·rw[C9 h (k*2) om];have:=nS l k 0 hk om;simpa[IV]using this
 ·rw[C9 h (k*2+1) om];have:=nS l k 1 hk om;simpa[IV]using this
theorem VM (l k x):lN (l.set k x)=((lN l).set (k*2) (.int .i64 x.1)).set (k*2+1) (.int .u64 (x.2:Int)):=by
 induction l generalizing k with
 |nil=>simp[lN]
 |cons y l ih=>
  cases k with
  |zero=>simp[jr,IV]
  |succ k=>
   rw[Ap,jr,jr,ih k,show(k+1)*2=k*2+1+1 from om];simp[IV]
theorem bq.set {w base g n c l} (h:bq w base (some ⟨g,0,none⟩) n c l) (k x):
  bq ((w.setCell ⟨g,k*2,none⟩ (.int .i64 x.1)).setCell ⟨g,k*2+1,none⟩ (.int .u64 (x.2:Int))) base (some ⟨g,0,none⟩) n c (l.set k x):=by
 have h1:=(Ev h (k*2) (.int .i64 x.1)).1;have h2:=(Ev h1 (k*2+1) (.int .u64 (x.2:Int))).1;unfold bq;rw[VM];exact h2
end
end
section
section
namespace Sy
def iO (l:List ByteArray):Prop:=l.Pairwise fun x y=>St.lt x y=true
def gD (l t:List ByteArray):Prop:=iO t∧∀s,s∈t↔s∈l
theorem iO.nodup {l} (h:iO l):l.Nodup:=by
 unfold iO at h;exact h.imp fun{a b} hab e=>by rw[e,St.irrefl]at hab;cases hab
theorem iO.lt {t} (h:iO t) {i j} (hi:i<t.length) (hj:j<t.length) (hij:i<j):St.lt t[i] t[j]=true:=
 (BC.1 h) i j hi hj hij
theorem iO.inj {t} (h:iO t) {i j} (hi:i<t.length) (hj:j<t.length) (he:t[i]=t[j]):i=j:=by
 rcases Ea i j with h1|h1|h1
 ·have:=h.lt hi hj h1;rw[he,St.irrefl]at this;cases this
 ·exact h1
 ·have:=h.lt hj hi h1;rw[he,St.irrefl]at this;cases this
def idx (t:List ByteArray) (s:ByteArray):Option Nat:=t.findIdx? fun x=>decide (x=s)
theorem jv {t s k} (h:idx t s=some k):∃hk:k<t.length,t[k]=s∧∀j (hj:j<t.length),j<k→t[j]≠s:=by
 unfold idx at h;rw[List.findIdx?_eq_some_iff_getElem]at h;obtain⟨hk,h1,h2⟩:=h;refine⟨hk,by simpa using h1,fun j hj hjk=>?_⟩;have:=h2 j hjk;simpa using this
theorem ZM {t s k} (hk:k<t.length) (h1:t[k]=s) (h2:∀j (hj:j<t.length),j<k→t[j]≠s):idx t s=some k:=by
 unfold idx;rw[List.findIdx?_eq_some_iff_getElem];exact⟨hk,by simpa using h1,fun j hj=>by simpa using h2 j om hj⟩
theorem QV {t s}:idx t s=none↔∀j (hj:j<t.length),t[j]≠s:=by
 unfold idx;rw[List.findIdx?_eq_none_iff];constructor
 ·intro h j hj;simpa using h _ (gG hj)
 ·intro h x hx;obtain⟨j,hj,rfl⟩:=jw.1 hx;simpa using h j hj
theorem rW {t} (h:iO t) {s k} (hk:k<t.length) (he:t[k]=s):idx t s=some k:=
 ZM hk he fun j hj hjk e=>by have:=h.inj hj hk (e.trans he.symm);omega
theorem search {t} (h : iO t) (s) :
    Lib.bsGo (fun i => Op.bytesLess (t.getD i ByteArray.empty).toList s.toList) t.length 0 t.length = (t.filter fun x => St.lt x s).length := by
  have key : ∀ (l : List ByteArray), iO l → ∃ k, k ≤ l.length ∧ (l.filter fun x => St.lt x s).length = k ∧ (∀ i (hi : i < l.length), i < k → St.lt l[i] s = true) ∧ (∀ i (hi : i < l.length), k ≤ i → St.lt l[i] s = false) := by
    intro l
    induction l with
    | nil => intro _; exact ⟨0, Nr _, rfl, fun i hi => by simp at hi, fun i hi => by simp at hi⟩
    | cons x l ih =>
      intro hs
      have hs' := AQ.1 hs
      obtain ⟨k, h1, h2, h3, h4⟩ := ih hs'.2
      cases hx : St.lt x s with
      | true =>
        refine ⟨k + 1, by simp; omega, by simp [hx, h2], fun i hi hik => ?_, fun i hi hik => ?_⟩
        · cases i with
          | zero => exact hx
          | succ i => exact h3 i (by simpa using hi) om
        · cases i with
          | zero => omega
          | succ i => exact h4 i (by simpa using hi) om
      | false =>
        have hall : ∀ y ∈ l, St.lt y s = false := fun y hy => by
          rw [Cy]; intro hy2
          have := St.trans (hs'.1 y hy) hy2
          rw [hx] at this; cases this
        refine ⟨0, om, ?_, fun i hi hik => om, fun i hi _ => ?_⟩
        · rw [List.length_eq_zero_iff, List.filter_eq_nil_iff]
          intro y hy
          rcases eH.1 hy with rfl | hy
          · simp [hx]
          · simp [hall y hy]
        · cases i with
          | zero => exact hx
          | succ i => exact hall _ (gG _)
  obtain ⟨k, h1, h2, h3, h4⟩ := key t h
  rw [h2]
  have e := Lib.bsGo_spec (fun i => if i < t.length then Op.bytesLess (t.getD i ByteArray.empty).toList s.toList else false) k
    (fun i hi => by have hil : i < t.length := by omega
                    rw [Ps0 hil]; have := h3 i hil hi; simpa [St.lt, List.getD, hil] using this)
    (fun i hi => by
      by_cases hil : i < t.length
      · rw [Ps0 hil]; have := h4 i hil hi; simpa [St.lt, List.getD, hil] using this
      · rw [Ng hil])
    t.length 0 t.length om om h1
  rw [← e]
  have go : ∀ f lo hi, hi ≤ t.length → Lib.bsGo (fun i => Op.bytesLess (t.getD i ByteArray.empty).toList s.toList) f lo hi = Lib.bsGo (fun i => if i < t.length then Op.bytesLess (t.getD i ByteArray.empty).toList s.toList else false) f lo hi := by
    intro f
    induction f with
    | zero => intro lo hi _; rfl
    | succ f ih =>
      intro lo hi hh
      unfold Lib.bsGo
      by_cases hlt : lo < hi
      · rw [Ps0 hlt, Ps0 hlt, Ps0 (show (lo + hi) / 2 < t.length from om)]
        split
        · exact ih _ _ hh
        · exact ih _ _ om
      · rw [Ng hlt, Ng hlt]
  exact go _ _ _ Ai
theorem tu {t} (h:iO t) (s):
  let I:=(t.filter fun x=>St.lt x s).length
  (idx t s=some I∧∃hI:I<t.length,t[I]=s)∨(idx t s=none∧¬∃hI:I<t.length,t[I]=s):=by
 intro I;by_cases hI:∃hI:I<t.length,t[I]=s
 ·obtain⟨h1,h2⟩:=hI;exact .inl ⟨rW h h1 h2,h1,h2⟩
 ·refine .inr ⟨QV.2 fun j hj he=>hI ?_,hI⟩;have hIj:I=j:=by
   show(t.filter fun x=>St.lt x s).length=j;have e:t=t.take j++t.drop j:=(jJ j t).symm;have f1:(t.take j).filter (fun x=>St.lt x s)=t.take j:=by
    rw[List.filter_eq_self];intro x hx;obtain⟨i,hi,rfl⟩:=jw.1 hx;rw[oV]at hi;rw[List.getElem_take,←he];exact h.lt om hj om
   have f2:(t.drop j).filter (fun x=>St.lt x s)=[]:=by
    rw[List.filter_eq_nil_iff];intro x hx;obtain⟨i,hi,rfl⟩:=jw.1 hx;rw[mg]at hi;rw[DZ,←he];by_cases h0:i=0
    ·subst h0;simp[St.irrefl]
    ·have:=h.lt hj (show j+i<t.length from om) om;rw[St.asymm this];simp
   conv=>lhs;rw[e]
   rw[Ep,f1,f2,Bh,oV];omega
  exact⟨om,by simpa[hIj]using he⟩
theorem gD.size {l t} (h:gD l t) {m} (hm:∀s∈l,s.size≤m):∀s∈t,s.size≤m:=fun s hs=>hm s ((h.2 s).1 hs)
theorem cu {α:Type} [DecidableEq α]:∀(a b:List α),a.Nodup→(∀x∈a,x∈b)→a.length≤b.length
 |[],b,_,_=>bH _
 |x::a,b,h,hs=>by
  have h':=List.nodup_cons.1 h;have hx:x∈b:=hs x sm;have:=cu a (b.erase x) h'.2 fun y hy=>by
   have hne:y≠x:=fun e=>h'.1 (e▸hy)
   exact(List.mem_erase_of_ne hne).2 (hs y (by simp[hy]))
  rw[List.length_erase_of_mem hx]at this;have:=List.length_pos_of_mem hx;simp;omega
theorem gD.len {l t} (h:gD l t):t.length≤l.length:=cu t l h.1.nodup fun s hs=>(h.2 s).1 hs
end Sy
end
end
section
section
namespace Lb
theorem ext {a b:aQ} (h1:a.n=b.n) (h2:a.v=b.v):a=b:=by cases a;cases b;simp_all
def one (x:aQ):Int:=if x.n.size=0 then 17 else if 65535<x.n.size∨65535<x.v.size then 7 else 0
def dQ (l:List aQ) (j:Nat):Int:=
 let x:=l.getD j default
 if one x≠0 then one x else if j=0 then 0 else
  let p:=l.getD (j-1) default
  if p.n=x.n then 18 else if St.lt x.n p.n then 16 else 0
def gU (f:Nat→Int) (n:Nat):Int:=(((List.range n).map f).find? fun e=>!decide (e=0)).getD 0
theorem dD (f n) (h:∀j,j<n→f j=0):gU f n=0:=by
 unfold gU;have:((List.range n).map f).find? (fun e=>!decide (e=0))=none:=by
  rw[List.find?_eq_none];intro e he;obtain⟨j,hj,rfl⟩:=bY.1 he;simp[h j (List.mem_range.1 hj)]
 rw[this];rfl
theorem bu (f n k) (hk:k<n) (h:∀j,j<k→f j=0) (he:f k≠0):gU f n=f k:=by
 unfold gU;have e1:List.range n=List.range k++k::(List.range (n-k-1)).map (·+(k+1)):=by
  apply List.ext_getElem?;intro i;by_cases h1:i<k
  ·rw[Dk (by simpa using h1)];simp[h1,show i<n from om]
  ·rw[Bn (by simpa using h1)];simp only[Cz];by_cases h2:i=k
   ·subst h2;simp[hk]
   ·obtain⟨m,hm⟩:∃m,i-k=m+1:=⟨i-k-1,om⟩
    rw[hm,List.getElem?_cons_succ];by_cases h3:i<n
    ·simp[h3,show m<n-k-1 from om];omega
    ·rw[BN (by simpa using h3),BN (by simp;omega)]
 have h0:((List.range k).map f).find? (fun e=>!decide (e=0))=none:=by
  rw[List.find?_eq_none];intro e he2;obtain⟨j,hj,rfl⟩:=bY.1 he2;simp[h j (List.mem_range.1 hj)]
 rw[e1,dR,List.find?_append,h0,Az,List.find?_cons];simp[he]
def bR (l:List aQ):Int:=gU (dQ l) l.length
theorem getD_at {l:List aQ} {j} (h:j<l.length):l.getD j default=l[j]:=by simp[List.getD,h]
def jy (x y:aQ):Int:=if St.cmp x.n y.n=0 then St.cmp x.v y.v else St.cmp x.n y.n
def cmpL:List aQ→List aQ→Int
 |[],[]=>0
 |[],_::_=> -1
 |_::_,[]=>1
 |x::a,y::b=>if jy x y=0 then cmpL a b else jy x y
theorem lQ {a b}:jy a b=0↔a=b:=by
 unfold jy;constructor
 ·intro h;split at h
  ·next h0=>exact ext (St.dP.1 h0) (St.dP.1 h)
  ·next h0=>exact absurd h h0
 ·rintro rfl;have h1:St.cmp a.n a.n=0:=St.dP.2 rfl;have h2:St.cmp a.v a.v=0:=St.dP.2 rfl;simp[h1,h2]
theorem xu {a b c} (h1:St.cmp a b<0) (h2:St.cmp b c<0):St.cmp a c<0:=by
 rw[St.yI]at*;exact St.trans h1 h2
theorem Jl {a b c} (h1:jy a b<0) (h2:jy b c<0):jy a c<0:=by
 unfold jy at*;split at h1
 ·next e1=>
  have e1:=St.dP.1 e1;split at h2
  ·next e2=>
   have e2:=St.dP.1 e2;rw[Ps0 (St.dP.2 (e1.trans e2))];exact xu h1 h2
  ·next e2=>rw[←e1]at h2 e2;rw[Ng e2];exact h2
 ·next e1=>
  split at h2
  ·next e2=>
   have e2:=St.dP.1 e2;rw[←e2,Ng e1];exact h1
  ·next e2=>
   have h3:=xu h1 h2;rw[Ng om];exact h3
theorem NT {a b}:cmpL a b=0↔a=b:=by
 induction a generalizing b with
 |nil=>cases b<;>simp[cmpL]
 |cons x a ih=>
  cases b with
  |nil=>simp[cmpL]
  |cons y b=>
   simp only[cmpL];by_cases h0:jy x y=0
   ·rw[Ps0 h0,ih,lQ.1 h0];simp
   ·rw[Ng h0];refine⟨fun h=>absurd h h0,fun h=>?_⟩
    injection h with h1 h2
    exact absurd (lQ.2 h1) h0
theorem Jm {a b c} (h1:cmpL a b<0) (h2:cmpL b c<0):cmpL a c<0:=by
 induction a generalizing b c with
 |nil=>
  cases b with
  |nil=>simp[cmpL]at h1
  |cons y b=>cases c with
   |nil=>simp[cmpL]at h2
   |cons z c=>simp[cmpL]
 |cons x a ih=>
  cases b with
  |nil=>simp[cmpL]at h1
  |cons y b=>
   cases c with
   |nil=>simp[cmpL]at h2
   |cons z c=>
    simp only[cmpL]at*;by_cases e1:jy x y=0
    ·rw[Ps0 e1]at h1;obtain rfl:=lQ.1 e1;by_cases e2:jy x z=0
     ·rw[Ps0 e2]at h2⊢;exact ih h1 h2
     ·rw[Ng e2]at h2⊢;exact h2
    ·rw[Ng e1]at h1;by_cases e2:jy y z=0
     ·obtain rfl:=lQ.1 e2;rw[Ng e1];exact h1
     ·rw[Ng e2]at h2;have h3:=Jl h1 h2;rw[Ng om];exact h3
theorem xw (a b:List aQ) (k) (ha:k<a.length) (hb:k<b.length):
  cmpL (a.drop k) (b.drop k)=if jy a[k] b[k]=0 then cmpL (a.drop (k+1)) (b.drop (k+1))else jy a[k] b[k]:=by
 rw[o9 ha,o9 hb,cmpL]
theorem xx (a b:List aQ) (k) (ha:k=a.length) (hb:k<b.length):cmpL (a.drop k) (b.drop k)= -1:=by
 subst ha;rw[List.drop_length,o9 hb,cmpL]
theorem xy (a b:List aQ) (k) (ha:k<a.length) (hb:k=b.length):cmpL (a.drop k) (b.drop k)=1:=by
 subst hb;rw[List.drop_length,o9 ha,cmpL]
theorem xz (a b:List aQ) (k) (ha:k=a.length) (hb:k=b.length):cmpL (a.drop k) (b.drop k)=0:=by
 subst ha;rw[List.drop_length,hb,List.drop_length,cmpL]
def get (l:List aQ) (x:ByteArray):Option ByteArray:=(l.find? fun y=>decide (y.n=x)).map (·.v)
theorem get_at (l x k) (hk:k<l.length) (h:∀j (hj:j<l.length),j<k→l[j].n≠x) (he:l[k].n=x):get l x=some l[k].v:=by
 unfold get;have e:l=l.take k++l[k]::l.drop (k+1):=by rw[←o9 hk,jJ]
 have h0:(l.take k).find? (fun y=>decide (y.n=x))=none:=by
  rw[List.find?_eq_none];intro y hy;obtain⟨j,hj,rfl⟩:=jw.1 hy;rw[oV]at hj;rw[List.getElem_take];simpa using h j om om
 have h1:l.find? (fun y=>decide (y.n=x))=some l[k]:=by
  generalize l[k]=y at e he;rw[e,List.find?_append,h0,List.find?_cons];simp[he]
 rw[h1];rfl
theorem get_none (l x) (h:∀j (hj:j<l.length),l[j].n≠x):get l x=none:=by
 unfold get;rw[Option.map_eq_none_iff,List.find?_eq_none];intro y hy;obtain⟨j,hj,rfl⟩:=jw.1 hy;simpa using h j hj
def strs (l:List aQ):List ByteArray:=l.flatMap fun x=>[x.n,x.v]
theorem aX (l):(strs l).length=2*l.length:=by
 unfold strs
 induction l with
 |nil=>rfl
 |cons x l ih=>rw[Au,La,ih,Lc];simp;omega
theorem xA (l:List aQ) (k) (h:k<l.length):strs (l.take (k+1))=strs (l.take k)++[l[k].n,l[k].v]:=by
 unfold strs;rw[Ts h,pz];simp
end Lb
end
end
section
section
namespace Lb
theorem mZ (f n):(gU f n=0∧∀j,j<n→f j=0)∨∃k,k<n∧f k≠0∧gU f n=f k∧∀j,j<k→f j=0:=by
 have key:∀m,m≤n→(∀j,j<m→f j=0)∨∃k,k<m∧f k≠0∧∀j,j<k→f j=0:=by
  intro m
  induction m with
  |zero=>intro _;exact .inl fun j hj=>om
  |succ m ih=>
   intro hm;rcases ih om with h|⟨k,h1,h2,h3⟩
   ·by_cases hf:f m=0
    ·refine .inl fun j hj=>?_
     by_cases hjm:j=m
     ·subst hjm;exact hf
     ·exact h j om
    ·exact .inr ⟨m,om,hf,h⟩
   ·exact .inr ⟨k,om,h2,h3⟩
 rcases key n Ai with h|⟨k,h1,h2,h3⟩
 ·exact .inl ⟨dD f n h,h⟩
 ·exact .inr ⟨k,h1,h2,bu f n k h1 h3 h2,h3⟩
def iO (l:List aQ):Prop:=l.Pairwise fun x y=>St.lt x.n y.n=true
theorem Jn {l:List aQ} (h:∀j (hj:j+1<l.length),St.lt l[j].n l[j+1].n=true):iO l:=by
 unfold iO;rw[BC];intro i j hi hj hij
 induction j with
 |zero=>omega
 |succ j ih=>
  by_cases e:i=j
  ·subst e;exact h i hj
  ·exact St.trans (ih om om) (h j hj)
end Lb
end
end
section
section
open Go.RowKit Go.Shelf
def Yz (x:aQ):Value:= .agg #[.string x.n,.string x.v]
theorem tC (a b W):Sem.run prog (Instr.index 255 (.agg #[a,b]) (.int .i64 0)) W= .ok (.agg #[a]) W:=kr
theorem Fw (a b W):Sem.run prog (Instr.index 255 (.agg #[a,b]) (.int .i64 1)) W= .ok (.agg #[b]) W:=kr
theorem pI (x w):Calls prog 186 #[.string x] w fun e w'=>e= .returned (.bool false)∧w'=w:=by
 go_enter func186,ntmps186;go_wp2;go_ret;exact⟨sm,rfl⟩
theorem qI (x y w):Calls prog 137 #[.string x,.string y] w fun e w'=>e= .returned (.int .i64 (St.cmp x y))∧w'=w:=by
 have h1:Op.bytesLess x.toList y.toList=St.lt x y:=rfl;have h2:(!(Op.bytesLess x.toList y.toList||x.toList==y.toList))=(!(St.lt x y)&&St.lt y x):=by
  rw[h1,St.eq_iff];by_cases e:x=y
  ·subst e;simp[St.irrefl]
  ·cases a:St.lt x y with
   |true=>simp
   |false=>
    cases b:St.lt y x with
    |true=>simp[e]
    |false=>exact absurd (St.total a b) e
 by_cases a:St.lt x y=true
 ·go_enter func137,ntmps137;have a2:Op.bytesLess x.toList y.toList=true:=a;go_wp2_with (go_at_call 186;refine(pI _ _).mono ?_;rintro e w' ⟨rfl,rfl⟩);go_ret;exact⟨by simp[St.cmp,a],rfl⟩
 ·have a':St.lt x y=false:=by simpa using a
  have a2:Op.bytesLess x.toList y.toList=false:=a';rw[a']at h2;by_cases b:St.lt y x=true
  ·rw[b]at h2;rw[a2]at h2;have h3:(x.toList==y.toList)=false:=by simpa using h2
   go_enter func137,ntmps137;go_wp2_with (go_at_call 186;refine(pI _ _).mono ?_;rintro e w' ⟨rfl,rfl⟩);go_ret;exact⟨by simp[St.cmp,a',b],rfl⟩
  ·have b':St.lt y x=false:=by simpa using b
   rw[b',a2]at h2;have h3:(x.toList==y.toList)=true:=by simpa using h2
   go_enter func137,ntmps137;go_wp2_with (go_at_call 186;refine(pI _ _).mono ?_;rintro e w' ⟨rfl,rfl⟩);go_ret;exact⟨by simp[St.cmp,a',b'],rfl⟩
theorem pJ (x:aQ) (w):Calls prog 203 #[.agg #[.string x.n,.string x.v]] w fun e w'=>e= .returned (.string x.n)∧∃q os',w'=Sort.grow (w.drewN q) os':=by
 go_enter func203,ntmps203;go_wp2;go_ret;exact⟨rfl,0,_,by rw[Sort.alloc_eq_grow];rfl⟩
theorem xB (x:aQ) (w):Calls prog 204 #[.agg #[.string x.n,.string x.v]] w fun e w'=>e= .returned (.string x.v)∧∃q os',w'=Sort.grow (w.drewN q) os':=by
 go_enter func204,ntmps204;go_wp2;go_ret;exact⟨rfl,0,_,by rw[Sort.alloc_eq_grow];rfl⟩
theorem pK (w):Calls prog 150 #[] w fun e w'=>e= .returned (.agg #[.func (.func 203) #[] #[],.func (.func 204) #[] #[]])∧Gr w w':=by
 go_enter func150,ntmps150;go_wp2;refine Bi (v:= .agg #[.func (.func 203) #[] #[],.func (.func 204) #[] #[]]) ?hr rfl ?_
 case hr=>exact results_cell_row (fn:=Tryz.f150) (p:=0) (ty:=255) rfl _ _ w.heap.size _ _ _ _ rfl (Av w _) underlying255 rfl kr
 exact⟨rfl,(Gr.refl w).alloc _⟩
theorem Jo (v) (hv:v.oneCell'=true) (w):Calls prog 149 #[v] w fun e w'=>e= .returned (.func (.func 202) #[] #[.pointer (some ⟨w.heap.size,0,none⟩)])∧w'=w.alloc (.cells #[v] 252):=by
 go_enter func149,ntmps149;go_wp2;go_ret;exact⟨rfl,rfl⟩
theorem yJ (g:Nat) (pf:aQ→ByteArray) (eg:∀args w,(callFunc g args).run prog w= .ok (.enter g args) w)
  (hg:∀(x) (w),Calls prog g #[.agg #[.string x.n,.string x.v]] w fun e w'=>e= .returned (.string (pf x))∧∃q os',w'=Sort.grow (w.drewN q) os')
  (B x y w) (hB:B<w.heap.size) (hc:w.cell? ⟨B,0,none⟩=some (.func (.func g) #[] #[])):
  Calls prog 202 #[.agg #[.string x.n,.string x.v],.agg #[.string y.n,.string y.v],.pointer (some ⟨B,0,none⟩)] w fun e w'=>e= .returned (.int .i64 (St.cmp (pf x) (pf y)))∧∃q os',w'=Sort.grow (w.drewN q) os':=by
 have mixed:prog.follows .mixedOrders=true:=kr;have hcm:=fun W=>qI (pf x) (pf y) W
 have hx:=hg x;have hy:=hg y;generalize pf x=px at*;generalize pf y=py at*;generalize St.cmp px py=r at*;go_enter func202,ntmps202;go_wp2_with fail;obtain⟨W2,hW⟩:∃W2,W2=(w.alloc (.cells #[.string x.n,.string x.v] 59)).alloc (.cells #[.string y.n,.string y.v] 59):=⟨_,rfl⟩
 have hz:W2.heap.size=w.heap.size+2:=by rw[hW];simp
 have gW:Gr w W2:=by rw[hW];exact((Gr.refl w).alloc _).alloc _
 have b0:∀k,W2.cell? ⟨w.heap.size,k,none⟩=(#[Value.string x.n,.string x.v]:Array Value)[k]?:=fun k=>by
  rw[hW,AB _ _ ⟨w.heap.size,k,none⟩ sm];exact Ao w _ _ _ k
 have b1:∀k,W2.cell? ⟨w.heap.size+1,k,none⟩=(#[Value.string y.n,.string y.v]:Array Value)[k]?:=fun k=>by
  rw[hW];simp
 have c0:∀n os,(Sort.grow (W2.drewN n) os).cell? ⟨B,0,none⟩=some (.func (.func g) #[] #[]):=fun n os=>Ej (by show B<_;omega) ((gW.cell B 0 hB).trans hc) n os
 have c1:∀n os,(Sort.grow (W2.drewN n) os).cell? ⟨w.heap.size,0,none⟩=some (.string x.n):=fun n os=>Ej (by show w.heap.size<_;omega) (b0 0) n os
 have c2:∀n os,(Sort.grow (W2.drewN n) os).cell? ⟨w.heap.size,1,none⟩=some (.string x.v):=fun n os=>Ej (by show w.heap.size<_;omega) (b0 1) n os
 have c3:∀n os,(Sort.grow (W2.drewN n) os).cell? ⟨w.heap.size+1,0,none⟩=some (.string y.n):=fun n os=>Ej (by show w.heap.size+1<_;omega) (b1 0) n os
 have c4:∀n os,(Sort.grow (W2.drewN n) os).cell? ⟨w.heap.size+1,1,none⟩=some (.string y.v):=fun n os=>Ej (by show w.heap.size+1<_;omega) (b1 1) n os
 rw[←hW];clear hW b0 b1 hz hc;have G:=Aj gW;clear gW;have hcm2:∀W,Calls prog 137 #[.string px,.string py] W fun e w'=>e= .returned (.int .i64 r)∧∃q os',w'=Sort.grow (W.drewN q) os':=fun W=>(hcm W).mono fun _ _ h=>⟨h.1,0,#[],by rw[h.2,Sort.grow_empty];rfl⟩
 go_quiet_grown (first|(go_at_fn g;refine Dj (hx _))|(go_at_fn g;refine Dj (hy _))|(go_at_call 137;go_loud (refine Dj (hcm2 _))));go_wp2;go_ret;exact⟨rfl,G.1.trans ⟨_,_,rfl⟩⟩
theorem Jp (x w) (h1:x.n.size≤maxLen) (h2:x.v.size≤maxLen):Calls prog 151 #[.agg #[.string x.n,.string x.v]] w fun e w'=>e= .returned (.int .i64 (Lb.one x))∧Gr w w':=by
 unfold maxLen at h1 h2;have e1:x.n.toList.isEmpty=decide (x.n.size=0):=by
  rw[St.tl];obtain⟨⟨l⟩⟩:=x.n;cases l<;>simp[ByteArray.size]
 by_cases h0:x.n.size=0
 ·rw[Bj h0]at e1;have hr:Lb.one x=17:=by simp[Lb.one,h0]
  rw[hr];go_enter func151,ntmps151;go_wp2;go_ret;exact⟨rfl,(Gr.refl w).alloc _⟩
 ·rw[AF h0]at e1;by_cases hb:65535<x.n.size∨65535<x.v.size
  ·have hr:Lb.one x=7:=by simp[Lb.one,h0,hb]
   rw[hr];rcases Ea x.n.size x.v.size with hlt|hlt|hlt
   all_goals
    go_enter func151,ntmps151;go_wp2;go_ret;exact⟨rfl,(Gr.refl w).alloc _⟩
  ·have hr:Lb.one x=0:=by simp[Lb.one,h0,hb]
   have hb1:(x.n.size:Int)≤65535:=om;have hb2:(x.v.size:Int)≤65535:=om;rw[hr];rcases Ea x.n.size x.v.size with hlt|hlt|hlt
   all_goals
    go_enter func151,ntmps151;go_wp2;go_ret;exact⟨rfl,(Gr.refl w).alloc _⟩
end
end
section
section
open Go.RowKit Go.Shelf
theorem QW (x y w):Calls prog 154 #[.agg #[.string x.n,.string x.v],.agg #[.string y.n,.string y.v]] w fun e w'=>e= .returned (.int .i64 (Lb.jy x y))∧Gr w w':=by
 have B1:=fun B W hB hc=>yJ 203 aQ.n (BH func203 kr rfl) pJ B x y W hB hc
 have B2:=fun B W hB hc=>yJ 204 aQ.v (BH func204 kr rfl) xB B x y W hB hc
 have A1:=fun W=>Jo (.func (.func 203) #[] #[]) rfl W
 have A2:=fun W=>Jo (.func (.func 204) #[] #[]) rfl W
 have HE:Kept (Lb.jy x y=if St.cmp x.n y.n=0 then St.cmp x.v y.v else St.cmp x.n y.n):=⟨rfl⟩
 generalize Lb.jy x y=r at*;generalize St.cmp x.n y.n=r1 at*;generalize St.cmp x.v y.v=r2 at*;go_enter func154,ntmps154;go_upto_region 1 with fail;obtain⟨W2,hW⟩:∃W2,W2=(w.alloc (.cells #[.string x.n,.string x.v] 59)).alloc (.cells #[.string y.n,.string y.v] 59):=⟨_,rfl⟩
 have hz:W2.heap.size=w.heap.size+2:=by rw[hW];simp
 have gW:Kept (Gr w W2):=⟨by rw[hW];exact((Gr.refl w).alloc _).alloc _⟩
 have b0:∀k,W2.cell? ⟨w.heap.size,k,none⟩=(#[Value.string x.n,.string x.v]:Array Value)[k]?:=fun k=>by
  rw[hW,AB _ _ ⟨w.heap.size,k,none⟩ sm];exact Ao w _ _ _ k
 have b1:∀k,W2.cell? ⟨w.heap.size+1,k,none⟩=(#[Value.string y.n,.string y.v]:Array Value)[k]?:=fun k=>by
  rw[hW];simp
 have hz1:Kept (w.heap.size+1<W2.heap.size):=⟨om⟩
 have K0:Kept (∀W,Gr W2 W→W.cell? ⟨w.heap.size,0,none⟩=some (.string x.n)):=⟨fun W h=>(h.cell _ 0 om).trans (b0 0)⟩
 have K1:Kept (∀W,Gr W2 W→W.cell? ⟨w.heap.size,1,none⟩=some (.string x.v)):=⟨fun W h=>(h.cell _ 1 om).trans (b0 1)⟩
 have K2:Kept (∀W,Gr W2 W→W.cell? ⟨w.heap.size+1,0,none⟩=some (.string y.n)):=⟨fun W h=>(h.cell _ 0 om).trans (b1 0)⟩
 have K3:Kept (∀W,Gr W2 W→W.cell? ⟨w.heap.size+1,1,none⟩=some (.string y.v)):=⟨fun W h=>(h.cell _ 1 om).trans (b1 1)⟩
 rw[←hW];clear hW b0 b1 hz;go_wp2_with (go_at_call 150;refine(pK _).mono ?_;rintro e w1 ⟨rfl,g1⟩);go_loopw [9] (fun i wr=>Gr W2 wr∧(i= .int .i64 0∨(i= .int .i64 1∧Kept (r1=0))∨(i= .int .i64 2∧Kept (r1=0∧r2=0)))) (fun i _=>2-(intOf i).toNat)
 case atStart=>exact⟨g1,.inl rfl⟩
 case round=>
  obtain⟨gr,hi⟩:=hrel;have c0:∀o1,(wr.alloc o1).cell? ⟨w.heap.size,0,none⟩=some (.string x.n):=fun o1=>K0.1 _ (gr.alloc o1)
  have d0:∀o1 o2,((wr.alloc o1).alloc o2).cell? ⟨w.heap.size,0,none⟩=some (.string x.n):=fun o1 o2=>K0.1 _ ((gr.alloc o1).alloc o2)
  have c1:∀o1,(wr.alloc o1).cell? ⟨w.heap.size,1,none⟩=some (.string x.v):=fun o1=>K1.1 _ (gr.alloc o1)
  have d1:∀o1 o2,((wr.alloc o1).alloc o2).cell? ⟨w.heap.size,1,none⟩=some (.string x.v):=fun o1 o2=>K1.1 _ ((gr.alloc o1).alloc o2)
  have c2:∀o1,(wr.alloc o1).cell? ⟨w.heap.size+1,0,none⟩=some (.string y.n):=fun o1=>K2.1 _ (gr.alloc o1)
  have d2:∀o1 o2,((wr.alloc o1).alloc o2).cell? ⟨w.heap.size+1,0,none⟩=some (.string y.n):=fun o1 o2=>K2.1 _ ((gr.alloc o1).alloc o2)
  have c3:∀o1,(wr.alloc o1).cell? ⟨w.heap.size+1,1,none⟩=some (.string y.v):=fun o1=>K3.1 _ (gr.alloc o1)
  have d3:∀o1 o2,((wr.alloc o1).alloc o2).cell? ⟨w.heap.size+1,1,none⟩=some (.string y.v):=fun o1 o2=>K3.1 _ ((gr.alloc o1).alloc o2)
  have i0:=fun W=>tC (.func (.func 203) #[] #[]) (.func (.func 204) #[] #[]) W
  have i1:=fun W=>Fw (.func (.func 203) #[] #[]) (.func (.func 204) #[] #[]) W
  rcases hi with rfl|⟨rfl,hr1⟩|⟨rfl,hr1⟩
  ·go_wp2_with fail;go_cut [7] (fun v wx=>v= .int .i64 r1∧Gr W2 wx)
   case first=>
    go_region_with (first
     |(go_at_call 149;refine(A1 _).mono ?_;rintro e w3 ⟨rfl,rfl⟩)
     |(go_at_call 202;refine(B1 _ _ sm sm).mono ?_;rintro e w4 ⟨rfl,q4,os4,rfl⟩))
    all_goals (go_wp2_with fail;go_meet;exact⟨rfl,(((gr.alloc _).alloc _).drewN _).trans ⟨0,os4,rfl⟩⟩)
   case rest=>
    obtain⟨rfl,gc⟩:=hcut;clear c0 c1 c2 c3 d0 d1 d2 d3 gr;by_cases hz:r1=0
    ·have hzk:=Aj hz;go_wp2;go_roundw
     case rel=>exact⟨gc,.inr (.inl ⟨rfl,hzk⟩)⟩
     case measure=>simp[intOf]
    ·have hr:r=r1:=by rw[HE.1];exact Ng hz
     go_wp2;go_ret;exact⟨by rw[hr];rfl,gW.1.trans gc⟩
  ·go_wp2_with fail;go_cut [7] (fun v wx=>v= .int .i64 r2∧Gr W2 wx)
   case first=>
    go_region_with (first
     |(go_at_call 149;refine(A2 _).mono ?_;rintro e w3 ⟨rfl,rfl⟩)
     |(go_at_call 202;refine(B2 _ _ sm sm).mono ?_;rintro e w4 ⟨rfl,q4,os4,rfl⟩))
    all_goals (go_wp2_with fail;go_meet;exact⟨rfl,(((gr.alloc _).alloc _).drewN _).trans ⟨0,os4,rfl⟩⟩)
   case rest=>
    obtain⟨rfl,gc⟩:=hcut;clear c0 c1 c2 c3 d0 d1 d2 d3 gr;by_cases hz:r2=0
    ·have hzk:=Aj hz;go_wp2;go_roundw
     case rel=>exact⟨gc,.inr (.inr ⟨rfl,⟨hr1.1,hzk.1⟩⟩)⟩
     case measure=>simp[intOf]
    ·have hr:r=r2:=by rw[HE.1];exact Ps0 hr1.1
     go_wp2;go_ret;exact⟨by rw[hr];rfl,gW.1.trans gc⟩
  ·have hr:r=0:=by rw[HE.1,Ps0 hr1.1.1];exact hr1.1.2
   go_wp2;go_ret;exact⟨by rw[hr];rfl,gW.1.trans gr⟩
end
end
section
section
open Go.RowKit Go.Shelf
theorem fO.cells {w B n c k A l} (h:fO w B A n c l) (hB:B≤w.heap.size) (hk:k<l.length):
  ∃b off,A=some ⟨b,off,none⟩∧∀W,Below w.heap.size w W→W.cell? ⟨b,off+k*2,none⟩=some (.string l[k].n)∧W.cell? ⟨b,off+k*2+1,none⟩=some (.string l[k].v):=by
 obtain⟨b,off,e,hb,h1,h2⟩:=h.at_ hk;exact⟨b,off,e,fun W hW=>⟨(hW.cell (p:=⟨b,_,none⟩) (by show b<_;omega)).trans h1,(hW.cell (p:=⟨b,_,none⟩) (by show b<_;omega)).trans (by rw[fA];exact h2)⟩⟩
theorem rz (A A2 n c n2 c2 l l2 w) (hv:fO w w.heap.size A n c l) (hv2:fO w w.heap.size A2 n2 c2 l2):
  Calls prog 153 #[.slice A n c,.slice A2 n2 c2,.func (.func 154) #[] #[]] w fun e w'=>e= .returned (.int .i64 (Lb.cmpL l l2))∧Gr w w':=by
 have hlc:=hv.1;have hcm:=hv.2.1;have NV:=hv2.1;have hcm2:=hv2.2.1;unfold maxLen at hcm hcm2;have hn:=Aj hv.len;have hn2:=Aj hv2.len;have V:=Aj hv;have V2:=Aj hv2;clear hv hv2;obtain⟨r,hr⟩:∃r,r=Lb.cmpL l l2:=⟨_,rfl⟩
 rw[←hr];have HR:=Aj hr;clear hr;go_enter func153,ntmps153;go_wp2;go_loopw [13] (fun i wr=>∃k:Nat,k≤n∧k≤n2∧i= .int .i64 k∧Kept (r=Lb.cmpL (l.drop k) (l2.drop k))∧Gr w wr) (fun i _=>n-(intOf i).toNat)
 case atStart=>exact⟨0,om,om,rfl,⟨HR.1⟩,Gr.refl w⟩
 case round=>
  obtain⟨k,hk,hk2,rfl,hd,gr⟩:=hrel;by_cases hlt:k<n
  ·have hkl:k<l.length:=by rw[←hn.1];exact hlt
   obtain⟨b,off,rfl,hc⟩:=V.1.cells Ai hkl;obtain⟨c0,c1⟩:=hc wr gr.below;clear hc;by_cases hlt2:k<n2
   ·have vZ:k<l2.length:=by rw[←hn2.1];exact hlt2
    obtain⟨b2,sS,rfl,hc2⟩:=V2.1.cells Ai vZ;have d0:=fun o=>(hc2 (wr.alloc o) (gr.alloc o).below).1
    have d1:=fun o=>(hc2 (wr.alloc o) (gr.alloc o).below).2
    clear hc2;have hd2:=Aj (hd.1.trans (Lb.xw l l2 k hkl vZ));generalize l[k]=x at*;generalize l2[k]=y at*;have C1:=fun W=>QW x y W
    obtain⟨xn,xv⟩:=x;obtain⟨yn,yv⟩:=y;obtain⟨s,hs⟩:∃s,s=Lb.jy ⟨xn,xv⟩ ⟨yn,yv⟩:=⟨_,rfl⟩
    simp only[←hs]at C1;have HS:=Aj hs;have G:=Aj gr;clear hs gr;by_cases hz:s=0
    ·have hd3:Kept (r=Lb.cmpL (l.drop (k+1)) (l2.drop (k+1))):=⟨by rw[hd2.1,Ps0 (by rw[←HS.1];exact hz)]⟩
     go_wp2_with (go_at_call 154;refine(C1 _).mono ?_;rintro e w3 ⟨rfl,g3⟩);go_roundw
     case rel=>exact⟨k+1,om,om,by go_num,hd3,((G.1.alloc _).alloc _).trans g3⟩
     case measure=>simp[intOf];omega
    ·have hd3:Kept (r=s):=⟨by rw[hd2.1,Ng (by rw[←HS.1];exact hz),HS.1]⟩
     go_wp2_with (go_at_call 154;refine(C1 _).mono ?_;rintro e w3 ⟨rfl,g3⟩);go_ret;exact⟨by rw[hd3.1];rfl,((G.1.alloc _).alloc _).trans g3⟩
   ·have hd3:Kept (r=1):=⟨by rw[hd.1,Lb.xy l l2 k hkl (by have:=hn2.1;omega)]⟩
    have G:=Aj gr;have hge:(n2:Int)≤(k:Int):=om;clear gr;go_wp2;go_ret;exact⟨by rw[hd3.1];rfl,G.1.alloc _⟩
  ·have G:=Aj gr;clear gr;by_cases hlt2:n<n2
   ·have hd3:Kept (r= -1):=⟨by rw[hd.1,Lb.xx l l2 k (by have:=hn.1;omega) (by have:=hn2.1;omega)]⟩
    go_wp2;go_ret;exact⟨by rw[hd3.1];rfl,G.1⟩
   ·have hd3:Kept (r=0):=⟨by rw[hd.1,Lb.xz l l2 k (by have:=hn.1;omega) (by have:=hn2.1;omega)]⟩
    go_wp2;go_ret;exact⟨by rw[hd3.1];rfl,G.1⟩
theorem yK (A A2 n c n2 c2 l l2 w) (hv:fO w w.heap.size A n c l) (hv2:fO w w.heap.size A2 n2 c2 l2):
  Calls prog 95 #[.slice A n c,.slice A2 n2 c2] w fun e w'=>e= .returned (.int .i64 (Lb.cmpL l l2))∧Gr w w':=by
 have C:=rz A A2 n c n2 c2 l l2 w hv hv2;generalize Lb.cmpL l l2=r at*;clear hv hv2;go_enter func95,ntmps95;go_wp2_with (go_at_call 153;refine C.mono ?_;rintro e w3 ⟨rfl,g3⟩);go_ret;exact⟨rfl,g3⟩
theorem xC (x y w):Calls prog 82 #[.string x,.string y] w fun e w'=>e= .returned (.int .i64 (St.cmp x y))∧w'=w:=by
 have h1:Op.bytesLess x.toList y.toList=St.lt x y:=rfl;have h2:(!(Op.bytesLess x.toList y.toList||x.toList==y.toList))=(!(St.lt x y)&&St.lt y x):=by
  rw[h1,St.eq_iff];by_cases e:x=y
  ·subst e;simp[St.irrefl]
  ·cases a:St.lt x y with
   |true=>simp
   |false=>
    cases b:St.lt y x with
    |true=>simp[e]
    |false=>exact absurd (St.total a b) e
 by_cases a:St.lt x y=true
 ·go_enter func82,ntmps82;have a2:Op.bytesLess x.toList y.toList=true:=a;go_wp2;go_ret;exact⟨by simp[St.cmp,a],rfl⟩
 ·have a':St.lt x y=false:=by simpa using a
  have a2:Op.bytesLess x.toList y.toList=false:=a';rw[a']at h2;by_cases b:St.lt y x=true
  ·rw[b]at h2;rw[a2]at h2;have h3:(x.toList==y.toList)=false:=by simpa using h2
   go_enter func82,ntmps82;go_wp2;go_ret;exact⟨by simp[St.cmp,a',b],rfl⟩
  ·have b':St.lt y x=false:=by simpa using b
   rw[b',a2]at h2;have h3:(x.toList==y.toList)=true:=by simpa using h2
   go_enter func82,ntmps82;go_wp2;go_ret;exact⟨by simp[St.cmp,a',b'],rfl⟩
theorem kW (A A2 n c n2 c2 l l2 w) (hv:fO w w.heap.size A n c l) (hv2:fO w w.heap.size A2 n2 c2 l2):
  Calls prog 39 #[.slice A n c,.slice A2 n2 c2] w fun e w'=>e= .returned (.int .i64 (Lb.cmpL l l2))∧Gr w w':=by
 have hlc:=hv.1;have hcm:=hv.2.1;have NV:=hv2.1;have hcm2:=hv2.2.1;unfold maxLen at hcm hcm2;have hn:=Aj hv.len;have hn2:=Aj hv2.len;have V:=Aj hv;have V2:=Aj hv2;clear hv hv2;obtain⟨r,hr⟩:∃r,r=Lb.cmpL l l2:=⟨_,rfl⟩
 rw[←hr];have HR:=Aj hr;clear hr;go_enter func39,ntmps39;go_wp2;go_loopw [5] (fun i wr=>∃k:Nat,k≤n∧k≤n2∧i= .int .i64 k∧Kept (r=Lb.cmpL (l.drop k) (l2.drop k))∧Gr w wr) (fun i _=>n-(intOf i).toNat)
 case atStart=>exact⟨0,om,om,rfl,⟨HR.1⟩,Gr.refl w⟩
 case round=>
  obtain⟨k,hk,hk2,rfl,hd,gr⟩:=hrel;by_cases hlt:k<n
  ·have hkl:k<l.length:=by rw[←hn.1];exact hlt
   obtain⟨b,off,rfl,hc⟩:=V.1.cells Ai hkl;by_cases hlt2:k<n2
   ·have vZ:k<l2.length:=by rw[←hn2.1];exact hlt2
    obtain⟨b2,sS,rfl,hc2⟩:=V2.1.cells Ai vZ;obtain⟨c0,c1⟩:=hc wr gr.below;obtain⟨d0,d1⟩:=hc2 wr gr.below;clear hc hc2;have hd2:=Aj (hd.1.trans (Lb.xw l l2 k hkl vZ));generalize l[k]=x at*;generalize l2[k]=y at*;obtain⟨xn,xv⟩:=x;obtain⟨yn,yv⟩:=y;have O1:=fun W=>xC xn yn W
    have O2:=fun W=>xC xv yv W
    have HE:Kept (Lb.jy ⟨xn,xv⟩ ⟨yn,yv⟩=if St.cmp xn yn=0 then St.cmp xv yv else St.cmp xn yn):=⟨rfl⟩
    generalize Lb.jy ⟨xn,xv⟩ ⟨yn,yv⟩=s at*;generalize St.cmp xn yn=s1 at*;generalize St.cmp xv yv=s2 at*;have G:=Aj gr;clear gr;by_cases hz1:s1=0
    ·have hs:Kept (s=s2):=⟨by rw[HE.1,Ps0 hz1]⟩
     by_cases hz2:s2=0
     ·have hd3:Kept (r=Lb.cmpL (l.drop (k+1)) (l2.drop (k+1))):=⟨by rw[hd2.1,Ps0 (by rw[hs.1];exact hz2)]⟩
      subst hz1 hz2;go_wp2_with fail;go_quiet (first|(go_at_call 82;exact(O1 _).mono fun _ _ q=>⟨q.1,_,q.2⟩));go_wp2_with fail;go_quiet (first|(go_at_call 82;exact(O2 _).mono fun _ _ q=>⟨q.1,_,q.2⟩));go_wp2;go_roundw
      case rel=>exact⟨k+1,om,om,by go_num,hd3,G.1.drewN _⟩
      case measure=>simp[intOf];omega
     ·have hd3:Kept (r=s2):=⟨by rw[hd2.1,Ng (by rw[hs.1];exact hz2),hs.1]⟩
      subst hz1;go_wp2_with fail;go_quiet (first|(go_at_call 82;exact(O1 _).mono fun _ _ q=>⟨q.1,_,q.2⟩));go_wp2_with fail;go_quiet (first|(go_at_call 82;exact(O2 _).mono fun _ _ q=>⟨q.1,_,q.2⟩));go_wp2;go_ret;exact⟨by rw[hd3.1];rfl,G.1.drewN _⟩
    ·have hd3:Kept (r=s1):=⟨by rw[hd2.1,Ng (by rw[HE.1,Ng hz1];exact hz1),HE.1,Ng hz1]⟩
     go_wp2_with fail;go_quiet (first|(go_at_call 82;exact(O1 _).mono fun _ _ q=>⟨q.1,_,q.2⟩));go_wp2;go_ret;exact⟨by rw[hd3.1];rfl,G.1.drewN _⟩
   ·have hd3:Kept (r=1):=⟨by rw[hd.1,Lb.xy l l2 k hkl (by have:=hn2.1;omega)]⟩
    have G:=Aj gr;have hge:(n2:Int)≤(k:Int):=om;have ak1:¬(n:Int)< (n2:Int):=om;have afR:(n2:Int)< (n:Int):=om;clear gr;go_wp2;go_ret;exact⟨by rw[hd3.1];rfl,G.1⟩
  ·have G:=Aj gr;clear gr;by_cases hlt2:n<n2
   ·have hd3:Kept (r= -1):=⟨by rw[hd.1,Lb.xx l l2 k (by have:=hn.1;omega) (by have:=hn2.1;omega)]⟩
    go_wp2;go_ret;exact⟨by rw[hd3.1];rfl,G.1⟩
   ·have hd3:Kept (r=0):=⟨by rw[hd.1,Lb.xz l l2 k (by have:=hn.1;omega) (by have:=hn2.1;omega)]⟩
    have afR:(n2:Int)≤(n:Int):=om;go_wp2;go_ret;exact⟨by rw[hd3.1];rfl,G.1⟩
end
end
section
section
open Go.RowKit Go.Shelf
theorem Jq (A n c l x w) (hv:fO w w.heap.size A n c l):
  Calls prog 53 #[.slice A n c,.string x] w fun e w'=>e= .returned (.tuple #[.string ((Lb.get l x).getD ByteArray.empty),.bool (Lb.get l x).isSome])∧Gr w w':=by
 have hlc:=hv.1;have hcm:=hv.2.1;unfold maxLen at hcm;have hn:=Aj hv.len;have V:=Aj hv;clear hv;obtain⟨r,hr⟩:∃r,r=Lb.get l x:=⟨_,rfl⟩
 rw[←hr];have HR:=Aj hr;clear hr;go_enter func53,ntmps53;go_wp2;go_loopw [6] (fun i wr=>∃k:Nat,k≤n∧i= .int .i64 k∧Kept (∀j (hj:j<l.length),j<k→l[j].n≠x)∧Gr w wr) (fun i _=>n-(intOf i).toNat)
 case atStart=>exact⟨0,om,rfl,⟨fun j _ hj=>om⟩,Gr.refl w⟩
 case round=>
  obtain⟨k,hk,rfl,hd,gr⟩:=hrel;by_cases hlt:k<n
  ·have hkl:k<l.length:=by rw[←hn.1];exact hlt
   obtain⟨b,off,rfl,hc⟩:=V.1.cells Ai hkl;obtain⟨c0,c1⟩:=hc wr gr.below;clear hc;have hq:=St.eq_iff l[k].n x;by_cases hx:l[k].n=x
   ·rw[Bj hx]at hq;have hr:Kept (r=some l[k].v):=⟨HR.1.trans (Lb.get_at l x k hkl hd.1 hx)⟩
    clear hx;have G:=Aj gr;clear gr;generalize l[k].n=y at*;generalize l[k].v=z at*;go_wp2;go_ret2;exact⟨by rw[hr.1];rfl,G.1⟩
   ·rw[AF hx]at hq;have hd2:Kept (∀j (hj:j<l.length),j<k+1→l[j].n≠x):=⟨fun j hj hjk=>by
     by_cases e:j=k
     ·subst e;exact hx
     ·exact hd.1 j hj om⟩
    clear hx;have G:=Aj gr;clear gr;generalize l[k].n=y at*;generalize l[k].v=z at*;go_wp2;go_roundw
    case rel=>exact⟨k+1,om,by go_num,hd2,G.1⟩
    case measure=>simp[intOf];omega
  ·have hr:Kept (r=none):=⟨HR.1.trans (Lb.get_none l x fun j hj=>hd.1 j hj (by have:=hn.1;omega))⟩
   have G:=Aj gr;clear gr;go_wp2;go_ret2;exact⟨by rw[hr.1];rfl,G.1⟩
end
end
section
section
open Go.RowKit Go.Shelf
theorem NW {w ops o a K Q E} (hgd:o.guard=none) (s x)
  (ho:o.op= .call {callee:= .builtin .append,args:= #[s,x],argTypes:= #[134,134]})
  (base A n c l) (hs:a.eval s= .slice A n c) (hown:aT w base A n c l)
  (B S m d k) (hx:a.eval x= .slice S m d) (hr:bK w B S m d k)
  (hlen:n+m≤8796093022208) (hbase:base≤w.heap.size)
  (h:∀A2 c2 w',aT w' base A2 (n+m) c2 (l++k)→w.grownBy w' (ab A)→(ab A2=ab A∨ab A2=some w.heap.size)→K (a.put o.dst (.slice A2 (n+m) c2)) w'):
  if Region.wanted o (yielded ops a.tmps)=true then Oper.wp prog o a w K Q else E:=by
 have hw:Region.wanted o (yielded ops a.tmps)=true:=by simp[Region.wanted,hgd]
 rw[Ps0 hw];obtain⟨i0,hi0,hz0,hz1,hz2⟩:=AV QQ;refine mO w s x _ ho base 9 i0 (.string ByteArray.empty) 1 16 underlying134 hi0 hz0 hz1 hz2 rfl Ah A n c (oO l) hs hown B S m d (oO k) hx hr (Lx k) (by unfold maxLen;omega) om hbase ?_;rw[←mY];exact h
theorem aT.nil (w base):aT w base none 0 0 []:=⟨rfl,.inl ⟨rfl,rfl⟩⟩
theorem bK.two (w:World) (x y):bK (w.alloc (.cells #[.string x,.string y] 9)) (w.heap.size+1) (some ⟨w.heap.size,0,none⟩) 2 2 [x,y]:=bK.lit w [x,y] sm
theorem tF (A n c l w) (hv:fO w w.heap.size A n c l) (hcap:n≤1000000000000):
  Calls prog 105 #[.slice A n c] w fun e w'=>∃A2 n2 c2,e= .returned (.slice A2 n2 c2)∧aT w' w.heap.size A2 n2 c2 (Lb.strs l)∧Below w.heap.size w w':=by
 have hlc:=hv.1;have hcm:=hv.2.1;unfold maxLen at hcm;have hn:=Aj hv.len;have V:=Aj hv;clear hv;go_enter func105,ntmps105;go_wp2;go_loopw [3,4] (fun o i wr=>∃k:Nat,k≤n∧i= .int .i64 k∧∃A2 n2 c2,o= .slice A2 n2 c2∧aT wr w.heap.size A2 n2 c2 (Lb.strs (l.take k))∧Below w.heap.size w wr) (fun _ i _=>n-(intOf i).toNat)
 case atStart=>exact⟨0,om,rfl,none,0,0,rfl,by simpa[Lb.strs]using aT.nil w w.heap.size,Ae _ _⟩
 case round=>
  obtain⟨k,hk,rfl,A2,n2,c2,rfl,ho,hb⟩:=hrel;by_cases hlt:k<n
  ·have hkl:k<l.length:=by rw[←hn.1];exact hlt
   obtain⟨b,off,rfl,hc⟩:=V.1.cells Ai hkl;have hn2:n2≤2000000000000:=by
    have h1:=ho.len;rw[Lb.aX,oV]at h1;omega
   have hst:=Aj (Lb.xA l k hkl);have hz:=hb.size;have HC:=Aj hc;obtain⟨c0,c1⟩:=hc wr hb;have d0:=fun o=>(HC.1 (wr.alloc o) (hb.alloc hz o)).1
   have d1:=fun o=>(HC.1 (wr.alloc o) (hb.alloc hz o)).2
   have O:=Aj ho;have HB:=Aj hb;clear hc ho hb;generalize l[k].n=xn at*;generalize l[k].v=xv at*;have HA:Kept (Below w.heap.size w (wr.alloc (.cells #[.string xn,.string xv] 9))):=⟨HB.1.alloc hz _⟩
   go_wp2_with fail;go_region_held3 (fun w'=>w'.cell? ⟨b,off+k*2,none⟩=some (.string xn)∧w'.cell? ⟨b,off+k*2+1,none⟩=some (.string xv)) (first|exact⟨c0,c1⟩|exact⟨d0 _,d1 _⟩|exact k9)
    ((refine NW ?g1 (.tmp 11) (.tmp 22) ?g2 w.heap.size A2 n2 c2 (Lb.strs (l.take k)) ?g3 ?g4 (wr.heap.size+1) (some ⟨wr.heap.size,0,none⟩) 2 2 [xn,xv] ?g5 ?g6 ?g7 ?g8 ?_;(case g1=>rfl);(case g2=>rfl);(case g3=>rfl);(case g5=>rfl);(case g4=>exact Oa O.1 _);(case g6=>exact bK.two _ xn xv);(case g7=>omega);(case g8=>(simp;omega));intro A3 c3 w3 hown hgrow hat;have hb3:Below w.heap.size w w3:=HA.1.drew.grown hgrow (by show _≤(World.alloc _ _).heap.size;simp;omega) fun g e=>(ae O.1 g e).1;have O3:=Aj hown;have B3:=Aj hb3;have k9:w3.cell? ⟨b,off+k*2,none⟩=some (.string xn)∧w3.cell? ⟨b,off+k*2+1,none⟩=some (.string xv):=HC.1 w3 hb3;clear hown hgrow hb3))
   go_wp2;go_roundw
   case rel=>exact⟨k+1,om,by go_num,A3,_,c3,rfl,by rw[hst.1];exact O3.1,B3.1⟩
   case measure=>simp[intOf];omega
  ·obtain rfl:k=n:=by omega
   have O:=Aj ho;have HB:=Aj hb;have ht:l.take k=l:=iM (by have:=hn.1;omega);clear ho hb;go_wp2;go_ret;exact⟨A2,n2,c2,rfl,by rw[←ht];exact O.1,HB.1⟩
end
end
section
section
open Go.RowKit Go.Shelf
theorem fC (w:World) (g k cs t fr) (h:w.heap[g]? =some (.cells cs t fr)):w.cell? ⟨g,k,none⟩=cs[k]?:=by
 simp[World.cell?,h]
theorem aT.apart {w base n c g A l cs t fr} (h:aT w base A n c l) (hg:w.heap[g]? =some (.cells cs t fr)) (ht:t≠9):ab A≠some g:=by
 intro e;rcases h.2 with⟨hv,_⟩|⟨g',cap,cur,hv,_,hg',_⟩
 ·injection hv with h1;rw[h1]at e;cases e
 ·injection hv with h1
  rw[h1]at e;have:g'=g:=Oj e;subst this;rw[hg]at hg'
  injection hg' with h2
  injection h2 with _ h3
  exact ht h3
theorem jN (A n c l w) (hv:fO w w.heap.size A n c l) (hcap:n≤1000000000000):
  Calls prog 123 #[.slice A n c] w fun e w'=>∃A2 n2 c2,e= .returned (.slice A2 n2 c2)∧aT w' w.heap.size A2 n2 c2 (Lb.strs l)∧Below w.heap.size w w':=by
 have hlc:=hv.1;have hcm:=hv.2.1;unfold maxLen at hcm;have hn:=Aj hv.len;have V:=Aj hv;clear hv;go_enter func123,ntmps123;go_wp2;go_loopw [3,10] (fun o i wr=>∃k:Nat,k≤n∧i= .int .i64 k∧∃A2 n2 c2,o= .slice A2 n2 c2∧aT wr w.heap.size A2 n2 c2 (Lb.strs (l.take k))∧Below w.heap.size w wr) (fun _ i _=>n-(intOf i).toNat)
 case atStart=>exact⟨0,om,rfl,none,0,0,rfl,by simpa[Lb.strs]using aT.nil w w.heap.size,Ae _ _⟩
 case round=>
  obtain⟨k,hk,rfl,A2,n2,c2,rfl,ho,hb⟩:=hrel;by_cases hlt:k<n
  ·have hkl:k<l.length:=by rw[←hn.1];exact hlt
   obtain⟨b,off,rfl,hc⟩:=V.1.cells Ai hkl;have hn2:n2≤2000000000000:=by
    have h1:=ho.len;rw[Lb.aX,oV]at h1;omega
   have hst:=Aj (Lb.xA l k hkl);have hz:=hb.size;obtain⟨c0,c1⟩:=hc wr hb;have O:=Aj ho;have HB:=Aj hb;clear hc ho hb;generalize l[k].n=xn at*;generalize l[k].v=xv at*;go_upto_region 6 with(go_at_call 150;refine(pK _).mono ?_;rintro e w1 ⟨rfl,g1⟩)
   have X1:Kept (w1.heap[wr.heap.size]? =some (.cells #[.string xn,.string xv] 59 (0,0))):=⟨(g1.below.block _ sm).trans (Av wr _)⟩
   have b01:=HB.1.alloc hz (.cells #[.string xn,.string xv] 59);have B1:=Aj (b01.trans (g1.below.mono b01.size));have O1:Kept (aT w1 w.heap.size A2 n2 c2 (Lb.strs (l.take k))):=⟨own_below (Oa O.1 _) g1.below (fun g e=>by have:=(ae O.1 g e).2;simp;omega)⟩
   clear b01 g1 HB O c0 c1 hz;generalize wr.heap.size=G at*
   rename World=>wq
   go_loopw [3,15] (fun o j wi=>∃A3 n3 c3,o= .slice A3 n3 c3∧Below w.heap.size w wi∧wi.heap[G]? =some (.cells #[.string xn,.string xv] 59 (0,0))∧((j= .int .i64 0∧aT wi w.heap.size A3 n3 c3 (Lb.strs (l.take k)))∨(j= .int .i64 1∧aT wi w.heap.size A3 n3 c3 (Lb.strs (l.take k)++[xn]))∨(j= .int .i64 2∧aT wi w.heap.size A3 n3 c3 ((Lb.strs (l.take k)++[xn])++[xv])))) (fun _ j _=>2-(intOf j).toNat)
   case atStart=>exact⟨A2,n2,c2,rfl,B1.1,X1.1,.inl ⟨rfl,O1.1⟩⟩
   case round=>
    clear B1 X1 O1;obtain⟨A3,n3,c3,rfl,hb,hx,hj⟩:=hrel;have HG:G<wr.heap.size:=(Ge.1 hx).1;have y0:=fun o=>(AB wr o ⟨G,0,none⟩ HG).trans (fC wr G 0 _ _ _ hx)
    have y1:=fun o=>(AB wr o ⟨G,1,none⟩ HG).trans (fC wr G 1 _ _ _ hx)
    have HB:=Aj hb;have hzw:=hb.size;have X:=Aj hx;clear hb hx;rcases hj with⟨rfl,ho⟩|⟨rfl,ho⟩|⟨rfl,ho⟩
    ·have ii:=fun W=>tC (.func (.func 203) #[] #[]) (.func (.func 204) #[] #[]) W
     have P1:∀W,Calls prog 203 #[.agg #[.string xn,.string xv]] W fun e w'=>e= .returned (.string xn)∧∃q os',w'=Sort.grow (W.drewN q) os':=fun W=>pJ ⟨xn,xv⟩ W
     have mG:n3≤3000000000000:=by have h1:=ho.len;simp[Lb.aX]at h1;omega
     have O:=Aj ho;clear ho;go_wp2_with (first
      |(go_at_call 203;refine(P1 _).mono ?_;rintro e w2 ⟨rfl,g2⟩;have G2:Kept (Below wr.heap.size wr w2):=⟨((Ae _ wr).alloc Ai _).trans ((Gr.below g2).mono sm)⟩;have O2:=Aj (own_below O.1 G2.1 (fun g e=>(ae O.1 g e).2));have hz2:=G2.1.size;clear g2)
      |(at_builtin;refine gI rfl (.tmp 18) (.tmp 23) rfl w.heap.size A3 n3 c3 _ rfl (Oa O2.1 _) (w2.heap.size+1) _ _ _ [xn] rfl (bK.one w2 xn) om (by simp;omega) ?_;intro A4 c4 w4 av af cO;have O4:=Aj av;have X2:Kept (w2.heap[G]? =some (.cells #[.string xn,.string xv] 59 (0,0))):=⟨(G2.1.block _ HG).trans X.1⟩;have X3:=Aj ((Aw w2 (.cells #[.string xn] 9) G om).trans X2.1);have X4:=Aj ((af.block G (by simp;omega) (Ne.symm (aT.apart (Oa O2.1 _) X3.1 Ah))).trans X3.1);have B4:=Aj ((((HB.1.trans (G2.1.mono HB.1.size)).alloc (by have:=HB.1.size;omega) (.cells #[.string xn] 9)).grown af (by have:=HB.1.size;simp;omega) (fun g e=>(ae O.1 g e).1)));clear av af cO))
     go_roundw
     case rel=>exact⟨A4,_,c4,rfl,B4.1,X4.1,.inr (.inl ⟨rfl,O4.1⟩)⟩
     case measure=>simp[intOf]
    ·have ii:=fun W=>Fw (.func (.func 203) #[] #[]) (.func (.func 204) #[] #[]) W
     have P1:∀W,Calls prog 204 #[.agg #[.string xn,.string xv]] W fun e w'=>e= .returned (.string xv)∧∃q os',w'=Sort.grow (W.drewN q) os':=fun W=>xB ⟨xn,xv⟩ W
     have mG:n3≤3000000000000:=by have h1:=ho.len;simp[Lb.aX]at h1;omega
     have O:=Aj ho;clear ho;go_wp2_with (first
      |(go_at_call 204;refine(P1 _).mono ?_;rintro e w2 ⟨rfl,g2⟩;have G2:Kept (Below wr.heap.size wr w2):=⟨((Ae _ wr).alloc Ai _).trans ((Gr.below g2).mono sm)⟩;have O2:=Aj (own_below O.1 G2.1 (fun g e=>(ae O.1 g e).2));have hz2:=G2.1.size;clear g2)
      |(at_builtin;refine gI rfl (.tmp 18) (.tmp 23) rfl w.heap.size A3 n3 c3 _ rfl (Oa O2.1 _) (w2.heap.size+1) _ _ _ [xv] rfl (bK.one w2 xv) om (by simp;omega) ?_;intro A4 c4 w4 av af cO;have O4:=Aj av;have X2:Kept (w2.heap[G]? =some (.cells #[.string xn,.string xv] 59 (0,0))):=⟨(G2.1.block _ HG).trans X.1⟩;have X3:=Aj ((Aw w2 (.cells #[.string xv] 9) G om).trans X2.1);have X4:=Aj ((af.block G (by simp;omega) (Ne.symm (aT.apart (Oa O2.1 _) X3.1 Ah))).trans X3.1);have B4:=Aj ((((HB.1.trans (G2.1.mono HB.1.size)).alloc (by have:=HB.1.size;omega) (.cells #[.string xv] 9)).grown af (by have:=HB.1.size;simp;omega) (fun g e=>(ae O.1 g e).1)));clear av af cO))
     go_roundw
     case rel=>exact⟨A4,_,c4,rfl,B4.1,X4.1,.inr (.inr ⟨rfl,O4.1⟩)⟩
     case measure=>simp[intOf]
    ·have O:=Aj ho;clear ho;go_wp2;go_roundw
     case rel=>exact⟨k+1,om,by go_num,A3,n3,c3,rfl,by rw[hst.1];simpa using O.1,HB.1⟩
     case measure=>simp[intOf];omega
  ·obtain rfl:k=n:=by omega
   have O:=Aj ho;have HB:=Aj hb;have ht:l.take k=l:=iM (by have:=hn.1;omega);clear ho hb;go_wp2;go_ret;exact⟨A2,n2,c2,rfl,by rw[←ht];exact O.1,HB.1⟩
end
end
section
section
open Go.RowKit Go.Shelf
theorem bK.cells {w B n c k A l} (h:bK w B A n c l) (hB:B≤w.heap.size) (hk:k<l.length):
  ∃b off,A=some ⟨b,off,none⟩∧∀W,Below w.heap.size w W→W.cell? ⟨b,off+k,none⟩=some (.string l[k]):=by
 obtain⟨b,off,e,hb,h1⟩:=h.at_ hk;exact⟨b,off,e,fun W hW=>(hW.cell (p:=⟨b,_,none⟩) (by show b<_;omega)).trans h1⟩
namespace Lb
def Fit (l:List aQ):Prop:=∀x∈l,x.n.size≤maxLen∧x.v.size≤maxLen
end Lb
namespace Sy
def tot (L:List ByteArray):Nat:=(L.map fun s=>1+min s.size 200000).sum
theorem iy (L:List ByteArray) (k) (h:k<L.length):tot (L.take (k+1))=tot (L.take k)+(1+min L[k].size 200000):=by
 unfold tot;rw[Ts h,dR,Dv];simp
def Fit (L:List ByteArray):Prop:=∀s∈L,s.size≤maxLen
end Sy
theorem Fx (A n c B L w) (hv:bK w B A n c L) (hB:B≤w.heap.size) (hf:Sy.Fit L):
  Calls prog 104 #[.slice A n c] w fun e w'=>∃v:Int,e= .returned (.int .i64 v)∧(v=0∨v=1)∧(v=0→n≤500∧Sy.tot L≤200000)∧Gr w w':=by
 have hlc:=hv.1;have hcm:=hv.2.1;unfold maxLen at hcm;have hn:=Aj hv.len;have V:=Aj hv;have F:=Aj hf;clear hv hf;go_enter func104,ntmps104;go_wp2;go_loopw [3,8] (fun s i wr=>∃k a:Nat,k≤n∧a≤200000∧i= .int .i64 k∧s= .int .i64 a∧Kept (a=Sy.tot (L.take k)∧(0<k→n≤500))∧Gr w wr) (fun _ i _=>n-(intOf i).toNat)
 case atStart=>exact⟨0,0,om,om,rfl,rfl,⟨rfl,fun h=>om⟩,Gr.refl w⟩
 case round=>
  obtain⟨k,a,hk,ha,rfl,rfl,hd,gr⟩:=hrel;by_cases hlt:k<n
  ·have hkl:k<L.length:=by rw[←hn.1];exact hlt
   obtain⟨b,off,rfl,hc⟩:=V.1.cells hB hkl;have c0:=hc wr gr.below;have G:=Aj gr;have hs:=F.1 _ (gG hkl);have ht:=Aj (Sy.iy L k hkl);unfold maxLen at hs;clear hc gr;generalize L[k]=x at*;rcases Eo 200000 x.size with hx|hx
   rotate_left 1
   ·have hx':¬(200000:Int)< (x.size:Int):=by omega
    have hm:min x.size 200000=x.size:=om;rw[hm]at ht;by_cases h1:200000<a+(1+x.size)
    ·have h1':(200000:Int)< (a:Int)+(1+(x.size:Int)):=by omega
     clear h1 hm;go_wp2;go_ret;exact⟨1,rfl,.inr rfl,(fun h=>by cases h),G.1⟩
    ·have h1':¬(200000:Int)< (a:Int)+(1+(x.size:Int)):=by omega
     by_cases h2:500<n
     ·have h2':(500:Int)< (n:Int):=by omega
      clear h1 h2 hm;go_wp2;go_ret;exact⟨1,rfl,.inr rfl,(fun h=>by cases h),G.1⟩
     ·have h2':¬(500:Int)< (n:Int):=by omega
      have hd2:Kept (a+(1+x.size)=Sy.tot (L.take (k+1))∧(0<k+1→n≤500)):=⟨by rw[ht.1,←hd.1.1],fun _=>om⟩
      have afS:Kept (a+(1+x.size)≤200000):=⟨om⟩
      clear h1 h2 hm;go_wp2;go_roundw
      case rel=>exact⟨k+1,a+(1+x.size),om,afS.1,by go_num,by go_num,hd2,G.1⟩
      case measure=>simp[intOf];omega
   ·have h1':(200000:Int)< (a:Int)+200001:=by omega
    have hx':(200000:Int)< (x.size:Int):=om;have hw1:IntKind.i64.wrap (1+200000)=200001:=by rw[Bq];rfl
    have ha0:(0:Int)≤(a:Int):=om;have ha1:(a:Int)≤200000:=om;generalize (a:Int)=ai at*;clear ht hx ha;go_wp2;go_ret;exact⟨1,rfl,.inr rfl,(fun h=>by cases h),G.1⟩
  ·have G:=Aj gr;have ht:L.take k=L:=iM (by have:=hn.1;omega);have hr:Kept (n≤500∧Sy.tot L≤200000):=⟨by
    by_cases h0:n=0
    ·omega
    ·exact hd.1.2 om,by rw[←ht,←hd.1.1];exact ha⟩
   clear gr;go_wp2;go_ret;exact⟨0,rfl,.inl rfl,fun _=>hr.1,G.1⟩
namespace Lb
theorem QX {l} (h:Fit l):Sy.Fit (strs l):=fun s hs=>by
 unfold strs at hs;obtain⟨x,hx,hm⟩:=mh.1 hs;have:=h x hx;rcases eH.1 hm with rfl|hm
 ·exact this.1
 ·rw[gJ]at hm;subst hm;exact this.2
end Lb
end
end
end Go.Proofs.YtongopommlghgaaGreatDoor
