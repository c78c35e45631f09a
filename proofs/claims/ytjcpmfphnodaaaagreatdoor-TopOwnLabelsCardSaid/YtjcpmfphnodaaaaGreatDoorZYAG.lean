/- Part 7. -/
import Derived.Test.YtjcpmfphnodaaaaGreatDoorZYAA
import Derived.Sort.Grow
import Derived.Sort.Walk0
import Derived.Shelf.Spec.SearchS
namespace Go.Proofs.YtjcpmfphnodaaaaGreatDoor
set_option maxRecDepth 100000
set_option maxHeartbeats 0
open _root_.Go.Proofs.Tryz
section
section
open Go.RowKit
def iv (c:Int):Value:= .int .i64 c
def yc (l:List Int):List Value:=l.map iv
theorem Iy (l):(yc l).length=l.length:=by simp[yc]
theorem Kz (l):∀u∈yc l,u.oneCell'=true:=by
 intro u hu;obtain⟨c,_,rfl⟩:=bQ.1 hu
 rfl
theorem sJ (a b):yc (a++b)=yc a++yc b:=by simp[yc]
def bM (w:World) (B:Nat) (A:Option Addr) (n c:Nat) (l:List Int):Prop:=Rd w B 1 A n c (yc l)
theorem bM.len {w B n c A l} (h:bM w B A n c l):n=l.length:=by have:=h.2.2.1;rw[Iy]at this;omega
section
variable {w w':World} {B n c:Nat} {A:Option Addr} {l:List Int}
theorem bM.below (h:bM w B A n c l) (hb:Below B w w'):bM w' B A n c l:=Rd.below h hb
theorem bM.more {B'} (h:bM w B A n c l) (hB:B≤B'):bM w B' A n c l:=Rd.more h hB
theorem bM.alloc (h:bM w B A n c l) (hB:B≤w.heap.size) (o):bM (w.alloc o) B A n c l:=Rd.alloc h hB o
theorem bM.drew (h:bM w B A n c l):bM w.drew B A n c l:=h
theorem bM.drewN (h:bM w B A n c l) (k):bM (w.drewN k) B A n c l:=h
theorem bM.setCell (h:bM w B A n c l) {p} (hB:B≤p.block) (u):bM (w.setCell p u) B A n c l:=Rd.setCell h hB u
theorem bM.drop (h:bM w B A n c l) {k} (hk:k≤n):bM w B (if c=k then A else A.map (·.add k)) (n-k) (c-k) (l.drop k):=by
 have:=Rd.drop (k:=k) h hk;rwa[C8,yc,←List.map_drop]at this
end
theorem bM.at_ {w B n c k A l} (h:bM w B A n c l) (hk:k<l.length):∃b off,A=some ⟨b,off,none⟩∧b<B∧w.cell? ⟨b,off+k,none⟩=some (.int .i64 l[k]):=by
 obtain⟨b,off,u,e,hb,hu,hc⟩:=Rd.at_ h (show k<n by rw[h.len];exact hk);refine⟨b,off,e,hb,?_⟩;rw[hc];simp[yc,hk]at hu;rw[←hu];rfl
def ax (w:World) (base:Nat) (A:Option Addr) (n c:Nat) (l:List Int):Prop:=w.ownsRow base 3 1 (.slice A n c) n (yc l)
theorem ax.rd {w base n c A l} (h:ax w base A n c l):bM w w.heap.size A n c l:=Rd.bC h
theorem ax.len {w base n c A l} (h:ax w base A n c l):n=l.length:=h.rd.len
theorem EJ:(prog.info? 3).map (fun i=>(i.zero,i.size,i.bytes))=some (some (.int .i64 0),1,8):=kr
theorem bN {w ops rest o a Q} (hgd:Region.wanted o (yielded ops a.tmps)=true) (s x)
  (ho:o.op= .call {callee:= .builtin .append,args:= #[s,x],argTypes:= #[62,62]})
  (base A n c l) (hs:a.eval s= .slice A n c) (hown:ax w base A n c l)
  (B S m d k) (hx:a.eval x= .slice S m d) (hr:bM w B S m d k)
  (hlen:n+m≤17592186044416) (hbase:base≤w.heap.size)
  (h:∀A2 c2 w',ax w' base A2 (n+m) c2 (l++k)→w.grownBy w' (ab A)→(ab A2=ab A∨ab A2=some w.heap.size)→wpList prog ops Q rest (a.put o.dst (.slice A2 (n+m) c2)) w'):wpList prog ops Q (o::rest) a w:=by
 obtain⟨i0,hi0,hz0,hz1,hz2⟩:=AX EJ;refine aY w hgd s x _ ho base 3 i0 (.int .i64 0) 1 8 underlying62 hi0 hz0 hz1 hz2 rfl Ah A n c (yc l) hs hown B S m d (yc k) hx hr (Kz k) (by unfold maxLen;omega) om hbase ?_;rw[←sJ];exact h
theorem ax.made (w:World) (base) (h:base≤w.heap.size):ax (w.alloc (.cells #[] 3)) base (some ⟨w.heap.size,0,none⟩) 0 0 []:=World.ownsRow_made w #[] 0 h sm rfl
theorem bM.one (w:World) (c):bM (w.alloc (.cells #[.int .i64 c] 3)) (w.heap.size+1) (some ⟨w.heap.size,0,none⟩) 1 1 [c]:=
 ⟨Nr _,by unfold maxLen;omega,rfl,fun _=>⟨_,0,rfl,om,fun i u hu=>by
  match i,hu with
  |0,hu=>
   simp[yc]at hu;subst hu;exact Ao w _ _ _ 0⟩⟩
theorem bM.lit (w:World) (l) (h:l.length≤9223372036854775807):bM (w.alloc (.cells (yc l).toArray 3)) (w.heap.size+1) (some ⟨w.heap.size,0,none⟩) l.length l.length l:=
 ⟨Nr _,by unfold maxLen;omega,by simp[yc],fun _=>⟨_,0,rfl,om,fun i u hu=>by
  rw[bZ];exact(Ao w _ _ _ i).trans (by simpa using hu)⟩⟩
end
end
section
section
open Go.RowKit
def sv (c:ByteArray):Value:= .string c
def oz (l:List ByteArray):List Value:=l.map sv
theorem Iz (l):(oz l).length=l.length:=by simp[oz]
theorem KA (l):∀u∈oz l,u.oneCell'=true:=by
 intro u hu;obtain⟨c,_,rfl⟩:=bQ.1 hu
 rfl
theorem mJ (a b):oz (a++b)=oz a++oz b:=by simp[oz]
def bI (w:World) (B:Nat) (A:Option Addr) (n c:Nat) (l:List ByteArray):Prop:=Rd w B 1 A n c (oz l)
theorem bI.len {w B n c A l} (h:bI w B A n c l):n=l.length:=by have:=h.2.2.1;rw[Iz]at this;omega
section
variable {w w':World} {B n c:Nat} {A:Option Addr} {l:List ByteArray}
theorem bI.below (h:bI w B A n c l) (hb:Below B w w'):bI w' B A n c l:=Rd.below h hb
theorem bI.more {B'} (h:bI w B A n c l) (hB:B≤B'):bI w B' A n c l:=Rd.more h hB
theorem bI.alloc (h:bI w B A n c l) (hB:B≤w.heap.size) (o):bI (w.alloc o) B A n c l:=Rd.alloc h hB o
theorem bI.grown (h:bI w B A n c l) {row} (hg:w.grownBy w' row) (hB:B≤w.heap.size) (hr:∀g,row=some g→B≤g):bI w' B A n c l:=Rd.grown h hg hB hr
end
theorem bI.at_ {w B n c k A l} (h:bI w B A n c l) (hk:k<l.length):∃b off,A=some ⟨b,off,none⟩∧b<B∧w.cell? ⟨b,off+k,none⟩=some (.string l[k]):=by
 obtain⟨b,off,u,e,hb,hu,hc⟩:=Rd.at_ h (show k<n by rw[h.len];exact hk);refine⟨b,off,e,hb,?_⟩;rw[hc];simp[oz,hk]at hu;rw[←hu];rfl
def aR (w:World) (base:Nat) (A:Option Addr) (n c:Nat) (l:List ByteArray):Prop:=w.ownsRow base 9 1 (.slice A n c) n (oz l)
theorem aR.rd {w base n c A l} (h:aR w base A n c l):bI w w.heap.size A n c l:=Rd.bC h
theorem aR.len {w base n c A l} (h:aR w base A n c l):n=l.length:=h.rd.len
theorem Qa:(prog.info? 9).map (fun i=>(i.zero,i.size,i.bytes))=some (some (.string ByteArray.empty),1,16):=kr
theorem gy {w ops rest o a Q} (hgd:Region.wanted o (yielded ops a.tmps)=true) (s x)
  (ho:o.op= .call {callee:= .builtin .append,args:= #[s,x],argTypes:= #[134,134]})
  (base A n c l) (hs:a.eval s= .slice A n c) (hown:aR w base A n c l)
  (B S m d k) (hx:a.eval x= .slice S m d) (hr:bI w B S m d k)
  (hlen:n+m≤8796093022208) (hbase:base≤w.heap.size)
  (h:∀A2 c2 w',aR w' base A2 (n+m) c2 (l++k)→w.grownBy w' (ab A)→(ab A2=ab A∨ab A2=some w.heap.size)→wpList prog ops Q rest (a.put o.dst (.slice A2 (n+m) c2)) w'):wpList prog ops Q (o::rest) a w:=by
 obtain⟨i0,hi0,hz0,hz1,hz2⟩:=AX Qa;refine aY w hgd s x _ ho base 9 i0 (.string ByteArray.empty) 1 16 underlying134 hi0 hz0 hz1 hz2 rfl Ah A n c (oz l) hs hown B S m d (oz k) hx hr (KA k) (by unfold maxLen;omega) om hbase ?_;rw[←mJ];exact h
theorem bI.one (w:World) (c):bI (w.alloc (.cells #[.string c] 9)) (w.heap.size+1) (some ⟨w.heap.size,0,none⟩) 1 1 [c]:=
 ⟨Nr _,by unfold maxLen;omega,rfl,fun _=>⟨_,0,rfl,om,fun i u hu=>by
  match i,hu with
  |0,hu=>
   simp[oz]at hu;subst hu;exact Ao w _ _ _ 0⟩⟩
theorem bI.lit (w:World) (l) (h:l.length≤9223372036854775807):bI (w.alloc (.cells (oz l).toArray 9)) (w.heap.size+1) (some ⟨w.heap.size,0,none⟩) l.length l.length l:=
 ⟨Nr _,by unfold maxLen;omega,by simp[oz],fun _=>⟨_,0,rfl,om,fun i u hu=>by
  rw[bZ];exact(Ao w _ _ _ i).trans (by simpa using hu)⟩⟩
theorem aR.at_ {w base g n c k l} (h:aR w base (some ⟨g,0,none⟩) n c l) (hk:k<l.length):
  w.cell? ⟨g,k,none⟩=some (.string l[k])∧w.frozen? ⟨g,k,none⟩=false:=by
 have hn:=h.len;refine⟨?_,CQ h k⟩;rw[Da h k om];simp[oz,sv,hk]
theorem aR.pos {w base n c A l} (h:aR w base A n c l) (hn:0<n):∃g,A=some ⟨g,0,none⟩∧base≤g∧g<w.heap.size:=nu h hn
end
end
section
section
open Go.RowKit
def tv (c:Int):Value:= .int .i64 c
def yg (l:List Int):List Value:=l.map tv
theorem IA (l):(yg l).length=l.length:=by simp[yg]
theorem UQ (l):∀u∈yg l,u.oneCell'=true:=by
 intro u hu;obtain⟨c,_,rfl⟩:=bQ.1 hu
 rfl
theorem IB (a b):yg (a++b)=yg a++yg b:=by simp[yg]
def vK (w:World) (B:Nat) (A:Option Addr) (n c:Nat) (l:List Int):Prop:=Rd w B 1 A n c (yg l)
theorem vK.len {w B n c A l} (h:vK w B A n c l):n=l.length:=by have:=h.2.2.1;rw[IA]at this;omega
section
variable {w w':World} {B n c:Nat} {A:Option Addr} {l:List Int}
theorem vK.below (h:vK w B A n c l) (hb:Below B w w'):vK w' B A n c l:=Rd.below h hb
theorem vK.drewN (h:vK w B A n c l) (k):vK (w.drewN k) B A n c l:=h
end
theorem vK.at_ {w B n c k A l} (h:vK w B A n c l) (hk:k<l.length):∃b off,A=some ⟨b,off,none⟩∧b<B∧w.cell? ⟨b,off+k,none⟩=some (.int .i64 l[k]):=by
 obtain⟨b,off,u,e,hb,hu,hc⟩:=Rd.at_ h (show k<n by rw[h.len];exact hk);refine⟨b,off,e,hb,?_⟩;rw[hc];simp[yg,hk]at hu;rw[←hu];rfl
def eX (w:World) (base:Nat) (A:Option Addr) (n c:Nat) (l:List Int):Prop:=w.ownsRow base 2 1 (.slice A n c) n (yg l)
theorem eX.rd {w base n c A l} (h:eX w base A n c l):vK w w.heap.size A n c l:=Rd.bC h
theorem eX.len {w base n c A l} (h:eX w base A n c l):n=l.length:=h.rd.len
theorem abH:(prog.info? 2).map (fun i=>(i.zero,i.size,i.bytes))=some (some (.int .i64 0),1,8):=kr
theorem EK {w ops rest o a Q} (hgd:Region.wanted o (yielded ops a.tmps)=true) (s x)
  (ho:o.op= .call {callee:= .builtin .append,args:= #[s,x],argTypes:= #[281,281]})
  (base A n c l) (hs:a.eval s= .slice A n c) (hown:eX w base A n c l)
  (B S m d k) (hx:a.eval x= .slice S m d) (hr:vK w B S m d k)
  (hlen:n+m≤17592186044416) (hbase:base≤w.heap.size)
  (h:∀A2 c2 w',eX w' base A2 (n+m) c2 (l++k)→w.grownBy w' (ab A)→(ab A2=ab A∨ab A2=some w.heap.size)→wpList prog ops Q rest (a.put o.dst (.slice A2 (n+m) c2)) w'):wpList prog ops Q (o::rest) a w:=by
 obtain⟨i0,hi0,hz0,hz1,hz2⟩:=AX abH;refine aY w hgd s x _ ho base 2 i0 (.int .i64 0) 1 8 underlying281 hi0 hz0 hz1 hz2 rfl Ah A n c (yg l) hs hown B S m d (yg k) hx hr (UQ k) (by unfold maxLen;omega) om hbase ?_;rw[←IB];exact h
theorem vK.one (w:World) (c):vK (w.alloc (.cells #[.int .i64 c] 2)) (w.heap.size+1) (some ⟨w.heap.size,0,none⟩) 1 1 [c]:=
 ⟨Nr _,by unfold maxLen;omega,rfl,fun _=>⟨_,0,rfl,om,fun i u hu=>by
  match i,hu with
  |0,hu=>
   simp[yg]at hu;subst hu;exact Ao w _ _ _ 0⟩⟩
theorem eX.at_ {w base g n c k l} (h:eX w base (some ⟨g,0,none⟩) n c l) (hk:k<l.length):
  w.cell? ⟨g,k,none⟩=some (.int .i64 l[k])∧w.frozen? ⟨g,k,none⟩=false:=by
 have hn:=h.len;refine⟨?_,CQ h k⟩;rw[Da h k om];simp[yg,tv,hk]
theorem eX.set {w base g n c l} (h:eX w base (some ⟨g,0,none⟩) n c l) (k x):
  eX (w.setCell ⟨g,k,none⟩ (.int .i64 x)) base (some ⟨g,0,none⟩) n c (l.set k x):=by
 have:=Ep h k (.int .i64 x);unfold eX;have e:yg (l.set k x)=(yg l).set k (.int .i64 x):=by simp[yg,tv,List.map_set]
 rw[e];exact this.1
def uv (c:Nat):Value:= .int .u64 (c:Int)
def vo (l:List Nat):List Value:=l.map uv
theorem jJ (l):(vo l).length=l.length:=by simp[vo]
theorem UR (l):∀u∈vo l,u.oneCell'=true:=by
 intro u hu;obtain⟨c,_,rfl⟩:=bQ.1 hu
 rfl
theorem IC (a b):vo (a++b)=vo a++vo b:=by simp[vo]
def kD (w:World) (B:Nat) (A:Option Addr) (n c:Nat) (l:List Nat):Prop:=Rd w B 1 A n c (vo l)
theorem kD.len {w B n c A l} (h:kD w B A n c l):n=l.length:=by have:=h.2.2.1;rw[jJ]at this;omega
section
variable {w w':World} {B n c:Nat} {A:Option Addr} {l:List Nat}
theorem kD.below (h:kD w B A n c l) (hb:Below B w w'):kD w' B A n c l:=Rd.below h hb
theorem kD.drewN (h:kD w B A n c l) (k):kD (w.drewN k) B A n c l:=h
end
theorem kD.at_ {w B n c k A l} (h:kD w B A n c l) (hk:k<l.length):∃b off,A=some ⟨b,off,none⟩∧b<B∧w.cell? ⟨b,off+k,none⟩=some (.int .u64 (l[k]:Int)):=by
 obtain⟨b,off,u,e,hb,hu,hc⟩:=Rd.at_ h (show k<n by rw[h.len];exact hk);refine⟨b,off,e,hb,?_⟩;rw[hc];simp[vo,hk]at hu;rw[←hu];rfl
def aI (w:World) (base:Nat) (A:Option Addr) (n c:Nat) (l:List Nat):Prop:=w.ownsRow base 125 1 (.slice A n c) n (vo l)
theorem aI.rd {w base n c A l} (h:aI w base A n c l):kD w w.heap.size A n c l:=Rd.bC h
theorem aI.len {w base n c A l} (h:aI w base A n c l):n=l.length:=h.rd.len
theorem XD:(prog.info? 125).map (fun i=>(i.zero,i.size,i.bytes))=some (some (.int .u64 0),1,8):=kr
theorem dF {w ops rest o a Q} (hgd:Region.wanted o (yielded ops a.tmps)=true) (s x)
  (ho:o.op= .call {callee:= .builtin .append,args:= #[s,x],argTypes:= #[284,284]})
  (base A n c l) (hs:a.eval s= .slice A n c) (hown:aI w base A n c l)
  (B S m d k) (hx:a.eval x= .slice S m d) (hr:kD w B S m d k)
  (hlen:n+m≤17592186044416) (hbase:base≤w.heap.size)
  (h:∀A2 c2 w',aI w' base A2 (n+m) c2 (l++k)→w.grownBy w' (ab A)→(ab A2=ab A∨ab A2=some w.heap.size)→wpList prog ops Q rest (a.put o.dst (.slice A2 (n+m) c2)) w'):wpList prog ops Q (o::rest) a w:=by
 obtain⟨i0,hi0,hz0,hz1,hz2⟩:=AX XD;refine aY w hgd s x _ ho base 125 i0 (.int .u64 0) 1 8 underlying284 hi0 hz0 hz1 hz2 rfl Ah A n c (vo l) hs hown B S m d (vo k) hx hr (UR k) (by unfold maxLen;omega) om hbase ?_;rw[←IC];exact h
theorem kD.one (w:World) (c:Nat):kD (w.alloc (.cells #[.int .u64 (c:Int)] 125)) (w.heap.size+1) (some ⟨w.heap.size,0,none⟩) 1 1 [c]:=
 ⟨Nr _,by unfold maxLen;omega,rfl,fun _=>⟨_,0,rfl,om,fun i u hu=>by
  match i,hu with
  |0,hu=>
   simp[vo]at hu;subst hu;exact Ao w _ _ _ 0⟩⟩
theorem aI.at_ {w base g n c k l} (h:aI w base (some ⟨g,0,none⟩) n c l) (hk:k<l.length):
  w.cell? ⟨g,k,none⟩=some (.int .u64 (l[k]:Int))∧w.frozen? ⟨g,k,none⟩=false:=by
 have hn:=h.len;refine⟨?_,CQ h k⟩;rw[Da h k om];simp[vo,uv,hk]
theorem aI.set {w base g n c l} (h:aI w base (some ⟨g,0,none⟩) n c l) (k) (x:Nat):
  aI (w.setCell ⟨g,k,none⟩ (.int .u64 (x:Int))) base (some ⟨g,0,none⟩) n c (l.set k x):=by
 have:=Ep h k (.int .u64 (x:Int));unfold aI;have e:vo (l.set k x)=(vo l).set k (.int .u64 (x:Int)):=by simp[vo,uv,List.map_set]
 rw[e];exact this.1
theorem aI.pos {w base n c A l} (h:aI w base A n c l) (hn:0<n):∃g,A=some ⟨g,0,none⟩∧base≤g∧g<w.heap.size:=nu h hn
end
end
section
section
open Go.RowKit
def Gr (w w':World):Prop:=∃q os,w'=Sort.grow (w.drewN q) os
theorem Gr.refl (w):Gr w w:=⟨0,#[],by rw[Sort.grow_empty];rfl⟩
theorem Gr.trans {a b c} (h:Gr a b) (h':Gr b c):Gr a c:=by
 obtain⟨q,os,rfl⟩:=h;obtain⟨q',os',rfl⟩:=h';refine⟨q+q',os++os',?_⟩;show Sort.grow (Sort.grow ((a.drewN q).drewN q') os) os'=_;rw[Sort.grow_grow,World.drewN_drewN]
theorem Gr.alloc {a b} (h:Gr a b) (o):Gr a (b.alloc o):=h.trans ⟨0,#[o],by rw[Sort.alloc_eq_grow];rfl⟩
theorem Gr.drew {a b} (h:Gr a b):Gr a b.drew:=h.trans ⟨1,#[],by rw[Sort.grow_empty];rfl⟩
theorem Gr.drewN {a b} (h:Gr a b) (n):Gr a (b.drewN n):=h.trans ⟨n,#[],by rw[Sort.grow_empty]⟩
theorem Gr.size {a b} (h:Gr a b):a.heap.size≤b.heap.size:=by
 obtain⟨q,os,rfl⟩:=h;rw[Sort.size_grow];show a.heap.size≤a.heap.size+_;omega
theorem Gr.below {a b} (h:Gr a b):Below a.heap.size a b:=by
 have hs:=h.size;obtain⟨q,os,rfl⟩:=h;exact⟨rfl,rfl,rfl,hs,fun k hk=>Sort.heap_grow_old _ os hk⟩
theorem Gr.cell {a b} (h:Gr a b) (B o) (hB:B<a.heap.size):b.cell? ⟨B,o,none⟩=a.cell? ⟨B,o,none⟩:=h.below.cell (p:=⟨B,o,none⟩) hB
end
end
section
section
namespace St
def lt (a b:ByteArray):Bool:=Op.bytesLess a.toList b.toList
theorem tl (a:ByteArray):a.toList=a.data.toList:=by
 exact Lib.toList_data a
theorem yh {a b:ByteArray} (h:a.toList=b.toList):a=b:=by
 rw[tl,tl]at h;exact ByteArray.ext (Array.toList_inj.1 h)
theorem lt_iff (a b):lt a b=true↔a.toList<b.toList:=by unfold lt;rw[bytesLess_eq];simp
theorem irrefl (a):lt a a=false:=by
 rw[Cx];intro h;rw[lt_iff]at h;exact List.lt_irrefl _ h
theorem trans {a b c} (h1:lt a b=true) (h2:lt b c=true):lt a c=true:=by
 rw[lt_iff]at*;exact List.lt_trans h1 h2
theorem asymm {a b} (h:lt a b=true):lt b a=false:=by
 rw[Cx];intro h2;have:=trans h h2;rw[irrefl]at this;cases this
theorem total {a b} (h1:lt a b=false) (h2:lt b a=false):a=b:=by
 rw[Cx,ne_eq,lt_iff]at h1 h2;exact yh (List.le_antisymm (List.not_lt.1 h2) (List.not_lt.1 h1))
theorem ntrans {a b c} (h1:lt a b=false) (h2:lt b c=false):lt a c=false:=by
 rw[Cx,ne_eq,lt_iff]at*;rw[List.not_lt]at*;exact List.le_trans h2 h1
theorem eq_iff (a b:ByteArray):(a.toList==b.toList)=decide (a=b):=by
 by_cases h:a=b
 ·subst h;simp
 ·rw[AF h,Cx];intro e;exact h (yh (by simpa using e))
def cmp (a b:ByteArray):Int:=if lt a b then-1 else if lt b a then 1 else 0
theorem jo {a b}:cmp a b=0↔a=b:=by
 unfold cmp;constructor
 ·intro h;by_cases h1:lt a b=true
  ·simp[h1]at h
  ·by_cases h2:lt b a=true
   ·simp[h1,h2]at h
   ·exact total (by simpa using h1) (by simpa using h2)
 ·rintro rfl;simp[irrefl]
theorem KC {a b}:cmp a b<0↔lt a b=true:=by
 unfold cmp;by_cases h1:lt a b=true
 ·simp[h1]
 ·by_cases h2:lt b a=true<;>simp[h1,h2]
end St
end
end
section
section
open Go.RowKit
structure aO where
 n:ByteArray
 v:ByteArray
instance:DecidableEq aO:=fun a b=>decidable_of_iff (a.n=b.n∧a.v=b.v) ⟨fun h=>by cases a;cases b;simp_all,fun h=>by rw[h];exact⟨rfl,rfl⟩⟩
instance:Inhabited aO:=⟨⟨ByteArray.empty,ByteArray.empty⟩⟩
def vL (x:aO):List Value:=[.string x.n,.string x.v]
def wQ (L:List aO):List Value:=L.flatMap vL
theorem fJ (L):(wQ L).length=L.length*2:=by
 unfold wQ
 induction L with
 |nil=>rfl
 |cons x L ih=>rw[Au,La,ih,Lc];simp[vL];omega
theorem rH (L i k) (h:i<L.length) (hk:k<2):(wQ L)[i*2+k]? =(vL L[i])[k]?:=by
 unfold wQ
 induction L generalizing i with
 |nil=>simp at h
 |cons x L ih=>
  rw[Au];have hx:(vL x).length=2:=rfl;cases i with
  |zero=>rw[Dl om];simp
  |succ i=>
   rw[Bl om,hx,show(i+1)*2+k-2=i*2+k from om];exact ih i (by simpa using h)
theorem UT (L):∀u∈wQ L,u.oneCell'=true:=by
 intro u hu;obtain⟨c,_,hc⟩:=mK.1 hu;simp[vL]at hc;rcases hc with rfl|rfl<;>rfl
theorem sK (a b):wQ (a++b)=wQ a++wQ b:=by simp[wQ]
def fG (w:World) (B:Nat) (A:Option Addr) (n c:Nat) (l:List aO):Prop:=Rd w B 2 A n c (wQ l)
theorem fG.len {w B n c A l} (h:fG w B A n c l):n=l.length:=by have:=h.2.2.1;rw[fJ]at this;omega
section
variable {w w':World} {B n c:Nat} {A:Option Addr} {l:List aO}
theorem fG.below (h:fG w B A n c l) (hb:Below B w w'):fG w' B A n c l:=Rd.below h hb
theorem fG.more {B'} (h:fG w B A n c l) (hB:B≤B'):fG w B' A n c l:=Rd.more h hB
end
theorem fG.at_ {w B n c k A l} (h:fG w B A n c l) (hk:k<l.length):∃b off,A=some ⟨b,off,none⟩∧b<B∧w.cell? ⟨b,off+k*2,none⟩=some (.string l[k].n)∧w.cell? ⟨b,off+(k*2+1),none⟩=some (.string l[k].v):=by
 obtain⟨b,off,e,hb,hc⟩:=h.2.2.2 (by have:=h.len;omega);refine⟨b,off,e,hb,hc _ _ ?_,hc _ _ ?_⟩
 ·have:=rH l k 0 hk om;simpa[vL]using this
 ·have:=rH l k 1 hk om;simpa[vL]using this
def bT (w:World) (base:Nat) (A:Option Addr) (n c:Nat) (l:List aO):Prop:=w.ownsRow base 59 2 (.slice A n c) n (wQ l)
theorem bT.rd {w base n c A l} (h:bT w base A n c l):fG w w.heap.size A n c l:=Rd.bC h
theorem bT.len {w base n c A l} (h:bT w base A n c l):n=l.length:=h.rd.len
theorem XE:(prog.info? 59).map (fun i=>(i.zero,i.size,i.bytes))=some (some (.agg #[.string ByteArray.empty,.string ByteArray.empty]),2,32):=kr
theorem qz {w ops rest o a Q} (hgd:Region.wanted o (yielded ops a.tmps)=true) (s x)
  (ho:o.op= .call {callee:= .builtin .append,args:= #[s,x],argTypes:= #[54,54]})
  (base A n c l) (hs:a.eval s= .slice A n c) (hown:bT w base A n c l)
  (B S m d k) (hx:a.eval x= .slice S m d) (hr:fG w B S m d k)
  (hlen:n+m≤4398046511104) (hbase:base≤w.heap.size)
  (h:∀A2 c2 w',bT w' base A2 (n+m) c2 (l++k)→w.grownBy w' (ab A)→(ab A2=ab A∨ab A2=some w.heap.size)→wpList prog ops Q rest (a.put o.dst (.slice A2 (n+m) c2)) w'):wpList prog ops Q (o::rest) a w:=by
 obtain⟨i0,hi0,hz0,hz1,hz2⟩:=AX XE;refine aY w hgd s x _ ho base 59 i0 (.agg #[.string ByteArray.empty,.string ByteArray.empty]) 2 32 underlying54 hi0 hz0 hz1 hz2 rfl Ah A n c (wQ l) hs hown B S m d (wQ k) hx hr (UT k) (by unfold maxLen;omega) om hbase ?_;rw[←sK];exact h
theorem bT.nil (w base):bT w base none 0 0 []:=⟨rfl,.inl ⟨rfl,rfl⟩⟩
theorem fG.lit (w:World) (l fr) (h:l.length≤9223372036854775807):fG (w.alloc (.cells (wQ l).toArray 59 fr)) (w.heap.size+1) (some ⟨w.heap.size,0,none⟩) l.length l.length l:=
 ⟨Nr _,by unfold maxLen;omega,by rw[fJ],fun _=>⟨_,0,rfl,om,fun i u hu=>by
  rw[bZ];exact(Ao w _ _ _ i).trans (by simpa using hu)⟩⟩
end
end
section
section
open Go.RowKit
abbrev Qb:=Int×Nat
def Ib (x:Qb):List Value:=[.int .i64 x.1,.int .u64 (x.2:Int)]
def ni (L:List Qb):List Value:=L.flatMap Ib
theorem mM (L):(ni L).length=L.length*2:=by
 unfold ni
 induction L with
 |nil=>rfl
 |cons x L ih=>rw[Au,La,ih,Lc];simp[Ib];omega
theorem nH (L i k) (h:i<L.length) (hk:k<2):(ni L)[i*2+k]? =(Ib L[i])[k]?:=by
 unfold ni
 induction L generalizing i with
 |nil=>simp at h
 |cons x L ih=>
  rw[Au];have hx:(Ib x).length=2:=rfl;cases i with
  |zero=>rw[Dl om];simp
  |succ i=>
   rw[Bl om,hx,show(i+1)*2+k-2=i*2+k from om];exact ih i (by simpa using h)
theorem UU (L):∀u∈ni L,u.oneCell'=true:=by
 intro u hu;obtain⟨c,_,hc⟩:=mK.1 hu;simp[Ib]at hc;rcases hc with rfl|rfl<;>rfl
theorem IG (a b):ni (a++b)=ni a++ni b:=by simp[ni]
theorem jq (x b):ni (x::b)=Ib x++ni b:=by simp[ni]
theorem Qc (L k):(ni L).drop (k*2)=ni (L.drop k):=by
 induction k generalizing L with
 |zero=>simp
 |succ k ih=>
  cases L with
  |nil=>simp[ni]
  |cons x L=>rw[jq,AY,show(k+1)*2=(k*2+1)+1 from om];simp only[Ib,Ba,AY,Az];exact ih L
theorem Qd (L k):(ni L).take (k*2)=ni (L.take k):=by
 induction k generalizing L with
 |zero=>simp[ni]
 |succ k ih=>
  cases L with
  |nil=>simp[ni]
  |cons x L=>rw[jq,Cb,jq,show(k+1)*2=(k*2+1)+1 from om];simp only[Ib,Ba,Cb,Az];rw[ih L]
def gT (w:World) (B:Nat) (A:Option Addr) (n c:Nat) (l:List Qb):Prop:=Rd w B 2 A n c (ni l)
theorem gT.len {w B n c A l} (h:gT w B A n c l):n=l.length:=by have:=h.2.2.1;rw[mM]at this;omega
section
variable {w w':World} {B n c:Nat} {A:Option Addr} {l:List Qb}
theorem gT.below (h:gT w B A n c l) (hb:Below B w w'):gT w' B A n c l:=Rd.below h hb
theorem gT.more {B'} (h:gT w B A n c l) (hB:B≤B'):gT w B' A n c l:=Rd.more h hB
theorem gT.alloc (h:gT w B A n c l) (hB:B≤w.heap.size) (o):gT (w.alloc o) B A n c l:=Rd.alloc h hB o
theorem gT.take (h:gT w B A n c l) {k} (hk:k≤n):gT w B A k c (l.take k):=by
 have:=Rd.take (k:=k) h hk;rwa[Qd]at this
theorem gT.drop (h:gT w B A n c l) {k} (hk:k≤n):gT w B (if c=k then A else A.map (·.add (k*2))) (n-k) (c-k) (l.drop k):=by
 have:=Rd.drop (k:=k) h hk;rwa[Qc]at this
end
theorem gT.at_ {w B n c k A l} (h:gT w B A n c l) (hk:k<l.length):∃b off,A=some ⟨b,off,none⟩∧b<B∧w.cell? ⟨b,off+k*2,none⟩=some (.int .i64 l[k].1)∧w.cell? ⟨b,off+(k*2+1),none⟩=some (.int .u64 (l[k].2:Int)):=by
 obtain⟨b,off,e,hb,hc⟩:=h.2.2.2 (by have:=h.len;omega);refine⟨b,off,e,hb,hc _ _ ?_,hc _ _ ?_⟩
 ·have:=nH l k 0 hk om;simpa[Ib]using this
 ·have:=nH l k 1 hk om;simpa[Ib]using this
def bz (w:World) (base:Nat) (A:Option Addr) (n c:Nat) (l:List Qb):Prop:=w.ownsRow base 127 2 (.slice A n c) n (ni l)
theorem bz.rd {w base n c A l} (h:bz w base A n c l):gT w w.heap.size A n c l:=Rd.bC h
theorem bz.len {w base n c A l} (h:bz w base A n c l):n=l.length:=h.rd.len
theorem Qe:(prog.info? 127).map (fun i=>(i.zero,i.size,i.bytes))=some (some (.agg #[.int .i64 0,.int .u64 0]),2,16):=kr
theorem qA {w ops rest o a Q} (hgd:Region.wanted o (yielded ops a.tmps)=true) (s x)
  (ho:o.op= .call {callee:= .builtin .append,args:= #[s,x],argTypes:= #[55,55]})
  (base A n c l) (hs:a.eval s= .slice A n c) (hown:bz w base A n c l)
  (B S m d k) (hx:a.eval x= .slice S m d) (hr:gT w B S m d k)
  (hlen:n+m≤4398046511104) (hbase:base≤w.heap.size)
  (h:∀A2 c2 w',bz w' base A2 (n+m) c2 (l++k)→w.grownBy w' (ab A)→(ab A2=ab A∨ab A2=some w.heap.size)→wpList prog ops Q rest (a.put o.dst (.slice A2 (n+m) c2)) w'):wpList prog ops Q (o::rest) a w:=by
 obtain⟨i0,hi0,hz0,hz1,hz2⟩:=AX Qe;refine aY w hgd s x _ ho base 127 i0 (.agg #[.int .i64 0,.int .u64 0]) 2 16 underlying55 hi0 hz0 hz1 hz2 rfl Ah A n c (ni l) hs hown B S m d (ni k) hx hr (UU k) (by unfold maxLen;omega) om hbase ?_;rw[←IG];exact h
theorem bz.nil (w base):bz w base none 0 0 []:=⟨rfl,.inl ⟨rfl,rfl⟩⟩
theorem bz.at_ {w base g n c k l} (h:bz w base (some ⟨g,0,none⟩) n c l) (hk:k<l.length):
  w.cell? ⟨g,k*2,none⟩=some (.int .i64 l[k].1)∧w.cell? ⟨g,k*2+1,none⟩=some (.int .u64 (l[k].2:Int))∧w.frozen? ⟨g,k*2,none⟩=false∧w.frozen? ⟨g,k*2+1,none⟩=false:=by
 have hn:=h.len;refine⟨?_,?_,CQ h _,CQ h _⟩
 ·rw[Da h (k*2) om];have:=nH l k 0 hk om;simpa[Ib]using this
 ·rw[Da h (k*2+1) om];have:=nH l k 1 hk om;simpa[Ib]using this
theorem UW (l k x):ni (l.set k x)=((ni l).set (k*2) (.int .i64 x.1)).set (k*2+1) (.int .u64 (x.2:Int)):=by
 induction l generalizing k with
 |nil=>simp[ni]
 |cons y l ih=>
  cases k with
  |zero=>simp[jq,Ib]
  |succ k=>
   rw[Ap,jq,jq,ih k,show(k+1)*2=k*2+1+1 from om];simp[Ib]
theorem bz.set {w base g n c l} (h:bz w base (some ⟨g,0,none⟩) n c l) (k x):
  bz ((w.setCell ⟨g,k*2,none⟩ (.int .i64 x.1)).setCell ⟨g,k*2+1,none⟩ (.int .u64 (x.2:Int))) base (some ⟨g,0,none⟩) n c (l.set k x):=by
 have h1:=(Ep h (k*2) (.int .i64 x.1)).1;have h2:=(Ep h1 (k*2+1) (.int .u64 (x.2:Int))).1;unfold bz;rw[UW];exact h2
end
end
section
section
namespace Sy
def iM (l:List ByteArray):Prop:=l.Pairwise fun x y=>St.lt x y=true
def gq (l t:List ByteArray):Prop:=iM t∧∀s,s∈t↔s∈l
theorem iM.nodup {l} (h:iM l):l.Nodup:=by
 unfold iM at h;exact h.imp fun{a b} hab e=>by rw[e,St.irrefl]at hab;cases hab
theorem iM.lt {t} (h:iM t) {i j} (hi:i<t.length) (hj:j<t.length) (hij:i<j):St.lt t[i] t[j]=true:=
 (Cm.1 h) i j hi hj hij
theorem iM.inj {t} (h:iM t) {i j} (hi:i<t.length) (hj:j<t.length) (he:t[i]=t[j]):i=j:=by
 rcases Ea i j with h1|h1|h1
 ·have:=h.lt hi hj h1;rw[he,St.irrefl]at this;cases this
 ·exact h1
 ·have:=h.lt hj hi h1;rw[he,St.irrefl]at this;cases this
def idx (t:List ByteArray) (s:ByteArray):Option Nat:=t.findIdx? fun x=>decide (x=s)
theorem jr {t s k} (h:idx t s=some k):∃hk:k<t.length,t[k]=s∧∀j (hj:j<t.length),j<k→t[j]≠s:=by
 unfold idx at h;rw[List.findIdx?_eq_some_iff_getElem]at h;obtain⟨hk,h1,h2⟩:=h;refine⟨hk,by simpa using h1,fun j hj hjk=>?_⟩;have:=h2 j hjk;simpa using this
theorem YQ {t s k} (hk:k<t.length) (h1:t[k]=s) (h2:∀j (hj:j<t.length),j<k→t[j]≠s):idx t s=some k:=by
 unfold idx;rw[List.findIdx?_eq_some_iff_getElem];exact⟨hk,by simpa using h1,fun j hj=>by simpa using h2 j om hj⟩
theorem Qf {t s}:idx t s=none↔∀j (hj:j<t.length),t[j]≠s:=by
 unfold idx;rw[List.findIdx?_eq_none_iff];constructor
 ·intro h j hj;simpa using h _ (gP hj)
 ·intro h x hx;obtain⟨j,hj,rfl⟩:=jK.1 hx;simpa using h j hj
theorem rJ {t} (h:iM t) {s k} (hk:k<t.length) (he:t[k]=s):idx t s=some k:=
 YQ hk he fun j hj hjk e=>by have:=h.inj hj hk (e.trans he.symm);omega
theorem search {t} (h : iM t) (s) :
    Lib.bsGo (fun i => Op.bytesLess (t.getD i ByteArray.empty).toList s.toList) t.length 0 t.length = (t.filter fun x => St.lt x s).length := by
  have key : ∀ (l : List ByteArray), iM l → ∃ k, k ≤ l.length ∧ (l.filter fun x => St.lt x s).length = k ∧ (∀ i (hi : i < l.length), i < k → St.lt l[i] s = true) ∧ (∀ i (hi : i < l.length), k ≤ i → St.lt l[i] s = false) := by
    intro l
    induction l with
    | nil => intro _; exact ⟨0, Nr _, rfl, fun i hi => by simp at hi, fun i hi => by simp at hi⟩
    | cons x l ih =>
      intro hs
      have hs' := AO.1 hs
      obtain ⟨k, h1, h2, h3, h4⟩ := ih hs'.2
      cases hx : St.lt x s with
      | true =>
        refine ⟨k + 1, by simp; omega, by simp [hx, h2], fun i hi hik => ?_, fun i hi hik => ?_⟩
        · cases i with
          | zero => exact hx
          | succ i => exact h3 i (by simpa using hi) om
        · cases i with
          | zero => omega
          | succ i => exact h4 i (by simpa using hi) om
      | false =>
        have hall : ∀ y ∈ l, St.lt y s = false := fun y hy => by
          rw [Cx]; intro hy2
          have := St.trans (hs'.1 y hy) hy2
          rw [hx] at this; cases this
        refine ⟨0, om, ?_, fun i hi hik => om, fun i hi _ => ?_⟩
        · rw [List.length_eq_zero_iff, List.filter_eq_nil_iff]
          intro y hy
          rcases dV.1 hy with rfl | hy
          · simp [hx]
          · simp [hall y hy]
        · cases i with
          | zero => exact hx
          | succ i => exact hall _ (gP _)
  obtain ⟨k, h1, h2, h3, h4⟩ := key t h
  rw [h2]
  have e := Lib.bsGo_spec (fun i => if i < t.length then Op.bytesLess (t.getD i ByteArray.empty).toList s.toList else false) k
    (fun i hi => by have hil : i < t.length := by omega
                    rw [Ps0 hil]; have := h3 i hil hi; simpa [St.lt, List.getD, hil] using this)
    (fun i hi => by
      by_cases hil : i < t.length
      · rw [Ps0 hil]; have := h4 i hil hi; simpa [St.lt, List.getD, hil] using this
      · rw [Ng hil])
    t.length 0 t.length om om h1
  rw [← e]
  have go : ∀ f lo hi, hi ≤ t.length → Lib.bsGo (fun i => Op.bytesLess (t.getD i ByteArray.empty).toList s.toList) f lo hi = Lib.bsGo (fun i => if i < t.length then Op.bytesLess (t.getD i ByteArray.empty).toList s.toList else false) f lo hi := by
    intro f
    induction f with
    | zero => intro lo hi _; rfl
    | succ f ih =>
      intro lo hi hh
      unfold Lib.bsGo
      by_cases hlt : lo < hi
      · rw [Ps0 hlt, Ps0 hlt, Ps0 (show (lo + hi) / 2 < t.length from om)]
        split
        · exact ih _ _ hh
        · exact ih _ _ om
      · rw [Ng hlt, Ng hlt]
  exact go _ _ _ Ai
theorem sM {t} (h:iM t) (s):
  let I:=(t.filter fun x=>St.lt x s).length
  (idx t s=some I∧∃hI:I<t.length,t[I]=s)∨(idx t s=none∧¬∃hI:I<t.length,t[I]=s):=by
 intro I;by_cases hI:∃hI:I<t.length,t[I]=s
 ·obtain⟨h1,h2⟩:=hI;exact .inl ⟨rJ h h1 h2,h1,h2⟩
 ·refine .inr ⟨Qf.2 fun j hj he=>hI ?_,hI⟩;have hIj:I=j:=by
   show(t.filter fun x=>St.lt x s).length=j;have e:t=t.take j++t.drop j:=(jH j t).symm;have f1:(t.take j).filter (fun x=>St.lt x s)=t.take j:=by
    rw[List.filter_eq_self];intro x hx;obtain⟨i,hi,rfl⟩:=jK.1 hx;rw[oF]at hi;rw[List.getElem_take,←he];exact h.lt om hj om
   have f2:(t.drop j).filter (fun x=>St.lt x s)=[]:=by
    rw[List.filter_eq_nil_iff];intro x hx;obtain⟨i,hi,rfl⟩:=jK.1 hx;rw[lZ]at hi;rw[DZ,←he];by_cases h0:i=0
    ·subst h0;simp[St.irrefl]
    ·have:=h.lt hj (show j+i<t.length from om) om;rw[St.asymm this];simp
   conv=>lhs;rw[e]
   rw[List.filter_append,f1,f2,Bg,oF];omega
  exact⟨om,by simpa[hIj]using he⟩
theorem gq.size {l t} (h:gq l t) {m} (hm:∀s∈l,s.size≤m):∀s∈t,s.size≤m:=fun s hs=>hm s ((h.2 s).1 hs)
theorem bW {α:Type} [DecidableEq α]:∀(a b:List α),a.Nodup→(∀x∈a,x∈b)→a.length≤b.length
 |[],b,_,_=>bE _
 |x::a,b,h,hs=>by
  have h':=List.nodup_cons.1 h;have hx:x∈b:=hs x sm;have:=bW a (b.erase x) h'.2 fun y hy=>by
   have hne:y≠x:=fun e=>h'.1 (e▸hy)
   exact(List.mem_erase_of_ne hne).2 (hs y (by simp[hy]))
  rw[List.length_erase_of_mem hx]at this;have:=List.length_pos_of_mem hx;simp;omega
theorem gq.len {l t} (h:gq l t):t.length≤l.length:=bW t l h.1.nodup fun s hs=>(h.2 s).1 hs
end Sy
end
end
section
section
namespace Lb
theorem ext {a b:aO} (h1:a.n=b.n) (h2:a.v=b.v):a=b:=by cases a;cases b;simp_all
def one (x:aO):Int:=if x.n.size=0 then 17 else if 65535<x.n.size∨65535<x.v.size then 7 else 0
def dM (l:List aO) (j:Nat):Int:=
 let x:=l.getD j default
 if one x≠0 then one x else if j=0 then 0 else
  let p:=l.getD (j-1) default
  if p.n=x.n then 18 else if St.lt x.n p.n then 16 else 0
def gL (f:Nat→Int) (n:Nat):Int:=(((List.range n).map f).find? fun e=>!decide (e=0)).getD 0
theorem dA (f n) (h:∀j,j<n→f j=0):gL f n=0:=by
 unfold gL;have:((List.range n).map f).find? (fun e=>!decide (e=0))=none:=by
  rw[List.find?_eq_none];intro e he;obtain⟨j,hj,rfl⟩:=bQ.1 he;simp[h j (List.mem_range.1 hj)]
 rw[this];rfl
theorem bg (f n k) (hk:k<n) (h:∀j,j<k→f j=0) (he:f k≠0):gL f n=f k:=by
 unfold gL;have e1:List.range n=List.range k++k::(List.range (n-k-1)).map (·+(k+1)):=by
  apply List.ext_getElem?;intro i;by_cases h1:i<k
  ·rw[Dl (by simpa using h1)];simp[h1,show i<n from om]
  ·rw[Bl (by simpa using h1)];simp only[CY];by_cases h2:i=k
   ·subst h2;simp[hk]
   ·obtain⟨m,hm⟩:∃m,i-k=m+1:=⟨i-k-1,om⟩
    rw[hm,List.getElem?_cons_succ];by_cases h3:i<n
    ·simp[h3,show m<n-k-1 from om];omega
    ·rw[BM (by simpa using h3),BM (by simp;omega)]
 have h0:((List.range k).map f).find? (fun e=>!decide (e=0))=none:=by
  rw[List.find?_eq_none];intro e he2;obtain⟨j,hj,rfl⟩:=bQ.1 he2;simp[h j (List.mem_range.1 hj)]
 rw[e1,dW,List.find?_append,h0,AA,List.find?_cons];simp[he]
def df (l:List aO):Int:=gL (dM l) l.length
theorem getD_at {l:List aO} {j} (h:j<l.length):l.getD j default=l[j]:=by simp[List.getD,h]
def oQ (x y:aO):Int:=if St.cmp x.n y.n=0 then St.cmp x.v y.v else St.cmp x.n y.n
def cmpL:List aO→List aO→Int
 |[],[]=>0
 |[],_::_=> -1
 |_::_,[]=>1
 |x::a,y::b=>if oQ x y=0 then cmpL a b else oQ x y
theorem wR {a b}:oQ a b=0↔a=b:=by
 unfold oQ;constructor
 ·intro h;split at h
  ·next h0=>exact ext (St.jo.1 h0) (St.jo.1 h)
  ·next h0=>exact absurd h h0
 ·rintro rfl;have h1:St.cmp a.n a.n=0:=St.jo.2 rfl;have h2:St.cmp a.v a.v=0:=St.jo.2 rfl;simp[h1,h2]
theorem MS {a b}:cmpL a b=0↔a=b:=by
 induction a generalizing b with
 |nil=>cases b<;>simp[cmpL]
 |cons x a ih=>
  cases b with
  |nil=>simp[cmpL]
  |cons y b=>
   simp only[cmpL];by_cases h0:oQ x y=0
   ·rw[Ps0 h0,ih,wR.1 h0];simp
   ·rw[Ng h0];refine⟨fun h=>absurd h h0,fun h=>?_⟩
    injection h with h1 h2
    exact absurd (wR.2 h1) h0
theorem wS (a b:List aO) (k) (ha:k<a.length) (hb:k<b.length):
  cmpL (a.drop k) (b.drop k)=if oQ a[k] b[k]=0 then cmpL (a.drop (k+1)) (b.drop (k+1))else oQ a[k] b[k]:=by
 rw[oJ ha,oJ hb,cmpL]
theorem wT (a b:List aO) (k) (ha:k=a.length) (hb:k<b.length):cmpL (a.drop k) (b.drop k)= -1:=by
 subst ha;rw[List.drop_length,oJ hb,cmpL]
theorem wU (a b:List aO) (k) (ha:k<a.length) (hb:k=b.length):cmpL (a.drop k) (b.drop k)=1:=by
 subst hb;rw[List.drop_length,oJ ha,cmpL]
theorem wV (a b:List aO) (k) (ha:k=a.length) (hb:k=b.length):cmpL (a.drop k) (b.drop k)=0:=by
 subst ha;rw[List.drop_length,hb,List.drop_length,cmpL]
def get (l:List aO) (x:ByteArray):Option ByteArray:=(l.find? fun y=>decide (y.n=x)).map (·.v)
theorem get_at (l x k) (hk:k<l.length) (h:∀j (hj:j<l.length),j<k→l[j].n≠x) (he:l[k].n=x):get l x=some l[k].v:=by
 unfold get;have e:l=l.take k++l[k]::l.drop (k+1):=by rw[←oJ hk,jH]
 have h0:(l.take k).find? (fun y=>decide (y.n=x))=none:=by
  rw[List.find?_eq_none];intro y hy;obtain⟨j,hj,rfl⟩:=jK.1 hy;rw[oF]at hj;rw[List.getElem_take];simpa using h j om om
 have h1:l.find? (fun y=>decide (y.n=x))=some l[k]:=by
  generalize l[k]=y at e he;rw[e,List.find?_append,h0,List.find?_cons];simp[he]
 rw[h1];rfl
theorem get_none (l x) (h:∀j (hj:j<l.length),l[j].n≠x):get l x=none:=by
 unfold get;rw[Option.map_eq_none_iff,List.find?_eq_none];intro y hy;obtain⟨j,hj,rfl⟩:=jK.1 hy;simpa using h j hj
def strs (l:List aO):List ByteArray:=l.flatMap fun x=>[x.n,x.v]
theorem aV (l):(strs l).length=2*l.length:=by
 unfold strs
 induction l with
 |nil=>rfl
 |cons x l ih=>rw[Au,La,ih,Lc];simp;omega
theorem wW (l:List aO) (k) (h:k<l.length):strs (l.take (k+1))=strs (l.take k)++[l[k].n,l[k].v]:=by
 unfold strs;rw[Ts h,oL];simp
end Lb
end
end
section
section
namespace Lb
theorem sN (f n):(gL f n=0∧∀j,j<n→f j=0)∨∃k,k<n∧f k≠0∧gL f n=f k∧∀j,j<k→f j=0:=by
 have key:∀m,m≤n→(∀j,j<m→f j=0)∨∃k,k<m∧f k≠0∧∀j,j<k→f j=0:=by
  intro m
  induction m with
  |zero=>intro _;exact .inl fun j hj=>om
  |succ m ih=>
   intro hm;rcases ih om with h|⟨k,h1,h2,h3⟩
   ·by_cases hf:f m=0
    ·refine .inl fun j hj=>?_
     by_cases hjm:j=m
     ·subst hjm;exact hf
     ·exact h j om
    ·exact .inr ⟨m,om,hf,h⟩
   ·exact .inr ⟨k,om,h2,h3⟩
 rcases key n Ai with h|⟨k,h1,h2,h3⟩
 ·exact .inl ⟨dA f n h,h⟩
 ·exact .inr ⟨k,h1,h2,bg f n k h1 h3 h2,h3⟩
def iM (l:List aO):Prop:=l.Pairwise fun x y=>St.lt x.n y.n=true
theorem II {l:List aO} (h:∀j (hj:j+1<l.length),St.lt l[j].n l[j+1].n=true):iM l:=by
 unfold iM;rw[Cm];intro i j hi hj hij
 induction j with
 |zero=>omega
 |succ j ih=>
  by_cases e:i=j
  ·subst e;exact h i hj
  ·exact St.trans (ih om om) (h j hj)
end Lb
end
end
end Go.Proofs.YtjcpmfphnodaaaaGreatDoor
