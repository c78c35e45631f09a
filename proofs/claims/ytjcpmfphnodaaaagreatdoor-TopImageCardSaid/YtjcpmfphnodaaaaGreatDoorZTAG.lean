/- Part 7. -/
import Derived.Test.YtjcpmfphnodaaaaGreatDoorZTAA
import Derived.Sort.Grow
import Derived.Sort.Walk0
import Derived.Shelf.Spec.SearchS
namespace Go.Proofs.YtjcpmfphnodaaaaGreatDoor
set_option maxRecDepth 100000
set_option maxHeartbeats 0
open _root_.Go.Proofs.Tryz
section
section
open Go.RowKit
def iv (c:Int):Value:= .int .i64 c
def Eg (l:List Int):List Value:=l.map iv
theorem G7 (l):(Eg l).length=l.length:=by simp[Eg]
theorem TS (l):∀u∈Eg l,u.oneCell'=true:=by
 intro u hu;obtain⟨c,_,rfl⟩:=dM.1 hu
 rfl
theorem G8 (a b):Eg (a++b)=Eg a++Eg b:=by simp[Eg]
def jv (w:World) (B:Nat) (A:Option Addr) (n c:Nat) (l:List Int):Prop:=Rd w B 1 A n c (Eg l)
theorem jv.len {w} {B n c} {A} {l} (h:jv w B A n c l):n=l.length:=by have:=h.2.2.1;rw[G7]at this;omega
section
variable {w w':World} {B n c:Nat} {A:Option Addr} {l:List Int}
theorem jv.below (h:jv w B A n c l) (hb:Below B w w'):jv w' B A n c l:=Rd.below h hb
theorem jv.more {B'} (h:jv w B A n c l) (hB:B≤B'):jv w B' A n c l:=Rd.more h hB
theorem jv.alloc (h:jv w B A n c l) (hB:B≤w.heap.size) (o):jv (w.alloc o) B A n c l:=Rd.alloc h hB o
end
theorem jv.at_ {w} {B n c k} {A} {l} (h:jv w B A n c l) (hk:k<l.length):∃b off,A=some ⟨b,off,none⟩∧b<B∧w.cell? ⟨b,off+k,none⟩=some (.int .i64 l[k]):=by
 obtain⟨b,off,u,e,hb,hu,hc⟩:=Rd.at_ h (show k<n by rw[h.len];exact hk);refine⟨b,off,e,hb,?_⟩;rw[hc];simp[Eg,hk]at hu;rw[←hu];rfl
def aO (w:World) (base:Nat) (A:Option Addr) (n c:Nat) (l:List Int):Prop:=w.ownsRow base 3 1 (.slice A n c) n (Eg l)
theorem aO.rd {w} {base n c} {A} {l} (h:aO w base A n c l):jv w w.heap.size A n c l:=Rd.bP h
theorem aO.len {w} {base n c} {A} {l} (h:aO w base A n c l):n=l.length:=h.rd.len
theorem Pd:(prog.info? 3).map (fun i=>(i.zero,i.size,i.bytes))=some (some (.int .i64 0),1,8):=kr
theorem dS {w} {ops} {rest} {o} {a} {Q} (hgd:Region.wanted o (yielded ops a.tmps)=true) (s x)
  (ho:o.op= .call {callee:= .builtin .append,args:= #[s,x],argTypes:= #[62,62]})
  (base) (A) (n c) (l) (hs:a.eval s= .slice A n c) (hown:aO w base A n c l)
  (B) (S) (m d) (k) (hx:a.eval x= .slice S m d) (hr:jv w B S m d k)
  (hlen:n+m≤17592186044416) (hbase:base≤w.heap.size)
  (h:∀A2 c2 w',aO w' base A2 (n+m) c2 (l++k)→w.grownBy w' (ab A)→(ab A2=ab A∨ab A2=some w.heap.size)→wpList prog ops Q rest (a.put o.dst (.slice A2 (n+m) c2)) w'):wpList prog ops Q (o::rest) a w:=by
 obtain⟨i0,hi0,hz0,hz1,hz2⟩:=AX Pd;refine bI w hgd s x _ ho base 3 i0 (.int .i64 0) 1 8 underlying62 hi0 hz0 hz1 hz2 rfl Ah A n c (Eg l) hs hown B S m d (Eg k) hx hr (TS k) (by unfold maxLen;omega) om hbase ?_;rw[←G8];exact h
theorem jv.one (w:World) (c):jv (w.alloc (.cells #[.int .i64 c] 3)) (w.heap.size+1) (some ⟨w.heap.size,0,none⟩) 1 1 [c]:=
 ⟨Nr _,by unfold maxLen;omega,rfl,fun _=>⟨_,0,rfl,om,fun i u hu=>by
  match i,hu with
  |0,hu=>
   simp[Eg]at hu;subst hu;exact Au w _ _ _ 0⟩⟩
theorem jv.lit (w:World) (l) (h:l.length≤9223372036854775807):jv (w.alloc (.cells (Eg l).toArray 3)) (w.heap.size+1) (some ⟨w.heap.size,0,none⟩) l.length l.length l:=
 ⟨Nr _,by unfold maxLen;omega,by simp[Eg],fun _=>⟨_,0,rfl,om,fun i u hu=>by
  rw[cB];exact(Au w _ _ _ i).trans (by simpa using hu)⟩⟩
end
end
section
section
open Go.RowKit
def sv (c:ByteArray):Value:= .string c
def oF (l:List ByteArray):List Value:=l.map sv
theorem G9 (l):(oF l).length=l.length:=by simp[oF]
theorem J3 (l):∀u∈oF l,u.oneCell'=true:=by
 intro u hu;obtain⟨c,_,rfl⟩:=dM.1 hu
 rfl
theorem mG (a b):oF (a++b)=oF a++oF b:=by simp[oF]
def bM (w:World) (B:Nat) (A:Option Addr) (n c:Nat) (l:List ByteArray):Prop:=Rd w B 1 A n c (oF l)
theorem bM.len {w} {B n c} {A} {l} (h:bM w B A n c l):n=l.length:=by have:=h.2.2.1;rw[G9]at this;omega
section
variable {w w':World} {B n c:Nat} {A:Option Addr} {l:List ByteArray}
theorem bM.below (h:bM w B A n c l) (hb:Below B w w'):bM w' B A n c l:=Rd.below h hb
theorem bM.more {B'} (h:bM w B A n c l) (hB:B≤B'):bM w B' A n c l:=Rd.more h hB
theorem bM.alloc (h:bM w B A n c l) (hB:B≤w.heap.size) (o):bM (w.alloc o) B A n c l:=Rd.alloc h hB o
theorem bM.grown (h:bM w B A n c l) {row} (hg:w.grownBy w' row) (hB:B≤w.heap.size) (hr:∀g,row=some g→B≤g):bM w' B A n c l:=Rd.grown h hg hB hr
end
theorem bM.at_ {w} {B n c k} {A} {l} (h:bM w B A n c l) (hk:k<l.length):∃b off,A=some ⟨b,off,none⟩∧b<B∧w.cell? ⟨b,off+k,none⟩=some (.string l[k]):=by
 obtain⟨b,off,u,e,hb,hu,hc⟩:=Rd.at_ h (show k<n by rw[h.len];exact hk);refine⟨b,off,e,hb,?_⟩;rw[hc];simp[oF,hk]at hu;rw[←hu];rfl
def aS (w:World) (base:Nat) (A:Option Addr) (n c:Nat) (l:List ByteArray):Prop:=w.ownsRow base 9 1 (.slice A n c) n (oF l)
theorem aS.rd {w} {base n c} {A} {l} (h:aS w base A n c l):bM w w.heap.size A n c l:=Rd.bP h
theorem aS.len {w} {base n c} {A} {l} (h:aS w base A n c l):n=l.length:=h.rd.len
theorem Pf:(prog.info? 9).map (fun i=>(i.zero,i.size,i.bytes))=some (some (.string ByteArray.empty),1,16):=kr
theorem gu {w} {ops} {rest} {o} {a} {Q} (hgd:Region.wanted o (yielded ops a.tmps)=true) (s x)
  (ho:o.op= .call {callee:= .builtin .append,args:= #[s,x],argTypes:= #[134,134]})
  (base) (A) (n c) (l) (hs:a.eval s= .slice A n c) (hown:aS w base A n c l)
  (B) (S) (m d) (k) (hx:a.eval x= .slice S m d) (hr:bM w B S m d k)
  (hlen:n+m≤8796093022208) (hbase:base≤w.heap.size)
  (h:∀A2 c2 w',aS w' base A2 (n+m) c2 (l++k)→w.grownBy w' (ab A)→(ab A2=ab A∨ab A2=some w.heap.size)→wpList prog ops Q rest (a.put o.dst (.slice A2 (n+m) c2)) w'):wpList prog ops Q (o::rest) a w:=by
 obtain⟨i0,hi0,hz0,hz1,hz2⟩:=AX Pf;refine bI w hgd s x _ ho base 9 i0 (.string ByteArray.empty) 1 16 underlying134 hi0 hz0 hz1 hz2 rfl Ah A n c (oF l) hs hown B S m d (oF k) hx hr (J3 k) (by unfold maxLen;omega) om hbase ?_;rw[←mG];exact h
theorem bM.one (w:World) (c):bM (w.alloc (.cells #[.string c] 9)) (w.heap.size+1) (some ⟨w.heap.size,0,none⟩) 1 1 [c]:=
 ⟨Nr _,by unfold maxLen;omega,rfl,fun _=>⟨_,0,rfl,om,fun i u hu=>by
  match i,hu with
  |0,hu=>
   simp[oF]at hu;subst hu;exact Au w _ _ _ 0⟩⟩
theorem bM.lit (w:World) (l) (h:l.length≤9223372036854775807):bM (w.alloc (.cells (oF l).toArray 9)) (w.heap.size+1) (some ⟨w.heap.size,0,none⟩) l.length l.length l:=
 ⟨Nr _,by unfold maxLen;omega,by simp[oF],fun _=>⟨_,0,rfl,om,fun i u hu=>by
  rw[cB];exact(Au w _ _ _ i).trans (by simpa using hu)⟩⟩
theorem aS.at_ {w} {base g n c k} {l} (h:aS w base (some ⟨g,0,none⟩) n c l) (hk:k<l.length):
  w.cell? ⟨g,k,none⟩=some (.string l[k])∧w.frozen? ⟨g,k,none⟩=false:=by
 have hn:=h.len;refine⟨?_,Ci h k⟩;rw[Cu h k om];simp[oF,sv,hk]
theorem aS.pos {w} {base n c} {A} {l} (h:aS w base A n c l) (hn:0<n):∃g,A=some ⟨g,0,none⟩∧base≤g∧g<w.heap.size:=ny h hn
end
end
section
section
open Go.RowKit
def tv (c:Int):Value:= .int .i64 c
def yc (l:List Int):List Value:=l.map tv
theorem Ha (l):(yc l).length=l.length:=by simp[yc]
theorem TT (l):∀u∈yc l,u.oneCell'=true:=by
 intro u hu;obtain⟨c,_,rfl⟩:=dM.1 hu
 rfl
theorem Hl (a b):yc (a++b)=yc a++yc b:=by simp[yc]
def vF (w:World) (B:Nat) (A:Option Addr) (n c:Nat) (l:List Int):Prop:=Rd w B 1 A n c (yc l)
theorem vF.len {w} {B n c} {A} {l} (h:vF w B A n c l):n=l.length:=by have:=h.2.2.1;rw[Ha]at this;omega
section
variable {w w':World} {B n c:Nat} {A:Option Addr} {l:List Int}
theorem vF.below (h:vF w B A n c l) (hb:Below B w w'):vF w' B A n c l:=Rd.below h hb
theorem vF.drewN (h:vF w B A n c l) (k):vF (w.drewN k) B A n c l:=h
end
theorem vF.at_ {w} {B n c k} {A} {l} (h:vF w B A n c l) (hk:k<l.length):∃b off,A=some ⟨b,off,none⟩∧b<B∧w.cell? ⟨b,off+k,none⟩=some (.int .i64 l[k]):=by
 obtain⟨b,off,u,e,hb,hu,hc⟩:=Rd.at_ h (show k<n by rw[h.len];exact hk);refine⟨b,off,e,hb,?_⟩;rw[hc];simp[yc,hk]at hu;rw[←hu];rfl
def eG (w:World) (base:Nat) (A:Option Addr) (n c:Nat) (l:List Int):Prop:=w.ownsRow base 2 1 (.slice A n c) n (yc l)
theorem eG.rd {w} {base n c} {A} {l} (h:eG w base A n c l):vF w w.heap.size A n c l:=Rd.bP h
theorem eG.len {w} {base n c} {A} {l} (h:eG w base A n c l):n=l.length:=h.rd.len
theorem aaK:(prog.info? 2).map (fun i=>(i.zero,i.size,i.bytes))=some (some (.int .i64 0),1,8):=kr
theorem Eh {w} {ops} {rest} {o} {a} {Q} (hgd:Region.wanted o (yielded ops a.tmps)=true) (s x)
  (ho:o.op= .call {callee:= .builtin .append,args:= #[s,x],argTypes:= #[281,281]})
  (base) (A) (n c) (l) (hs:a.eval s= .slice A n c) (hown:eG w base A n c l)
  (B) (S) (m d) (k) (hx:a.eval x= .slice S m d) (hr:vF w B S m d k)
  (hlen:n+m≤17592186044416) (hbase:base≤w.heap.size)
  (h:∀A2 c2 w',eG w' base A2 (n+m) c2 (l++k)→w.grownBy w' (ab A)→(ab A2=ab A∨ab A2=some w.heap.size)→wpList prog ops Q rest (a.put o.dst (.slice A2 (n+m) c2)) w'):wpList prog ops Q (o::rest) a w:=by
 obtain⟨i0,hi0,hz0,hz1,hz2⟩:=AX aaK;refine bI w hgd s x _ ho base 2 i0 (.int .i64 0) 1 8 underlying281 hi0 hz0 hz1 hz2 rfl Ah A n c (yc l) hs hown B S m d (yc k) hx hr (TT k) (by unfold maxLen;omega) om hbase ?_;rw[←Hl];exact h
theorem vF.one (w:World) (c):vF (w.alloc (.cells #[.int .i64 c] 2)) (w.heap.size+1) (some ⟨w.heap.size,0,none⟩) 1 1 [c]:=
 ⟨Nr _,by unfold maxLen;omega,rfl,fun _=>⟨_,0,rfl,om,fun i u hu=>by
  match i,hu with
  |0,hu=>
   simp[yc]at hu;subst hu;exact Au w _ _ _ 0⟩⟩
theorem eG.at_ {w} {base g n c k} {l} (h:eG w base (some ⟨g,0,none⟩) n c l) (hk:k<l.length):
  w.cell? ⟨g,k,none⟩=some (.int .i64 l[k])∧w.frozen? ⟨g,k,none⟩=false:=by
 have hn:=h.len;refine⟨?_,Ci h k⟩;rw[Cu h k om];simp[yc,tv,hk]
theorem eG.set {w} {base g n c} {l} (h:eG w base (some ⟨g,0,none⟩) n c l) (k) (x):
  eG (w.setCell ⟨g,k,none⟩ (.int .i64 x)) base (some ⟨g,0,none⟩) n c (l.set k x):=by
 have:=DJ h k (.int .i64 x);unfold eG;have e:yc (l.set k x)=(yc l).set k (.int .i64 x):=by simp[yc,tv,List.map_set]
 rw[e];exact this.1
def uv (c:Nat):Value:= .int .u64 (c:Int)
def uW (l:List Nat):List Value:=l.map uv
theorem jH (l):(uW l).length=l.length:=by simp[uW]
theorem TU (l):∀u∈uW l,u.oneCell'=true:=by
 intro u hu;obtain⟨c,_,rfl⟩:=dM.1 hu
 rfl
theorem Hu (a b):uW (a++b)=uW a++uW b:=by simp[uW]
def kg (w:World) (B:Nat) (A:Option Addr) (n c:Nat) (l:List Nat):Prop:=Rd w B 1 A n c (uW l)
theorem kg.len {w} {B n c} {A} {l} (h:kg w B A n c l):n=l.length:=by have:=h.2.2.1;rw[jH]at this;omega
section
variable {w w':World} {B n c:Nat} {A:Option Addr} {l:List Nat}
theorem kg.below (h:kg w B A n c l) (hb:Below B w w'):kg w' B A n c l:=Rd.below h hb
theorem kg.drewN (h:kg w B A n c l) (k):kg (w.drewN k) B A n c l:=h
end
theorem kg.at_ {w} {B n c k} {A} {l} (h:kg w B A n c l) (hk:k<l.length):∃b off,A=some ⟨b,off,none⟩∧b<B∧w.cell? ⟨b,off+k,none⟩=some (.int .u64 (l[k]:Int)):=by
 obtain⟨b,off,u,e,hb,hu,hc⟩:=Rd.at_ h (show k<n by rw[h.len];exact hk);refine⟨b,off,e,hb,?_⟩;rw[hc];simp[uW,hk]at hu;rw[←hu];rfl
def aG (w:World) (base:Nat) (A:Option Addr) (n c:Nat) (l:List Nat):Prop:=w.ownsRow base 125 1 (.slice A n c) n (uW l)
theorem aG.rd {w} {base n c} {A} {l} (h:aG w base A n c l):kg w w.heap.size A n c l:=Rd.bP h
theorem aG.len {w} {base n c} {A} {l} (h:aG w base A n c l):n=l.length:=h.rd.len
theorem Wl:(prog.info? 125).map (fun i=>(i.zero,i.size,i.bytes))=some (some (.int .u64 0),1,8):=kr
theorem dC {w} {ops} {rest} {o} {a} {Q} (hgd:Region.wanted o (yielded ops a.tmps)=true) (s x)
  (ho:o.op= .call {callee:= .builtin .append,args:= #[s,x],argTypes:= #[284,284]})
  (base) (A) (n c) (l) (hs:a.eval s= .slice A n c) (hown:aG w base A n c l)
  (B) (S) (m d) (k) (hx:a.eval x= .slice S m d) (hr:kg w B S m d k)
  (hlen:n+m≤17592186044416) (hbase:base≤w.heap.size)
  (h:∀A2 c2 w',aG w' base A2 (n+m) c2 (l++k)→w.grownBy w' (ab A)→(ab A2=ab A∨ab A2=some w.heap.size)→wpList prog ops Q rest (a.put o.dst (.slice A2 (n+m) c2)) w'):wpList prog ops Q (o::rest) a w:=by
 obtain⟨i0,hi0,hz0,hz1,hz2⟩:=AX Wl;refine bI w hgd s x _ ho base 125 i0 (.int .u64 0) 1 8 underlying284 hi0 hz0 hz1 hz2 rfl Ah A n c (uW l) hs hown B S m d (uW k) hx hr (TU k) (by unfold maxLen;omega) om hbase ?_;rw[←Hu];exact h
theorem kg.one (w:World) (c:Nat):kg (w.alloc (.cells #[.int .u64 (c:Int)] 125)) (w.heap.size+1) (some ⟨w.heap.size,0,none⟩) 1 1 [c]:=
 ⟨Nr _,by unfold maxLen;omega,rfl,fun _=>⟨_,0,rfl,om,fun i u hu=>by
  match i,hu with
  |0,hu=>
   simp[uW]at hu;subst hu;exact Au w _ _ _ 0⟩⟩
theorem aG.at_ {w} {base g n c k} {l} (h:aG w base (some ⟨g,0,none⟩) n c l) (hk:k<l.length):
  w.cell? ⟨g,k,none⟩=some (.int .u64 (l[k]:Int))∧w.frozen? ⟨g,k,none⟩=false:=by
 have hn:=h.len;refine⟨?_,Ci h k⟩;rw[Cu h k om];simp[uW,uv,hk]
theorem aG.set {w} {base g n c} {l} (h:aG w base (some ⟨g,0,none⟩) n c l) (k) (x:Nat):
  aG (w.setCell ⟨g,k,none⟩ (.int .u64 (x:Int))) base (some ⟨g,0,none⟩) n c (l.set k x):=by
 have:=DJ h k (.int .u64 (x:Int));unfold aG;have e:uW (l.set k x)=(uW l).set k (.int .u64 (x:Int)):=by simp[uW,uv,List.map_set]
 rw[e];exact this.1
theorem aG.pos {w} {base n c} {A} {l} (h:aG w base A n c l) (hn:0<n):∃g,A=some ⟨g,0,none⟩∧base≤g∧g<w.heap.size:=ny h hn
end
end
section
section
open Go.RowKit
def Gr (w w':World):Prop:=∃q os,w'=Sort.grow (w.drewN q) os
theorem Gr.refl (w):Gr w w:=⟨0,#[],by rw[Sort.grow_empty];rfl⟩
theorem Gr.trans {a b c} (h:Gr a b) (h':Gr b c):Gr a c:=by
 obtain⟨q,os,rfl⟩:=h;obtain⟨q',os',rfl⟩:=h';refine⟨q+q',os++os',?_⟩;show Sort.grow (Sort.grow ((a.drewN q).drewN q') os) os'=_;rw[Sort.grow_grow,World.drewN_drewN]
theorem Gr.alloc {a b} (h:Gr a b) (o):Gr a (b.alloc o):=h.trans ⟨0,#[o],by rw[Sort.alloc_eq_grow];rfl⟩
theorem Gr.drew {a b} (h:Gr a b):Gr a b.drew:=h.trans ⟨1,#[],by rw[Sort.grow_empty];rfl⟩
theorem Gr.drewN {a b} (h:Gr a b) (n):Gr a (b.drewN n):=h.trans ⟨n,#[],by rw[Sort.grow_empty]⟩
theorem Gr.size {a b} (h:Gr a b):a.heap.size≤b.heap.size:=by
 obtain⟨q,os,rfl⟩:=h;rw[Sort.size_grow];show a.heap.size≤a.heap.size+_;omega
theorem Gr.below {a b} (h:Gr a b):Below a.heap.size a b:=by
 have hs:=h.size;obtain⟨q,os,rfl⟩:=h;exact⟨rfl,rfl,rfl,hs,fun k hk=>Sort.heap_grow_old _ os hk⟩
theorem Gr.cell {a b} (h:Gr a b) (B o) (hB:B<a.heap.size):b.cell? ⟨B,o,none⟩=a.cell? ⟨B,o,none⟩:=h.below.cell (p:=⟨B,o,none⟩) hB
end
end
section
section
namespace St
def lt (a b:ByteArray):Bool:=Op.bytesLess a.toList b.toList
theorem tl (a:ByteArray):a.toList=a.data.toList:=by
 exact Lib.toList_data a
theorem yg {a b:ByteArray} (h:a.toList=b.toList):a=b:=by
 rw[tl,tl]at h;exact ByteArray.ext (Array.toList_inj.1 h)
theorem lt_iff (a b):lt a b=true↔a.toList<b.toList:=by unfold lt;rw[bytesLess_eq];simp
theorem irrefl (a):lt a a=false:=by
 rw[CB];intro h;rw[lt_iff]at h;exact List.lt_irrefl _ h
theorem trans {a b c} (h1:lt a b=true) (h2:lt b c=true):lt a c=true:=by
 rw[lt_iff]at*;exact List.lt_trans h1 h2
theorem asymm {a b} (h:lt a b=true):lt b a=false:=by
 rw[CB];intro h2;have:=trans h h2;rw[irrefl]at this;cases this
theorem total {a b} (h1:lt a b=false) (h2:lt b a=false):a=b:=by
 rw[CB,ne_eq,lt_iff]at h1 h2;exact yg (List.le_antisymm (List.not_lt.1 h2) (List.not_lt.1 h1))
theorem ntrans {a b c} (h1:lt a b=false) (h2:lt b c=false):lt a c=false:=by
 rw[CB,ne_eq,lt_iff]at*;rw[List.not_lt]at*;exact List.le_trans h2 h1
theorem eq_iff (a b:ByteArray):(a.toList==b.toList)=decide (a=b):=by
 by_cases h:a=b
 ·subst h;simp
 ·rw[Az h,CB];intro e;exact h (yg (by simpa using e))
def cmp (a b:ByteArray):Int:=if lt a b then-1 else if lt b a then 1 else 0
theorem jg {a b}:cmp a b=0↔a=b:=by
 unfold cmp;constructor
 ·intro h;by_cases h1:lt a b=true
  ·simp[h1]at h
  ·by_cases h2:lt b a=true
   ·simp[h1,h2]at h
   ·exact total (by simpa using h1) (by simpa using h2)
 ·rintro rfl;simp[irrefl]
theorem J4 {a b}:cmp a b<0↔lt a b=true:=by
 unfold cmp;by_cases h1:lt a b=true
 ·simp[h1]
 ·by_cases h2:lt b a=true<;>simp[h1,h2]
end St
end
end
section
section
open Go.RowKit
structure bf where
 n:ByteArray
 v:ByteArray
instance:DecidableEq bf:=fun a b=>decidable_of_iff (a.n=b.n∧a.v=b.v) ⟨fun h=>by cases a;cases b;simp_all,fun h=>by rw[h];exact⟨rfl,rfl⟩⟩
instance:Inhabited bf:=⟨⟨ByteArray.empty,ByteArray.empty⟩⟩
def vG (x:bf):List Value:=[.string x.n,.string x.v]
def wJ (L:List bf):List Value:=L.flatMap vG
theorem fC (L):(wJ L).length=L.length*2:=by
 unfold wJ
 induction L with
 |nil=>rfl
 |cons x L ih=>rw[Aq,La,ih,Lc];simp[vG];omega
theorem rG (L) (i k) (h:i<L.length) (hk:k<2):(wJ L)[i*2+k]? =(vG L[i])[k]?:=by
 unfold wJ
 induction L generalizing i with
 |nil=>simp at h
 |cons x L ih=>
  rw[Aq];have hx:(vG x).length=2:=rfl;cases i with
  |zero=>rw[CJ om];simp
  |succ i=>
   rw[Bq om,hx,show(i+1)*2+k-2=i*2+k from om];exact ih i (by simpa using h)
theorem TV (L):∀u∈wJ L,u.oneCell'=true:=by
 intro u hu;obtain⟨c,_,hc⟩:=kM.1 hu;simp[vG]at hc;rcases hc with rfl|rfl<;>rfl
theorem sH (a b):wJ (a++b)=wJ a++wJ b:=by simp[wJ]
def fD (w:World) (B:Nat) (A:Option Addr) (n c:Nat) (l:List bf):Prop:=Rd w B 2 A n c (wJ l)
theorem fD.len {w} {B n c} {A} {l} (h:fD w B A n c l):n=l.length:=by have:=h.2.2.1;rw[fC]at this;omega
section
variable {w w':World} {B n c:Nat} {A:Option Addr} {l:List bf}
theorem fD.below (h:fD w B A n c l) (hb:Below B w w'):fD w' B A n c l:=Rd.below h hb
theorem fD.more {B'} (h:fD w B A n c l) (hB:B≤B'):fD w B' A n c l:=Rd.more h hB
end
theorem fD.at_ {w} {B n c k} {A} {l} (h:fD w B A n c l) (hk:k<l.length):∃b off,A=some ⟨b,off,none⟩∧b<B∧w.cell? ⟨b,off+k*2,none⟩=some (.string l[k].n)∧w.cell? ⟨b,off+(k*2+1),none⟩=some (.string l[k].v):=by
 obtain⟨b,off,e,hb,hc⟩:=h.2.2.2 (by have:=h.len;omega);refine⟨b,off,e,hb,hc _ _ ?_,hc _ _ ?_⟩
 ·have:=rG l k 0 hk om;simpa[vG]using this
 ·have:=rG l k 1 hk om;simpa[vG]using this
def bV (w:World) (base:Nat) (A:Option Addr) (n c:Nat) (l:List bf):Prop:=w.ownsRow base 59 2 (.slice A n c) n (wJ l)
theorem bV.rd {w} {base n c} {A} {l} (h:bV w base A n c l):fD w w.heap.size A n c l:=Rd.bP h
theorem bV.len {w} {base n c} {A} {l} (h:bV w base A n c l):n=l.length:=h.rd.len
theorem Wm:(prog.info? 59).map (fun i=>(i.zero,i.size,i.bytes))=some (some (.agg #[.string ByteArray.empty,.string ByteArray.empty]),2,32):=kr
theorem qB {w} {ops} {rest} {o} {a} {Q} (hgd:Region.wanted o (yielded ops a.tmps)=true) (s x)
  (ho:o.op= .call {callee:= .builtin .append,args:= #[s,x],argTypes:= #[54,54]})
  (base) (A) (n c) (l) (hs:a.eval s= .slice A n c) (hown:bV w base A n c l)
  (B) (S) (m d) (k) (hx:a.eval x= .slice S m d) (hr:fD w B S m d k)
  (hlen:n+m≤4398046511104) (hbase:base≤w.heap.size)
  (h:∀A2 c2 w',bV w' base A2 (n+m) c2 (l++k)→w.grownBy w' (ab A)→(ab A2=ab A∨ab A2=some w.heap.size)→wpList prog ops Q rest (a.put o.dst (.slice A2 (n+m) c2)) w'):wpList prog ops Q (o::rest) a w:=by
 obtain⟨i0,hi0,hz0,hz1,hz2⟩:=AX Wm;refine bI w hgd s x _ ho base 59 i0 (.agg #[.string ByteArray.empty,.string ByteArray.empty]) 2 32 underlying54 hi0 hz0 hz1 hz2 rfl Ah A n c (wJ l) hs hown B S m d (wJ k) hx hr (TV k) (by unfold maxLen;omega) om hbase ?_;rw[←sH];exact h
theorem bV.nil (w) (base):bV w base none 0 0 []:=⟨rfl,.inl ⟨rfl,rfl⟩⟩
theorem fD.lit (w:World) (l) (fr) (h:l.length≤9223372036854775807):fD (w.alloc (.cells (wJ l).toArray 59 fr)) (w.heap.size+1) (some ⟨w.heap.size,0,none⟩) l.length l.length l:=
 ⟨Nr _,by unfold maxLen;omega,by rw[fC],fun _=>⟨_,0,rfl,om,fun i u hu=>by
  rw[cB];exact(Au w _ _ _ i).trans (by simpa using hu)⟩⟩
end
end
section
section
open Go.RowKit
abbrev Pg:=Int×Nat
def Gt (x:Pg):List Value:=[.int .i64 x.1,.int .u64 (x.2:Int)]
def nu (L:List Pg):List Value:=L.flatMap Gt
theorem mH (L):(nu L).length=L.length*2:=by
 unfold nu
 induction L with
 |nil=>rfl
 |cons x L ih=>rw[Aq,La,ih,Lc];simp[Gt];omega
theorem nL (L) (i k) (h:i<L.length) (hk:k<2):(nu L)[i*2+k]? =(Gt L[i])[k]?:=by
 unfold nu
 induction L generalizing i with
 |nil=>simp at h
 |cons x L ih=>
  rw[Aq];have hx:(Gt x).length=2:=rfl;cases i with
  |zero=>rw[CJ om];simp
  |succ i=>
   rw[Bq om,hx,show(i+1)*2+k-2=i*2+k from om];exact ih i (by simpa using h)
theorem TW (L):∀u∈nu L,u.oneCell'=true:=by
 intro u hu;obtain⟨c,_,hc⟩:=kM.1 hu;simp[Gt]at hc;rcases hc with rfl|rfl<;>rfl
theorem Hw (a b):nu (a++b)=nu a++nu b:=by simp[nu]
theorem jh (x) (b):nu (x::b)=Gt x++nu b:=by simp[nu]
theorem Ph (L) (k):(nu L).drop (k*2)=nu (L.drop k):=by
 induction k generalizing L with
 |zero=>simp
 |succ k ih=>
  cases L with
  |nil=>simp[nu]
  |cons x L=>rw[jh,Bv,show(k+1)*2=(k*2+1)+1 from om];simp only[Gt,AU,Bv,Ay];exact ih L
theorem Pj (L) (k):(nu L).take (k*2)=nu (L.take k):=by
 induction k generalizing L with
 |zero=>simp[nu]
 |succ k ih=>
  cases L with
  |nil=>simp[nu]
  |cons x L=>rw[jh,Bu,jh,show(k+1)*2=(k*2+1)+1 from om];simp only[Gt,AU,Bu,Ay];rw[ih L]
def gN (w:World) (B:Nat) (A:Option Addr) (n c:Nat) (l:List Pg):Prop:=Rd w B 2 A n c (nu l)
theorem gN.len {w} {B n c} {A} {l} (h:gN w B A n c l):n=l.length:=by have:=h.2.2.1;rw[mH]at this;omega
section
variable {w w':World} {B n c:Nat} {A:Option Addr} {l:List Pg}
theorem gN.below (h:gN w B A n c l) (hb:Below B w w'):gN w' B A n c l:=Rd.below h hb
theorem gN.more {B'} (h:gN w B A n c l) (hB:B≤B'):gN w B' A n c l:=Rd.more h hB
theorem gN.alloc (h:gN w B A n c l) (hB:B≤w.heap.size) (o):gN (w.alloc o) B A n c l:=Rd.alloc h hB o
theorem gN.take (h:gN w B A n c l) {k} (hk:k≤n):gN w B A k c (l.take k):=by
 have:=Rd.take (k:=k) h hk;rwa[Pj]at this
theorem gN.drop (h:gN w B A n c l) {k} (hk:k≤n):gN w B (if c=k then A else A.map (·.add (k*2))) (n-k) (c-k) (l.drop k):=by
 have:=Rd.drop (k:=k) h hk;rwa[Ph]at this
end
theorem gN.at_ {w} {B n c k} {A} {l} (h:gN w B A n c l) (hk:k<l.length):∃b off,A=some ⟨b,off,none⟩∧b<B∧w.cell? ⟨b,off+k*2,none⟩=some (.int .i64 l[k].1)∧w.cell? ⟨b,off+(k*2+1),none⟩=some (.int .u64 (l[k].2:Int)):=by
 obtain⟨b,off,e,hb,hc⟩:=h.2.2.2 (by have:=h.len;omega);refine⟨b,off,e,hb,hc _ _ ?_,hc _ _ ?_⟩
 ·have:=nL l k 0 hk om;simpa[Gt]using this
 ·have:=nL l k 1 hk om;simpa[Gt]using this
def bF (w:World) (base:Nat) (A:Option Addr) (n c:Nat) (l:List Pg):Prop:=w.ownsRow base 127 2 (.slice A n c) n (nu l)
theorem bF.rd {w} {base n c} {A} {l} (h:bF w base A n c l):gN w w.heap.size A n c l:=Rd.bP h
theorem bF.len {w} {base n c} {A} {l} (h:bF w base A n c l):n=l.length:=h.rd.len
theorem Pk:(prog.info? 127).map (fun i=>(i.zero,i.size,i.bytes))=some (some (.agg #[.int .i64 0,.int .u64 0]),2,16):=kr
theorem qC {w} {ops} {rest} {o} {a} {Q} (hgd:Region.wanted o (yielded ops a.tmps)=true) (s x)
  (ho:o.op= .call {callee:= .builtin .append,args:= #[s,x],argTypes:= #[55,55]})
  (base) (A) (n c) (l) (hs:a.eval s= .slice A n c) (hown:bF w base A n c l)
  (B) (S) (m d) (k) (hx:a.eval x= .slice S m d) (hr:gN w B S m d k)
  (hlen:n+m≤4398046511104) (hbase:base≤w.heap.size)
  (h:∀A2 c2 w',bF w' base A2 (n+m) c2 (l++k)→w.grownBy w' (ab A)→(ab A2=ab A∨ab A2=some w.heap.size)→wpList prog ops Q rest (a.put o.dst (.slice A2 (n+m) c2)) w'):wpList prog ops Q (o::rest) a w:=by
 obtain⟨i0,hi0,hz0,hz1,hz2⟩:=AX Pk;refine bI w hgd s x _ ho base 127 i0 (.agg #[.int .i64 0,.int .u64 0]) 2 16 underlying55 hi0 hz0 hz1 hz2 rfl Ah A n c (nu l) hs hown B S m d (nu k) hx hr (TW k) (by unfold maxLen;omega) om hbase ?_;rw[←Hw];exact h
theorem bF.nil (w) (base):bF w base none 0 0 []:=⟨rfl,.inl ⟨rfl,rfl⟩⟩
theorem bF.at_ {w} {base g n c k} {l} (h:bF w base (some ⟨g,0,none⟩) n c l) (hk:k<l.length):
  w.cell? ⟨g,k*2,none⟩=some (.int .i64 l[k].1)∧w.cell? ⟨g,k*2+1,none⟩=some (.int .u64 (l[k].2:Int))∧w.frozen? ⟨g,k*2,none⟩=false∧w.frozen? ⟨g,k*2+1,none⟩=false:=by
 have hn:=h.len;refine⟨?_,?_,Ci h _,Ci h _⟩
 ·rw[Cu h (k*2) om];have:=nL l k 0 hk om;simpa[Gt]using this
 ·rw[Cu h (k*2+1) om];have:=nL l k 1 hk om;simpa[Gt]using this
theorem TY (l) (k) (x):nu (l.set k x)=((nu l).set (k*2) (.int .i64 x.1)).set (k*2+1) (.int .u64 (x.2:Int)):=by
 induction l generalizing k with
 |nil=>simp[nu]
 |cons y l ih=>
  cases k with
  |zero=>simp[jh,Gt]
  |succ k=>
   rw[Ao,jh,jh,ih k,show(k+1)*2=k*2+1+1 from om];simp[Gt]
theorem bF.set {w} {base g n c} {l} (h:bF w base (some ⟨g,0,none⟩) n c l) (k) (x):
  bF ((w.setCell ⟨g,k*2,none⟩ (.int .i64 x.1)).setCell ⟨g,k*2+1,none⟩ (.int .u64 (x.2:Int))) base (some ⟨g,0,none⟩) n c (l.set k x):=by
 have h1:=(DJ h (k*2) (.int .i64 x.1)).1;have h2:=(DJ h1 (k*2+1) (.int .u64 (x.2:Int))).1;unfold bF;rw[TY];exact h2
end
end
section
section
namespace Sy
def gK (l:List ByteArray):Prop:=l.Pairwise fun x y=>St.lt x y=true
def eD (l t:List ByteArray):Prop:=gK t∧∀s,s∈t↔s∈l
theorem gK.nodup {l} (h:gK l):l.Nodup:=by
 unfold gK at h;exact h.imp fun{a b} hab e=>by rw[e,St.irrefl]at hab;cases hab
theorem Pm {a b} (ha:gK a) (hb:gK b) (h:∀s,s∈a↔s∈b):a=b:=by
 have hp:a.Perm b:=(List.perm_ext_iff_of_nodup ha.nodup hb.nodup).2 h;unfold gK at ha hb;refine List.Perm.eq_of_pairwise (fun x y _ _ h1 h2=>?_) ha hb hp;rw[St.asymm h1]at h2;cases h2
theorem eD.uniq {l a b} (ha:eD l a) (hb:eD l b):a=b:=Pm ha.1 hb.1 fun s=>(ha.2 s).trans (hb.2 s).symm
theorem gK.lt {t} (h:gK t) {i j} (hi:i<t.length) (hj:j<t.length) (hij:i<j):St.lt t[i] t[j]=true:=
 (BM.1 h) i j hi hj hij
theorem gK.inj {t} (h:gK t) {i j} (hi:i<t.length) (hj:j<t.length) (he:t[i]=t[j]):i=j:=by
 rcases Dr i j with h1|h1|h1
 ·have:=h.lt hi hj h1;rw[he,St.irrefl]at this;cases this
 ·exact h1
 ·have:=h.lt hj hi h1;rw[he,St.irrefl]at this;cases this
def idx (t:List ByteArray) (s:ByteArray):Option Nat:=t.findIdx? fun x=>decide (x=s)
theorem ib {t} {s} {k} (h:idx t s=some k):∃hk:k<t.length,t[k]=s∧∀j (hj:j<t.length),j<k→t[j]≠s:=by
 unfold idx at h;rw[List.findIdx?_eq_some_iff_getElem]at h;obtain⟨hk,h1,h2⟩:=h;refine⟨hk,by simpa using h1,fun j hj hjk=>?_⟩;have:=h2 j hjk;simpa using this
theorem XP {t} {s} {k} (hk:k<t.length) (h1:t[k]=s) (h2:∀j (hj:j<t.length),j<k→t[j]≠s):idx t s=some k:=by
 unfold idx;rw[List.findIdx?_eq_some_iff_getElem];exact⟨hk,by simpa using h1,fun j hj=>by simpa using h2 j om hj⟩
theorem Pn {t} {s}:idx t s=none↔∀j (hj:j<t.length),t[j]≠s:=by
 unfold idx;rw[List.findIdx?_eq_none_iff];constructor
 ·intro h j hj;simpa using h _ (ic hj)
 ·intro h x hx;obtain⟨j,hj,rfl⟩:=lV.1 hx;simpa using h j hj
theorem rH {t} (h:gK t) {s} {k} (hk:k<t.length) (he:t[k]=s):idx t s=some k:=
 XP hk he fun j hj hjk e=>by have:=h.inj hj hk (e.trans he.symm);omega
theorem search {t} (h : gK t) (s) :
    Lib.bsGo (fun i => Op.bytesLess (t.getD i ByteArray.empty).toList s.toList) t.length 0 t.length = (t.filter fun x => St.lt x s).length := by
  have key : ∀ (l : List ByteArray), gK l → ∃ k, k ≤ l.length ∧ (l.filter fun x => St.lt x s).length = k ∧ (∀ i (hi : i < l.length), i < k → St.lt l[i] s = true) ∧ (∀ i (hi : i < l.length), k ≤ i → St.lt l[i] s = false) := by
    intro l
    induction l with
    | nil => intro _; exact ⟨0, Nr _, rfl, fun i hi => by simp at hi, fun i hi => by simp at hi⟩
    | cons x l ih =>
      intro hs
      have hs' := Bo.1 hs
      obtain ⟨k, h1, h2, h3, h4⟩ := ih hs'.2
      cases hx : St.lt x s with
      | true =>
        refine ⟨k + 1, by simp; omega, by simp [hx, h2], fun i hi hik => ?_, fun i hi hik => ?_⟩
        · cases i with
          | zero => exact hx
          | succ i => exact h3 i (by simpa using hi) om
        · cases i with
          | zero => omega
          | succ i => exact h4 i (by simpa using hi) om
      | false =>
        have hall : ∀ y ∈ l, St.lt y s = false := fun y hy => by
          rw [CB]; intro hy2
          have := St.trans (hs'.1 y hy) hy2
          rw [hx] at this; cases this
        refine ⟨0, om, ?_, fun i hi hik => om, fun i hi _ => ?_⟩
        · rw [List.length_eq_zero_iff, List.filter_eq_nil_iff]
          intro y hy
          rcases iM.1 hy with rfl | hy
          · simp [hx]
          · simp [hall y hy]
        · cases i with
          | zero => exact hx
          | succ i => exact hall _ (ic _)
  obtain ⟨k, h1, h2, h3, h4⟩ := key t h
  rw [h2]
  have e := Lib.bsGo_spec (fun i => if i < t.length then Op.bytesLess (t.getD i ByteArray.empty).toList s.toList else false) k
    (fun i hi => by have hil : i < t.length := by omega
                    rw [Ps0 hil]; have := h3 i hil hi; simpa [St.lt, List.getD, hil] using this)
    (fun i hi => by
      by_cases hil : i < t.length
      · rw [Ps0 hil]; have := h4 i hil hi; simpa [St.lt, List.getD, hil] using this
      · rw [Ng hil])
    t.length 0 t.length om om h1
  rw [← e]
  have go : ∀ f lo hi, hi ≤ t.length → Lib.bsGo (fun i => Op.bytesLess (t.getD i ByteArray.empty).toList s.toList) f lo hi = Lib.bsGo (fun i => if i < t.length then Op.bytesLess (t.getD i ByteArray.empty).toList s.toList else false) f lo hi := by
    intro f
    induction f with
    | zero => intro lo hi _; rfl
    | succ f ih =>
      intro lo hi hh
      unfold Lib.bsGo
      by_cases hlt : lo < hi
      · rw [Ps0 hlt, Ps0 hlt, Ps0 (show (lo + hi) / 2 < t.length from om)]
        split
        · exact ih _ _ hh
        · exact ih _ _ om
      · rw [Ng hlt, Ng hlt]
  exact go _ _ _ Ai
theorem sI {t} (h:gK t) (s):
  let I:=(t.filter fun x=>St.lt x s).length
  (idx t s=some I∧∃hI:I<t.length,t[I]=s)∨(idx t s=none∧¬∃hI:I<t.length,t[I]=s):=by
 intro I;by_cases hI:∃hI:I<t.length,t[I]=s
 ·obtain⟨h1,h2⟩:=hI;exact .inl ⟨rH h h1 h2,h1,h2⟩
 ·refine .inr ⟨Pn.2 fun j hj he=>hI ?_,hI⟩;have hIj:I=j:=by
   show(t.filter fun x=>St.lt x s).length=j;have e:t=t.take j++t.drop j:=(jC j t).symm;have f1:(t.take j).filter (fun x=>St.lt x s)=t.take j:=by
    rw[List.filter_eq_self];intro x hx;obtain⟨i,hi,rfl⟩:=lV.1 hx;rw[lQ]at hi;rw[List.getElem_take,←he];exact h.lt om hj om
   have f2:(t.drop j).filter (fun x=>St.lt x s)=[]:=by
    rw[List.filter_eq_nil_iff];intro x hx;obtain⟨i,hi,rfl⟩:=lV.1 hx;rw[jX]at hi;rw[Dq,←he];by_cases h0:i=0
    ·subst h0;simp[St.irrefl]
    ·have:=h.lt hj (show j+i<t.length from om) om;rw[St.asymm this];simp
   conv=>lhs;rw[e]
   rw[List.filter_append,f1,f2,AZ,lQ];omega
  exact⟨om,by simpa[hIj]using he⟩
theorem eD.size {l t} (h:eD l t) {m} (hm:∀s∈l,s.size≤m):∀s∈t,s.size≤m:=fun s hs=>hm s ((h.2 s).1 hs)
theorem bY {α:Type} [DecidableEq α]:∀(a b:List α),a.Nodup→(∀x∈a,x∈b)→a.length≤b.length
 |[],b,_,_=>bE _
 |x::a,b,h,hs=>by
  have h':=List.nodup_cons.1 h;have hx:x∈b:=hs x sm;have:=bY a (b.erase x) h'.2 fun y hy=>by
   have hne:y≠x:=fun e=>h'.1 (e▸hy)
   exact(List.mem_erase_of_ne hne).2 (hs y (by simp[hy]))
  rw[List.length_erase_of_mem hx]at this;have:=List.length_pos_of_mem hx;simp;omega
theorem eD.len {l t} (h:eD l t):t.length≤l.length:=bY t l h.1.nodup fun s hs=>(h.2 s).1 hs
end Sy
end
end
section
section
namespace Lb
theorem ext {a b:bf} (h1:a.n=b.n) (h2:a.v=b.v):a=b:=by cases a;cases b;simp_all
def one (x:bf):Int:=if x.n.size=0 then 17 else if 65535<x.n.size∨65535<x.v.size then 7 else 0
def dI (l:List bf) (j:Nat):Int:=
 let x:=l.getD j default
 if one x≠0 then one x else if j=0 then 0 else
  let p:=l.getD (j-1) default
  if p.n=x.n then 18 else if St.lt x.n p.n then 16 else 0
def gI (f:Nat→Int) (n:Nat):Int:=(((List.range n).map f).find? fun e=>!decide (e=0)).getD 0
theorem dx (f) (n) (h:∀j,j<n→f j=0):gI f n=0:=by
 unfold gI;have:((List.range n).map f).find? (fun e=>!decide (e=0))=none:=by
  rw[List.find?_eq_none];intro e he;obtain⟨j,hj,rfl⟩:=dM.1 he;simp[h j (List.mem_range.1 hj)]
 rw[this];rfl
theorem bq (f) (n k) (hk:k<n) (h:∀j,j<k→f j=0) (he:f k≠0):gI f n=f k:=by
 unfold gI;have e1:List.range n=List.range k++k::(List.range (n-k-1)).map (·+(k+1)):=by
  apply List.ext_getElem?;intro i;by_cases h1:i<k
  ·rw[CJ (by simpa using h1)];simp[h1,show i<n from om]
  ·rw[Bq (by simpa using h1)];simp only[Cq];by_cases h2:i=k
   ·subst h2;simp[hk]
   ·obtain⟨m,hm⟩:∃m,i-k=m+1:=⟨i-k-1,om⟩
    rw[hm,List.getElem?_cons_succ];by_cases h3:i<n
    ·simp[h3,show m<n-k-1 from om];omega
    ·rw[BC (by simpa using h3),BC (by simp;omega)]
 have h0:((List.range k).map f).find? (fun e=>!decide (e=0))=none:=by
  rw[List.find?_eq_none];intro e he2;obtain⟨j,hj,rfl⟩:=dM.1 he2;simp[h j (List.mem_range.1 hj)]
 rw[e1,dY,List.find?_append,h0,AA,List.find?_cons];simp[he]
def bN (l:List bf):Int:=gI (dI l) l.length
theorem getD_at {l:List bf} {j} (h:j<l.length):l.getD j default=l[j]:=by simp[List.getD,h]
def pz (x y:bf):Int:=if St.cmp x.n y.n=0 then St.cmp x.v y.v else St.cmp x.n y.n
def cmpL:List bf→List bf→Int
 |[],[]=>0
 |[],_::_=> -1
 |_::_,[]=>1
 |x::a,y::b=>if pz x y=0 then cmpL a b else pz x y
theorem wK {a b}:pz a b=0↔a=b:=by
 unfold pz;constructor
 ·intro h;split at h
  ·next h0=>exact ext (St.jg.1 h0) (St.jg.1 h)
  ·next h0=>exact absurd h h0
 ·rintro rfl;have h1:St.cmp a.n a.n=0:=St.jg.2 rfl;have h2:St.cmp a.v a.v=0:=St.jg.2 rfl;simp[h1,h2]
theorem Mf {a b}:cmpL a b=0↔a=b:=by
 induction a generalizing b with
 |nil=>cases b<;>simp[cmpL]
 |cons x a ih=>
  cases b with
  |nil=>simp[cmpL]
  |cons y b=>
   simp only[cmpL];by_cases h0:pz x y=0
   ·rw[Ps0 h0,ih,wK.1 h0];simp
   ·rw[Ng h0];refine⟨fun h=>absurd h h0,fun h=>?_⟩
    injection h with h1 h2
    exact absurd (wK.2 h1) h0
theorem wL (a b:List bf) (k) (ha:k<a.length) (hb:k<b.length):
  cmpL (a.drop k) (b.drop k)=if pz a[k] b[k]=0 then cmpL (a.drop (k+1)) (b.drop (k+1))else pz a[k] b[k]:=by
 rw[oN ha,oN hb,cmpL]
theorem wM (a b:List bf) (k) (ha:k=a.length) (hb:k<b.length):cmpL (a.drop k) (b.drop k)= -1:=by
 subst ha;rw[List.drop_length,oN hb,cmpL]
theorem wN (a b:List bf) (k) (ha:k<a.length) (hb:k=b.length):cmpL (a.drop k) (b.drop k)=1:=by
 subst hb;rw[List.drop_length,oN ha,cmpL]
theorem wO (a b:List bf) (k) (ha:k=a.length) (hb:k=b.length):cmpL (a.drop k) (b.drop k)=0:=by
 subst ha;rw[List.drop_length,hb,List.drop_length,cmpL]
def strs (l:List bf):List ByteArray:=l.flatMap fun x=>[x.n,x.v]
theorem aQ (l):(strs l).length=2*l.length:=by
 unfold strs
 induction l with
 |nil=>rfl
 |cons x l ih=>rw[Aq,La,ih,Lc];simp;omega
theorem wP (l:List bf) (k) (h:k<l.length):strs (l.take (k+1))=strs (l.take k)++[l[k].n,l[k].v]:=by
 unfold strs;rw[Ts h,oV];simp
end Lb
end
end
section
section
namespace Lb
theorem sJ (f) (n):(gI f n=0∧∀j,j<n→f j=0)∨∃k,k<n∧f k≠0∧gI f n=f k∧∀j,j<k→f j=0:=by
 have key:∀m,m≤n→(∀j,j<m→f j=0)∨∃k,k<m∧f k≠0∧∀j,j<k→f j=0:=by
  intro m
  induction m with
  |zero=>intro _;exact .inl fun j hj=>om
  |succ m ih=>
   intro hm;rcases ih om with h|⟨k,h1,h2,h3⟩
   ·by_cases hf:f m=0
    ·refine .inl fun j hj=>?_
     by_cases hjm:j=m
     ·subst hjm;exact hf
     ·exact h j om
    ·exact .inr ⟨m,om,hf,h⟩
   ·exact .inr ⟨k,om,h2,h3⟩
 rcases key n Ai with h|⟨k,h1,h2,h3⟩
 ·exact .inl ⟨dx f n h,h⟩
 ·exact .inr ⟨k,h1,h2,bq f n k h1 h3 h2,h3⟩
def gK (l:List bf):Prop:=l.Pairwise fun x y=>St.lt x.n y.n=true
theorem Hz {l:List bf} (h:∀j (hj:j+1<l.length),St.lt l[j].n l[j+1].n=true):gK l:=by
 unfold gK;rw[BM];intro i j hi hj hij
 induction j with
 |zero=>omega
 |succ j ih=>
  by_cases e:i=j
  ·subst e;exact h i hj
  ·exact St.trans (ih om om) (h j hj)
end Lb
end
end
end Go.Proofs.YtjcpmfphnodaaaaGreatDoor
