/- Part 4. -/
import Derived.Test.YtongopommlghgaaGreatDoorZJAA
import Derived.Sort.Walk0
import Derived.Shelf.Spec.SearchS
import Derived.Shelf.SlSortCmp.QuietGrown
import Derived.Laws.EntriesVeiled
import Derived.Deep.RegionHeld3
namespace Go.Proofs.YtongopommlghgaaGreatDoor
set_option maxRecDepth 100000
set_option maxHeartbeats 0
theorem BU:type_of% @Go.Calls.grown_of:= @Go.Calls.grown_of
theorem Eh:type_of% @Go.cell_grown:= @Go.cell_grown
open _root_.Go.Proofs.Tryz
section
section
open Go.RowKit
def iv (c:Int):Value:= .int .i64 c
def Ff (l:List Int):List Value:=l.map iv
theorem I8 (l):(Ff l).length=l.length:=by simp[Ff]
theorem Vj (l):∀u∈Ff l,u.oneCell'=true:=by
 intro u hu;obtain⟨c,_,rfl⟩:=dV.1 hu
 rfl
theorem I9 (a b):Ff (a++b)=Ff a++Ff b:=by simp[Ff]
def jF (w:World) (B:Nat) (A:Option Addr) (n c:Nat) (l:List Int):Prop:=Rd w B 1 A n c (Ff l)
theorem jF.len {w B n c A l} (h:jF w B A n c l):n=l.length:=by have:=h.2.2.1;rw[I8]at this;omega
section
variable {w w':World} {B n c:Nat} {A:Option Addr} {l:List Int}
theorem jF.below (h:jF w B A n c l) (hb:Below B w w'):jF w' B A n c l:=Rd.below h hb
theorem jF.more {B'} (h:jF w B A n c l) (hB:B≤B'):jF w B' A n c l:=Rd.more h hB
theorem jF.alloc (h:jF w B A n c l) (hB:B≤w.heap.size) (o):jF (w.alloc o) B A n c l:=Rd.alloc h hB o
end
theorem jF.at_ {w B n c k A l} (h:jF w B A n c l) (hk:k<l.length):∃b off,A=some ⟨b,off,none⟩∧b<B∧w.cell? ⟨b,off+k,none⟩=some (.int .i64 l[k]):=by
 obtain⟨b,off,u,e,hb,hu,hc⟩:=Rd.at_ h (show k<n by rw[h.len];exact hk);refine⟨b,off,e,hb,?_⟩;rw[hc];simp[Ff,hk]at hu;rw[←hu];rfl
def aO (w:World) (base:Nat) (A:Option Addr) (n c:Nat) (l:List Int):Prop:=w.ownsRow base 3 1 (.slice A n c) n (Ff l)
theorem aO.rd {w base n c A l} (h:aO w base A n c l):jF w w.heap.size A n c l:=Rd.bz h
theorem aO.len {w base n c A l} (h:aO w base A n c l):n=l.length:=h.rd.len
theorem Qt:(prog.info? 3).map (fun i=>(i.zero,i.size,i.bytes))=some (some (.int .i64 0),1,8):=kr
theorem eD {w ops rest o a Q} (hgd:Region.wanted o (yielded ops a.tmps)=true) (s x)
  (ho:o.op= .call {callee:= .builtin .append,args:= #[s,x],argTypes:= #[62,62]})
  (base A n c l) (hs:a.eval s= .slice A n c) (hown:aO w base A n c l)
  (B S m d k) (hx:a.eval x= .slice S m d) (hr:jF w B S m d k)
  (hlen:n+m≤17592186044416) (hbase:base≤w.heap.size)
  (h:∀A2 c2 w',aO w' base A2 (n+m) c2 (l++k)→w.grownBy w' (ab A)→(ab A2=ab A∨ab A2=some w.heap.size)→wpList prog ops Q rest (a.put o.dst (.slice A2 (n+m) c2)) w'):wpList prog ops Q (o::rest) a w:=by
 obtain⟨i0,hi0,hz0,hz1,hz2⟩:=AY Qt;refine bA w hgd s x _ ho base 3 i0 (.int .i64 0) 1 8 underlying62 hi0 hz0 hz1 hz2 rfl Ai A n c (Ff l) hs hown B S m d (Ff k) hx hr (Vj k) (by unfold maxLen;omega) om hbase ?_;rw[←I9];exact h
theorem jF.one (w:World) (c):jF (w.alloc (.cells #[.int .i64 c] 3)) (w.heap.size+1) (some ⟨w.heap.size,0,none⟩) 1 1 [c]:=
 ⟨Nr _,by unfold maxLen;omega,rfl,fun _=>⟨_,0,rfl,om,fun i u hu=>by
  match i,hu with
  |0,hu=>
   simp[Ff]at hu;subst hu;exact Aq w _ _ _ 0⟩⟩
theorem jF.lit (w:World) (l) (h:l.length≤9223372036854775807):jF (w.alloc (.cells (Ff l).toArray 3)) (w.heap.size+1) (some ⟨w.heap.size,0,none⟩) l.length l.length l:=
 ⟨Nr _,by unfold maxLen;omega,by simp[Ff],fun _=>⟨_,0,rfl,om,fun i u hu=>by
  rw[bO];exact(Aq w _ _ _ i).trans (by simpa using hu)⟩⟩
end
end
section
section
open Go.RowKit
def sv (c:ByteArray):Value:= .string c
def oL (l:List ByteArray):List Value:=l.map sv
theorem Ja (l):(oL l).length=l.length:=by simp[oL]
theorem KU (l):∀u∈oL l,u.oneCell'=true:=by
 intro u hu;obtain⟨c,_,rfl⟩:=dV.1 hu
 rfl
theorem mP (a b):oL (a++b)=oL a++oL b:=by simp[oL]
def bM (w:World) (B:Nat) (A:Option Addr) (n c:Nat) (l:List ByteArray):Prop:=Rd w B 1 A n c (oL l)
theorem bM.len {w B n c A l} (h:bM w B A n c l):n=l.length:=by have:=h.2.2.1;rw[Ja]at this;omega
section
variable {w w':World} {B n c:Nat} {A:Option Addr} {l:List ByteArray}
theorem bM.below (h:bM w B A n c l) (hb:Below B w w'):bM w' B A n c l:=Rd.below h hb
theorem bM.more {B'} (h:bM w B A n c l) (hB:B≤B'):bM w B' A n c l:=Rd.more h hB
theorem bM.alloc (h:bM w B A n c l) (hB:B≤w.heap.size) (o):bM (w.alloc o) B A n c l:=Rd.alloc h hB o
theorem bM.grown (h:bM w B A n c l) {row} (hg:w.grownBy w' row) (hB:B≤w.heap.size) (hr:∀g,row=some g→B≤g):bM w' B A n c l:=Rd.grown h hg hB hr
end
theorem bM.at_ {w B n c k A l} (h:bM w B A n c l) (hk:k<l.length):∃b off,A=some ⟨b,off,none⟩∧b<B∧w.cell? ⟨b,off+k,none⟩=some (.string l[k]):=by
 obtain⟨b,off,u,e,hb,hu,hc⟩:=Rd.at_ h (show k<n by rw[h.len];exact hk);refine⟨b,off,e,hb,?_⟩;rw[hc];simp[oL,hk]at hu;rw[←hu];rfl
def aR (w:World) (base:Nat) (A:Option Addr) (n c:Nat) (l:List ByteArray):Prop:=w.ownsRow base 9 1 (.slice A n c) n (oL l)
theorem aR.rd {w base n c A l} (h:aR w base A n c l):bM w w.heap.size A n c l:=Rd.bz h
theorem aR.len {w base n c A l} (h:aR w base A n c l):n=l.length:=h.rd.len
theorem Qu:(prog.info? 9).map (fun i=>(i.zero,i.size,i.bytes))=some (some (.string ByteArray.empty),1,16):=kr
theorem gJ {w ops rest o a Q} (hgd:Region.wanted o (yielded ops a.tmps)=true) (s x)
  (ho:o.op= .call {callee:= .builtin .append,args:= #[s,x],argTypes:= #[134,134]})
  (base A n c l) (hs:a.eval s= .slice A n c) (hown:aR w base A n c l)
  (B S m d k) (hx:a.eval x= .slice S m d) (hr:bM w B S m d k)
  (hlen:n+m≤8796093022208) (hbase:base≤w.heap.size)
  (h:∀A2 c2 w',aR w' base A2 (n+m) c2 (l++k)→w.grownBy w' (ab A)→(ab A2=ab A∨ab A2=some w.heap.size)→wpList prog ops Q rest (a.put o.dst (.slice A2 (n+m) c2)) w'):wpList prog ops Q (o::rest) a w:=by
 obtain⟨i0,hi0,hz0,hz1,hz2⟩:=AY Qu;refine bA w hgd s x _ ho base 9 i0 (.string ByteArray.empty) 1 16 underlying134 hi0 hz0 hz1 hz2 rfl Ai A n c (oL l) hs hown B S m d (oL k) hx hr (KU k) (by unfold maxLen;omega) om hbase ?_;rw[←mP];exact h
theorem bM.one (w:World) (c):bM (w.alloc (.cells #[.string c] 9)) (w.heap.size+1) (some ⟨w.heap.size,0,none⟩) 1 1 [c]:=
 ⟨Nr _,by unfold maxLen;omega,rfl,fun _=>⟨_,0,rfl,om,fun i u hu=>by
  match i,hu with
  |0,hu=>
   simp[oL]at hu;subst hu;exact Aq w _ _ _ 0⟩⟩
theorem bM.lit (w:World) (l) (h:l.length≤9223372036854775807):bM (w.alloc (.cells (oL l).toArray 9)) (w.heap.size+1) (some ⟨w.heap.size,0,none⟩) l.length l.length l:=
 ⟨Nr _,by unfold maxLen;omega,by simp[oL],fun _=>⟨_,0,rfl,om,fun i u hu=>by
  rw[bO];exact(Aq w _ _ _ i).trans (by simpa using hu)⟩⟩
theorem aR.at_ {w base g n c k l} (h:aR w base (some ⟨g,0,none⟩) n c l) (hk:k<l.length):
  w.cell? ⟨g,k,none⟩=some (.string l[k])∧w.frozen? ⟨g,k,none⟩=false:=by
 have hn:=h.len;refine⟨?_,AX h k⟩;rw[Bq h k om];simp[oL,sv,hk]
theorem aR.pos {w base n c A l} (h:aR w base A n c l) (hn:0<n):∃g,A=some ⟨g,0,none⟩∧base≤g∧g<w.heap.size:=gG h hn
end
end
section
section
open Go.RowKit
def tv (c:Int):Value:= .int .i64 c
def yB (l:List Int):List Value:=l.map tv
theorem Jb (l):(yB l).length=l.length:=by simp[yB]
theorem Vk (l):∀u∈yB l,u.oneCell'=true:=by
 intro u hu;obtain⟨c,_,rfl⟩:=dV.1 hu
 rfl
theorem Jc (a b):yB (a++b)=yB a++yB b:=by simp[yB]
def vP (w:World) (B:Nat) (A:Option Addr) (n c:Nat) (l:List Int):Prop:=Rd w B 1 A n c (yB l)
theorem vP.len {w B n c A l} (h:vP w B A n c l):n=l.length:=by have:=h.2.2.1;rw[Jb]at this;omega
section
variable {w w':World} {B n c:Nat} {A:Option Addr} {l:List Int}
theorem vP.below (h:vP w B A n c l) (hb:Below B w w'):vP w' B A n c l:=Rd.below h hb
theorem vP.drewN (h:vP w B A n c l) (k):vP (w.drewN k) B A n c l:=h
end
theorem vP.at_ {w B n c k A l} (h:vP w B A n c l) (hk:k<l.length):∃b off,A=some ⟨b,off,none⟩∧b<B∧w.cell? ⟨b,off+k,none⟩=some (.int .i64 l[k]):=by
 obtain⟨b,off,u,e,hb,hu,hc⟩:=Rd.at_ h (show k<n by rw[h.len];exact hk);refine⟨b,off,e,hb,?_⟩;rw[hc];simp[yB,hk]at hu;rw[←hu];rfl
def eZ (w:World) (base:Nat) (A:Option Addr) (n c:Nat) (l:List Int):Prop:=w.ownsRow base 2 1 (.slice A n c) n (yB l)
theorem eZ.rd {w base n c A l} (h:eZ w base A n c l):vP w w.heap.size A n c l:=Rd.bz h
theorem eZ.len {w base n c A l} (h:eZ w base A n c l):n=l.length:=h.rd.len
theorem acg:(prog.info? 2).map (fun i=>(i.zero,i.size,i.bytes))=some (some (.int .i64 0),1,8):=kr
theorem Fg {w ops rest o a Q} (hgd:Region.wanted o (yielded ops a.tmps)=true) (s x)
  (ho:o.op= .call {callee:= .builtin .append,args:= #[s,x],argTypes:= #[281,281]})
  (base A n c l) (hs:a.eval s= .slice A n c) (hown:eZ w base A n c l)
  (B S m d k) (hx:a.eval x= .slice S m d) (hr:vP w B S m d k)
  (hlen:n+m≤17592186044416) (hbase:base≤w.heap.size)
  (h:∀A2 c2 w',eZ w' base A2 (n+m) c2 (l++k)→w.grownBy w' (ab A)→(ab A2=ab A∨ab A2=some w.heap.size)→wpList prog ops Q rest (a.put o.dst (.slice A2 (n+m) c2)) w'):wpList prog ops Q (o::rest) a w:=by
 obtain⟨i0,hi0,hz0,hz1,hz2⟩:=AY acg;refine bA w hgd s x _ ho base 2 i0 (.int .i64 0) 1 8 underlying281 hi0 hz0 hz1 hz2 rfl Ai A n c (yB l) hs hown B S m d (yB k) hx hr (Vk k) (by unfold maxLen;omega) om hbase ?_;rw[←Jc];exact h
theorem vP.one (w:World) (c):vP (w.alloc (.cells #[.int .i64 c] 2)) (w.heap.size+1) (some ⟨w.heap.size,0,none⟩) 1 1 [c]:=
 ⟨Nr _,by unfold maxLen;omega,rfl,fun _=>⟨_,0,rfl,om,fun i u hu=>by
  match i,hu with
  |0,hu=>
   simp[yB]at hu;subst hu;exact Aq w _ _ _ 0⟩⟩
theorem eZ.at_ {w base g n c k l} (h:eZ w base (some ⟨g,0,none⟩) n c l) (hk:k<l.length):
  w.cell? ⟨g,k,none⟩=some (.int .i64 l[k])∧w.frozen? ⟨g,k,none⟩=false:=by
 have hn:=h.len;refine⟨?_,AX h k⟩;rw[Bq h k om];simp[yB,tv,hk]
theorem eZ.set {w base g n c l} (h:eZ w base (some ⟨g,0,none⟩) n c l) (k x):
  eZ (w.setCell ⟨g,k,none⟩ (.int .i64 x)) base (some ⟨g,0,none⟩) n c (l.set k x):=by
 have:=BJ h k (.int .i64 x);unfold eZ;have e:yB (l.set k x)=(yB l).set k (.int .i64 x):=by simp[yB,tv]
 rw[e];exact this.1
def uv (c:Nat):Value:= .int .u64 (c:Int)
def vB (l:List Nat):List Value:=l.map uv
theorem jI (l):(vB l).length=l.length:=by simp[vB]
theorem Vl (l):∀u∈vB l,u.oneCell'=true:=by
 intro u hu;obtain⟨c,_,rfl⟩:=dV.1 hu
 rfl
theorem Jd (a b):vB (a++b)=vB a++vB b:=by simp[vB]
def j6 (w:World) (B:Nat) (A:Option Addr) (n c:Nat) (l:List Nat):Prop:=Rd w B 1 A n c (vB l)
theorem j6.len {w B n c A l} (h:j6 w B A n c l):n=l.length:=by have:=h.2.2.1;rw[jI]at this;omega
section
variable {w w':World} {B n c:Nat} {A:Option Addr} {l:List Nat}
theorem j6.below (h:j6 w B A n c l) (hb:Below B w w'):j6 w' B A n c l:=Rd.below h hb
theorem j6.drewN (h:j6 w B A n c l) (k):j6 (w.drewN k) B A n c l:=h
end
theorem j6.at_ {w B n c k A l} (h:j6 w B A n c l) (hk:k<l.length):∃b off,A=some ⟨b,off,none⟩∧b<B∧w.cell? ⟨b,off+k,none⟩=some (.int .u64 (l[k]:Int)):=by
 obtain⟨b,off,u,e,hb,hu,hc⟩:=Rd.at_ h (show k<n by rw[h.len];exact hk);refine⟨b,off,e,hb,?_⟩;rw[hc];simp[vB,hk]at hu;rw[←hu];rfl
def aG (w:World) (base:Nat) (A:Option Addr) (n c:Nat) (l:List Nat):Prop:=w.ownsRow base 125 1 (.slice A n c) n (vB l)
theorem aG.rd {w base n c A l} (h:aG w base A n c l):j6 w w.heap.size A n c l:=Rd.bz h
theorem aG.len {w base n c A l} (h:aG w base A n c l):n=l.length:=h.rd.len
theorem Yd:(prog.info? 125).map (fun i=>(i.zero,i.size,i.bytes))=some (some (.int .u64 0),1,8):=kr
theorem dF {w ops rest o a Q} (hgd:Region.wanted o (yielded ops a.tmps)=true) (s x)
  (ho:o.op= .call {callee:= .builtin .append,args:= #[s,x],argTypes:= #[284,284]})
  (base A n c l) (hs:a.eval s= .slice A n c) (hown:aG w base A n c l)
  (B S m d k) (hx:a.eval x= .slice S m d) (hr:j6 w B S m d k)
  (hlen:n+m≤17592186044416) (hbase:base≤w.heap.size)
  (h:∀A2 c2 w',aG w' base A2 (n+m) c2 (l++k)→w.grownBy w' (ab A)→(ab A2=ab A∨ab A2=some w.heap.size)→wpList prog ops Q rest (a.put o.dst (.slice A2 (n+m) c2)) w'):wpList prog ops Q (o::rest) a w:=by
 obtain⟨i0,hi0,hz0,hz1,hz2⟩:=AY Yd;refine bA w hgd s x _ ho base 125 i0 (.int .u64 0) 1 8 underlying284 hi0 hz0 hz1 hz2 rfl Ai A n c (vB l) hs hown B S m d (vB k) hx hr (Vl k) (by unfold maxLen;omega) om hbase ?_;rw[←Jd];exact h
theorem j6.one (w:World) (c:Nat):j6 (w.alloc (.cells #[.int .u64 (c:Int)] 125)) (w.heap.size+1) (some ⟨w.heap.size,0,none⟩) 1 1 [c]:=
 ⟨Nr _,by unfold maxLen;omega,rfl,fun _=>⟨_,0,rfl,om,fun i u hu=>by
  match i,hu with
  |0,hu=>
   simp[vB]at hu;subst hu;exact Aq w _ _ _ 0⟩⟩
theorem aG.at_ {w base g n c k l} (h:aG w base (some ⟨g,0,none⟩) n c l) (hk:k<l.length):
  w.cell? ⟨g,k,none⟩=some (.int .u64 (l[k]:Int))∧w.frozen? ⟨g,k,none⟩=false:=by
 have hn:=h.len;refine⟨?_,AX h k⟩;rw[Bq h k om];simp[vB,uv,hk]
theorem aG.set {w base g n c l} (h:aG w base (some ⟨g,0,none⟩) n c l) (k) (x:Nat):
  aG (w.setCell ⟨g,k,none⟩ (.int .u64 (x:Int))) base (some ⟨g,0,none⟩) n c (l.set k x):=by
 have:=BJ h k (.int .u64 (x:Int));unfold aG;have e:vB (l.set k x)=(vB l).set k (.int .u64 (x:Int)):=by simp[vB,uv]
 rw[e];exact this.1
theorem aG.pos {w base n c A l} (h:aG w base A n c l) (hn:0<n):∃g,A=some ⟨g,0,none⟩∧base≤g∧g<w.heap.size:=gG h hn
end
end
section
section
open Go.RowKit
def Gr (w w':World):Prop:=∃q os,w'=Sort.grow (w.drewN q) os
theorem Gr.refl (w):Gr w w:=⟨0,#[],by rw[Sort.grow_empty];rfl⟩
theorem Gr.trans {a b c} (h:Gr a b) (h':Gr b c):Gr a c:=by
 obtain⟨q,os,rfl⟩:=h;obtain⟨q',os',rfl⟩:=h';refine⟨q+q',os++os',?_⟩;show Sort.grow (Sort.grow ((a.drewN q).drewN q') os) os'=_;rw[Sort.grow_grow,World.drewN_drewN]
theorem Gr.alloc {a b} (h:Gr a b) (o):Gr a (b.alloc o):=h.trans ⟨0,#[o],by rw[Sort.alloc_eq_grow];rfl⟩
theorem Gr.drew {a b} (h:Gr a b):Gr a b.drew:=h.trans ⟨1,#[],by rw[Sort.grow_empty];rfl⟩
theorem Gr.drewN {a b} (h:Gr a b) (n):Gr a (b.drewN n):=h.trans ⟨n,#[],by rw[Sort.grow_empty]⟩
theorem Gr.size {a b} (h:Gr a b):a.heap.size≤b.heap.size:=by
 obtain⟨q,os,rfl⟩:=h;rw[Sort.size_grow];show a.heap.size≤a.heap.size+_;omega
theorem Gr.below {a b} (h:Gr a b):Below a.heap.size a b:=by
 have hs:=h.size;obtain⟨q,os,rfl⟩:=h;exact⟨rfl,rfl,rfl,hs,fun k hk=>Sort.heap_grow_old _ os hk⟩
theorem Gr.cell {a b} (h:Gr a b) (B o) (hB:B<a.heap.size):b.cell? ⟨B,o,none⟩=a.cell? ⟨B,o,none⟩:=h.below.cell (p:=⟨B,o,none⟩) hB
end
end
section
section
namespace St
def lt (a b:ByteArray):Bool:=Op.bytesLess a.toList b.toList
theorem tl (a:ByteArray):a.toList=a.data.toList:=by
 exact Lib.toList_data a
theorem yC {a b:ByteArray} (h:a.toList=b.toList):a=b:=by
 rw[tl,tl]at h;exact ByteArray.ext (Array.toList_inj.1 h)
theorem lt_iff (a b):lt a b=true↔a.toList<b.toList:=by unfold lt;rw[bytesLess_eq];simp
theorem irrefl (a):lt a a=false:=by
 rw[Dh];intro h;rw[lt_iff]at h;exact List.lt_irrefl _ h
theorem trans {a b c} (h1:lt a b=true) (h2:lt b c=true):lt a c=true:=by
 rw[lt_iff]at*;exact List.lt_trans h1 h2
theorem asymm {a b} (h:lt a b=true):lt b a=false:=by
 rw[Dh];intro h2;have:=trans h h2;rw[irrefl]at this;cases this
theorem total {a b} (h1:lt a b=false) (h2:lt b a=false):a=b:=by
 rw[Dh,ne_eq,lt_iff]at h1 h2;exact yC (List.le_antisymm (List.not_lt.1 h2) (List.not_lt.1 h1))
theorem ntrans {a b c} (h1:lt a b=false) (h2:lt b c=false):lt a c=false:=by
 rw[Dh,ne_eq,lt_iff]at*;rw[List.not_lt]at*;exact List.le_trans h2 h1
theorem eq_iff (a b:ByteArray):(a.toList==b.toList)=decide (a=b):=by
 by_cases h:a=b
 ·subst h;simp
 ·rw[AA h,Dh];intro e;exact h (yC (by simpa using e))
def cmp (a b:ByteArray):Int:=if lt a b then-1 else if lt b a then 1 else 0
theorem dM {a b}:cmp a b=0↔a=b:=by
 unfold cmp;constructor
 ·intro h;by_cases h1:lt a b=true
  ·simp[h1]at h
  ·by_cases h2:lt b a=true
   ·simp[h1,h2]at h
   ·exact total (by simpa using h1) (by simpa using h2)
 ·rintro rfl;simp[irrefl]
theorem nL {a b}:cmp a b<0↔lt a b=true:=by
 unfold cmp;by_cases h1:lt a b=true
 ·simp[h1]
 ·by_cases h2:lt b a=true<;>simp[h1,h2]
theorem Fh (a b):cmp b a= -cmp a b:=by
 unfold cmp;by_cases h1:lt a b=true
 ·simp[h1,asymm h1]
 ·by_cases h2:lt b a=true
  ·simp[h1,h2]
  ·simp[h1,h2]
end St
end
end
section
section
open Go.RowKit
structure aU where
 n:ByteArray
 v:ByteArray
instance:DecidableEq aU:=fun a b=>decidable_of_iff (a.n=b.n∧a.v=b.v) ⟨fun h=>by cases a;cases b;simp_all,fun h=>by rw[h];exact⟨rfl,rfl⟩⟩
instance:Inhabited aU:=⟨⟨ByteArray.empty,ByteArray.empty⟩⟩
def mi (x:aU):List Value:=[.string x.n,.string x.v]
def mQ (L:List aU):List Value:=L.flatMap mi
theorem dW (L):(mQ L).length=L.length*2:=by
 unfold mQ
 induction L with
 |nil=>rfl
 |cons x L ih=>rw[Av,La,ih,Lc];simp[mi];omega
theorem lD (L i k) (h:i<L.length) (hk:k<2):(mQ L)[i*2+k]? =(mi L[i])[k]?:=by
 unfold mQ
 induction L generalizing i with
 |nil=>simp at h
 |cons x L ih=>
  rw[Av];have hx:(mi x).length=2:=rfl;cases i with
  |zero=>rw[Cz om];simp
  |succ i=>
   rw[Bp om,hx,show(i+1)*2+k-2=i*2+k from om];exact ih i (by simpa using h)
theorem KV (L):∀u∈mQ L,u.oneCell'=true:=by
 intro u hu;obtain⟨c,_,hc⟩:=l6.1 hu;simp[mi]at hc;rcases hc with rfl|rfl<;>rfl
theorem sO (a b):mQ (a++b)=mQ a++mQ b:=by simp[mQ]
theorem sP (x b):mQ (x::b)=mi x++mQ b:=by simp[mQ]
def dH (w:World) (B:Nat) (A:Option Addr) (n c:Nat) (l:List aU):Prop:=Rd w B 2 A n c (mQ l)
theorem dH.len {w B n c A l} (h:dH w B A n c l):n=l.length:=by have:=h.2.2.1;rw[dW]at this;omega
section
variable {w w':World} {B n c:Nat} {A:Option Addr} {l:List aU}
theorem dH.below (h:dH w B A n c l) (hb:Below B w w'):dH w' B A n c l:=Rd.below h hb
theorem dH.more {B'} (h:dH w B A n c l) (hB:B≤B'):dH w B' A n c l:=Rd.more h hB
end
theorem dH.at_ {w B n c k A l} (h:dH w B A n c l) (hk:k<l.length):∃b off,A=some ⟨b,off,none⟩∧b<B∧w.cell? ⟨b,off+k*2,none⟩=some (.string l[k].n)∧w.cell? ⟨b,off+(k*2+1),none⟩=some (.string l[k].v):=by
 obtain⟨b,off,e,hb,hc⟩:=h.2.2.2 (by have:=h.len;omega);refine⟨b,off,e,hb,hc _ _ ?_,hc _ _ ?_⟩
 ·have:=lD l k 0 hk om;simpa[mi]using this
 ·have:=lD l k 1 hk om;simpa[mi]using this
def aJ (w:World) (base:Nat) (A:Option Addr) (n c:Nat) (l:List aU):Prop:=w.ownsRow base 59 2 (.slice A n c) n (mQ l)
theorem aJ.rd {w base n c A l} (h:aJ w base A n c l):dH w w.heap.size A n c l:=Rd.bz h
theorem aJ.len {w base n c A l} (h:aJ w base A n c l):n=l.length:=h.rd.len
theorem Qv:(prog.info? 59).map (fun i=>(i.zero,i.size,i.bytes))=some (some (.agg #[.string ByteArray.empty,.string ByteArray.empty]),2,32):=kr
theorem iR {w ops rest o a Q} (hgd:Region.wanted o (yielded ops a.tmps)=true) (s x)
  (ho:o.op= .call {callee:= .builtin .append,args:= #[s,x],argTypes:= #[54,54]})
  (base A n c l) (hs:a.eval s= .slice A n c) (hown:aJ w base A n c l)
  (B S m d k) (hx:a.eval x= .slice S m d) (hr:dH w B S m d k)
  (hlen:n+m≤4398046511104) (hbase:base≤w.heap.size)
  (h:∀A2 c2 w',aJ w' base A2 (n+m) c2 (l++k)→w.grownBy w' (ab A)→(ab A2=ab A∨ab A2=some w.heap.size)→wpList prog ops Q rest (a.put o.dst (.slice A2 (n+m) c2)) w'):wpList prog ops Q (o::rest) a w:=by
 obtain⟨i0,hi0,hz0,hz1,hz2⟩:=AY Qv;refine bA w hgd s x _ ho base 59 i0 (.agg #[.string ByteArray.empty,.string ByteArray.empty]) 2 32 underlying54 hi0 hz0 hz1 hz2 rfl Ai A n c (mQ l) hs hown B S m d (mQ k) hx hr (KV k) (by unfold maxLen;omega) om hbase ?_;rw[←sO];exact h
theorem aJ.nil (w base):aJ w base none 0 0 []:=⟨rfl,.inl ⟨rfl,rfl⟩⟩
theorem dH.lit (w:World) (l fr) (h:l.length≤9223372036854775807):dH (w.alloc (.cells (mQ l).toArray 59 fr)) (w.heap.size+1) (some ⟨w.heap.size,0,none⟩) l.length l.length l:=
 ⟨Nr _,by unfold maxLen;omega,by rw[dW],fun _=>⟨_,0,rfl,om,fun i u hu=>by
  rw[bO];exact(Aq w _ _ _ i).trans (by simpa using hu)⟩⟩
theorem aJ.at_ {w base g n c k l} (h:aJ w base (some ⟨g,0,none⟩) n c l) (hk:k<l.length):
  w.cell? ⟨g,k*2,none⟩=some (.string l[k].n)∧w.cell? ⟨g,k*2+1,none⟩=some (.string l[k].v)∧w.frozen? ⟨g,k*2,none⟩=false∧w.frozen? ⟨g,k*2+1,none⟩=false:=by
 have hn:=h.len;refine⟨?_,?_,AX h _,AX h _⟩
 ·rw[Bq h (k*2) om];have:=lD l k 0 hk om;simpa[mi]using this
 ·rw[Bq h (k*2+1) om];have:=lD l k 1 hk om;simpa[mi]using this
theorem Vm (l k x):mQ (l.set k x)=((mQ l).set (k*2) (.string x.n)).set (k*2+1) (.string x.v):=by
 induction l generalizing k with
 |nil=>simp[mQ]
 |cons y l ih=>
  cases k with
  |zero=>simp[sP,mi]
  |succ k=>
   rw[Ap,sP,sP,ih k,show(k+1)*2=k*2+1+1 from om];simp[mi]
theorem aJ.set {w base g n c l} (h:aJ w base (some ⟨g,0,none⟩) n c l) (k x):
  aJ ((w.setCell ⟨g,k*2,none⟩ (.string x.n)).setCell ⟨g,k*2+1,none⟩ (.string x.v)) base (some ⟨g,0,none⟩) n c (l.set k x):=by
 have h1:=(BJ h (k*2) (.string x.n)).1;have h2:=(BJ h1 (k*2+1) (.string x.v)).1;unfold aJ;rw[Vm];exact h2
theorem aJ.pos {w base n c A l} (h:aJ w base A n c l) (hn:0<n):∃g,A=some ⟨g,0,none⟩∧base≤g∧g<w.heap.size:=gG h hn
end
end
section
section
open Go.RowKit
abbrev II:=Int×Nat
def IJ (x:II):List Value:=[.int .i64 x.1,.int .u64 (x.2:Int)]
def kD (L:List II):List Value:=L.flatMap IJ
theorem jJ (L):(kD L).length=L.length*2:=by
 unfold kD
 induction L with
 |nil=>rfl
 |cons x L ih=>rw[Av,La,ih,Lc];simp[IJ];omega
theorem nM (L i k) (h:i<L.length) (hk:k<2):(kD L)[i*2+k]? =(IJ L[i])[k]?:=by
 unfold kD
 induction L generalizing i with
 |nil=>simp at h
 |cons x L ih=>
  rw[Av];have hx:(IJ x).length=2:=rfl;cases i with
  |zero=>rw[Cz om];simp
  |succ i=>
   rw[Bp om,hx,show(i+1)*2+k-2=i*2+k from om];exact ih i (by simpa using h)
theorem KX (L):∀u∈kD L,u.oneCell'=true:=by
 intro u hu;obtain⟨c,_,hc⟩:=l6.1 hu;simp[IJ]at hc;rcases hc with rfl|rfl<;>rfl
theorem Je (a b):kD (a++b)=kD a++kD b:=by simp[kD]
theorem jm (x b):kD (x::b)=IJ x++kD b:=by simp[kD]
theorem Qw (L k):(kD L).drop (k*2)=kD (L.drop k):=by
 induction k generalizing L with
 |zero=>simp
 |succ k ih=>
  cases L with
  |nil=>simp[kD]
  |cons x L=>rw[jm,BP,show(k+1)*2=(k*2+1)+1 from om];simp only[IJ,Bc,BP,AB];exact ih L
theorem Qx (L k):(kD L).take (k*2)=kD (L.take k):=by
 induction k generalizing L with
 |zero=>simp[kD]
 |succ k ih=>
  cases L with
  |nil=>simp[kD]
  |cons x L=>rw[jm,Cb,jm,show(k+1)*2=(k*2+1)+1 from om];simp only[IJ,Bc,Cb,AB];rw[ih L]
def fO (w:World) (B:Nat) (A:Option Addr) (n c:Nat) (l:List II):Prop:=Rd w B 2 A n c (kD l)
theorem fO.len {w B n c A l} (h:fO w B A n c l):n=l.length:=by have:=h.2.2.1;rw[jJ]at this;omega
section
variable {w w':World} {B n c:Nat} {A:Option Addr} {l:List II}
theorem fO.below (h:fO w B A n c l) (hb:Below B w w'):fO w' B A n c l:=Rd.below h hb
theorem fO.more {B'} (h:fO w B A n c l) (hB:B≤B'):fO w B' A n c l:=Rd.more h hB
theorem fO.alloc (h:fO w B A n c l) (hB:B≤w.heap.size) (o):fO (w.alloc o) B A n c l:=Rd.alloc h hB o
theorem fO.take (h:fO w B A n c l) {k} (hk:k≤n):fO w B A k c (l.take k):=by
 have:=Rd.take (k:=k) h hk;rwa[Qx]at this
theorem fO.drop (h:fO w B A n c l) {k} (hk:k≤n):fO w B (if c=k then A else A.map (·.add (k*2))) (n-k) (c-k) (l.drop k):=by
 have:=Rd.drop (k:=k) h hk;rwa[Qw]at this
end
theorem fO.at_ {w B n c k A l} (h:fO w B A n c l) (hk:k<l.length):∃b off,A=some ⟨b,off,none⟩∧b<B∧w.cell? ⟨b,off+k*2,none⟩=some (.int .i64 l[k].1)∧w.cell? ⟨b,off+(k*2+1),none⟩=some (.int .u64 (l[k].2:Int)):=by
 obtain⟨b,off,e,hb,hc⟩:=h.2.2.2 (by have:=h.len;omega);refine⟨b,off,e,hb,hc _ _ ?_,hc _ _ ?_⟩
 ·have:=nM l k 0 hk om;simpa[IJ]using this
 ·have:=nM l k 1 hk om;simpa[IJ]using this
def aH (w:World) (base:Nat) (A:Option Addr) (n c:Nat) (l:List II):Prop:=w.ownsRow base 127 2 (.slice A n c) n (kD l)
theorem aH.rd {w base n c A l} (h:aH w base A n c l):fO w w.heap.size A n c l:=Rd.bz h
theorem aH.len {w base n c A l} (h:aH w base A n c l):n=l.length:=h.rd.len
theorem KY:(prog.info? 127).map (fun i=>(i.zero,i.size,i.bytes))=some (some (.agg #[.int .i64 0,.int .u64 0]),2,16):=kr
theorem kK {w ops rest o a Q} (hgd:Region.wanted o (yielded ops a.tmps)=true) (s x)
  (ho:o.op= .call {callee:= .builtin .append,args:= #[s,x],argTypes:= #[55,55]})
  (base A n c l) (hs:a.eval s= .slice A n c) (hown:aH w base A n c l)
  (B S m d k) (hx:a.eval x= .slice S m d) (hr:fO w B S m d k)
  (hlen:n+m≤4398046511104) (hbase:base≤w.heap.size)
  (h:∀A2 c2 w',aH w' base A2 (n+m) c2 (l++k)→w.grownBy w' (ab A)→(ab A2=ab A∨ab A2=some w.heap.size)→wpList prog ops Q rest (a.put o.dst (.slice A2 (n+m) c2)) w'):wpList prog ops Q (o::rest) a w:=by
 obtain⟨i0,hi0,hz0,hz1,hz2⟩:=AY KY;refine bA w hgd s x _ ho base 127 i0 (.agg #[.int .i64 0,.int .u64 0]) 2 16 underlying55 hi0 hz0 hz1 hz2 rfl Ai A n c (kD l) hs hown B S m d (kD k) hx hr (KX k) (by unfold maxLen;omega) om hbase ?_;rw[←Je];exact h
theorem aH.nil (w base):aH w base none 0 0 []:=⟨rfl,.inl ⟨rfl,rfl⟩⟩
theorem aH.at_ {w base g n c k l} (h:aH w base (some ⟨g,0,none⟩) n c l) (hk:k<l.length):
  w.cell? ⟨g,k*2,none⟩=some (.int .i64 l[k].1)∧w.cell? ⟨g,k*2+1,none⟩=some (.int .u64 (l[k].2:Int))∧w.frozen? ⟨g,k*2,none⟩=false∧w.frozen? ⟨g,k*2+1,none⟩=false:=by
 have hn:=h.len;refine⟨?_,?_,AX h _,AX h _⟩
 ·rw[Bq h (k*2) om];have:=nM l k 0 hk om;simpa[IJ]using this
 ·rw[Bq h (k*2+1) om];have:=nM l k 1 hk om;simpa[IJ]using this
theorem Vn (l k x):kD (l.set k x)=((kD l).set (k*2) (.int .i64 x.1)).set (k*2+1) (.int .u64 (x.2:Int)):=by
 induction l generalizing k with
 |nil=>simp[kD]
 |cons y l ih=>
  cases k with
  |zero=>simp[jm,IJ]
  |succ k=>
   rw[Ap,jm,jm,ih k,show(k+1)*2=k*2+1+1 from om];simp[IJ]
theorem aH.set {w base g n c l} (h:aH w base (some ⟨g,0,none⟩) n c l) (k x):
  aH ((w.setCell ⟨g,k*2,none⟩ (.int .i64 x.1)).setCell ⟨g,k*2+1,none⟩ (.int .u64 (x.2:Int))) base (some ⟨g,0,none⟩) n c (l.set k x):=by
 have h1:=(BJ h (k*2) (.int .i64 x.1)).1;have h2:=(BJ h1 (k*2+1) (.int .u64 (x.2:Int))).1;unfold aH;rw[Vn];exact h2
theorem aH.pos {w base n c A l} (h:aH w base A n c l) (hn:0<n):∃g,A=some ⟨g,0,none⟩∧base≤g∧g<w.heap.size:=gG h hn
end
end
section
section
namespace Sy
def aN (l:List ByteArray):Prop:=l.Pairwise fun x y=>St.lt x y=true
def gH (l t:List ByteArray):Prop:=aN t∧∀s,s∈t↔s∈l
theorem aN.nodup {l} (h:aN l):l.Nodup:=by
 unfold aN at h;exact h.imp fun{a b} hab e=>by rw[e,St.irrefl]at hab;cases hab
theorem aN.lt {t} (h:aN t) {i j} (hi:i<t.length) (hj:j<t.length) (hij:i<j):St.lt t[i] t[j]=true:=
 (AF.1 h) i j hi hj hij
theorem aN.inj {t} (h:aN t) {i j} (hi:i<t.length) (hj:j<t.length) (he:t[i]=t[j]):i=j:=by
 rcases Dj i j with h1|h1|h1
 ·have:=h.lt hi hj h1;rw[he,St.irrefl]at this;cases this
 ·exact h1
 ·have:=h.lt hj hi h1;rw[he,St.irrefl]at this;cases this
def idx (t:List ByteArray) (s:ByteArray):Option Nat:=t.findIdx? fun x=>decide (x=s)
theorem jo {t s k} (h:idx t s=some k):∃hk:k<t.length,t[k]=s∧∀j (hj:j<t.length),j<k→t[j]≠s:=by
 unfold idx at h;rw[List.findIdx?_eq_some_iff_getElem]at h;obtain⟨hk,h1,h2⟩:=h;refine⟨hk,by simpa using h1,fun j hj hjk=>?_⟩;have:=h2 j hjk;simpa using this
theorem Zq {t s k} (hk:k<t.length) (h1:t[k]=s) (h2:∀j (hj:j<t.length),j<k→t[j]≠s):idx t s=some k:=by
 unfold idx;rw[List.findIdx?_eq_some_iff_getElem];exact⟨hk,by simpa using h1,fun j hj=>by simpa using h2 j om hj⟩
theorem Qy {t s}:idx t s=none↔∀j (hj:j<t.length),t[j]≠s:=by
 unfold idx;rw[List.findIdx?_eq_none_iff];constructor
 ·intro h j hj;simpa using h _ (dR hj)
 ·intro h x hx;obtain⟨j,hj,rfl⟩:=iC.1 hx;simpa using h j hj
theorem rH {t} (h:aN t) {s k} (hk:k<t.length) (he:t[k]=s):idx t s=some k:=
 Zq hk he fun j hj hjk e=>by have:=h.inj hj hk (e.trans he.symm);omega
theorem search {t} (h : aN t) (s) :
    Lib.bsGo (fun i => Op.bytesLess (t.getD i ByteArray.empty).toList s.toList) t.length 0 t.length = (t.filter fun x => St.lt x s).length := by
  have key : ∀ (l : List ByteArray), aN l → ∃ k, k ≤ l.length ∧ (l.filter fun x => St.lt x s).length = k ∧ (∀ i (hi : i < l.length), i < k → St.lt l[i] s = true) ∧ (∀ i (hi : i < l.length), k ≤ i → St.lt l[i] s = false) := by
    intro l
    induction l with
    | nil => intro _; exact ⟨0, Nr _, rfl, fun i hi => by simp at hi, fun i hi => by simp at hi⟩
    | cons x l ih =>
      intro hs
      have hs' := BH.1 hs
      obtain ⟨k, h1, h2, h3, h4⟩ := ih hs'.2
      cases hx : St.lt x s with
      | true =>
        refine ⟨k + 1, by simp; omega, by simp [hx, h2], fun i hi hik => ?_, fun i hi hik => ?_⟩
        · cases i with
          | zero => exact hx
          | succ i => exact h3 i (by simpa using hi) om
        · cases i with
          | zero => omega
          | succ i => exact h4 i (by simpa using hi) om
      | false =>
        have hall : ∀ y ∈ l, St.lt y s = false := fun y hy => by
          rw [Dh]; intro hy2
          have := St.trans (hs'.1 y hy) hy2
          rw [hx] at this; cases this
        refine ⟨0, om, ?_, fun i hi hik => om, fun i hi _ => ?_⟩
        · rw [List.length_eq_zero_iff, List.filter_eq_nil_iff]
          intro y hy
          rcases iW.1 hy with rfl | hy
          · simp [hx]
          · simp [hall y hy]
        · cases i with
          | zero => exact hx
          | succ i => exact hall _ (dR _)
  obtain ⟨k, h1, h2, h3, h4⟩ := key t h
  rw [h2]
  have e := Lib.bsGo_spec (fun i => if i < t.length then Op.bytesLess (t.getD i ByteArray.empty).toList s.toList else false) k
    (fun i hi => by have hil : i < t.length := by omega
                    rw [Ps0 hil]; have := h3 i hil hi; simpa [St.lt, List.getD, hil] using this)
    (fun i hi => by
      by_cases hil : i < t.length
      · rw [Ps0 hil]; have := h4 i hil hi; simpa [St.lt, List.getD, hil] using this
      · rw [Ng hil])
    t.length 0 t.length om om h1
  rw [← e]
  have go : ∀ f lo hi, hi ≤ t.length → Lib.bsGo (fun i => Op.bytesLess (t.getD i ByteArray.empty).toList s.toList) f lo hi = Lib.bsGo (fun i => if i < t.length then Op.bytesLess (t.getD i ByteArray.empty).toList s.toList else false) f lo hi := by
    intro f
    induction f with
    | zero => intro lo hi _; rfl
    | succ f ih =>
      intro lo hi hh
      unfold Lib.bsGo
      by_cases hlt : lo < hi
      · rw [Ps0 hlt, Ps0 hlt, Ps0 (show (lo + hi) / 2 < t.length from om)]
        split
        · exact ih _ _ hh
        · exact ih _ _ om
      · rw [Ng hlt, Ng hlt]
  exact go _ _ _ Aj
theorem sQ {t} (h:aN t) (s):
  let I:=(t.filter fun x=>St.lt x s).length
  (idx t s=some I∧∃hI:I<t.length,t[I]=s)∨(idx t s=none∧¬∃hI:I<t.length,t[I]=s):=by
 intro I;by_cases hI:∃hI:I<t.length,t[I]=s
 ·obtain⟨h1,h2⟩:=hI;exact .inl ⟨rH h h1 h2,h1,h2⟩
 ·refine .inr ⟨Qy.2 fun j hj he=>hI ?_,hI⟩;have hIj:I=j:=by
   show(t.filter fun x=>St.lt x s).length=j;have e:t=t.take j++t.drop j:=(je j t).symm;have f1:(t.take j).filter (fun x=>St.lt x s)=t.take j:=by
    rw[List.filter_eq_self];intro x hx;obtain⟨i,hi,rfl⟩:=iC.1 hx;rw[jD]at hi;rw[List.getElem_take,←he];exact h.lt om hj om
   have f2:(t.drop j).filter (fun x=>St.lt x s)=[]:=by
    rw[List.filter_eq_nil_iff];intro x hx;obtain⟨i,hi,rfl⟩:=iC.1 hx;rw[kz]at hi;rw[Dc,←he];by_cases h0:i=0
    ·subst h0;simp[St.irrefl]
    ·have:=h.lt hj (show j+i<t.length from om) om;rw[St.asymm this];simp
   conv=>lhs;rw[e]
   rw[List.filter_append,f1,f2,Bh,jD];omega
  exact⟨om,by simpa[hIj]using he⟩
theorem gH.size {l t} (h:gH l t) {m} (hm:∀s∈l,s.size≤m):∀s∈t,s.size≤m:=fun s hs=>hm s ((h.2 s).1 hs)
theorem cu {α:Type} [DecidableEq α]:∀(a b:List α),a.Nodup→(∀x∈a,x∈b)→a.length≤b.length
 |[],b,_,_=>bf _
 |x::a,b,h,hs=>by
  have h':=List.nodup_cons.1 h;have hx:x∈b:=hs x Ah;have:=cu a (b.erase x) h'.2 fun y hy=>by
   have hne:y≠x:=fun e=>h'.1 (e▸hy)
   exact(List.mem_erase_of_ne hne).2 (hs y (by simp[hy]))
  rw[List.length_erase_of_mem hx]at this;have:=List.length_pos_of_mem hx;simp;omega
theorem gH.len {l t} (h:gH l t):t.length≤l.length:=cu t l h.1.nodup fun s hs=>(h.2 s).1 hs
end Sy
end
end
section
section
namespace Lb
theorem ext {a b:aU} (h1:a.n=b.n) (h2:a.v=b.v):a=b:=by cases a;cases b;simp_all
def one (x:aU):Int:=if x.n.size=0 then 17 else if 65535<x.n.size∨65535<x.v.size then 7 else 0
def bW (l:List aU) (j:Nat):Int:=
 let x:=l.getD j default
 if one x≠0 then one x else if j=0 then 0 else
  let p:=l.getD (j-1) default
  if p.n=x.n then 18 else if St.lt x.n p.n then 16 else 0
def fV (f:Nat→Int) (n:Nat):Int:=(((List.range n).map f).find? fun e=>!decide (e=0)).getD 0
theorem bU (f n) (h:∀j,j<n→f j=0):fV f n=0:=by
 unfold fV;have:((List.range n).map f).find? (fun e=>!decide (e=0))=none:=by
  rw[List.find?_eq_none];intro e he;obtain⟨j,hj,rfl⟩:=dV.1 he;simp[h j (List.mem_range.1 hj)]
 rw[this];rfl
theorem bq (f n k) (hk:k<n) (h:∀j,j<k→f j=0) (he:f k≠0):fV f n=f k:=by
 unfold fV;have e1:List.range n=List.range k++k::(List.range (n-k-1)).map (·+(k+1)):=by
  apply Ev;intro i;by_cases h1:i<k
  ·rw[Cz (by simpa using h1)];simp[h1,show i<n from om]
  ·rw[Bp (by simpa using h1)];simp only[CR];by_cases h2:i=k
   ·subst h2;simp[hk]
   ·obtain⟨m,hm⟩:∃m,i-k=m+1:=⟨i-k-1,om⟩
    rw[hm,List.getElem?_cons_succ];by_cases h3:i<n
    ·simp[h3,show m<n-k-1 from om];omega
    ·rw[Ca (by simpa using h3),Ca (by simp;omega)]
 have h0:((List.range k).map f).find? (fun e=>!decide (e=0))=none:=by
  rw[List.find?_eq_none];intro e he2;obtain⟨j,hj,rfl⟩:=dV.1 he2;simp[h j (List.mem_range.1 hj)]
 rw[e1,dN,List.find?_append,h0,AJ,List.find?_cons];simp[he]
def bN (l:List aU):Int:=fV (bW l) l.length
def ones (l:List aU):Int:=fV (fun j=>one (l.getD j default)) l.length
theorem getD_at {l:List aU} {j} (h:j<l.length):l.getD j default=l[j]:=by simp[List.getD,h]
def gX (x y:aU):Int:=if St.cmp x.n y.n=0 then St.cmp x.v y.v else St.cmp x.n y.n
def cmpL:List aU→List aU→Int
 |[],[]=>0
 |[],_::_=> -1
 |_::_,[]=>1
 |x::a,y::b=>if gX x y=0 then cmpL a b else gX x y
theorem lF {a b}:gX a b=0↔a=b:=by
 unfold gX;constructor
 ·intro h;split at h
  ·next h0=>exact ext (St.dM.1 h0) (St.dM.1 h)
  ·next h0=>exact absurd h h0
 ·rintro rfl;have h1:St.cmp a.n a.n=0:=St.dM.2 rfl;have h2:St.cmp a.v a.v=0:=St.dM.2 rfl;simp[h1,h2]
theorem Nu (a b):gX b a= -gX a b:=by
 unfold gX;have h1:=St.Fh a.n b.n;have h2:=St.Fh a.v b.v;by_cases h:St.cmp a.n b.n=0
 ·rw[Ps0 h,Ps0 om];exact h2
 ·rw[Ng h,Ng om];exact h1
theorem wT {a b c} (h1:St.cmp a b<0) (h2:St.cmp b c<0):St.cmp a c<0:=by
 rw[St.nL]at*;exact St.trans h1 h2
theorem Jf {a b c} (h1:gX a b<0) (h2:gX b c<0):gX a c<0:=by
 unfold gX at*;split at h1
 ·next e1=>
  have e1:=St.dM.1 e1;split at h2
  ·next e2=>
   have e2:=St.dM.1 e2;rw[Ps0 (St.dM.2 (e1.trans e2))];exact wT h1 h2
  ·next e2=>rw[←e1]at h2 e2;rw[Ng e2];exact h2
 ·next e1=>
  split at h2
  ·next e2=>
   have e2:=St.dM.1 e2;rw[←e2,Ng e1];exact h1
  ·next e2=>
   have h3:=wT h1 h2;rw[Ng om];exact h3
theorem fZ (a b):cmpL b a= -cmpL a b:=by
 induction a generalizing b with
 |nil=>cases b<;>simp[cmpL]
 |cons x a ih=>
  cases b with
  |nil=>simp[cmpL]
  |cons y b=>
   have h:=Nu x y;simp only[cmpL];by_cases h0:gX x y=0
   ·rw[Ps0 h0,Ps0 om];exact ih b
   ·rw[Ng h0,Ng om];exact h
theorem jq {a b}:cmpL a b=0↔a=b:=by
 induction a generalizing b with
 |nil=>cases b<;>simp[cmpL]
 |cons x a ih=>
  cases b with
  |nil=>simp[cmpL]
  |cons y b=>
   simp only[cmpL];by_cases h0:gX x y=0
   ·rw[Ps0 h0,ih,lF.1 h0];simp
   ·rw[Ng h0];refine⟨fun h=>absurd h h0,fun h=>?_⟩
    injection h with h1 h2
    exact absurd (lF.2 h1) h0
theorem sS {a b c} (h1:cmpL a b<0) (h2:cmpL b c<0):cmpL a c<0:=by
 induction a generalizing b c with
 |nil=>
  cases b with
  |nil=>simp[cmpL]at h1
  |cons y b=>cases c with
   |nil=>simp[cmpL]at h2
   |cons z c=>simp[cmpL]
 |cons x a ih=>
  cases b with
  |nil=>simp[cmpL]at h1
  |cons y b=>
   cases c with
   |nil=>simp[cmpL]at h2
   |cons z c=>
    simp only[cmpL]at*;by_cases e1:gX x y=0
    ·rw[Ps0 e1]at h1;obtain rfl:=lF.1 e1;by_cases e2:gX x z=0
     ·rw[Ps0 e2]at h2⊢;exact ih h1 h2
     ·rw[Ng e2]at h2⊢;exact h2
    ·rw[Ng e1]at h1;by_cases e2:gX y z=0
     ·obtain rfl:=lF.1 e2;rw[Ng e1];exact h1
     ·rw[Ng e2]at h2;have h3:=Jf h1 h2;rw[Ng om];exact h3
theorem wU (a b c):(0<cmpL a b∨0<cmpL b c∨cmpL a c≤0)∧(cmpL a b≠0∨cmpL b c≠0∨cmpL a c=0)∧(0≤cmpL a b∨0<cmpL b c∨cmpL a c<0):=by
 by_cases e1:cmpL a b=0
 ·obtain rfl:=jq.1 e1;omega
 ·by_cases e2:cmpL b c=0
  ·obtain rfl:=jq.1 e2;omega
  ·by_cases n1:cmpL a b<0
   ·by_cases n2:cmpL b c<0
    ·have:=sS n1 n2;omega
    ·omega
   ·omega
theorem wV (a b:List aU) (k) (ha:k<a.length) (hb:k<b.length):
  cmpL (a.drop k) (b.drop k)=if gX a[k] b[k]=0 then cmpL (a.drop (k+1)) (b.drop (k+1))else gX a[k] b[k]:=by
 rw[oQ ha,oQ hb,cmpL]
theorem wW (a b:List aU) (k) (ha:k=a.length) (hb:k<b.length):cmpL (a.drop k) (b.drop k)= -1:=by
 subst ha;rw[List.drop_length,oQ hb,cmpL]
theorem wX (a b:List aU) (k) (ha:k<a.length) (hb:k=b.length):cmpL (a.drop k) (b.drop k)=1:=by
 subst hb;rw[List.drop_length,oQ ha,cmpL]
theorem wY (a b:List aU) (k) (ha:k=a.length) (hb:k=b.length):cmpL (a.drop k) (b.drop k)=0:=by
 subst ha;rw[List.drop_length,hb,List.drop_length,cmpL]
def strs (l:List aU):List ByteArray:=l.flatMap fun x=>[x.n,x.v]
theorem aV (l):(strs l).length=2*l.length:=by
 unfold strs
 induction l with
 |nil=>rfl
 |cons x l ih=>rw[Av,La,ih,Lc];simp;omega
theorem wZ (l:List aU) (k) (h:k<l.length):strs (l.take (k+1))=strs (l.take k)++[l[k].n,l[k].v]:=by
 unfold strs;rw[Ts h,nH];simp
end Lb
end
end
section
section
namespace Lb
theorem dX (f n):(fV f n=0∧∀j,j<n→f j=0)∨∃k,k<n∧f k≠0∧fV f n=f k∧∀j,j<k→f j=0:=by
 have key:∀m,m≤n→(∀j,j<m→f j=0)∨∃k,k<m∧f k≠0∧∀j,j<k→f j=0:=by
  intro m
  induction m with
  |zero=>intro _;exact .inl fun j hj=>om
  |succ m ih=>
   intro hm;rcases ih om with h|⟨k,h1,h2,h3⟩
   ·by_cases hf:f m=0
    ·refine .inl fun j hj=>?_
     by_cases hjm:j=m
     ·subst hjm;exact hf
     ·exact h j om
    ·exact .inr ⟨m,om,hf,h⟩
   ·exact .inr ⟨k,om,h2,h3⟩
 rcases key n Aj with h|⟨k,h1,h2,h3⟩
 ·exact .inl ⟨bU f n h,h⟩
 ·exact .inr ⟨k,h1,h2,bq f n k h1 h3 h2,h3⟩
theorem gq (l):ones l=0↔∀x∈l,one x=0:=by
 unfold ones;rcases dX (fun j=>one (l.getD j default)) l.length with⟨h1,h2⟩|⟨k,h1,h2,h3,_⟩
 ·refine⟨fun _ x hx=>?_,fun _=>h1⟩;obtain⟨j,hj,rfl⟩:=iC.1 hx;have:=h2 j hj;rwa[getD_at hj]at this
 ·refine⟨fun h=>absurd (h3.symm.trans h) h2,fun h=>absurd ?_ h2⟩;simp only[getD_at h1];exact h _ (dR h1)
def aN (l:List aU):Prop:=l.Pairwise fun x y=>St.lt x.n y.n=true
theorem aN.nodup {l} (h:aN l):(l.map (·.n)).Nodup:=by
 unfold aN at h;rw[List.Nodup,Ea];exact h.imp fun{a b} hab e=>by rw[e,St.irrefl]at hab;cases hab
theorem Qz {a b} (ha:aN a) (hb:aN b) (h:a.Perm b):a=b:=by
 unfold aN at ha hb;refine List.Perm.eq_of_pairwise (fun x y _ _ h1 h2=>?_) ha hb h;rw[St.asymm h1]at h2;cases h2
theorem sU {l:List aU} (h:∀j (hj:j+1<l.length),St.lt l[j].n l[j+1].n=true):aN l:=by
 unfold aN;rw[AF];intro i j hi hj hij
 induction j with
 |zero=>omega
 |succ j ih=>
  by_cases e:i=j
  ·subst e;exact h i hj
  ·exact St.trans (ih om om) (h j hj)
theorem Vo {l} (h:aN l) (ho:ones l=0):bN l=0:=by
 rw[gq]at ho;refine bU _ _ fun j hj=>?_
 unfold bW;have h1:one (l.getD j default)=0:=by rw[getD_at hj];exact ho _ (dR hj)
 simp only[h1,ne_eq,Bz,Dv];by_cases h0:j=0
 ·simp[h0]
 ·rw[Ng h0,getD_at hj,getD_at (show j-1<l.length from om)];have hl:=(AF.1 h) (j-1) j om hj om;rw[Ng (fun e=>by rw[e,St.irrefl]at hl;cases hl),Ng (by rw[St.asymm hl];simp)]
theorem Jg {l} (hs:∀i j (hi:i<l.length) (hj:j<l.length),i<j→St.lt l[j].n l[i].n=false) (ho:ones l=0):(bN l=0∧aN l)∨(bN l=18∧¬(l.map (·.n)).Nodup):=by
 rw[gq]at ho;have ho':∀j (hj:j<l.length),one l[j]=0:=fun j hj=>ho _ (dR hj)
 rcases dX (bW l) l.length with⟨h1,h2⟩|⟨k,h1,h2,h3,_⟩
 ·refine .inl ⟨h1,sU fun j hj=>?_⟩;have:=h2 (j+1) hj;unfold bW at this;simp only[getD_at hj,ho' _ hj,ne_eq,Bz,Dv,show j+1≠0 from om,show j+1-1=j from om,getD_at (show j<l.length from om)]at this;by_cases e:l[j].n=l[j+1].n
  ·rw[Ps0 e]at this;omega
  ·rw[Ng e]at this;cases hlt:St.lt l[j].n l[j+1].n with
   |true=>rfl
   |false=>exact absurd (St.total hlt (hs j (j+1) om hj om)) e
 ·refine .inr ?_;unfold bN;rw[h3];unfold bW at h2⊢;simp only[getD_at h1,ho' _ h1,ne_eq,Bz,Dv]at h2⊢;by_cases h0:k=0
  ·simp[h0]at h2
  ·rw[Ng h0,getD_at (show k-1<l.length from om)]at h2⊢;by_cases e:l[k-1].n=l[k].n
   ·rw[Ps0 e];refine⟨rfl,fun hn=>?_⟩;rw[List.Nodup,Ea]at hn;exact(AF.1 hn) (k-1) k om h1 om e
   ·rw[Ng e]at h2;rw[Ng (by rw[hs (k-1) k om h1 om];simp)]at h2;exact absurd rfl h2
def Norm (l:List aU) (e:Int) (out:List aU):Prop:=
 (ones l≠0∧e=ones l∧out=[])∨(ones l=0∧¬(l.map (·.n)).Nodup∧e=18∧out=[])∨(ones l=0∧aN out∧out.Perm l∧e=0)
theorem Norm.uniq {l e f a b} (h:Norm l e a) (h':Norm l f b):e=f∧a=b:=by
 rcases h with⟨h1,h2,h3⟩|⟨h1,h2,h3,h4⟩|⟨h1,h2,h3,h4⟩<;>rcases h' with⟨g1,g2,g3⟩|⟨g1,g2,g3,g4⟩|⟨g1,g2,g3,g4⟩
 ·exact⟨h2.trans g2.symm,h3.trans g3.symm⟩
 ·exact absurd g1 h1
 ·exact absurd g1 h1
 ·exact absurd h1 g1
 ·exact⟨h3.trans g3.symm,h4.trans g4.symm⟩
 ·exact absurd ((g3.map _).nodup_iff.1 g2.nodup) h2
 ·exact absurd h1 g1
 ·exact absurd ((h3.map _).nodup_iff.1 h2.nodup) g2
 ·exact⟨h4.trans g4.symm,Qz h2 g2 (h3.trans g3.symm)⟩
theorem Norm.self {a e b} (hs:aN a) (ho:ones a=0) (h:Norm a e b):e=0∧b=a:=by
 have:Norm a 0 a:= .inr (.inr ⟨ho,hs,List.Perm.refl _,rfl⟩);exact h.uniq this
theorem yD {l d} (ho:ones l=0) (hp:Sort.PermIn 0 l.toArray.size l.toArray d) (hs:Sort.SortedIn (fun x y=>St.lt x.n y.n) 0 l.toArray.size d):
  (bN d.toList=0∧Norm l 0 d.toList)∨(bN d.toList=18∧Norm l 18 []):=by
 obtain⟨h1,_,h3⟩:=hp;have h1':d.size=l.length:=by simpa using h1
 have hp:d.toList.Perm l:=by
  have e1:(d.extract 0 l.toArray.size).toList=d.toList:=by simp[←h1']
  have e2:(l.toArray.extract 0 l.toArray.size).toList=l:=Ah;rwa[e1,e2]at h3
 have hod:ones d.toList=0:=by
  rw[gq]at ho⊢;exact fun x hx=>ho x (hp.mem_iff.1 hx)
 have hsd:∀i j (hi:i<d.toList.length) (hj:j<d.toList.length),i<j→St.lt d.toList[j].n d.toList[i].n=false:=by
  intro i j hi hj hij;have hi':i<d.size:=by simpa using hi
  have hj':j<d.size:=by simpa using hj
  have:=hs i j om hij (by simp;omega);simpa[hi',hj',getElem!_pos]using this
 rcases Jg hsd hod with⟨a,b⟩|⟨a,b⟩
 ·exact .inl ⟨a,.inr (.inr ⟨ho,b,hp,rfl⟩)⟩
 ·exact .inr ⟨a,.inr (.inl ⟨ho,fun hn=>b ((hp.map _).nodup_iff.2 hn),rfl,rfl⟩)⟩
end Lb
end
end
section
section
open Go.RowKit Go.Shelf
def lbv (x:aU):Value:= .agg #[.string x.n,.string x.v]
theorem nN (a b W):Sem.run prog (Instr.index 255 (.agg #[a,b]) (.int .i64 0)) W= .ok (.agg #[a]) W:=kr
theorem Fj (a b W):Sem.run prog (Instr.index 255 (.agg #[a,b]) (.int .i64 1)) W= .ok (.agg #[b]) W:=kr
theorem pg (x w):Calls prog 186 #[.string x] w fun e w'=>e= .returned (.bool false)∧w'=w:=by
 go_enter func186,ntmps186;go_wp2;go_ret;exact⟨Ah,rfl⟩
theorem qB (x y w):Calls prog 137 #[.string x,.string y] w fun e w'=>e= .returned (.int .i64 (St.cmp x y))∧w'=w:=by
 have h1:Op.bytesLess x.toList y.toList=St.lt x y:=rfl;have h2:(!(Op.bytesLess x.toList y.toList||x.toList==y.toList))=(!(St.lt x y)&&St.lt y x):=by
  rw[h1,St.eq_iff];by_cases e:x=y
  ·subst e;simp[St.irrefl]
  ·cases a:St.lt x y with
   |true=>simp
   |false=>
    cases b:St.lt y x with
    |true=>simp[e]
    |false=>exact absurd (St.total a b) e
 by_cases a:St.lt x y=true
 ·go_enter func137,ntmps137;have a2:Op.bytesLess x.toList y.toList=true:=a;go_wp2_with (go_at_call 186;refine(pg _ _).mono ?_;rintro e w' ⟨rfl,rfl⟩);go_ret;exact⟨by simp[St.cmp,a],rfl⟩
 ·have a':St.lt x y=false:=by simpa using a
  have a2:Op.bytesLess x.toList y.toList=false:=a';rw[a']at h2;by_cases b:St.lt y x=true
  ·rw[b]at h2;rw[a2]at h2;have h3:(x.toList==y.toList)=false:=by simpa using h2
   go_enter func137,ntmps137;go_wp2_with (go_at_call 186;refine(pg _ _).mono ?_;rintro e w' ⟨rfl,rfl⟩);go_ret;exact⟨by simp[St.cmp,a',b],rfl⟩
  ·have b':St.lt y x=false:=by simpa using b
   rw[b',a2]at h2;have h3:(x.toList==y.toList)=true:=by simpa using h2
   go_enter func137,ntmps137;go_wp2_with (go_at_call 186;refine(pg _ _).mono ?_;rintro e w' ⟨rfl,rfl⟩);go_ret;exact⟨by simp[St.cmp,a',b'],rfl⟩
theorem lG (x:aU) (w):Calls prog 203 #[.agg #[.string x.n,.string x.v]] w fun e w'=>e= .returned (.string x.n)∧∃q os',w'=Sort.grow (w.drewN q) os':=by
 go_enter func203,ntmps203;go_wp2;go_ret;exact⟨rfl,0,_,by rw[Sort.alloc_eq_grow];rfl⟩
theorem xc (x:aU) (w):Calls prog 204 #[.agg #[.string x.n,.string x.v]] w fun e w'=>e= .returned (.string x.v)∧∃q os',w'=Sort.grow (w.drewN q) os':=by
 go_enter func204,ntmps204;go_wp2;go_ret;exact⟨rfl,0,_,by rw[Sort.alloc_eq_grow];rfl⟩
theorem lH (w):Calls prog 150 #[] w fun e w'=>e= .returned (.agg #[.func (.func 203) #[] #[],.func (.func 204) #[] #[]])∧Gr w w':=by
 go_enter func150,ntmps150;go_wp2;refine Bg (v:= .agg #[.func (.func 203) #[] #[],.func (.func 204) #[] #[]]) ?hr rfl ?_
 case hr=>exact results_cell_row (fn:=Tryz.f150) (p:=0) (ty:=255) rfl _ _ w.heap.size _ _ _ _ rfl (Aw w _) underlying255 rfl kr
 exact⟨rfl,(Gr.refl w).alloc _⟩
theorem yE (v) (hv:v.oneCell'=true) (w):Calls prog 149 #[v] w fun e w'=>e= .returned (.func (.func 202) #[] #[.pointer (some ⟨w.heap.size,0,none⟩)])∧w'=w.alloc (.cells #[v] 252):=by
 go_enter func149,ntmps149;go_wp2;go_ret;exact⟨rfl,rfl⟩
theorem rJ (g:Nat) (pf:aU→ByteArray) (eg:∀args w,(callFunc g args).run prog w= .ok (.enter g args) w)
  (hg:∀(x) (w),Calls prog g #[.agg #[.string x.n,.string x.v]] w fun e w'=>e= .returned (.string (pf x))∧∃q os',w'=Sort.grow (w.drewN q) os')
  (B x y w) (hB:B<w.heap.size) (hc:w.cell? ⟨B,0,none⟩=some (.func (.func g) #[] #[])):
  Calls prog 202 #[.agg #[.string x.n,.string x.v],.agg #[.string y.n,.string y.v],.pointer (some ⟨B,0,none⟩)] w fun e w'=>e= .returned (.int .i64 (St.cmp (pf x) (pf y)))∧∃q os',w'=Sort.grow (w.drewN q) os':=by
 have mixed:prog.follows .mixedOrders=true:=kr;have hcm:=fun W=>qB (pf x) (pf y) W
 have hx:=hg x;have hy:=hg y;generalize pf x=px at*;generalize pf y=py at*;generalize St.cmp px py=r at*;go_enter func202,ntmps202;go_wp2_with fail;obtain⟨W2,hW⟩:∃W2,W2=(w.alloc (.cells #[.string x.n,.string x.v] 59)).alloc (.cells #[.string y.n,.string y.v] 59):=⟨_,rfl⟩
 have hz:W2.heap.size=w.heap.size+2:=by rw[hW];simp
 have gW:Gr w W2:=by rw[hW];exact((Gr.refl w).alloc _).alloc _
 have b0:∀k,W2.cell? ⟨w.heap.size,k,none⟩=(#[Value.string x.n,.string x.v]:Array Value)[k]?:=fun k=>by
  rw[hW,AR _ _ ⟨w.heap.size,k,none⟩ Ah];exact Aq w _ _ _ k
 have b1:∀k,W2.cell? ⟨w.heap.size+1,k,none⟩=(#[Value.string y.n,.string y.v]:Array Value)[k]?:=fun k=>by
  rw[hW];simp
 have c0:∀n os,(Sort.grow (W2.drewN n) os).cell? ⟨B,0,none⟩=some (.func (.func g) #[] #[]):=fun n os=>Eh (by show B<_;omega) ((gW.cell B 0 hB).trans hc) n os
 have c1:∀n os,(Sort.grow (W2.drewN n) os).cell? ⟨w.heap.size,0,none⟩=some (.string x.n):=fun n os=>Eh (by show w.heap.size<_;omega) (b0 0) n os
 have c2:∀n os,(Sort.grow (W2.drewN n) os).cell? ⟨w.heap.size,1,none⟩=some (.string x.v):=fun n os=>Eh (by show w.heap.size<_;omega) (b0 1) n os
 have c3:∀n os,(Sort.grow (W2.drewN n) os).cell? ⟨w.heap.size+1,0,none⟩=some (.string y.n):=fun n os=>Eh (by show w.heap.size+1<_;omega) (b1 0) n os
 have c4:∀n os,(Sort.grow (W2.drewN n) os).cell? ⟨w.heap.size+1,1,none⟩=some (.string y.v):=fun n os=>Eh (by show w.heap.size+1<_;omega) (b1 1) n os
 rw[←hW];clear hW b0 b1 hz hc;have G:=Al gW;clear gW;have hcm2:∀W,Calls prog 137 #[.string px,.string py] W fun e w'=>e= .returned (.int .i64 r)∧∃q os',w'=Sort.grow (W.drewN q) os':=fun W=>(hcm W).mono fun _ _ h=>⟨h.1,0,#[],by rw[h.2,Sort.grow_empty];rfl⟩
 go_quiet_grown (first|(go_at_fn g;refine BU (hx _))|(go_at_fn g;refine BU (hy _))|(go_at_call 137;go_loud (refine BU (hcm2 _))));go_wp2;go_ret;exact⟨rfl,G.1.trans ⟨_,_,rfl⟩⟩
theorem sV (x w) (h1:x.n.size≤maxLen) (h2:x.v.size≤maxLen):Calls prog 151 #[.agg #[.string x.n,.string x.v]] w fun e w'=>e= .returned (.int .i64 (Lb.one x))∧Gr w w':=by
 unfold maxLen at h1 h2;have e1:x.n.toList.isEmpty=decide (x.n.size=0):=by
  rw[St.tl];obtain⟨⟨l⟩⟩:=x.n;cases l<;>simp[ByteArray.size]
 by_cases h0:x.n.size=0
 ·rw[BI h0]at e1;have hr:Lb.one x=17:=by simp[Lb.one,h0]
  rw[hr];go_enter func151,ntmps151;go_wp2;go_ret;exact⟨rfl,(Gr.refl w).alloc _⟩
 ·rw[AA h0]at e1;by_cases hb:65535<x.n.size∨65535<x.v.size
  ·have hr:Lb.one x=7:=by simp[Lb.one,h0,hb]
   rw[hr];rcases Dj x.n.size x.v.size with hlt|hlt|hlt
   all_goals
    go_enter func151,ntmps151;go_wp2;go_ret;exact⟨rfl,(Gr.refl w).alloc _⟩
  ·have hr:Lb.one x=0:=by simp[Lb.one,h0,hb]
   have hb1:(x.n.size:Int)≤65535:=om;have hb2:(x.v.size:Int)≤65535:=om;rw[hr];rcases Dj x.n.size x.v.size with hlt|hlt|hlt
   all_goals
    go_enter func151,ntmps151;go_wp2;go_ret;exact⟨rfl,(Gr.refl w).alloc _⟩
end
end
section
section
open Go.RowKit Go.Shelf
theorem QA (x y w):Calls prog 154 #[.agg #[.string x.n,.string x.v],.agg #[.string y.n,.string y.v]] w fun e w'=>e= .returned (.int .i64 (Lb.gX x y))∧Gr w w':=by
 have B1:=fun B W hB hc=>rJ 203 aU.n (BR func203 kr rfl) lG B x y W hB hc
 have B2:=fun B W hB hc=>rJ 204 aU.v (BR func204 kr rfl) xc B x y W hB hc
 have A1:=fun W=>yE (.func (.func 203) #[] #[]) rfl W
 have A2:=fun W=>yE (.func (.func 204) #[] #[]) rfl W
 have HE:Kept (Lb.gX x y=if St.cmp x.n y.n=0 then St.cmp x.v y.v else St.cmp x.n y.n):=⟨rfl⟩
 generalize Lb.gX x y=r at*;generalize St.cmp x.n y.n=r1 at*;generalize St.cmp x.v y.v=r2 at*;go_enter func154,ntmps154;go_upto_region 1 with fail;obtain⟨W2,hW⟩:∃W2,W2=(w.alloc (.cells #[.string x.n,.string x.v] 59)).alloc (.cells #[.string y.n,.string y.v] 59):=⟨_,rfl⟩
 have hz:W2.heap.size=w.heap.size+2:=by rw[hW];simp
 have gW:Kept (Gr w W2):=⟨by rw[hW];exact((Gr.refl w).alloc _).alloc _⟩
 have b0:∀k,W2.cell? ⟨w.heap.size,k,none⟩=(#[Value.string x.n,.string x.v]:Array Value)[k]?:=fun k=>by
  rw[hW,AR _ _ ⟨w.heap.size,k,none⟩ Ah];exact Aq w _ _ _ k
 have b1:∀k,W2.cell? ⟨w.heap.size+1,k,none⟩=(#[Value.string y.n,.string y.v]:Array Value)[k]?:=fun k=>by
  rw[hW];simp
 have hz1:Kept (w.heap.size+1<W2.heap.size):=⟨om⟩
 have K0:Kept (∀W,Gr W2 W→W.cell? ⟨w.heap.size,0,none⟩=some (.string x.n)):=⟨fun W h=>(h.cell _ 0 om).trans (b0 0)⟩
 have K1:Kept (∀W,Gr W2 W→W.cell? ⟨w.heap.size,1,none⟩=some (.string x.v)):=⟨fun W h=>(h.cell _ 1 om).trans (b0 1)⟩
 have K2:Kept (∀W,Gr W2 W→W.cell? ⟨w.heap.size+1,0,none⟩=some (.string y.n)):=⟨fun W h=>(h.cell _ 0 om).trans (b1 0)⟩
 have K3:Kept (∀W,Gr W2 W→W.cell? ⟨w.heap.size+1,1,none⟩=some (.string y.v)):=⟨fun W h=>(h.cell _ 1 om).trans (b1 1)⟩
 rw[←hW];clear hW b0 b1 hz;go_wp2_with (go_at_call 150;refine(lH _).mono ?_;rintro e w1 ⟨rfl,g1⟩);go_loopw [9] (fun i wr=>Gr W2 wr∧(i= .int .i64 0∨(i= .int .i64 1∧Kept (r1=0))∨(i= .int .i64 2∧Kept (r1=0∧r2=0)))) (fun i _=>2-(intOf i).toNat)
 case atStart=>exact⟨g1,.inl rfl⟩
 case round=>
  obtain⟨gr,hi⟩:=hrel;have c0:∀o1,(wr.alloc o1).cell? ⟨w.heap.size,0,none⟩=some (.string x.n):=fun o1=>K0.1 _ (gr.alloc o1)
  have d0:∀o1 o2,((wr.alloc o1).alloc o2).cell? ⟨w.heap.size,0,none⟩=some (.string x.n):=fun o1 o2=>K0.1 _ ((gr.alloc o1).alloc o2)
  have c1:∀o1,(wr.alloc o1).cell? ⟨w.heap.size,1,none⟩=some (.string x.v):=fun o1=>K1.1 _ (gr.alloc o1)
  have d1:∀o1 o2,((wr.alloc o1).alloc o2).cell? ⟨w.heap.size,1,none⟩=some (.string x.v):=fun o1 o2=>K1.1 _ ((gr.alloc o1).alloc o2)
  have c2:∀o1,(wr.alloc o1).cell? ⟨w.heap.size+1,0,none⟩=some (.string y.n):=fun o1=>K2.1 _ (gr.alloc o1)
  have d2:∀o1 o2,((wr.alloc o1).alloc o2).cell? ⟨w.heap.size+1,0,none⟩=some (.string y.n):=fun o1 o2=>K2.1 _ ((gr.alloc o1).alloc o2)
  have c3:∀o1,(wr.alloc o1).cell? ⟨w.heap.size+1,1,none⟩=some (.string y.v):=fun o1=>K3.1 _ (gr.alloc o1)
  have d3:∀o1 o2,((wr.alloc o1).alloc o2).cell? ⟨w.heap.size+1,1,none⟩=some (.string y.v):=fun o1 o2=>K3.1 _ ((gr.alloc o1).alloc o2)
  have i0:=fun W=>nN (.func (.func 203) #[] #[]) (.func (.func 204) #[] #[]) W
  have i1:=fun W=>Fj (.func (.func 203) #[] #[]) (.func (.func 204) #[] #[]) W
  rcases hi with rfl|⟨rfl,hr1⟩|⟨rfl,hr1⟩
  ·go_wp2_with fail;go_cut [7] (fun v wx=>v= .int .i64 r1∧Gr W2 wx)
   case first=>
    go_region_with (first
     |(go_at_call 149;refine(A1 _).mono ?_;rintro e w3 ⟨rfl,rfl⟩)
     |(go_at_call 202;refine(B1 _ _ Ah Ah).mono ?_;rintro e w4 ⟨rfl,q4,os4,rfl⟩))
    all_goals (go_wp2_with fail;go_meet;exact⟨rfl,(((gr.alloc _).alloc _).drewN _).trans ⟨0,os4,rfl⟩⟩)
   case rest=>
    obtain⟨rfl,gc⟩:=hcut;clear c0 c1 c2 c3 d0 d1 d2 d3 gr;by_cases hz:r1=0
    ·have hzk:=Al hz;go_wp2;go_roundw
     case rel=>exact⟨gc,.inr (.inl ⟨rfl,hzk⟩)⟩
     case measure=>simp[intOf]
    ·have hr:r=r1:=by rw[HE.1];exact Ng hz
     go_wp2;go_ret;exact⟨by rw[hr];rfl,gW.1.trans gc⟩
  ·go_wp2_with fail;go_cut [7] (fun v wx=>v= .int .i64 r2∧Gr W2 wx)
   case first=>
    go_region_with (first
     |(go_at_call 149;refine(A2 _).mono ?_;rintro e w3 ⟨rfl,rfl⟩)
     |(go_at_call 202;refine(B2 _ _ Ah Ah).mono ?_;rintro e w4 ⟨rfl,q4,os4,rfl⟩))
    all_goals (go_wp2_with fail;go_meet;exact⟨rfl,(((gr.alloc _).alloc _).drewN _).trans ⟨0,os4,rfl⟩⟩)
   case rest=>
    obtain⟨rfl,gc⟩:=hcut;clear c0 c1 c2 c3 d0 d1 d2 d3 gr;by_cases hz:r2=0
    ·have hzk:=Al hz;go_wp2;go_roundw
     case rel=>exact⟨gc,.inr (.inr ⟨rfl,⟨hr1.1,hzk.1⟩⟩)⟩
     case measure=>simp[intOf]
    ·have hr:r=r2:=by rw[HE.1];exact Ps0 hr1.1
     go_wp2;go_ret;exact⟨by rw[hr];rfl,gW.1.trans gc⟩
  ·have hr:r=0:=by rw[HE.1,Ps0 hr1.1.1];exact hr1.1.2
   go_wp2;go_ret;exact⟨by rw[hr];rfl,gW.1.trans gr⟩
end
end
section
section
open Go.RowKit Go.Shelf
theorem dH.cells {w B n c k A l} (h:dH w B A n c l) (hB:B≤w.heap.size) (hk:k<l.length):
  ∃b off,A=some ⟨b,off,none⟩∧∀W,Below w.heap.size w W→W.cell? ⟨b,off+k*2,none⟩=some (.string l[k].n)∧W.cell? ⟨b,off+k*2+1,none⟩=some (.string l[k].v):=by
 obtain⟨b,off,e,hb,h1,h2⟩:=h.at_ hk;exact⟨b,off,e,fun W hW=>⟨(hW.cell (p:=⟨b,_,none⟩) (by show b<_;omega)).trans h1,(hW.cell (p:=⟨b,_,none⟩) (by show b<_;omega)).trans (by rw[iw];exact h2)⟩⟩
theorem qX (A A2 n c n2 c2 l l2 w) (hv:dH w w.heap.size A n c l) (hv2:dH w w.heap.size A2 n2 c2 l2):
  Calls prog 153 #[.slice A n c,.slice A2 n2 c2,.func (.func 154) #[] #[]] w fun e w'=>e= .returned (.int .i64 (Lb.cmpL l l2))∧Gr w w':=by
 have hlc:=hv.1;have hcm:=hv.2.1;have Nv:=hv2.1;have hcm2:=hv2.2.1;unfold maxLen at hcm hcm2;have hn:=Al hv.len;have hn2:=Al hv2.len;have V:=Al hv;have V2:=Al hv2;clear hv hv2;obtain⟨r,hr⟩:∃r,r=Lb.cmpL l l2:=⟨_,rfl⟩
 rw[←hr];have HR:=Al hr;clear hr;go_enter func153,ntmps153;go_wp2;go_loopw [13] (fun i wr=>∃k:Nat,k≤n∧k≤n2∧i= .int .i64 k∧Kept (r=Lb.cmpL (l.drop k) (l2.drop k))∧Gr w wr) (fun i _=>n-(intOf i).toNat)
 case atStart=>exact⟨0,om,om,rfl,⟨HR.1⟩,Gr.refl w⟩
 case round=>
  obtain⟨k,hk,hk2,rfl,hd,gr⟩:=hrel;by_cases hlt:k<n
  ·have hkl:k<l.length:=by rw[←hn.1];exact hlt
   obtain⟨b,off,rfl,hc⟩:=V.1.cells Aj hkl;obtain⟨c0,c1⟩:=hc wr gr.below;clear hc;by_cases hlt2:k<n2
   ·have vQ:k<l2.length:=by rw[←hn2.1];exact hlt2
    obtain⟨b2,vM,rfl,hc2⟩:=V2.1.cells Aj vQ;have d0:=fun o=>(hc2 (wr.alloc o) (gr.alloc o).below).1
    have d1:=fun o=>(hc2 (wr.alloc o) (gr.alloc o).below).2
    clear hc2;have hd2:=Al (hd.1.trans (Lb.wV l l2 k hkl vQ));generalize l[k]=x at*;generalize l2[k]=y at*;have C1:=fun W=>QA x y W
    obtain⟨xn,xv⟩:=x;obtain⟨yn,yv⟩:=y;obtain⟨s,hs⟩:∃s,s=Lb.gX ⟨xn,xv⟩ ⟨yn,yv⟩:=⟨_,rfl⟩
    simp only[←hs]at C1;have HS:=Al hs;have G:=Al gr;clear hs gr;by_cases hz:s=0
    ·have hd3:Kept (r=Lb.cmpL (l.drop (k+1)) (l2.drop (k+1))):=⟨by rw[hd2.1,Ps0 (by rw[←HS.1];exact hz)]⟩
     go_wp2_with (go_at_call 154;refine(C1 _).mono ?_;rintro e w3 ⟨rfl,g3⟩);go_roundw
     case rel=>exact⟨k+1,om,om,by go_num,hd3,((G.1.alloc _).alloc _).trans g3⟩
     case measure=>simp[intOf];omega
    ·have hd3:Kept (r=s):=⟨by rw[hd2.1,Ng (by rw[←HS.1];exact hz),HS.1]⟩
     go_wp2_with (go_at_call 154;refine(C1 _).mono ?_;rintro e w3 ⟨rfl,g3⟩);go_ret;exact⟨by rw[hd3.1];rfl,((G.1.alloc _).alloc _).trans g3⟩
   ·have hd3:Kept (r=1):=⟨by rw[hd.1,Lb.wX l l2 k hkl (by have:=hn2.1;omega)]⟩
    have G:=Al gr;have hge:(n2:Int)≤(k:Int):=om;clear gr;go_wp2;go_ret;exact⟨by rw[hd3.1];rfl,G.1.alloc _⟩
  ·have G:=Al gr;clear gr;by_cases hlt2:n<n2
   ·have hd3:Kept (r= -1):=⟨by rw[hd.1,Lb.wW l l2 k (by have:=hn.1;omega) (by have:=hn2.1;omega)]⟩
    go_wp2;go_ret;exact⟨by rw[hd3.1];rfl,G.1⟩
   ·have hd3:Kept (r=0):=⟨by rw[hd.1,Lb.wY l l2 k (by have:=hn.1;omega) (by have:=hn2.1;omega)]⟩
    go_wp2;go_ret;exact⟨by rw[hd3.1];rfl,G.1⟩
theorem yF (A A2 n c n2 c2 l l2 w) (hv:dH w w.heap.size A n c l) (hv2:dH w w.heap.size A2 n2 c2 l2):
  Calls prog 95 #[.slice A n c,.slice A2 n2 c2] w fun e w'=>e= .returned (.int .i64 (Lb.cmpL l l2))∧Gr w w':=by
 have C:=qX A A2 n c n2 c2 l l2 w hv hv2;generalize Lb.cmpL l l2=r at*;clear hv hv2;go_enter func95,ntmps95;go_wp2_with (go_at_call 153;refine C.mono ?_;rintro e w3 ⟨rfl,g3⟩);go_ret;exact⟨rfl,g3⟩
theorem xe (x y w):Calls prog 82 #[.string x,.string y] w fun e w'=>e= .returned (.int .i64 (St.cmp x y))∧w'=w:=by
 have h1:Op.bytesLess x.toList y.toList=St.lt x y:=rfl;have h2:(!(Op.bytesLess x.toList y.toList||x.toList==y.toList))=(!(St.lt x y)&&St.lt y x):=by
  rw[h1,St.eq_iff];by_cases e:x=y
  ·subst e;simp[St.irrefl]
  ·cases a:St.lt x y with
   |true=>simp
   |false=>
    cases b:St.lt y x with
    |true=>simp[e]
    |false=>exact absurd (St.total a b) e
 by_cases a:St.lt x y=true
 ·go_enter func82,ntmps82;have a2:Op.bytesLess x.toList y.toList=true:=a;go_wp2;go_ret;exact⟨by simp[St.cmp,a],rfl⟩
 ·have a':St.lt x y=false:=by simpa using a
  have a2:Op.bytesLess x.toList y.toList=false:=a';rw[a']at h2;by_cases b:St.lt y x=true
  ·rw[b]at h2;rw[a2]at h2;have h3:(x.toList==y.toList)=false:=by simpa using h2
   go_enter func82,ntmps82;go_wp2;go_ret;exact⟨by simp[St.cmp,a',b],rfl⟩
  ·have b':St.lt y x=false:=by simpa using b
   rw[b',a2]at h2;have h3:(x.toList==y.toList)=true:=by simpa using h2
   go_enter func82,ntmps82;go_wp2;go_ret;exact⟨by simp[St.cmp,a',b'],rfl⟩
theorem fe (A A2 n c n2 c2 l l2 w) (hv:dH w w.heap.size A n c l) (hv2:dH w w.heap.size A2 n2 c2 l2):
  Calls prog 39 #[.slice A n c,.slice A2 n2 c2] w fun e w'=>e= .returned (.int .i64 (Lb.cmpL l l2))∧Gr w w':=by
 have hlc:=hv.1;have hcm:=hv.2.1;have Nv:=hv2.1;have hcm2:=hv2.2.1;unfold maxLen at hcm hcm2;have hn:=Al hv.len;have hn2:=Al hv2.len;have V:=Al hv;have V2:=Al hv2;clear hv hv2;obtain⟨r,hr⟩:∃r,r=Lb.cmpL l l2:=⟨_,rfl⟩
 rw[←hr];have HR:=Al hr;clear hr;go_enter func39,ntmps39;go_wp2;go_loopw [5] (fun i wr=>∃k:Nat,k≤n∧k≤n2∧i= .int .i64 k∧Kept (r=Lb.cmpL (l.drop k) (l2.drop k))∧Gr w wr) (fun i _=>n-(intOf i).toNat)
 case atStart=>exact⟨0,om,om,rfl,⟨HR.1⟩,Gr.refl w⟩
 case round=>
  obtain⟨k,hk,hk2,rfl,hd,gr⟩:=hrel;by_cases hlt:k<n
  ·have hkl:k<l.length:=by rw[←hn.1];exact hlt
   obtain⟨b,off,rfl,hc⟩:=V.1.cells Aj hkl;by_cases hlt2:k<n2
   ·have vQ:k<l2.length:=by rw[←hn2.1];exact hlt2
    obtain⟨b2,vM,rfl,hc2⟩:=V2.1.cells Aj vQ;obtain⟨c0,c1⟩:=hc wr gr.below;obtain⟨d0,d1⟩:=hc2 wr gr.below;clear hc hc2;have hd2:=Al (hd.1.trans (Lb.wV l l2 k hkl vQ));generalize l[k]=x at*;generalize l2[k]=y at*;obtain⟨xn,xv⟩:=x;obtain⟨yn,yv⟩:=y;have O1:=fun W=>xe xn yn W
    have O2:=fun W=>xe xv yv W
    have HE:Kept (Lb.gX ⟨xn,xv⟩ ⟨yn,yv⟩=if St.cmp xn yn=0 then St.cmp xv yv else St.cmp xn yn):=⟨rfl⟩
    generalize Lb.gX ⟨xn,xv⟩ ⟨yn,yv⟩=s at*;generalize St.cmp xn yn=s1 at*;generalize St.cmp xv yv=s2 at*;have G:=Al gr;clear gr;by_cases hz1:s1=0
    ·have hs:Kept (s=s2):=⟨by rw[HE.1,Ps0 hz1]⟩
     by_cases hz2:s2=0
     ·have hd3:Kept (r=Lb.cmpL (l.drop (k+1)) (l2.drop (k+1))):=⟨by rw[hd2.1,Ps0 (by rw[hs.1];exact hz2)]⟩
      subst hz1 hz2;go_wp2_with fail;go_quiet (first|(go_at_call 82;exact(O1 _).mono fun _ _ q=>⟨q.1,_,q.2⟩));go_wp2_with fail;go_quiet (first|(go_at_call 82;exact(O2 _).mono fun _ _ q=>⟨q.1,_,q.2⟩));go_wp2;go_roundw
      case rel=>exact⟨k+1,om,om,by go_num,hd3,G.1.drewN _⟩
      case measure=>simp[intOf];omega
     ·have hd3:Kept (r=s2):=⟨by rw[hd2.1,Ng (by rw[hs.1];exact hz2),hs.1]⟩
      subst hz1;go_wp2_with fail;go_quiet (first|(go_at_call 82;exact(O1 _).mono fun _ _ q=>⟨q.1,_,q.2⟩));go_wp2_with fail;go_quiet (first|(go_at_call 82;exact(O2 _).mono fun _ _ q=>⟨q.1,_,q.2⟩));go_wp2;go_ret;exact⟨by rw[hd3.1];rfl,G.1.drewN _⟩
    ·have hd3:Kept (r=s1):=⟨by rw[hd2.1,Ng (by rw[HE.1,Ng hz1];exact hz1),HE.1,Ng hz1]⟩
     go_wp2_with fail;go_quiet (first|(go_at_call 82;exact(O1 _).mono fun _ _ q=>⟨q.1,_,q.2⟩));go_wp2;go_ret;exact⟨by rw[hd3.1];rfl,G.1.drewN _⟩
   ·have hd3:Kept (r=1):=⟨by rw[hd.1,Lb.wX l l2 k hkl (by have:=hn2.1;omega)]⟩
    have G:=Al gr;have hge:(n2:Int)≤(k:Int):=om;have akx:¬(n:Int)< (n2:Int):=om;have afA:(n2:Int)< (n:Int):=om;clear gr;go_wp2;go_ret;exact⟨by rw[hd3.1];rfl,G.1⟩
  ·have G:=Al gr;clear gr;by_cases hlt2:n<n2
   ·have hd3:Kept (r= -1):=⟨by rw[hd.1,Lb.wW l l2 k (by have:=hn.1;omega) (by have:=hn2.1;omega)]⟩
    go_wp2;go_ret;exact⟨by rw[hd3.1];rfl,G.1⟩
   ·have hd3:Kept (r=0):=⟨by rw[hd.1,Lb.wY l l2 k (by have:=hn.1;omega) (by have:=hn2.1;omega)]⟩
    have afA:(n2:Int)≤(n:Int):=om;go_wp2;go_ret;exact⟨by rw[hd3.1];rfl,G.1⟩
end
end
section
section
open Go.RowKit Go.Shelf
theorem Nw {w ops o a K Q E} (hgd:o.guard=none) (s x)
  (ho:o.op= .call {callee:= .builtin .append,args:= #[s,x],argTypes:= #[134,134]})
  (base A n c l) (hs:a.eval s= .slice A n c) (hown:aR w base A n c l)
  (B S m d k) (hx:a.eval x= .slice S m d) (hr:bM w B S m d k)
  (hlen:n+m≤8796093022208) (hbase:base≤w.heap.size)
  (h:∀A2 c2 w',aR w' base A2 (n+m) c2 (l++k)→w.grownBy w' (ab A)→(ab A2=ab A∨ab A2=some w.heap.size)→K (a.put o.dst (.slice A2 (n+m) c2)) w'):
  if Region.wanted o (yielded ops a.tmps)=true then Oper.wp prog o a w K Q else E:=by
 have hw:Region.wanted o (yielded ops a.tmps)=true:=by simp[Region.wanted,hgd]
 rw[Ps0 hw];obtain⟨i0,hi0,hz0,hz1,hz2⟩:=AY Qu;refine mG w s x _ ho base 9 i0 (.string ByteArray.empty) 1 16 underlying134 hi0 hz0 hz1 hz2 rfl Ai A n c (oL l) hs hown B S m d (oL k) hx hr (KU k) (by unfold maxLen;omega) om hbase ?_;rw[←mP];exact h
theorem aR.nil (w base):aR w base none 0 0 []:=⟨rfl,.inl ⟨rfl,rfl⟩⟩
theorem bM.two (w:World) (x y):bM (w.alloc (.cells #[.string x,.string y] 9)) (w.heap.size+1) (some ⟨w.heap.size,0,none⟩) 2 2 [x,y]:=bM.lit w [x,y] Ah
theorem sW (A n c l w) (hv:dH w w.heap.size A n c l) (hcap:n≤1000000000000):
  Calls prog 105 #[.slice A n c] w fun e w'=>∃A2 n2 c2,e= .returned (.slice A2 n2 c2)∧aR w' w.heap.size A2 n2 c2 (Lb.strs l)∧Below w.heap.size w w':=by
 have hlc:=hv.1;have hcm:=hv.2.1;unfold maxLen at hcm;have hn:=Al hv.len;have V:=Al hv;clear hv;go_enter func105,ntmps105;go_wp2;go_loopw [3,4] (fun o i wr=>∃k:Nat,k≤n∧i= .int .i64 k∧∃A2 n2 c2,o= .slice A2 n2 c2∧aR wr w.heap.size A2 n2 c2 (Lb.strs (l.take k))∧Below w.heap.size w wr) (fun _ i _=>n-(intOf i).toNat)
 case atStart=>exact⟨0,om,rfl,none,0,0,rfl,by simpa[Lb.strs]using aR.nil w w.heap.size,Ae _ _⟩
 case round=>
  obtain⟨k,hk,rfl,A2,n2,c2,rfl,ho,hb⟩:=hrel;by_cases hlt:k<n
  ·have hkl:k<l.length:=by rw[←hn.1];exact hlt
   obtain⟨b,off,rfl,hc⟩:=V.1.cells Aj hkl;have hn2:n2≤2000000000000:=by
    have h1:=ho.len;rw[Lb.aV,jD]at h1;omega
   have hst:=Al (Lb.wZ l k hkl);have hz:=hb.size;have HC:=Al hc;obtain⟨c0,c1⟩:=hc wr hb;have d0:=fun o=>(HC.1 (wr.alloc o) (hb.alloc hz o)).1
   have d1:=fun o=>(HC.1 (wr.alloc o) (hb.alloc hz o)).2
   have O:=Al ho;have HB:=Al hb;clear hc ho hb;generalize l[k].n=xn at*;generalize l[k].v=xv at*;have HA:Kept (Below w.heap.size w (wr.alloc (.cells #[.string xn,.string xv] 9))):=⟨HB.1.alloc hz _⟩
   go_wp2_with fail;go_region_held3 (fun w'=>w'.cell? ⟨b,off+k*2,none⟩=some (.string xn)∧w'.cell? ⟨b,off+k*2+1,none⟩=some (.string xv)) (first|exact⟨c0,c1⟩|exact⟨d0 _,d1 _⟩|exact k9)
    ((refine Nw ?g1 (.tmp 11) (.tmp 22) ?g2 w.heap.size A2 n2 c2 (Lb.strs (l.take k)) ?g3 ?g4 (wr.heap.size+1) (some ⟨wr.heap.size,0,none⟩) 2 2 [xn,xv] ?g5 ?g6 ?g7 ?g8 ?_;(case g1=>rfl);(case g2=>rfl);(case g3=>rfl);(case g5=>rfl);(case g4=>exact Oa O.1 _);(case g6=>exact bM.two _ xn xv);(case g7=>omega);(case g8=>(simp;omega));intro A3 c3 w3 hown hgrow hat;have hb3:Below w.heap.size w w3:=HA.1.drew.grown hgrow (by show _≤(World.alloc _ _).heap.size;simp;omega) fun g e=>(ae O.1 g e).1;have O3:=Al hown;have B3:=Al hb3;have k9:w3.cell? ⟨b,off+k*2,none⟩=some (.string xn)∧w3.cell? ⟨b,off+k*2+1,none⟩=some (.string xv):=HC.1 w3 hb3;clear hown hgrow hb3))
   go_wp2;go_roundw
   case rel=>exact⟨k+1,om,by go_num,A3,_,c3,rfl,by rw[hst.1];exact O3.1,B3.1⟩
   case measure=>simp[intOf];omega
  ·obtain rfl:k=n:=by omega
   have O:=Al ho;have HB:=Al hb;have ht:l.take k=l:=jc (by have:=hn.1;omega);clear ho hb;go_wp2;go_ret;exact⟨A2,n2,c2,rfl,by rw[←ht];exact O.1,HB.1⟩
end
end
section
section
open Go.RowKit Go.Shelf
theorem fq (w:World) (g k cs t fr) (h:w.heap[g]? =some (.cells cs t fr)):w.cell? ⟨g,k,none⟩=cs[k]?:=by
 simp[World.cell?,h]
theorem aR.apart {w base n c g A l cs t fr} (h:aR w base A n c l) (hg:w.heap[g]? =some (.cells cs t fr)) (ht:t≠9):ab A≠some g:=by
 intro e;rcases h.2 with⟨hv,_⟩|⟨g',cap,cur,hv,_,hg',_⟩
 ·injection hv with h1;rw[h1]at e;cases e
 ·injection hv with h1
  rw[h1]at e;have:g'=g:=Oj e;subst this;rw[hg]at hg'
  injection hg' with h2
  injection h2 with _ h3
  exact ht h3
theorem jK (A n c l w) (hv:dH w w.heap.size A n c l) (hcap:n≤1000000000000):
  Calls prog 123 #[.slice A n c] w fun e w'=>∃A2 n2 c2,e= .returned (.slice A2 n2 c2)∧aR w' w.heap.size A2 n2 c2 (Lb.strs l)∧Below w.heap.size w w':=by
 have hlc:=hv.1;have hcm:=hv.2.1;unfold maxLen at hcm;have hn:=Al hv.len;have V:=Al hv;clear hv;go_enter func123,ntmps123;go_wp2;go_loopw [3,10] (fun o i wr=>∃k:Nat,k≤n∧i= .int .i64 k∧∃A2 n2 c2,o= .slice A2 n2 c2∧aR wr w.heap.size A2 n2 c2 (Lb.strs (l.take k))∧Below w.heap.size w wr) (fun _ i _=>n-(intOf i).toNat)
 case atStart=>exact⟨0,om,rfl,none,0,0,rfl,by simpa[Lb.strs]using aR.nil w w.heap.size,Ae _ _⟩
 case round=>
  obtain⟨k,hk,rfl,A2,n2,c2,rfl,ho,hb⟩:=hrel;by_cases hlt:k<n
  ·have hkl:k<l.length:=by rw[←hn.1];exact hlt
   obtain⟨b,off,rfl,hc⟩:=V.1.cells Aj hkl;have hn2:n2≤2000000000000:=by
    have h1:=ho.len;rw[Lb.aV,jD]at h1;omega
   have hst:=Al (Lb.wZ l k hkl);have hz:=hb.size;obtain⟨c0,c1⟩:=hc wr hb;have O:=Al ho;have HB:=Al hb;clear hc ho hb;generalize l[k].n=xn at*;generalize l[k].v=xv at*;go_upto_region 6 with(go_at_call 150;refine(lH _).mono ?_;rintro e w1 ⟨rfl,g1⟩)
   have X1:Kept (w1.heap[wr.heap.size]? =some (.cells #[.string xn,.string xv] 59 (0,0))):=⟨(g1.below.block _ Ah).trans (Aw wr _)⟩
   have b01:=HB.1.alloc hz (.cells #[.string xn,.string xv] 59);have B1:=Al (b01.trans (g1.below.mono b01.size));have O1:Kept (aR w1 w.heap.size A2 n2 c2 (Lb.strs (l.take k))):=⟨own_below (Oa O.1 _) g1.below (fun g e=>by have:=(ae O.1 g e).2;simp;omega)⟩
   clear b01 g1 HB O c0 c1 hz;generalize wr.heap.size=G at*
   rename World=>wq
   go_loopw [3,15] (fun o j wi=>∃A3 n3 c3,o= .slice A3 n3 c3∧Below w.heap.size w wi∧wi.heap[G]? =some (.cells #[.string xn,.string xv] 59 (0,0))∧((j= .int .i64 0∧aR wi w.heap.size A3 n3 c3 (Lb.strs (l.take k)))∨(j= .int .i64 1∧aR wi w.heap.size A3 n3 c3 (Lb.strs (l.take k)++[xn]))∨(j= .int .i64 2∧aR wi w.heap.size A3 n3 c3 ((Lb.strs (l.take k)++[xn])++[xv])))) (fun _ j _=>2-(intOf j).toNat)
   case atStart=>exact⟨A2,n2,c2,rfl,B1.1,X1.1,.inl ⟨rfl,O1.1⟩⟩
   case round=>
    clear B1 X1 O1;obtain⟨A3,n3,c3,rfl,hb,hx,hj⟩:=hrel;have HG:G<wr.heap.size:=(Ge.1 hx).1;have y0:=fun o=>(AR wr o ⟨G,0,none⟩ HG).trans (fq wr G 0 _ _ _ hx)
    have y1:=fun o=>(AR wr o ⟨G,1,none⟩ HG).trans (fq wr G 1 _ _ _ hx)
    have HB:=Al hb;have hzw:=hb.size;have X:=Al hx;clear hb hx;rcases hj with⟨rfl,ho⟩|⟨rfl,ho⟩|⟨rfl,ho⟩
    ·have ii:=fun W=>nN (.func (.func 203) #[] #[]) (.func (.func 204) #[] #[]) W
     have P1:∀W,Calls prog 203 #[.agg #[.string xn,.string xv]] W fun e w'=>e= .returned (.string xn)∧∃q os',w'=Sort.grow (W.drewN q) os':=fun W=>lG ⟨xn,xv⟩ W
     have rD:n3≤3000000000000:=by have h1:=ho.len;simp[Lb.aV]at h1;omega
     have O:=Al ho;clear ho;go_wp2_with (first
      |(go_at_call 203;refine(P1 _).mono ?_;rintro e w2 ⟨rfl,g2⟩;have G2:Kept (Below wr.heap.size wr w2):=⟨((Ae _ wr).alloc Aj _).trans ((Gr.below g2).mono Ah)⟩;have O2:=Al (own_below O.1 G2.1 (fun g e=>(ae O.1 g e).2));have hz2:=G2.1.size;clear g2)
      |(at_builtin;refine gJ rfl (.tmp 18) (.tmp 23) rfl w.heap.size A3 n3 c3 _ rfl (Oa O2.1 _) (w2.heap.size+1) _ _ _ [xn] rfl (bM.one w2 xn) om (by simp;omega) ?_;intro A4 c4 w4 au af bT;have O4:=Al au;have X2:Kept (w2.heap[G]? =some (.cells #[.string xn,.string xv] 59 (0,0))):=⟨(G2.1.block _ HG).trans X.1⟩;have X3:=Al ((Ay w2 (.cells #[.string xn] 9) G om).trans X2.1);have X4:=Al ((af.block G (by simp;omega) (Ne.symm (aR.apart (Oa O2.1 _) X3.1 Ai))).trans X3.1);have B4:=Al ((((HB.1.trans (G2.1.mono HB.1.size)).alloc (by have:=HB.1.size;omega) (.cells #[.string xn] 9)).grown af (by have:=HB.1.size;simp;omega) (fun g e=>(ae O.1 g e).1)));clear au af bT))
     go_roundw
     case rel=>exact⟨A4,_,c4,rfl,B4.1,X4.1,.inr (.inl ⟨rfl,O4.1⟩)⟩
     case measure=>simp[intOf]
    ·have ii:=fun W=>Fj (.func (.func 203) #[] #[]) (.func (.func 204) #[] #[]) W
     have P1:∀W,Calls prog 204 #[.agg #[.string xn,.string xv]] W fun e w'=>e= .returned (.string xv)∧∃q os',w'=Sort.grow (W.drewN q) os':=fun W=>xc ⟨xn,xv⟩ W
     have rD:n3≤3000000000000:=by have h1:=ho.len;simp[Lb.aV]at h1;omega
     have O:=Al ho;clear ho;go_wp2_with (first
      |(go_at_call 204;refine(P1 _).mono ?_;rintro e w2 ⟨rfl,g2⟩;have G2:Kept (Below wr.heap.size wr w2):=⟨((Ae _ wr).alloc Aj _).trans ((Gr.below g2).mono Ah)⟩;have O2:=Al (own_below O.1 G2.1 (fun g e=>(ae O.1 g e).2));have hz2:=G2.1.size;clear g2)
      |(at_builtin;refine gJ rfl (.tmp 18) (.tmp 23) rfl w.heap.size A3 n3 c3 _ rfl (Oa O2.1 _) (w2.heap.size+1) _ _ _ [xv] rfl (bM.one w2 xv) om (by simp;omega) ?_;intro A4 c4 w4 au af bT;have O4:=Al au;have X2:Kept (w2.heap[G]? =some (.cells #[.string xn,.string xv] 59 (0,0))):=⟨(G2.1.block _ HG).trans X.1⟩;have X3:=Al ((Ay w2 (.cells #[.string xv] 9) G om).trans X2.1);have X4:=Al ((af.block G (by simp;omega) (Ne.symm (aR.apart (Oa O2.1 _) X3.1 Ai))).trans X3.1);have B4:=Al ((((HB.1.trans (G2.1.mono HB.1.size)).alloc (by have:=HB.1.size;omega) (.cells #[.string xv] 9)).grown af (by have:=HB.1.size;simp;omega) (fun g e=>(ae O.1 g e).1)));clear au af bT))
     go_roundw
     case rel=>exact⟨A4,_,c4,rfl,B4.1,X4.1,.inr (.inr ⟨rfl,O4.1⟩)⟩
     case measure=>simp[intOf]
    ·have O:=Al ho;clear ho;go_wp2;go_roundw
     case rel=>exact⟨k+1,om,by go_num,A3,n3,c3,rfl,by rw[hst.1];simpa using O.1,HB.1⟩
     case measure=>simp[intOf];omega
  ·obtain rfl:k=n:=by omega
   have O:=Al ho;have HB:=Al hb;have ht:l.take k=l:=jc (by have:=hn.1;omega);clear ho hb;go_wp2;go_ret;exact⟨A2,n2,c2,rfl,by rw[←ht];exact O.1,HB.1⟩
end
end
section
section
open Go.RowKit Go.Shelf
theorem bM.cells {w B n c k A l} (h:bM w B A n c l) (hB:B≤w.heap.size) (hk:k<l.length):
  ∃b off,A=some ⟨b,off,none⟩∧∀W,Below w.heap.size w W→W.cell? ⟨b,off+k,none⟩=some (.string l[k]):=by
 obtain⟨b,off,e,hb,h1⟩:=h.at_ hk;exact⟨b,off,e,fun W hW=>(hW.cell (p:=⟨b,_,none⟩) (by show b<_;omega)).trans h1⟩
namespace Lb
def Fit (l:List aU):Prop:=∀x∈l,x.n.size≤maxLen∧x.v.size≤maxLen
end Lb
namespace Sy
def tot (L:List ByteArray):Nat:=(L.map fun s=>1+min s.size 200000).sum
theorem kM (L:List ByteArray) (k) (h:k<L.length):tot (L.take (k+1))=tot (L.take k)+(1+min L[k].size 200000):=by
 unfold tot;rw[Ts h,dN,Dx];simp
def Fit (L:List ByteArray):Prop:=∀s∈L,s.size≤maxLen
end Sy
theorem Fp (A n c B L w) (hv:bM w B A n c L) (hB:B≤w.heap.size) (hf:Sy.Fit L):
  Calls prog 104 #[.slice A n c] w fun e w'=>∃v:Int,e= .returned (.int .i64 v)∧(v=0∨v=1)∧(v=0→n≤500∧Sy.tot L≤200000)∧Gr w w':=by
 have hlc:=hv.1;have hcm:=hv.2.1;unfold maxLen at hcm;have hn:=Al hv.len;have V:=Al hv;have F:=Al hf;clear hv hf;go_enter func104,ntmps104;go_wp2;go_loopw [3,8] (fun s i wr=>∃k a:Nat,k≤n∧a≤200000∧i= .int .i64 k∧s= .int .i64 a∧Kept (a=Sy.tot (L.take k)∧(0<k→n≤500))∧Gr w wr) (fun _ i _=>n-(intOf i).toNat)
 case atStart=>exact⟨0,0,om,om,rfl,rfl,⟨rfl,fun h=>om⟩,Gr.refl w⟩
 case round=>
  obtain⟨k,a,hk,ha,rfl,rfl,hd,gr⟩:=hrel;by_cases hlt:k<n
  ·have hkl:k<L.length:=by rw[←hn.1];exact hlt
   obtain⟨b,off,rfl,hc⟩:=V.1.cells hB hkl;have c0:=hc wr gr.below;have G:=Al gr;have hs:=F.1 _ (dR hkl);have ht:=Al (Sy.kM L k hkl);unfold maxLen at hs;clear hc gr;generalize L[k]=x at*;rcases Cy 200000 x.size with hx|hx
   rotate_left 1
   ·have hx':¬(200000:Int)< (x.size:Int):=by omega
    have hm:min x.size 200000=x.size:=om;rw[hm]at ht;by_cases h1:200000<a+(1+x.size)
    ·have h1':(200000:Int)< (a:Int)+(1+(x.size:Int)):=by omega
     clear h1 hm;go_wp2;go_ret;exact⟨1,rfl,.inr rfl,(fun h=>by cases h),G.1⟩
    ·have h1':¬(200000:Int)< (a:Int)+(1+(x.size:Int)):=by omega
     by_cases h2:500<n
     ·have h2':(500:Int)< (n:Int):=by omega
      clear h1 h2 hm;go_wp2;go_ret;exact⟨1,rfl,.inr rfl,(fun h=>by cases h),G.1⟩
     ·have h2':¬(500:Int)< (n:Int):=by omega
      have hd2:Kept (a+(1+x.size)=Sy.tot (L.take (k+1))∧(0<k+1→n≤500)):=⟨by rw[ht.1,←hd.1.1],fun _=>om⟩
      have afB:Kept (a+(1+x.size)≤200000):=⟨om⟩
      clear h1 h2 hm;go_wp2;go_roundw
      case rel=>exact⟨k+1,a+(1+x.size),om,afB.1,by go_num,by go_num,hd2,G.1⟩
      case measure=>simp[intOf];omega
   ·have h1':(200000:Int)< (a:Int)+200001:=by omega
    have hx':(200000:Int)< (x.size:Int):=om;have hw1:IntKind.i64.wrap (1+200000)=200001:=by rw[AZ];rfl
    have ha0:(0:Int)≤(a:Int):=om;have ha1:(a:Int)≤200000:=om;generalize (a:Int)=ai at*;clear ht hx ha;go_wp2;go_ret;exact⟨1,rfl,.inr rfl,(fun h=>by cases h),G.1⟩
  ·have G:=Al gr;have ht:L.take k=L:=jc (by have:=hn.1;omega);have hr:Kept (n≤500∧Sy.tot L≤200000):=⟨by
    by_cases h0:n=0
    ·omega
    ·exact hd.1.2 om,by rw[←ht,←hd.1.1];exact ha⟩
   clear gr;go_wp2;go_ret;exact⟨0,rfl,.inl rfl,fun _=>hr.1,G.1⟩
namespace Lb
theorem QB {l} (h:Fit l):Sy.Fit (strs l):=fun s hs=>by
 unfold strs at hs;obtain⟨x,hx,hm⟩:=l6.1 hs;have:=h x hx;rcases iW.1 hm with rfl|hm
 ·exact this.1
 ·rw[iP]at hm;subst hm;exact this.2
end Lb
end
end
end Go.Proofs.YtongopommlghgaaGreatDoor
