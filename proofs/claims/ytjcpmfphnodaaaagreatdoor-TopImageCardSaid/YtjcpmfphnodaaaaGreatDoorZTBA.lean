/- Part 27. -/
import Derived.Test.YtjcpmfphnodaaaaGreatDoorZTAZ
namespace Go.Proofs.YtjcpmfphnodaaaaGreatDoor
set_option maxRecDepth 100000
set_option maxHeartbeats 0
open _root_.Go.Proofs.Tryz
open Go.RowKit Go.Shelf
def Xo.st:Nat→Nat×Nat→List Nat→Nat×(Nat×Nat)
 |last,c,[]=>(last,c)
 |last,c,v::l=>Xo.st v (Xo.put last c v).2 l
theorem Xo.xz:∀(last) (c) (l) (v),Xo.puts last c (l++[v])=Xo.puts last c l++(Xo.put (Xo.st last c l).1 (Xo.st last c l).2 v).1
 |last,c,[],v=>by simp[Xo.puts,Xo.st]
 |last,c,x::l,v=>by rw[AU,Xo.puts,Xo.xz x _ l v,Xo.puts,Xo.st,Af]
theorem Xo.K9:∀(last) (c) (l) (v),Xo.st last c (l++[v])=(v,(Xo.put (Xo.st last c l).1 (Xo.st last c l).2 v).2)
 |last,c,[],v=>by simp[Xo.st]
 |last,c,x::l,v=>by rw[AU,Xo.st,Xo.K9 x _ l v,Xo.st]
theorem Xo.YI {last v} {c} (h:Xo.Cw c) (hl:last<2^64) (hv:v<2^64):Xo.Cw (Xo.put last c v).2∧(Xo.put last c v).1.length≤80:=by
 unfold Xo.put;split
 ·exact⟨h,by rw[Bt.ak];omega⟩
 ·rename_i h0
  have hx:v^^^last<2^64:=Bp hv hl;have h2:=Xo.kQ hx h0;split
  ·refine⟨h,?_⟩;rw[La,Bt.ak,Bt.ak];rcases h with h|h
   ·rw[h];omega
   ·omega
  ·refine⟨.inr ⟨h2.1,h2.2.1⟩,?_⟩;simp only[La,Bt.ak];omega
theorem Xo.Xb:∀(l) (last) (c),Xo.Cw c→last<2^64→(∀x∈l,x<2^64)→Xo.Cw (Xo.st last c l).2∧(Xo.st last c l).1<2^64∧(Xo.puts last c l).length≤80*l.length
 |[],last,c,h,hl,_=>⟨h,hl,by simp[Xo.puts]⟩
 |v::l,last,c,h,hl,hx=>by
  have hv:=hx v jM;have h1:=Xo.YI h hl hv;obtain⟨a,b,d⟩:=Xo.Xb l v _ h1.1 hv (fun x hx'=>hx x (nS _ hx'));refine⟨a,b,?_⟩;rw[Xo.puts,La,Lc];omega
def Xo.at_ (l:List Nat) (k:Nat):List Bool×Nat×(Nat×Nat):=
 match l with
 |[]=>([],0,(0,0))
 |v::t=>if k=0 then([],0,(0,0))else(Bt.bw 64 v++Xo.puts v (0,0) (t.take (k-1)),Xo.st v (0,0) (t.take (k-1)))
theorem Xo.iJ (l):Xo.at_ l 0=([],0,(0,0)):=by cases l<;>simp[Xo.at_]
theorem Xo.at_one {l} (h:0<l.length):Xo.at_ l 1=(Bt.bw 64 l[0],l[0],(0,0)):=by
 cases l with
 |nil=>simp at h
 |cons v t=>simp[Xo.at_,Xo.puts,Xo.st]
theorem Xo.Vo {l} {k} (h0:0<k) (h:k<l.length):Xo.at_ l (k+1)=((Xo.at_ l k).1++(Xo.put (Xo.at_ l k).2.1 (Xo.at_ l k).2.2 l[k]).1,l[k],(Xo.put (Xo.at_ l k).2.1 (Xo.at_ l k).2.2 l[k]).2):=by
 cases l with
 |nil=>simp at h
 |cons v t=>
  obtain⟨j,rfl⟩:∃j,k=j+1:=⟨k-1,om⟩
  have hj:j<t.length:=by simpa using h
  have e:t.take (j+1)=t.take j++[t[j]]:=Ts hj;simp only[Xo.at_,Bn,Bz];rw[Ng om,Ng om,e,Xo.xz,Xo.K9,Af]
theorem Xo.Iz (l):(Xo.at_ l l.length).1=Xo.enc l:=by
 cases l with
 |nil=>rfl
 |cons v t=>
  simp only[Xo.at_,Lc,Bn];rw[Ng om,jY Ai]
  rfl
theorem Xo.abC {l} (hx:∀x∈l,x<2^64) (k) (hk:k≤l.length):Xo.Cw (Xo.at_ l k).2.2∧(Xo.at_ l k).2.1<2^64∧(Xo.at_ l k).1.length≤80*k:=by
 cases l with
 |nil=>exact⟨.inl rfl,by simp[Xo.at_],by simp[Xo.at_]⟩
 |cons v t=>
  unfold Xo.at_;simp only[];split
  ·exact⟨.inl rfl,sm,sm⟩
  ·obtain⟨a,b,c⟩:=Xo.Xb (t.take (k-1)) v (0,0) (.inl rfl) (hx v jM) (fun x h=>hx x (nS _ (List.mem_of_mem_take h)));refine⟨a,b,?_⟩;rw[La,Bt.ak];rw[lQ]at c;simp only[Lc]at hk;omega
theorem We.ae3 {base q e} {w w0 w'} (h:We base q e w0 w') (h0:Gr w w0) (hb:base≤w.heap.size) (he:w.heap.size≤e):Wk base q w w':=
 ⟨(h0.below.mono hb).trans h.aU,fun k hk hq hn=>by
  have e1:=h0.below.block k hk;refine(h.rest k (jB hk h0.size) hq om (fun cs fr hc=>hn cs fr (e1.symm.trans hc))).trans e1⟩
theorem uE {base q bA B n c} {cv} {J} {bs} {A} {l} {w} (O:FQ bA cv base q J) (hJ:J bs w) (hq:q<w.heap.size) (hbw:base≤w.heap.size) (hD:vW w) (hD2:2<base)
  (hr:kg w B A n c l) (hB:B≤base) (hx:∀x∈l,x<2^64) (hn:n≤100000) (hl:bs.length≤10000000):
  Calls prog 253 #[.slice A n c,fo bA cv] w fun r w'=>r= .returned (.tuple #[])∧J (bs++Xo.enc l) w'∧Wk base q w w':=by
 have hln:=Aj hr.len;have hlc:=hr.1;have hcm:=hr.2.1;unfold maxLen at hcm;have R0:=Aj hr;have HX:=Aj hx;have KO:=Aj O;have hent:=O.Ye;have HD:=Aj hD;have G1:=Aj ((Gr.refl w).alloc (.cells #[.int .u64 0,.int .i64 0,.int .i64 0,fo bA cv] 397));have S1:=Aj (show mf base q J (fo bA cv) w.heap.size (w.alloc (.cells #[.int .u64 0,.int .i64 0,.int .i64 0,fo bA cv] 397)) (bs++(Xo.at_ l 0).1) (Xo.at_ l 0).2.1 (Xo.at_ l 0).2.2 (w.alloc (.cells #[.int .u64 0,.int .i64 0,.int .i64 0,fo bA cv] 397))from by
  rw[Xo.iJ];exact⟨by simpa using O.gr bs w _ hJ G1.1,Av w _,We.refl _ _ _ _⟩)
 have hz1:(w.alloc (.cells #[.int .u64 0,.int .i64 0,.int .i64 0,fo bA cv] 397)).heap.size=w.heap.size+1:=sm;obtain⟨W1,hW1⟩:∃W1,W1=w.alloc (.cells #[.int .u64 0,.int .i64 0,.int .i64 0,fo bA cv] 397):=⟨_,rfl⟩
 rw[←hW1]at S1 G1 hz1;obtain⟨e,he⟩:∃e,e=w.heap.size:=⟨_,rfl⟩
 rw[←he]at S1;have HE:=Aj he;have hqe:e≠q:=om;have hbe:base≤e:=om;have hbW:base≤W1.heap.size:=om;unfold fo at hW1;have HW1:=Aj hW1.symm;have hff:fo bA cv= .func (.func bA) #[] #[cv]:=rfl;rw[hff];clear hr hx O hJ hD hW1 he hz1 hff;go_enter func253,ntmps253;go_wp2;rw[HW1.1,←HE.1];go_loopw [12] (fun i wr=>∃k:Nat,k≤n∧i= .int .i64 (k:Int)∧mf base q J (fo bA cv) e W1 (bs++(Xo.at_ l k).1) (Xo.at_ l k).2.1 (Xo.at_ l k).2.2 wr) (fun i _=>n-(intOf i).toNat)
 case atStart=>exact⟨0,bE _,rfl,S1.1⟩
 case round=>
  clear S1;obtain⟨k,hk,rfl,hs⟩:=hrel;have HS:=Aj hs;by_cases hlt:k<n
  ·have hlt':(k:Int)< (n:Int):=by omega
   have hkl:k<l.length:=by have:=hln.1;omega
   have hbel:Below base w wr:=(G1.1.below.mono hbw).trans hs.we.aU;obtain⟨bb,off,rfl,lX,hc0⟩:=(R0.1.below (hbel.mono hB)).at_ hkl;have hvk:=HX.1 _ (ic hkl);obtain⟨hcw,hla,abD⟩:=Xo.abC HX.1 k om;rcases nz k with hk0|hk0
   ·subst hk0;have e1:=Xo.at_one (l:=l) hkl;have e0:=Xo.iJ l;have OC:=Aj (hs.Xa KO.1 hqe (x:=l[0]) (n:=64) om om (by rw[e0];simp;omega));rw[e0]at OC;have LS:=Aj (fun(b2:List Bool) (w2:World) (h2:mf base q J (fo bA cv) e W1 b2 0 (0,0) w2)=>h2.last KO.1 hqe hbe l[0]);have E1:=Aj e1;clear hs hcw hla abD e0 e1;rw[Da]at hc0;generalize l[0]=v at*;go_wp2;refine OC.1.mono ?_;rintro r w2 ⟨rfl,h2⟩;have H2:=Aj h2;have j0:=h2.en.k0.1;have f0:=h2.en.f 0;clear h2;go_wp2;go_roundw
    case rel=>exact⟨1,om,rfl,by rw[E1.1];simpa using LS.1 _ _ H2.1⟩
    case measure=>simp[intOf];omega
   ·have e1:=Aj (Xo.Vo hk0 hkl);have PT:=Aj (Rm KO.1 hs.j hs.en hqe hbe (Lt hbW hs.we.aU.size) (HD.1.aU hbel hD2) hD2 hcw (v:=l[k]) om om (by rw[La];omega));have hk1:(0:Int)< (k:Int):=om;clear hs hcw hla abD;generalize l[k]=v at*;go_wp2_with (go_at_call 275;refine PT.1.mono ?_;rintro r w2 ⟨rfl,h2⟩;have H2:=Aj (show mf _ _ _ _ _ W1 _ _ _ w2 from⟨h2.j,h2.en,HS.1.we.trans h2.we⟩);clear h2);go_roundw
    case rel=>exact⟨k+1,om,by go_num,by rw[e1.1,←Af];exact H2.1⟩
    case measure=>simp[intOf];omega
  ·obtain rfl:k=n:=by omega
   have e:(Xo.at_ l k).1=Xo.enc l:=by rw[hln.1];exact Xo.Iz l
   have F:=Aj (show J (bs++Xo.enc l) wr∧Wk base q w wr from⟨by rw[←e];exact hs.j,hs.we.ae3 G1.1 hbw (by rw[HE.1];exact Nr _)⟩);clear hs e HS;go_wp2
   (try simp only[Exit.inBlock,Exit.then]);refine bodyPost_end (BI rfl _ _ _) rfl ?_
   exact⟨rfl,F.1⟩
def SzJ (q:Nat) (bs:List Bool) (W:World):Prop:=W.heap[q]? =some (.cells #[.int .i64 (bs.length:Int)] 3 (0,0))
theorem abE (base q) (hq:base≤q):FQ 254 (.pointer (some ⟨q,0,none⟩)) base q (SzJ q) where
 Ye:=enters_of func254 kr rfl
 call bs x n w h hx hn hl:=by
  have c0:=Co _ _ 0 _ _ _ h;have f0:=Fr _ _ 0 _ _ h;have H:=Aj h;have hlt:=(Ge.1 h).1;have hb:Kept (((bs++Bt.bw n x).length:Int)=(bs.length:Int)+(n:Int)):=⟨by rw[La,Bt.ak];simp⟩
  have WS:=Aj (Wk.set (base:=base) (p:=q) w 0 (.int .i64 ((bs.length:Int)+(n:Int))) hq hlt);have HS:Kept (SzJ q (bs++Bt.bw n x) (w.setCell ⟨q,0,none⟩ (.int .i64 ((bs.length:Int)+(n:Int))))):=⟨by
   unfold SzJ;rw[hb.1,Ag _ q 0 _ _ _ H.1];rfl⟩
  clear h;go_enter func254,ntmps254;go_wp2;go_end0;exact⟨rfl,HS.1,WS.1⟩
 gr bs w w' h hg:=(hg.below.block q (Ge.1 h).1).trans h
 set bs w e k v cs fr h he hr:=(AF w ⟨e,k,none⟩ v q (fun h=>he h.symm)).trans h
theorem Nj (A) (n c B) (l) (w) (hr:kg w B A n c l) (hB:B≤w.heap.size) (hx:∀x∈l,x<2^64) (hn:n≤100000) (hD:vW w) (hD2:2<w.heap.size):
  Calls prog 215 #[.slice A n c] w fun r w'=>r= .returned (.int .i64 ((Xo.enc l).length:Int))∧Below w.heap.size w w':=by
 have hG:=(Gr.refl w).alloc (.cells #[.int .i64 0] 3);have hJ:SzJ w.heap.size [] (w.alloc (.cells #[.int .i64 0] 3)):=Av w _;have EC:=Aj (uE (base:=w.heap.size) (q:=w.heap.size) (abE w.heap.size w.heap.size Ai) hJ sm sm (hD.aU hG.below hD2) hD2 (hr.below (hG.below.mono hB)) hB hx hn sm);have hb:=Aj hG.below;unfold fo at EC;clear hr hx hD hJ hG;go_enter func215,ntmps215;go_wp2_with (go_at_call 253;refine EC.1.mono ?_;rintro r w2 ⟨rfl,h2,k2⟩;have k0:w2.cell? ⟨w.heap.size,0,none⟩=some (.int .i64 ((Xo.enc l).length:Int)):=(by have:=Co _ _ 0 _ _ _ h2;simpa using this);have B2:=Aj (hb.1.trans k2.aU);clear h2 k2);go_ret;exact⟨rfl,B2.1⟩
def PtJ (base p b:Nat) (bs:List Bool) (W:World):Prop:=eZ W base p bs∧Boxed W b 302 (.pointer (some ⟨p,0,none⟩))
theorem abF (base p b) (hb:b≠p):FQ 255 (.pointer (some ⟨b,0,none⟩)) base p (PtJ base p b) where
 Ye:=enters_of func255 kr rfl
 call bs x n w h hx hn hl:=by
  have c0:=h.2.cell;have WB:=Aj (bZ base p x n bs w h.1 hx hn om);have HB:=Aj h.2;clear h;go_enter func255,ntmps255;go_wp2_with (go_at_call 191;refine WB.1.mono ?_;rintro r w2 ⟨rfl,h2,k2⟩;have H2:=Aj h2;have K2:=Aj k2;clear h2 k2);go_end0;exact⟨rfl,⟨H2.1,Boxed.wk HB.1 K2.1 hb Ah⟩,K2.1⟩
 gr bs w w' h hg:=⟨h.1.gr hg,(hg.below.block b h.2.lt).trans h.2⟩
 set bs w e k v cs fr h he hr:=by
  refine⟨?_,?_⟩
  ·obtain⟨A,n,c,L,h1,h2,h3,h4⟩:=h.1;have hg:=av w ⟨e,k,none⟩ v;exact⟨A,n,c,L,(hg.block p (Ge.1 h1).1 (fun e2=>he (Oj e2).symm)).trans h1,af h2 hg (.inr (fun e2=>ou h2 hr Ah e2.symm)),h3,h4⟩
  ·refine(AF w ⟨e,k,none⟩ v b (fun e2=>?_)).trans h.2;have h2:=(show w.heap[b]? =some (.cells #[.pointer (some ⟨p,0,none⟩)] 302 (0,0))from h.2)
   rw[e2]at h2;have:=hr.symm.trans h2;simp only[gV,Dn]at this;exact absurd this.2.1 Ah
theorem Rn (base p B) (bs) (A) (n c) (l) (w) (h:eZ w base p bs) (hr:kg w B A n c l) (hB:B≤base) (hx:∀x∈l,x<2^64) (hn:n≤100000) (hl:bs.length≤10000000) (hD:vW w) (hD2:2<base):
  Calls prog 216 #[.pointer (some ⟨p,0,none⟩),.slice A n c] w fun r w'=>r= .returned (.int .i64 0)∧eZ w' base p (bs++Xo.enc l)∧Wk base p w w':=by
 obtain⟨hp1,hp2⟩:=h.lt;have hG:=(Gr.refl w).alloc (.cells #[.pointer (some ⟨p,0,none⟩)] 302);have hJ:PtJ base p w.heap.size bs (w.alloc (.cells #[.pointer (some ⟨p,0,none⟩)] 302)):=⟨h.gr hG,Boxed.new w _ _⟩
 have hbx:=Boxed.new w 302 (.pointer (some ⟨p,0,none⟩));have c0:=hbx.cell;have EC:=Aj (uE (base:=base) (q:=p) (abF base p w.heap.size om) hJ (by simp;omega) (by simp;omega) (hD.aU hG.below om) hD2 (hr.below (hG.below.mono om)) hB hx hn hl);have WG:=Aj (Wk.gr (base:=base) (p:=p) hG om);unfold fo at EC;clear h hr hx hD hJ hG hbx;go_enter func216,ntmps216;go_wp2_with (go_at_call 253;refine EC.1.mono ?_;rintro r w2 ⟨rfl,h2,k2⟩;have H2:=Aj h2;have K2:=Aj (WG.1.trans k2);clear h2 k2);go_ret;exact⟨rfl,H2.1.1,K2.1⟩
def De (w:World) (d p last:Nat) (c:Nat×Nat) (er:Int):Prop:=w.heap[d]? =some (.cells #[.int .u64 (last:Int),.int .i64 (c.1:Int),.int .i64 (c.2:Int),.pointer (some ⟨p,0,none⟩),.int .i64 er] 372 (0,0))
theorem De.lt {w} {d p last} {c} {er} (h:De w d p last c er):d<w.heap.size:=(Ge.1 h).1
theorem De.k {w} {d p last} {c} {er} (h:De w d p last c er):w.cell? ⟨d,0,none⟩=some (.int .u64 (last:Int))∧w.cell? ⟨d,1,none⟩=some (.int .i64 (c.1:Int))∧w.cell? ⟨d,2,none⟩=some (.int .i64 (c.2:Int))∧w.cell? ⟨d,3,none⟩=some (.pointer (some ⟨p,0,none⟩))∧w.cell? ⟨d,4,none⟩=some (.int .i64 er):=
 ⟨Co _ _ 0 _ _ _ h,Co _ _ 1 _ _ _ h,Co _ _ 2 _ _ _ h,Co _ _ 3 _ _ _ h,Co _ _ 4 _ _ _ h⟩
theorem De.f {w} {d p last} {c} {er} (h:De w d p last c er) (k):w.frozen? ⟨d,k,none⟩=false:=Fr _ _ k _ _ h
theorem De.err {w} {d p last} {c} {er} (h:De w d p last c er) (e):De (w.setCell ⟨d,4,none⟩ (.int .i64 e)) d p last c e:=by
 unfold De at*;rw[Ag _ d 4 _ _ _ h];rfl
theorem De.last {w} {d p last} {c} {er} (h:De w d p last c er) (v:Nat):De (w.setCell ⟨d,0,none⟩ (.int .u64 (v:Int))) d p v c er:=by
 unfold De at*;rw[Ag _ d 0 _ _ _ h];rfl
theorem De.win {w} {d p last} {c} {er} (h:De w d p last c er) (u):De ((w.setCell ⟨d,1,none⟩ (.int .i64 (u.1:Int))).setCell ⟨d,2,none⟩ (.int .i64 (u.2:Int))) d p last u er:=by
 unfold De at*;rw[Ag _ d 2 _ _ _ (Ag _ d 1 _ _ _ h)];rfl
structure Wd (p d:Nat) (w w':World):Prop where
 os:w'.os=w.os
 tape:w'.tape=w.tape
 output:w'.output=w.output
 size:w.heap.size≤w'.heap.size
 block:∀k,k<w.heap.size→k≠p→k≠d→w'.heap[k]? =w.heap[k]?
theorem Wd.refl (p d) (w):Wd p d w w:=⟨rfl,rfl,rfl,Nr _,fun _ _ _ _=>rfl⟩
theorem Wd.trans {p d} {w w1 w2} (h:Wd p d w w1) (g:Wd p d w1 w2):Wd p d w w2:=
 ⟨g.os.trans h.os,g.tape.trans h.tape,g.output.trans h.output,Lt h.size g.size,fun k hk hp hd=>(g.block k (jB hk h.size) hp hd).trans (h.block k hk hp hd)⟩
theorem Wd.rd {p d} {w w'} (h:w.grownBy w' (some p)):Wd p d w w':=⟨h.os,h.tape,h.output,h.size,fun k hk hp _=>h.block k hk (fun e=>hp (Oj e))⟩
theorem Wd.set (p) {d} (w) (k) (v):Wd p d w (w.setCell ⟨d,k,none⟩ v):=
 have h:=av w ⟨d,k,none⟩ v
 ⟨h.os,h.tape,h.output,h.size,fun j hj _ hd=>h.block j hj (fun e=>hd (Oj e))⟩
theorem De.rd {w w'} {d p last} {c} {er} (h:De w d p last c er) (hg:w.grownBy w' (some p)) (hne:d≠p):De w' d p last c er:=(hg.block d h.lt (fun e=>hne (Oj e))).trans h
theorem Br.vX {w} {d p} {r} (h:Br w p r) (hd:p<d) (k) (v):Br (w.setCell ⟨d,k,none⟩ v) p r:=h.grown (av w ⟨d,k,none⟩ v) (fun g e=>by cases e;exact hd)
def Xo.bL (n:Nat) (er:Int) (r:List Bool):Nat×List Bool×Int:=if er≠0 then(0,r,er)else Tm.rd n r
theorem dW (d p last n:Nat) (c) (er) (r) (w) (hD:De w d p last c er) (hB:Br w p r) (hn:n≤64) (l5:p<d):
  Calls prog 256 #[.pointer (some ⟨d,0,none⟩),.int .i64 (n:Int)] w fun e w'=>e= .returned (.int .u64 ((Xo.bL n er r).1:Int))∧De w' d p last c (Xo.bL n er r).2.2∧Br w' p (Xo.bL n er r).2.1∧Wd p d w w':=by
 have HD:=Aj hD;have HB:=Aj hB;obtain⟨-,-,-,k3,k4⟩:=hD.k;by_cases he:er=0
 ·subst he;have hx:Kept (Xo.bL n 0 r=Tm.rd n r):=⟨by unfold Xo.bL;rw[Ng sm]⟩
  rw[hx.1];have RB:=Aj (dF p n r w hB hn);generalize Tm.rd n r=Y at*;obtain⟨x,r1,e1⟩:=Y;simp only[]at*;clear hD hB;go_enter func256,ntmps256;go_wp2_with (go_at_call 213;refine RB.1.mono ?_;rintro e w1 ⟨rfl,hb,hg⟩;have B1:=Aj hb;have G1:=Aj hg;have D1:=Aj (HD.1.rd hg om);have f4:=D1.1.f 4;have j4:=D1.1.k.2.2.2.2;clear hb hg);go_ret;exact⟨rfl,D1.1.err e1,B1.1.vX l5 4 _,(Wd.rd G1.1).trans (Wd.set p w1 4 _)⟩
 ·have hne:(er !=0)=true:=by simpa using he
  have hx:Kept (Xo.bL n er r=(0,r,er)):=⟨by unfold Xo.bL;rw[Ps0 he]⟩
  rw[hx.1];clear hD hB he;go_enter func256,ntmps256;go_wp2;go_ret;exact⟨rfl,HD.1,HB.1,Wd.refl _ _ _⟩
def Xo.kD (b:Bool) (er:Int):Int:=if er=0∧b=false then 8 else er
theorem fK (d p last) (c) (er) (b) (r) (w) (hD:De w d p last c er) (hB:Br w p r) (l5:p<d):
  Calls prog 277 #[.pointer (some ⟨d,0,none⟩),.bool b] w fun e w'=>e= .returned (.tuple #[])∧De w' d p last c (Xo.kD b er)∧Br w' p r∧Wd p d w w':=by
 have HD:=Aj hD;have HB:=Aj hB;obtain⟨-,-,-,k3,k4⟩:=hD.k;have f4:=hD.f 4;unfold Xo.kD;clear hD hB;by_cases he:er=0
 ·subst he;cases b
  ·go_enter func277,ntmps277;go_wp2;go_end0;exact⟨rfl,HD.1.err 8,HB.1.vX l5 4 _,Wd.set p w 4 _⟩
  ·go_enter func277,ntmps277;go_wp2;go_end0;exact⟨rfl,HD.1,HB.1,Wd.refl _ _ _⟩
 ·have hne:(er==0)=false:=by simpa using he
  rw[Ng (fun h=>he h.1)];go_enter func277,ntmps277;go_wp2;go_end0;exact⟨rfl,HD.1,HB.1,Wd.refl _ _ _⟩
theorem Wd.alloc {p d} {w w1} (h:Wd p d w w1) (o):Wd p d w (w1.alloc o):=
 h.trans ⟨rfl,rfl,rfl,sm,fun k hk _ _=>(Ga w1 o none).block k hk sm⟩
theorem De.alloc {w} {d p last} {c} {er} (h:De w d p last c er) (o):De (w.alloc o) d p last c er:=((Ga w o none).block d h.lt sm).trans h
theorem Br.al {w} {p} {r} (h:Br w p r) (o):Br (w.alloc o) p r:=h.grown (Ga w o none) (fun g e=>by cases e)
theorem Wd.row {p d g} {w w'} {cs} {t} {fr} (h:Wd p d w w') (hr:w.heap[g]? =some (.cells cs t fr)) (hp:g≠p) (hd:g≠d):w'.heap[g]? =some (.cells cs t fr):=(h.block g (Ge.1 hr).1 hp hd).trans hr
theorem Wd.late {p d g} {w w1} (h:Wd p d w w1) (hg:w.heap.size≤g) (k) (v):Wd p d w (w1.setCell ⟨g,k,none⟩ v):=
 have e:=av w1 ⟨g,k,none⟩ v
 ⟨e.os.trans h.os,e.tape.trans h.tape,e.output.trans h.output,Lt h.size e.size,fun j hj hp hd=>(e.block j (jB hj h.size) (fun q=>by have:=Oj q;simp only at this;omega)).trans (h.block j hj hp hd)⟩
theorem De.late {w} {d p last g} {c} {er} (h:De w d p last c er) (hg:d≠g) (k) (v):De (w.setCell ⟨g,k,none⟩ v) d p last c er:=(AF w ⟨g,k,none⟩ v d hg).trans h
def Xo.SQ (er:Int) (r:List Bool):(Nat×Nat)×List Bool×Int:=
 (((Xo.bL 6 er r).1,(Xo.bL 6 (Xo.bL 6 er r).2.2 (Xo.bL 6 er r).2.1).1+1),(Xo.bL 6 (Xo.bL 6 er r).2.2 (Xo.bL 6 er r).2.1).2.1,
  Xo.kD (decide ((Xo.bL 6 er r).1+((Xo.bL 6 (Xo.bL 6 er r).2.2 (Xo.bL 6 er r).2.1).1+1)≤64)) (Xo.bL 6 (Xo.bL 6 er r).2.2 (Xo.bL 6 er r).2.1).2.2)
theorem Xo.Ld (n) (er) (r):(Xo.bL n er r).1<2^n:=by
 unfold Xo.bL;split
 ·exact Nat.two_pow_pos n
 ·exact Tm.jr n r
theorem Nk (d p last) (c) (er) (r) (w) (hD:De w d p last c er) (hB:Br w p r) (l5:p<d):
  Calls prog 276 #[.pointer (some ⟨d,0,none⟩)] w fun e w'=>e= .returned (.agg #[.int .i64 ((Xo.SQ er r).1.1:Int),.int .i64 ((Xo.SQ er r).1.2:Int)])∧De w' d p last c (Xo.SQ er r).2.2∧Br w' p (Xo.SQ er r).2.1∧Wd p d w w':=by
 have hdl:=hD.lt;obtain⟨W0,hW0⟩:∃W0,W0=w.alloc (.cells #[.int .i64 0,.int .i64 0] 368):=⟨_,rfl⟩
 have hr0:W0.heap[w.heap.size]? =some (.cells #[.int .i64 0,.int .i64 0] 368 (0,0)):=by rw[hW0];exact Av w _
 have hD0:De W0 d p last c er:=by rw[hW0];exact hD.alloc _
 have hB0:Br W0 p r:=by rw[hW0];exact hB.al _
 have hF0:Wd p d w W0:=by rw[hW0];exact(Wd.refl p d w).alloc _
 have hz0:W0.heap.size=w.heap.size+1:=by rw[hW0];simp
 have HX:Kept (Xo.SQ er r=(((Xo.bL 6 er r).1,(Xo.bL 6 (Xo.bL 6 er r).2.2 (Xo.bL 6 er r).2.1).1+1),(Xo.bL 6 (Xo.bL 6 er r).2.2 (Xo.bL 6 er r).2.1).2.1,Xo.kD (decide ((Xo.bL 6 er r).1+((Xo.bL 6 (Xo.bL 6 er r).2.2 (Xo.bL 6 er r).2.1).1+1)≤64)) (Xo.bL 6 (Xo.bL 6 er r).2.2 (Xo.bL 6 er r).2.1).2.2)):=⟨rfl⟩
 rw[HX.1];have B1:=dW d p last 6 c er r W0 hD0 hB0 om l5;have l1:=Xo.Ld 6 er r;generalize Xo.bL 6 er r=Y at*;obtain⟨a,r1,e1⟩:=Y;simp only[]at*;have B2:=fun(w1:World) (h1:De w1 d p last c e1) (h2:Br w1 p r1)=>dW d p last 6 c e1 r1 w1 h1 h2 om l5
 have l2:=Xo.Ld 6 e1 r1;generalize Xo.bL 6 e1 r1=Y at*;obtain⟨b,r2,e2⟩:=Y;simp only[]at*;have CH:=Aj (fun(w1:World) (h1:De w1 d p last c e2) (h2:Br w1 p r2)=>fK d p last c e2 (decide (a+(b+1)≤64)) r2 w1 h1 h2 l5);have YA:=Aj B1;have SN:=Aj B2;have HR0:=Aj hr0;have SV:=Aj hF0;have HW0:=Aj hW0.symm;have hga:IntKind.i64.wrap (a:Int)=(a:Int):=MX om om;have hgb:IntKind.i64.wrap (b:Int)=(b:Int):=MX om om;have hdec:decide ((a:Int)+((b:Int)+1)≤64)=decide (a+(b+1)≤64):=decide_eq_decide.2 ⟨fun h=>om,fun h=>om⟩;obtain⟨g2,hg2⟩:∃g2,g2=w.heap.size:=⟨_,rfl⟩
 have HG2:=Aj hg2.symm;clear B1 B2 hD hB hD0 hB0 hr0 hF0 hW0 HX;go_enter func276,ntmps276;go_wp2_with (go_at_call 256;rw[HW0.1];refine YA.1.mono ?_;rintro e w1 ⟨rfl,h1,h2,h3⟩;have D1:=Aj h1;have R1:=Aj h2;have F1:=Aj h3;have z1:=h3.size;clear h1 h2 h3 YA);have abH:w.heap.size+1≤w1.heap.size:=om;refine(SN.1 _ (D1.1.alloc _) (R1.1.al _)).mono ?_;rintro e w2 ⟨rfl,h1,h2,h3⟩;have hrow3:w2.heap[w1.heap.size]? =some (.cells #[.int .i64 (a:Int),.int .i64 0] 368 (0,0)):=h3.row (Av w1 _) om om;have hrow2:w2.heap[w.heap.size]? =some (.cells #[.int .i64 0,.int .i64 0] 368 (0,0)):=h3.row (((Ga w1 _ none).block _ om sm).trans (F1.1.row HR0.1 om om)) om om;have F2:=Aj (((SV.1.trans F1.1).alloc _).trans h3);have D2:=Aj h1;have R2:=Aj h2;have z2:w1.heap.size+1≤w2.heap.size:=by have:=h3.size;simpa using this
 clear h1 h2 h3 F1 HR0 SV D1 R1 SN hz0;obtain⟨g3,hg3⟩:∃g3,g3=w1.heap.size:=⟨_,rfl⟩
 rw[←hg3]at hrow3 z2 abH⊢;rw[HG2.1];rw[←hg2]at hrow2 abH hdl;have Oy:w.heap.size≤g2:=om;clear hg3 hg2 z1;have c31:=Co _ _ 1 _ _ _ hrow3;have f31:=Fr _ _ 1 _ _ hrow3;have c30:=Co _ _ 0 _ _ _ hrow3;have HR3:=Aj hrow3;have HR2:=Aj hrow2;clear hrow3 hrow2;have D3:=Aj (D2.1.late (g:=g3) om 1 (.int .i64 ((b:Int)+1)));have R3:=Aj (R2.1.grown (av w2 ⟨g3,1,none⟩ (.int .i64 ((b:Int)+1))) (fun g e=>by have:=Oj e;simp only at this;omega));have F3:=Aj (F2.1.late (g:=g3) om 1 (.int .i64 ((b:Int)+1)));have R33:=Aj (show(w2.setCell ⟨g3,1,none⟩ (.int .i64 ((b:Int)+1))).heap[g3]? =some (.cells #[.int .i64 (a:Int),.int .i64 ((b:Int)+1)] 368 (0,0))from by rw[Ag _ g3 1 _ _ _ HR3.1];rfl);have R32:=Aj ((AF w2 ⟨g3,1,none⟩ (.int .i64 ((b:Int)+1)) g2 (by simp only;omega)).trans HR2.1);go_wp2_with (go_at_call 277;refine(CH.1 _ D3.1 R3.1).mono ?_;rintro e w5 ⟨rfl,h1,h2,h3⟩;have D5:=Aj h1;have R5:=Aj h2;have F5:=Aj (F3.1.trans h3);have Q3:=Aj (h3.row R33.1 om om);have Q2:=Aj (h3.row R32.1 om om);have j0:=Co _ _ 0 _ _ _ Q3.1;have j1:=Co _ _ 1 _ _ _ Q3.1;have i0:=Co _ _ 0 _ _ _ Q2.1;have i1:=Co _ _ 1 _ _ _ Q2.1;have f0:=Fr _ _ 0 _ _ Q2.1;have f1:=Fr _ _ 1 _ _ Q2.1;clear h1 h2 h3);refine AQ (v:= .agg #[.int .i64 (a:Int),.int .i64 ((b:Int)+1)]) ?_ rfl ⟨sm,?_,?_,?_⟩
 ·exact aP (fn:=Tryz.f276) (a:=2) (T1:=368) rfl _ _ g2 _ _ _ _ rfl (kY _ g2 (.int .i64 (a:Int)) (.int .i64 ((b:Int)+1)) Q2.1 rfl) underlying368 rfl kr
 ·exact(D5.1.late om 0 _).late om 1 _
 ·exact(R5.1.grown (av w5 ⟨g2,0,none⟩ _) (fun g e=>by have:=Oj e;simp only at this;omega)).grown (av _ ⟨g2,1,none⟩ _) (fun g e=>by have:=Oj e;simp only at this;omega)
 ·exact(F5.1.late Oy 0 _).late Oy 1 _
def Nl (f:Nat):Value:= .func (.func f) #[] #[]
def Ro:Array Value:= #[Nl 215,Nl 216,Nl 217,Nl 218,Nl 219,Nl 220,Nl 221,Nl 222,Nl 223]
theorem iU (w):Calls prog 179 #[] w fun e w'=>e= .returned (.agg Ro)∧Below w.heap.size w w':=by
 unfold Ro Nl;go_enter func179,ntmps179;have hr:=Av w (.cells #[Value.nilFunc,Value.nilFunc,Value.nilFunc,Value.nilFunc,Value.nilFunc,Value.nilFunc,Value.nilFunc,Value.nilFunc,Value.nilFunc] 291);have hi:(prog.info? 291).map (·.size)=some 9:=kr;have h1:(#[Value.func (Fn.func 215) #[] #[],Value.func (Fn.func 216) #[] #[],Value.func (Fn.func 217) #[] #[],Value.func (Fn.func 218) #[] #[],Value.func (Fn.func 219) #[] #[],Value.func (Fn.func 220) #[] #[],Value.func (Fn.func 221) #[] #[],Value.func (Fn.func 222) #[] #[],Value.func (Fn.func 223) #[] #[]]:Array Value).all (·.oneCell')=true:=by simp[Value.oneCell']
 have HR:=Aj hr;have HI:=Aj hi;have H1:=Aj h1;have hb:=Aj ((Ae w.heap.size w).alloc Ai (.cells #[Value.nilFunc,Value.nilFunc,Value.nilFunc,Value.nilFunc,Value.nilFunc,Value.nilFunc,Value.nilFunc,Value.nilFunc,Value.nilFunc] 291));clear hr hi h1;go_wp2_with (refine wpList_store_row rfl 291 _ _ rfl w.heap.size _ rfl rfl _ _ HR.1 HI.1 rfl H1.1 ?_);refine AQ (v:= .agg #[Value.func (Fn.func 215) #[] #[],Value.func (Fn.func 216) #[] #[],Value.func (Fn.func 217) #[] #[],Value.func (Fn.func 218) #[] #[],Value.func (Fn.func 219) #[] #[],Value.func (Fn.func 220) #[] #[],Value.func (Fn.func 221) #[] #[],Value.func (Fn.func 222) #[] #[],Value.func (Fn.func 223) #[] #[]]) ?_ rfl ⟨rfl,?_⟩
 ·exact aP (fn:=Tryz.f179) (a:=0) (T1:=291) rfl _ _ w.heap.size _ _ _ _ rfl (setRow_heap _ _ _ _ _ _ HR.1) underlying291 rfl kr
 ·exact⟨hb.1.os,hb.1.tape,hb.1.output,sm,fun k hk=>(setRow_other _ _ k _ om).trans (hb.1.block k hk)⟩
theorem YJ (w):(Instr.index 291 (.agg #[.func (.func 215) #[] #[],.func (.func 216) #[] #[],.func (.func 217) #[] #[],.func (.func 218) #[] #[],.func (.func 219) #[] #[],.func (.func 220) #[] #[],.func (.func 221) #[] #[],.func (.func 222) #[] #[],.func (.func 223) #[] #[]]) (.int .i64 0)).run prog w= .ok (.agg #[.func (.func 215) #[] #[],.func (.func 216) #[] #[],.func (.func 217) #[] #[]]) w:=kr
theorem YK (w):(Instr.index 291 (.agg #[.func (.func 215) #[] #[],.func (.func 216) #[] #[],.func (.func 217) #[] #[],.func (.func 218) #[] #[],.func (.func 219) #[] #[],.func (.func 220) #[] #[],.func (.func 221) #[] #[],.func (.func 222) #[] #[],.func (.func 223) #[] #[]]) (.int .i64 1)).run prog w= .ok (.agg #[.func (.func 218) #[] #[],.func (.func 219) #[] #[],.func (.func 220) #[] #[]]) w:=kr
theorem YL (w):(Instr.index 291 (.agg #[.func (.func 215) #[] #[],.func (.func 216) #[] #[],.func (.func 217) #[] #[],.func (.func 218) #[] #[],.func (.func 219) #[] #[],.func (.func 220) #[] #[],.func (.func 221) #[] #[],.func (.func 222) #[] #[],.func (.func 223) #[] #[]]) (.int .i64 2)).run prog w= .ok (.agg #[.func (.func 221) #[] #[],.func (.func 222) #[] #[],.func (.func 223) #[] #[]]) w:=kr
def Ck.Nn (l:List Nat) (k:Nat):Int:=if k=0 then((Xo.enc l).length:Int)else if k=1 then((Ru.enc l).length:Int)else Di.Ji l
theorem Np (A) (n c B) (l) (w) (hr:kg w B A n c l) (hB:B≤w.heap.size) (hx:∀x∈l,x<2^64) (hn:n≤128) (hD:vW w) (hD2:2<w.heap.size):
  Calls prog 226 #[.slice A n c] w fun r w'=>r= .returned (.agg #[.int .i64 (Ck.Nn l 0),.int .i64 (Ck.Nn l 1),.int .i64 (Ck.Nn l 2)])∧Below w.heap.size w w':=by
 have X0:=Aj (show∀W,Below w.heap.size w W→Calls prog 215 #[.slice A n c] W fun r w'=>r= .returned (.int .i64 (Ck.Nn l 0))∧Below W.heap.size W w' from fun W hb=>Nj A n c B l W (hr.below (hb.mono hB)) (Lt hB hb.size) hx om (hD.aU hb hD2) (jB hD2 hb.size));have X1:=Aj (show∀W,Below w.heap.size w W→Calls prog 218 #[.slice A n c] W fun r w'=>r= .returned (.int .i64 (Ck.Nn l 1))∧Below W.heap.size W w' from fun W hb=>Nb A n c B l W (hr.below (hb.mono hB)) (Lt hB hb.size) hn);have X2:=Aj (show∀W,Below w.heap.size w W→Calls prog 221 #[.slice A n c] W fun r w'=>r= .returned (.int .i64 (Ck.Nn l 2))∧Below W.heap.size W w' from fun W hb=>M0 A n c B l W (hr.below (hb.mono hB)) (Lt hB hb.size) hx om);generalize Ck.Nn l 0=s0 at*;generalize Ck.Nn l 1=s1 at*;generalize Ck.Nn l 2=s2 at*;have EC:=Aj (fun W=>iU W);unfold Ro Nl at EC;clear hr hx hD;obtain⟨W2,hW2⟩:∃W2,W2=(w.alloc (.cells #[.int .i64 0,.int .i64 0,.int .i64 0] 335)).alloc (.cells #[.int .i64 0,.int .i64 0,.int .i64 0] 335):=⟨_,rfl⟩
 have hz:W2.heap.size=w.heap.size+1+1:=by rw[hW2];simp
 have r3:W2.heap[w.heap.size+1]? =some (.cells #[.int .i64 0,.int .i64 0,.int .i64 0] 335 (0,0)):=by
  rw[hW2];have:=Av (w.alloc (.cells #[.int .i64 0,.int .i64 0,.int .i64 0] 335)) (.cells #[.int .i64 0,.int .i64 0,.int .i64 0] 335);simpa using this
 have r2:W2.heap[w.heap.size]? =some (.cells #[.int .i64 0,.int .i64 0,.int .i64 0] 335 (0,0)):=by
  rw[hW2,Aw _ _ _ sm];exact Av w _
 have b2:Below w.heap.size w W2:=by rw[hW2];exact((Ae _ w).alloc Ai _).alloc sm _
 have R3:=Aj r3;have R2:=Aj r2;have B2:=Aj b2;have HW2:=Aj hW2.symm;have HZ:=Aj hz;clear hW2 r3 r2 b2 hz;go_enter func226,ntmps226;go_wp2_with (go_at_call 179;rw[HW2.1];refine(EC.1 W2).mono ?_;rintro e w1 ⟨rfl,h1⟩;have B1:=Aj h1;clear h1);go_loopw [7] (fun i wr=>∃k:Nat,k≤3∧i= .int .i64 (k:Int)∧Below w.heap.size w wr∧w.heap.size+2≤wr.heap.size∧wr.heap[w.heap.size]? =some (.cells #[.int .i64 0,.int .i64 0,.int .i64 0] 335 (0,0))∧
  wr.heap[w.heap.size+1]? =some (.cells #[.int .i64 (if 0<k then s0 else 0),.int .i64 (if 1<k then s1 else 0),.int .i64 (if 2<k then s2 else 0)] 335 (0,0))) (fun i _=>3-(intOf i).toNat)
 case atStart=>exact⟨0,om,rfl,B2.1.trans (B1.1.mono (by rw[HZ.1];omega)),by have:=B1.1.size;rw[HZ.1]at this;omega,(B1.1.block _ (by rw[HZ.1];omega)).trans R2.1,by simpa using(B1.1.block _ (by rw[HZ.1];omega)).trans R3.1⟩
 case round=>
  clear B1 R3 R2 B2 HZ;obtain⟨k,hk,rfl,hb,hz,q2,q3⟩:=hrel;have HB:=Aj hb;have Q2:=Aj q2;have Q3:=Aj q3;have hcs:k=0∨k=1∨k=2∨k=3:=om;have ix0:=YJ wr;have ix1:=YK wr;have ix2:=YL wr;clear hb q2 q3;rcases hcs with rfl|rfl|rfl|rfl
  ·have HR:=Aj (Av wr (.cells #[Value.nilFunc,Value.nilFunc,Value.nilFunc] 290));have HI:Kept ((prog.info? 290).map (·.size)=some 3):=⟨kr⟩
   have H1:Kept ((#[.func (.func 215) #[] #[],.func (.func 216) #[] #[],.func (.func 217) #[] #[]]:Array Value).all (·.oneCell')=true):=⟨by simp[Value.oneCell']⟩
   have W5:Below wr.heap.size wr ((wr.alloc (.cells #[Value.nilFunc,Value.nilFunc,Value.nilFunc] 290)).setRow wr.heap.size #[.func (.func 215) #[] #[],.func (.func 216) #[] #[],.func (.func 217) #[] #[]]):=by
    have hb:=(Ae wr.heap.size wr).alloc Ai (.cells #[Value.nilFunc,Value.nilFunc,Value.nilFunc] 290);exact⟨hb.os,hb.tape,hb.output,sm,fun k hk=>(setRow_other _ _ k _ om).trans (hb.block k hk)⟩
   have c0:((wr.alloc (.cells #[Value.nilFunc,Value.nilFunc,Value.nilFunc] 290)).setRow wr.heap.size #[.func (.func 215) #[] #[],.func (.func 216) #[] #[],.func (.func 217) #[] #[]]).cell? ⟨wr.heap.size,0,none⟩=some (.func (.func 215) #[] #[]):=cell_setRow_same _ _ 0 _ _ _ _ HR.1;have KZ:=Aj W5;clear W5;go_wp2_with (first
    |(refine wpList_store_row rfl 290 _ _ rfl wr.heap.size _ rfl rfl _ _ HR.1 HI.1 rfl H1.1 ?_)
    |(go_at_call 215;refine(X0.1 _ (HB.1.trans (KZ.1.mono om))).mono ?_;rintro e w6 ⟨rfl,h6⟩;have B6:=Aj (KZ.1.trans (h6.mono KZ.1.size));have P2:=Aj ((B6.1.block _ om).trans Q2.1);have P3:=Aj ((B6.1.block _ om).trans Q3.1);have t0:=Co _ _ 0 _ _ _ P3.1;have f0:=Fr _ _ 0 _ _ P3.1;have hz6:=B6.1.size;clear h6))
   go_roundw
   case rel=>
    refine⟨1,om,rfl,(HB.1.trans (B6.1.mono om)).setCell (by simp only;omega) _,by simp;omega,(AF _ ⟨w.heap.size+1,0,none⟩ _ _ (by simp only;omega)).trans P2.1,?_⟩;rw[Ag _ _ 0 _ _ _ P3.1];simp
   case measure=>simp[intOf]
  ·have HR:=Aj (Av wr (.cells #[Value.nilFunc,Value.nilFunc,Value.nilFunc] 290));have HI:Kept ((prog.info? 290).map (·.size)=some 3):=⟨kr⟩
   have H1:Kept ((#[.func (.func 218) #[] #[],.func (.func 219) #[] #[],.func (.func 220) #[] #[]]:Array Value).all (·.oneCell')=true):=⟨by simp[Value.oneCell']⟩
   have W5:Below wr.heap.size wr ((wr.alloc (.cells #[Value.nilFunc,Value.nilFunc,Value.nilFunc] 290)).setRow wr.heap.size #[.func (.func 218) #[] #[],.func (.func 219) #[] #[],.func (.func 220) #[] #[]]):=by
    have hb:=(Ae wr.heap.size wr).alloc Ai (.cells #[Value.nilFunc,Value.nilFunc,Value.nilFunc] 290);exact⟨hb.os,hb.tape,hb.output,sm,fun k hk=>(setRow_other _ _ k _ om).trans (hb.block k hk)⟩
   have c0:((wr.alloc (.cells #[Value.nilFunc,Value.nilFunc,Value.nilFunc] 290)).setRow wr.heap.size #[.func (.func 218) #[] #[],.func (.func 219) #[] #[],.func (.func 220) #[] #[]]).cell? ⟨wr.heap.size,0,none⟩=some (.func (.func 218) #[] #[]):=cell_setRow_same _ _ 0 _ _ _ _ HR.1;have KZ:=Aj W5;clear W5;go_wp2_with (first
    |(refine wpList_store_row rfl 290 _ _ rfl wr.heap.size _ rfl rfl _ _ HR.1 HI.1 rfl H1.1 ?_)
    |(go_at_call 218;refine(X1.1 _ (HB.1.trans (KZ.1.mono om))).mono ?_;rintro e w6 ⟨rfl,h6⟩;have B6:=Aj (KZ.1.trans (h6.mono KZ.1.size));have P2:=Aj ((B6.1.block _ om).trans Q2.1);have P3:=Aj ((B6.1.block _ om).trans Q3.1);have t0:=Co _ _ 1 _ _ _ P3.1;have f0:=Fr _ _ 1 _ _ P3.1;have hz6:=B6.1.size;clear h6))
   go_roundw
   case rel=>
    refine⟨2,om,rfl,(HB.1.trans (B6.1.mono om)).setCell (by simp only;omega) _,by simp;omega,(AF _ ⟨w.heap.size+1,1,none⟩ _ _ (by simp only;omega)).trans P2.1,?_⟩;rw[Ag _ _ 1 _ _ _ P3.1];simp
   case measure=>simp[intOf]
  ·have HR:=Aj (Av wr (.cells #[Value.nilFunc,Value.nilFunc,Value.nilFunc] 290));have HI:Kept ((prog.info? 290).map (·.size)=some 3):=⟨kr⟩
   have H1:Kept ((#[.func (.func 221) #[] #[],.func (.func 222) #[] #[],.func (.func 223) #[] #[]]:Array Value).all (·.oneCell')=true):=⟨by simp[Value.oneCell']⟩
   have W5:Below wr.heap.size wr ((wr.alloc (.cells #[Value.nilFunc,Value.nilFunc,Value.nilFunc] 290)).setRow wr.heap.size #[.func (.func 221) #[] #[],.func (.func 222) #[] #[],.func (.func 223) #[] #[]]):=by
    have hb:=(Ae wr.heap.size wr).alloc Ai (.cells #[Value.nilFunc,Value.nilFunc,Value.nilFunc] 290);exact⟨hb.os,hb.tape,hb.output,sm,fun k hk=>(setRow_other _ _ k _ om).trans (hb.block k hk)⟩
   have c0:((wr.alloc (.cells #[Value.nilFunc,Value.nilFunc,Value.nilFunc] 290)).setRow wr.heap.size #[.func (.func 221) #[] #[],.func (.func 222) #[] #[],.func (.func 223) #[] #[]]).cell? ⟨wr.heap.size,0,none⟩=some (.func (.func 221) #[] #[]):=cell_setRow_same _ _ 0 _ _ _ _ HR.1;have KZ:=Aj W5;clear W5;go_wp2_with (first
    |(refine wpList_store_row rfl 290 _ _ rfl wr.heap.size _ rfl rfl _ _ HR.1 HI.1 rfl H1.1 ?_)
    |(go_at_call 221;refine(X2.1 _ (HB.1.trans (KZ.1.mono om))).mono ?_;rintro e w6 ⟨rfl,h6⟩;have B6:=Aj (KZ.1.trans (h6.mono KZ.1.size));have P2:=Aj ((B6.1.block _ om).trans Q2.1);have P3:=Aj ((B6.1.block _ om).trans Q3.1);have t0:=Co _ _ 2 _ _ _ P3.1;have f0:=Fr _ _ 2 _ _ P3.1;have hz6:=B6.1.size;clear h6))
   go_roundw
   case rel=>
    refine⟨3,om,rfl,(HB.1.trans (B6.1.mono om)).setCell (by simp only;omega) _,by simp;omega,(AF _ ⟨w.heap.size+1,2,none⟩ _ _ (by simp only;omega)).trans P2.1,?_⟩;rw[Ag _ _ 2 _ _ _ P3.1];simp
   case measure=>simp[intOf]
  ·have q3:=Q3.1;simp only[show(0:Nat)<3 from om,show(1:Nat)<3 from om,show(2:Nat)<3 from om,if_true]at q3;have t0:=Co _ _ 0 _ _ _ q3;have t1:=Co _ _ 1 _ _ _ q3;have t2:=Co _ _ 2 _ _ _ q3;have d0:=Co _ _ 0 _ _ _ Q2.1;have d1:=Co _ _ 1 _ _ _ Q2.1;have d2:=Co _ _ 2 _ _ _ Q2.1;have f0:=Fr _ _ 0 _ _ Q2.1;have f1:=Fr _ _ 1 _ _ Q2.1;have f2:=Fr _ _ 2 _ _ Q2.1;have hrow:(((wr.setCell ⟨w.heap.size,0,none⟩ (.int .i64 s0)).setCell ⟨w.heap.size,1,none⟩ (.int .i64 s1)).setCell ⟨w.heap.size,2,none⟩ (.int .i64 s2)).heap[w.heap.size]? =some (.cells #[.int .i64 s0,.int .i64 s1,.int .i64 s2] 335 (0,0)):=by
    rw[Ag _ _ 2 _ _ _ (Ag _ _ 1 _ _ _ (Ag _ _ 0 _ _ _ Q2.1))];simp
   have HRW:=Aj hrow;clear q3 hrow;go_wp2;refine AQ (v:= .agg #[.int .i64 s0,.int .i64 s1,.int .i64 s2]) ?_ rfl ⟨rfl,?_⟩
   ·exact aP (fn:=Tryz.f226) (a:=2) (T1:=335) rfl _ _ w.heap.size _ _ _ _ rfl HRW.1 underlying335 rfl kr
   ·exact((HB.1.setCell Ai _).setCell Ai _).setCell Ai _
theorem ae4 (w) (a b c):(Instr.index 335 (.agg #[.int .i64 a,.int .i64 b,.int .i64 c]) (.int .i64 0)).run prog w= .ok (.int .i64 a) w:=kr
theorem ae5 (w) (a b c):(Instr.index 335 (.agg #[.int .i64 a,.int .i64 b,.int .i64 c]) (.int .i64 1)).run prog w= .ok (.int .i64 b) w:=kr
theorem ae6 (w) (a b c):(Instr.index 335 (.agg #[.int .i64 a,.int .i64 b,.int .i64 c]) (.int .i64 2)).run prog w= .ok (.int .i64 c) w:=kr
theorem Di.Vp (l) (h:(Di.dZ l).length≤128):Di.Ji l=((Di.enc l).length:Int):=by
 unfold Di.Ji;rw[Ng om];by_cases hl:l=[]
 ·subst hl;rfl
 ·have hd:(Di.dZ l).length≠0:=fun e=>by
   obtain⟨x,hx⟩:=List.exists_mem_of_ne_nil l hl;have:=(Di.eO l x).2 hx;rw[vg e]at this;simp at this
  have f1:∀(k:Nat) (d:List Nat),(d.flatMap (Bt.bw k)).length=k*d.length:=fun k d=>by
   induction d with
   |nil=>rfl
   |cons x d ih=>rw[Aq,La,ih,Bt.ak,Lc,Nat.mul_add];omega
  have f2:∀(k:Nat) (f:Nat→Nat) (d:List Nat),(d.flatMap fun x=>Bt.bw k (f x)).length=k*d.length:=fun k f d=>by
   induction d with
   |nil=>rfl
   |cons x d ih=>rw[Aq,La,ih,Bt.ak,Lc,Nat.mul_add];omega
  rw[Ng hd];unfold Di.enc;rw[Ng hl,La,La,Bt.ak,f1,f2]
  push_cast
  rw[Int.mul_comm 64,Int.mul_comm ((Di.mI (Di.dZ l).length:Nat):Int)];omega
theorem uF (A) (n c B) (l) (w) (hr:kg w B A n c l) (hB:B≤w.heap.size) (hx:∀x∈l,x<2^64) (hn:n≤128) (hD:vW w) (hD2:2<w.heap.size):
  Calls prog 181 #[.slice A n c] w fun r w'=>r= .returned (.int .i64 ((Ck.choose l:Nat):Int))∧Below w.heap.size w w':=by
 have SZ:=Aj (Np A n c B l w hr hB hx hn hD hD2);have hdl:(Di.dZ l).length≤128:=by have:=Ck.Il l;have:=hr.len;omega
 have e0:Ck.Nn l 0=((Xo.enc l).length:Int):=rfl;have e1:Ck.Nn l 1=((Ru.enc l).length:Int):=rfl;have e2:Ck.Nn l 2=((Di.enc l).length:Int):=(show Ck.Nn l 2=Di.Ji l from rfl).trans (Di.Vp l hdl);rw[e0,e1,e2]at SZ;have HCH:Kept (Ck.choose l=if(Di.enc l).length<min (Xo.enc l).length (Ru.enc l).length then 3 else if(Ru.enc l).length< (Xo.enc l).length then 2 else 1):=⟨rfl⟩
 generalize Ck.choose l=ch at*;generalize (Xo.enc l).length=s0 at*;generalize (Ru.enc l).length=s1 at*;generalize (Di.enc l).length=s2 at*;clear hr hx hD e0 e1 e2;go_enter func181,ntmps181;go_wp2_with (go_at_call 226;refine SZ.1.mono ?_;rintro e w1 ⟨rfl,h1⟩;have B1:=Aj h1;clear h1);have hb3:=Aj ((B1.1).alloc B1.1.size (.cells #[.int .i64 (s0:Int),.int .i64 (s1:Int),.int .i64 (s2:Int)] 335));have hrow:=Av w1 (.cells #[.int .i64 (s0:Int),.int .i64 (s1:Int),.int .i64 (s2:Int)] 335);generalize w1.alloc (.cells #[.int .i64 (s0:Int),.int .i64 (s1:Int),.int .i64 (s2:Int)] 335)=W3 at*;generalize w1.heap.size=g at*;have c0:=Co _ _ 0 _ _ _ hrow;have c1:=Co _ _ 1 _ _ _ hrow;have c2:=Co _ _ 2 _ _ _ hrow;clear hrow B1 SZ;have p0:(0:Int)≤(s0:Int):=om;have p1:(0:Int)≤(s1:Int):=om;have p2:(0:Int)≤(s2:Int):=om;go_loopw [3,10] (fun v i wr=>∃k b:Nat,i= .int .i64 (k:Int)∧v= .int .i64 (b:Int)∧wr=W3∧k≤3∧Kept ((k=0∧b=0)∨(k=1∧b=0)∨(k=2∧b=if s1<s0 then 1 else 0)∨(k=3∧b=if s2<min s0 s1 then 2 else if s1<s0 then 1 else 0))) (fun _ i _=>3-(intOf i).toNat)
 case atStart=>exact⟨0,0,rfl,rfl,(by first|rfl|trivial),om,⟨.inl ⟨rfl,rfl⟩⟩⟩
 case round=>
  obtain⟨k,b,rfl,rfl,rfl,hk3,HK⟩:=hrel;have ix0:=ae4 wr (s0:Int) (s1:Int) (s2:Int);have ix1:=ae5 wr (s0:Int) (s1:Int) (s2:Int);have ix2:=ae6 wr (s0:Int) (s1:Int) (s2:Int);rcases HK.1 with⟨rfl,rfl⟩|⟨rfl,rfl⟩|⟨rfl,hb⟩|⟨rfl,hb⟩
  ·go_wp2;go_roundw
   case rel=>exact⟨1,0,rfl,rfl,(by first|rfl|trivial),om,⟨.inr (.inl ⟨rfl,rfl⟩)⟩⟩
   case measure=>simp[intOf]
  ·by_cases h:s1<s0
   ·have h':(s1:Int)< (s0:Int):=by omega
    go_wp2;go_roundw
    case rel=>exact⟨2,1,rfl,rfl,(by first|rfl|trivial),om,⟨.inr (.inr (.inl ⟨rfl,by rw[Ps0 h]⟩))⟩⟩
    case measure=>simp[intOf]
   ·have h':¬(s1:Int)< (s0:Int):=by omega
    go_wp2;go_roundw
    case rel=>exact⟨2,0,rfl,rfl,(by first|rfl|trivial),om,⟨.inr (.inr (.inl ⟨rfl,by rw[Ng h]⟩))⟩⟩
    case measure=>simp[intOf]
  ·by_cases h:s1<s0
   ·rw[Ps0 h]at hb;subst hb;by_cases h2:s2<s1
    ·have h':(s2:Int)< (s1:Int):=by omega
     go_wp2;go_roundw
     case rel=>exact⟨3,2,rfl,rfl,(by first|rfl|trivial),om,⟨.inr (.inr (.inr ⟨rfl,by rw[Ps0 om]⟩))⟩⟩
     case measure=>simp[intOf]
    ·have h':¬(s2:Int)< (s1:Int):=by omega
     go_wp2;go_roundw
     case rel=>exact⟨3,1,rfl,rfl,(by first|rfl|trivial),om,⟨.inr (.inr (.inr ⟨rfl,by rw[Ng om,Ps0 h]⟩))⟩⟩
     case measure=>simp[intOf]
   ·rw[Ng h]at hb;subst hb;by_cases h2:s2<s0
    ·have h':(s2:Int)< (s0:Int):=by omega
     go_wp2;go_roundw
     case rel=>exact⟨3,2,rfl,rfl,(by first|rfl|trivial),om,⟨.inr (.inr (.inr ⟨rfl,by rw[Ps0 om]⟩))⟩⟩
     case measure=>simp[intOf]
    ·have h':¬(s2:Int)< (s0:Int):=by omega
     go_wp2;go_roundw
     case rel=>exact⟨3,0,rfl,rfl,(by first|rfl|trivial),om,⟨.inr (.inr (.inr ⟨rfl,by rw[Ng om,Ng h]⟩))⟩⟩
     case measure=>simp[intOf]
  ·have HB:=Aj hb;have abj:b≤2:=by rw[hb];split<;>(try split)<;>omega
   clear hb;go_wp2;go_ret;refine⟨?_,hb3.1⟩;have e:(if s2<min s0 s1 then 3 else if s1<s0 then 2 else 1)=b+1:=by rw[HB.1];split<;>(try split)<;>rfl
   rw[HCH.1,e];rfl
theorem aG.wk {w w'} {base p b2 n c} {A} {l} (h:aG w b2 A n c l) (hk:Wk base p w w') (hp:p<b2):aG w' b2 A n c l:=by
 refine⟨h.1,h.2.imp id ?_⟩;rintro⟨g,cap,cur,hv,hb,hg,rest⟩;exact⟨g,cap,cur,hv,hb,hk.kept hg om Ah,rest⟩
theorem Wk.dr {base p} {w w1} (h:Wk base p w w1) (m):Wk base p w (w1.drewN m):=⟨⟨h.aU.os,h.aU.tape,h.aU.output,h.aU.size,h.aU.block⟩,h.rest⟩
theorem eZ.aU {w w'} {base p} {bs} (h:eZ w base p bs) (hb:Below w.heap.size w w'):eZ w' base p bs:=by
 obtain⟨A,n,c,L,h1,h2,h3,h4⟩:=h;have hp:=(Ge.1 h1).1;exact⟨A,n,c,L,(hb.block p hp).trans h1,own_below h2 hb (fun g e=>(ae h2 g e).2),h3,h4⟩
theorem Wk.of {base p} {w w'} (h:Below w.heap.size w w') (hb:base≤w.heap.size):Wk base p w w':=⟨h.mono hb,fun k hk _ _=>h.block k hk⟩
theorem Le (k) (d:List Nat):(d.flatMap (Bt.bw k)).length=k*d.length:=by
 induction d with
 |nil=>rfl
 |cons x d ih=>rw[Aq,La,ih,Bt.ak,Lc,Nat.mul_add];omega
theorem Rp (k) (f:Nat→Nat) (d:List Nat):(d.flatMap fun x=>Bt.bw k (f x)).length=k*d.length:=by
 induction d with
 |nil=>rfl
 |cons x d ih=>rw[Aq,La,ih,Bt.ak,Lc,Nat.mul_add];omega
theorem Rq (base p B) (bs) (A) (n c) (l) (w) (h:eZ w base p bs) (hr:kg w B A n c l) (hB:B≤base) (hx:∀x∈l,x<2^64) (hk:(Di.dZ l).length≤128)
  (hn:n≤1000000) (hl:bs.length≤100000000):
  Calls prog 222 #[.pointer (some ⟨p,0,none⟩),.slice A n c] w fun e w'=>e= .returned (.int .i64 0)∧eZ w' base p (bs++Di.enc l)∧Wk base p w w':=by
 have hln:=Aj hr.len;have hlc:=hr.1;have hcm:=hr.2.1;unfold maxLen at hcm;obtain⟨lY,hbp⟩:=h.lt;have D0:=Aj (FD A n c B l w hr om hx hn);have R0:=Aj hr;have H0:=Aj h;have hup:=Aj (Di.pJ l);have hmem:=Aj (Di.eO l);have LQ:Kept (∀x∈Di.dZ l,x<2^64):=⟨fun x h=>hx x ((Di.eO l x).1 h)⟩
 by_cases hl0:l=[]
 ·subst hl0;obtain rfl:n=0:=hln.1;have he:Kept (Di.enc []=[]):=⟨rfl⟩
  have D1:Kept ((Di.dZ []).length=0):=⟨rfl⟩
  rw[D1.1]at D0;clear h hr hx hk;go_enter func222,ntmps222;go_wp2_with (go_at_call 261;refine D0.1.mono ?_;rintro e w1 ⟨A2,c2,rfl,ho,hb⟩;have B1:=Aj hb;clear ho hb);go_ret;rw[he.1,AZ];exact⟨rfl,H0.1.aU B1.1,Wk.of B1.1 om⟩
 ·have hlp:0<l.length:=oJ.2 hl0;have hd0:0< (Di.dZ l).length:=by
   rcases nz (Di.dZ l).length with e|e
   ·exfalso;obtain⟨x,hx⟩:=List.exists_mem_of_ne_nil l hl0;have:=(Di.eO l x).2 hx;rw[vg e]at this;simp at this
   ·exact e
  have he:Kept (Di.enc l=Bt.bw 7 ((Di.dZ l).length-1)++((Di.dZ l).flatMap (Bt.bw 64)++l.flatMap fun x=>Bt.bw (Di.mI (Di.dZ l).length) ((Di.dZ l).idxOf x))):=⟨by unfold Di.enc;rw[Ng hl0]⟩
  have hn0:¬(n:Int)=0:=by have:=hln.1;omega
  rw[he.1];clear he hl0;generalize Di.dZ l=d at*;obtain⟨K,hK⟩:∃K,d.length=K:=⟨_,rfl⟩
  rw[hK]at D0 hk hd0⊢;have HK:=Aj hK;obtain⟨K1,hK1⟩:∃K1,K1=K-1:=⟨_,rfl⟩
  rw[←hK1];have hki:(K:Int)-1=(K1:Int):=om;have hku:IntKind.u64.wrap (K1:Int)=(K1:Int):=by rw[Bb];omega
  have ahn:¬(128:Int)< (K:Int):=om;have W0:=Aj (fun w=>qf K om w);have hv7:Di.mI K≤7:=Di.Jj hk;generalize Di.mI K=v at*;have WB1:=Aj (fun(w1:World) (h1:eZ w1 base p bs)=>bZ base p K1 7 bs w1 h1 om om om);clear h hr hx hK hK1;go_enter func222,ntmps222;go_wp2_with (first
   |(go_at_call 191;refine(WB1.1 w1 H1.1).mono ?_;rintro e w2 ⟨rfl,h2,k2⟩;have H2:=Aj h2;have K2:=Aj ((Wk.of B1.1 om).trans k2);have O2:=Aj (O1.1.wk k2 lY);clear h2 k2)
   |(go_at_call 261;refine D0.1.mono ?_;rintro e w1 ⟨A2,c2,rfl,ho,hb⟩;have B1:=Aj hb;have O1:=Aj ho;have H1:=Aj (H0.1.aU hb);clear ho hb))
  clear H0 H1 O1 B1 D0 WB1;have Pp:=O2.1.rd.1;have hcm2:=O2.1.rd.2.1;unfold maxLen at hcm2;go_loopw [33] (fun i wr=>∃k:Nat,k≤K∧i= .int .i64 (k:Int)∧eZ wr base p (bs++Bt.bw 7 K1++(d.take k).flatMap (Bt.bw 64))∧Wk base p w wr∧aG wr w.heap.size A2 K c2 d) (fun i _=>K-(intOf i).toNat)
  case atStart=>exact⟨0,bE _,rfl,by simpa using H2.1,K2.1,O2.1⟩
  case round=>
   clear H2 K2 O2;obtain⟨k,hkK,rfl,h3,k3,o3⟩:=hrel;by_cases hlt:k<K
   ·have hlt':(k:Int)< (K:Int):=by omega
    have hkd:k<d.length:=by have:=HK.1;omega
    obtain⟨bb,off,rfl,lX,hc0⟩:=o3.rd.at_ hkd;have hxk:=LQ.1 _ (ic hkd);have hbl:(bs++Bt.bw 7 K1++(d.take k).flatMap (Bt.bw 64)).length≤1000000000:=by
     rw[La,La,Bt.ak,Le,lQ];omega
    have WB:=Aj (bZ base p d[k] 64 _ wr h3 hxk om hbl);have HKx:=Aj k3;have HO3:=Aj o3;have htk:Kept ((d.take (k+1)).flatMap (Bt.bw 64)=(d.take k).flatMap (Bt.bw 64)++Bt.bw 64 d[k]):=⟨by rw[Ts hkd,oV];simp⟩
    generalize d[k]=x at*;clear h3 k3 o3 hbl;go_wp2_with (go_at_call 191;refine WB.1.mono ?_;rintro e w4 ⟨rfl,h4,k4⟩;have H4:=Aj h4;have K4:=Aj (HKx.1.trans k4);have O4:=Aj (HO3.1.wk k4 lY);clear h4 k4);go_roundw
    case rel=>exact⟨k+1,om,by go_num,by rw[htk.1,←Af];exact H4.1,K4.1,O4.1⟩
    case measure=>simp[intOf];omega
   ·obtain rfl:k=K:=by omega
    have htk:d.take k=d:=jY (by rw[HK.1];exact Nr _);rw[htk]at h3;have H3:=Aj h3;have K3:=Aj k3;have O3:=Aj o3;clear h3 k3 o3 htk;go_wp2;go_loopw [43] (fun i wr=>∃j:Nat,j≤n∧i= .int .i64 (j:Int)∧eZ wr base p (bs++Bt.bw 7 K1++d.flatMap (Bt.bw 64)++(l.take j).flatMap fun x=>Bt.bw v (d.idxOf x))∧Wk base p w wr∧aG wr w.heap.size A2 k c2 d) (fun i _=>n-(intOf i).toNat)
    case atStart=>exact⟨0,bE _,rfl,by simpa using H3.1,K3.1,O3.1⟩
    case round=>
     clear H3 K3 O3;obtain⟨j,hjn,rfl,h5,k5,o5⟩:=hrel;by_cases hjl:j<n
     ·have aeV:(j:Int)< (n:Int):=by omega
      have hjd:j<l.length:=by have:=hln.1;omega
      obtain⟨bb,off,rfl,lX,hc0⟩:=(R0.1.below (k5.aU.mono hB)).at_ hjd;have hq:d.idxOf l[j]<d.length:=List.idxOf_lt_length_of_mem ((hmem.1 _).2 (ic hjd));have hxq:l[j]=d[d.idxOf l[j]]:=(List.getElem_idxOf hq).symm;have BS:=Aj (FF A2 k c2 wr.heap.size (d.idxOf l[j]) l[j] d wr o5.rd Ai hq hxq hup.1 om);have hbl:(bs++Bt.bw 7 K1++d.flatMap (Bt.bw 64)++(l.take j).flatMap fun x=>Bt.bw v (d.idxOf x)).length≤1000000000:=by
       rw[La,La,La,Bt.ak,Le,Rp,lQ,HK.1];have:v*min j l.length≤7*1000000:=Nat.mul_le_mul hv7 om;omega
      have hqK:d.idxOf l[j]<k:=by rw[←HK.1];exact hq
      have WB:=Aj (fun m=>bZ base p (d.idxOf l[j]) v _ (wr.drewN m) (show eZ (wr.drewN m) base p _ from h5) om om hbl);have K5:=Aj k5;have O5:=Aj o5;have htk:Kept (((l.take (j+1)).flatMap fun x=>Bt.bw v (d.idxOf x))=((l.take j).flatMap fun x=>Bt.bw v (d.idxOf x))++Bt.bw v (d.idxOf l[j])):=⟨by rw[Ts hjd,oV];simp⟩
      clear hxq hq hbl h5 k5 o5;generalize d.idxOf l[j]=q at*;generalize l[j]=x at*;have hqu:IntKind.u64.wrap (q:Int)=(q:Int):=by rw[Bb];omega
      go_wp2_with (first
       |(go_at_call 263;refine BS.1.mono ?_;rintro e w6 ⟨rfl,m,rfl⟩)
       |(go_at_call 262;refine(W0.1 _).mono ?_;rintro e w6 ⟨rfl,rfl⟩)
       |(go_at_call 191;refine(WB.1 _).mono ?_;rintro e w7 ⟨rfl,h7,k7⟩;have H7:=Aj h7;have K7:=Aj ((K5.1.dr m).trans k7);have O7:=Aj (aG.wk (show aG (wr.drewN m) _ _ _ _ _ from O5.1) k7 lY);clear h7 k7))
      go_roundw
      case rel=>exact⟨j+1,om,by go_num,by rw[htk.1,←Af];exact H7.1,K7.1,O7.1⟩
      case measure=>simp[intOf];omega
     ·obtain rfl:j=n:=by omega
      have htl:l.take j=l:=jY (by have:=hln.1;omega);rw[htl]at h5;have H5:=Aj h5;have K5:=Aj k5;clear h5 k5 o5 htl;go_wp2;go_ret;exact⟨rfl,by rw[←Af,←Af];exact H5.1,K5.1⟩
end Go.Proofs.YtjcpmfphnodaaaaGreatDoor
