/- Part 25. -/
import Derived.Test.YtjcpmfphnodaaaaGreatDoorZTAX
namespace Go.Proofs.YtjcpmfphnodaaaaGreatDoor
set_option maxRecDepth 100000
set_option maxHeartbeats 0
open _root_.Go.Proofs.Tryz
open Go.RowKit
section
open Go.Shelf
theorem Di.YD {r} (h:(Di.FH r).2.2=0):Di.Up (Di.FH r).1∧(∀x∈(Di.FH r).1,x<2^64)∧1≤(Di.FH r).1.length∧(Di.FH r).1.length≤128:=by
 unfold Di.FH at*;have h7:=Tm.jr 7 r;by_cases h0:(Tm.rd 7 r).2.2≠0
 ·rw[Ps0 h0]at h;exact absurd h h0
 ·rw[Ng h0]at h⊢;obtain⟨m,hm,hl,hu,hx,-⟩:=Di.PM ((Tm.rd 7 r).1+1) [] (Tm.rd 7 r).2.1 _ _ List.Pairwise.nil (show Di.gd ((Tm.rd 7 r).1+1) [] (Tm.rd 7 r).2.1=(_,_,0)by rw[←h]);refine⟨hu,?_,?_,?_⟩
  ·rw[hm];simpa using hx
  ·rw[hm];simp;omega
  ·rw[hm];simp;omega
theorem Di.Va (n) (r):Di.dec n r=if n=0 then([],r,0)else if(Di.FH r).2.2≠0 then([],(Di.FH r).2)else Di.qV n (Di.FH r).1 (Di.FH r).2.1:=by
 unfold Di.dec Di.FH;by_cases h0:(Tm.rd 7 r).2.2≠0
 ·simp only[Ps0 h0]
 ·simp only[Ng h0]
theorem Di.Vb {m} (hm:0<m) (d acc) (r):Di.gv d m acc r=if(Tm.rd (Di.mI d.length) r).2.2≠0 then([],(Tm.rd (Di.mI d.length) r).2)else if d.length≤(Tm.rd (Di.mI d.length) r).1 then([],(Tm.rd (Di.mI d.length) r).2.1,8)else Di.gv d (m-1) (acc++[d.getD (Tm.rd (Di.mI d.length) r).1 0]) (Tm.rd (Di.mI d.length) r).2.1:=by
 obtain⟨k,rfl⟩:∃k,m=k+1:=⟨m-1,om⟩
 rw[Di.gv];rfl
theorem Di.count {d acc ks:List Nat} (hu:Di.Up d) (hk:∀i∈ks,i<d.length) (hn:ks.Nodup) (hm:∀z,z∈acc↔∃i∈ks,d.getD i 0=z):(Di.dZ acc).length=ks.length:=by
 have e:∀i (h:i<d.length),d.getD i 0=d[i]:=fun i h=>by rw[ku,l8 h];rfl
 have hnd:(ks.map fun i=>d.getD i 0).Nodup:=by
  refine List.pairwise_map.2 (hn.imp_of_mem fun{i j} hi hj hne hij=>hne ?_);rw[e i (hk i hi),e j (hk j hj)]at hij;rcases Dr i j with q|q|q
  ·have:=(Di.Rb hu (hk i hi) (hk j hj)).2 q;omega
  ·exact q
  ·have:=(Di.Rb hu (hk j hj) (hk i hi)).2 q;omega
 have h1:(Di.dZ acc).Nodup:=(Di.pJ acc).imp fun h=>Nat.ne_of_lt h
 have hs:∀z,z∈Di.dZ acc↔z∈ks.map fun i=>d.getD i 0:=fun z=>by
  rw[Di.eO,hm z,dM]
 have a:=iD h1 (fun z h=>(hs z).1 h);have b:=iD hnd (fun z h=>(hs z).2 h);rw[fu]at a b;omega
structure DgI (w:World) (p n b K:Nat) (A2:Option Addr) (c2:Nat) (d:List Nat) (Q:List Nat×List Bool×Int) (j:Nat) (A:Option Addr) (c:Nat) (W:World) (acc:List Nat) (r:List Bool) (D:DataW Unit) (ks:List Nat):Prop where
 gv:Di.gv d (n-j) acc r=Q
 len:acc.length=j
 own:aG W (b+1) A j c acc
 dZ:aG W w.heap.size A2 K c2 d
 below:∀g,ab A2=some g→g<b
 km:Km W b j D ks
 mem:∀z,z∈acc↔∃i∈ks,d.getD i 0=z
 idx:∀i∈ks,i<K
 br:Br W p r
 grown:w.grownBy W (some p)
 le:w.heap.size≤b
theorem DgI.next {w W w2 w3 w5} {p n b K c2 j c i c4} {A2 A A4} {d acc ks} {Q} {r r4} {D E} (I:DgI w p n b K A2 c2 d Q j A c W acc r D ks)
  (hp:p<w.heap.size) (hst:Q=Di.gv d (n-j-1) (acc++[d.getD i 0]) r4) (hi:i<K) (_:j<n) (hb2:Br w2 p r4) (hg2:W.grownBy w2 (some p)) (IJ:w3.ownsMap prog 125 (plainElem prog 4) b (j+1) (D.put (kl i) E)) (hg3:w2.grownBy w3 (some b)) (o)
  (h5:aG w5 (b+1) A4 (j+1) c4 (acc++[d.getD i 0])) (hg5:(w3.alloc o).grownBy w5 (ab A)):DgI w p n b K A2 c2 d Q (j+1) A4 c4 w5 (acc++[d.getD i 0]) r4 (D.put (kl i) E) (i::ks.filter (· ≠i)):=by
 have hlb:=I.le;have hlA:∀g,ab A=some g→b+1≤g:=fun g e=>(ae I.own g e).1
 have hga:w3.grownBy (w3.alloc o) none:=Ga w3 o none;have hd2:aG w2 w.heap.size A2 K c2 d:=kX I.dZ hg2 hp;have hd3:aG w3 w.heap.size A2 K c2 d:=af hd2 hg3 (by
  rcases hA:ab A2 with _|g
  ·exact .inl rfl
  ·exact .inr fun e=>by have:=I.below g hA;have:=Oj e;omega)
 have hd4:aG (w3.alloc o) w.heap.size A2 K c2 d:=Oa hd3 o;have hd5:aG w5 w.heap.size A2 K c2 d:=af hd4 hg5 (by
  rcases hA:ab A2 with _|g
  ·exact .inl rfl
  ·refine .inr fun e=>?_
   have h1:=I.below g hA;have h2:=hlA g e.symm;omega)
 have X8:Km w3 b (j+1) (D.put (kl i) E) (i::ks.filter (· ≠i)):=(I.km.kept hg2 (fun e=>by have:=Oj e;omega)).put i IJ;have OI:=(X8.kept hga sm).kept hg5 (fun e=>by have:=hlA b e.symm;omega);have hb5:=(((hb2.grown hg3 (fun g e=>by cases e;omega)).grown hga (fun g e=>by cases e)).grown hg5 (fun g e=>by have:=hlA g e;omega))
 have hgr:=(((I.grown.trans hg2).andThen hg3 (fun j hj=> .inl (by cases hj;exact hlb))).andThen hga (fun j hj=>by cases hj)).andThen hg5 (fun j hj=> .inl (by have:=hlA j hj;omega));refine⟨by rw[show n-(j+1)=n-j-1 from om];exact hst.symm,by simp[I.len],h5,hd5,I.below,OI,fun z=>?_,fun q hq=>?_,hb5,hgr,hlb⟩
 ·rw[jl,I.mem z,iF];constructor
  ·rintro(⟨q,hq,rfl⟩|rfl)
   ·by_cases hqi:q=i
    ·exact⟨i,sm,by rw[hqi]⟩
    ·exact⟨q,by simp[hq,hqi],rfl⟩
   ·exact⟨i,sm,rfl⟩
  ·rintro⟨q,hq,rfl⟩;rcases iM.1 hq with rfl|hq
   ·exact .inr rfl
   ·exact .inl ⟨q,(DW.1 hq).1,rfl⟩
 ·rcases iM.1 hq with rfl|hq
  ·exact hi
  ·exact I.idx q (DW.1 hq).1
theorem Re (p n:Nat) (r) (w) (h:Br w p r) (hn:n≤1000000):
  Calls prog 223 #[.pointer (some ⟨p,0,none⟩),.int .i64 (n:Int)] w fun e w'=>∃A2 n2 c2,e= .returned (.tuple #[.slice A2 n2 c2,.int .i64 (Di.dec n r).2.2])∧aG w' w.heap.size A2 n2 c2 (Di.dec n r).1∧Br w' p (Di.dec n r).2.1∧w.grownBy w' (some p):=by
 have hp:=h.lt;have GD:=Aj (Na p r w h);have hok:= @Di.YD r;obtain⟨X,hX⟩:∃X,X=Di.dec n r:=⟨_,rfl⟩
 rw[←hX];rw[Di.Va]at hX;generalize Di.FH r=Y at*;obtain⟨d,r1,e1⟩:=Y;simp only[]at GD hok hX;have H0:=Aj h;clear h;have hnn:¬(n:Int)<0:=om;by_cases hn0:n=0
 ·subst hn0;rw[Ps0 rfl]at hX;have HX:=Aj hX;clear hX;go_enter func223,ntmps223;go_wp2;go_ret2;rw[HX.1];exact⟨none,0,0,rfl,⟨rfl,.inl ⟨rfl,rfl⟩⟩,H0.1,⟨rfl,rfl,rfl,Nr _,fun _ _ _=>rfl⟩⟩
 ·have hn1:¬(n:Int)=0:=by omega
  rw[Ng hn0]at hX;by_cases he:e1=0
  ·subst he;rw[Ng sm]at hX;obtain⟨hu,lZ,hK0,hK1⟩:=hok rfl;obtain⟨Q,hQ⟩:∃Q,Di.gv d n [] r1=Q:=⟨_,rfl⟩
   obtain⟨K,hKd⟩:∃K,d.length=K:=⟨_,rfl⟩
   have HX:Kept (X=if Q.2.2≠0 then([],Q.2)else if(Di.dZ Q.1).length<K then([],Q.2.1,8)else Q):=⟨by rw[hX];unfold Di.qV;rw[hQ,hKd]⟩
   rw[hKd]at hK0 hK1;have HQ:=Aj hQ;have HU:=Aj hu;have HKd:=Aj hKd;have W0:=Aj (fun w=>qf K om w);have hv7:Di.mI K≤7:=Di.Jj hK1;have hmm:= @run_makeMap prog;clear hX hok hQ hu lZ;have hKu:IntKind.u64.wrap (K:Int)=(K:Int):=by rw[Bb];omega
   go_enter func223,ntmps223;go_wp2_with (go_at_call 264;refine GD.1.mono ?_;rintro e w1 ⟨A2,n2,c2,rfl,ho,hb,hg⟩;obtain rfl:n2=K:=ho.len.trans hKd;have B1:=Aj hb;have G1:=Aj hg;have O1:=Aj ho;clear ho hb hg);obtain⟨v,hv⟩:∃v,Di.mI n2=v:=⟨_,rfl⟩
   rw[hv]at W0 hv7;have HV:=Aj hv;have hA2:∃g,A2=some ⟨g,0,none⟩∧w.heap.size≤g∧g<w1.heap.size:=O1.1.pos om;obtain⟨g,rfl,hg1,hg2⟩:=hA2;have hcap:=O1.1.rd.1;have hwb:=G1.1.size;have I0:DgI w p n w1.heap.size n2 (some ⟨g,0,none⟩) c2 d Q 0 none 0 (w1.alloc (.map #[] 0)) [] r1 (.map []) []:=
    ⟨HQ.1,rfl,⟨rfl,.inl ⟨rfl,rfl⟩⟩,Oa O1.1 _,fun q e=>by have:=(show g=q by simpa[ab]using e);omega,Km.made w1,sm,sm,B1.1.grown (Ga w1 _ none) (fun g e=>by cases e),G1.1.andThen (Ga w1 _ none) (fun j hj=>by cases hj),hwb⟩
   clear hv hKd B1 G1 O1 GD H0 HQ;go_loopw [8,31] (fun u iv wr=>∃(j:Nat) (A3:Option Addr) (c3:Nat) (acc:List Nat) (r2:List Bool) (D:DataW Unit) (ks:List Nat),u= .slice A3 j c3∧iv= .int .i64 (j:Int)∧j≤n∧DgI w p n w1.heap.size n2 (some ⟨g,0,none⟩) c2 d Q j A3 c3 wr acc r2 D ks) (fun _ iv _=>n-(intOf iv).toNat)
   case atStart=>exact⟨0,none,0,[],r1,.map [],[],rfl,rfl,bE _,I0⟩
   case round=>
    clear I0;obtain⟨j,A3,c3,acc,r2,D,ks,rfl,rfl,hjn,I⟩:=hrel;have HI:=Aj I;have hwz:=I.grown.size;have ajV:w1.heap.size<wr.heap.size:=I.km.1.lt;clear I;by_cases hjl:j<n
    ·have aeV:(j:Int)< (n:Int):=by omega
     have RB:=Aj (dF p v r2 wr HI.1.br om);have hst:=Aj (Di.Vb (m:=n-j) om d acc r2);rw[HI.1.gv,HKd.1,HV.1]at hst;have mq:=Tm.qd v r2;have hlt2:(Tm.rd v r2).1<2^64:=jB (Tm.jr v r2) (j5 Ah om);generalize Tm.rd v r2=Y at*;obtain⟨i,r4,e4⟩:=Y;simp only[]at RB hst mq hlt2;rcases mq with rfl|rfl
     ·rw[Ng sm]at hst;by_cases hik:n2≤i
      ·rw[Ps0 hik]at hst;have aeW:(n2:Int)≤(i:Int):=om;have hx:Kept (X=([],r4,8)):=⟨by rw[HX.1,hst.1];simp⟩
       go_wp2_with (first
        |(go_at_call 262;refine(W0.1 _).mono ?_;rintro e w2 ⟨rfl,rfl⟩)
        |(go_at_call 213;refine RB.1.mono ?_;rintro e w2 ⟨rfl,hb,hg⟩;have B2:=Aj hb;have G2:=Aj (HI.1.grown.trans hg);clear hb hg))
       go_ret2;rw[hx.1];exact⟨none,0,0,rfl,⟨rfl,.inl ⟨rfl,rfl⟩⟩,B2.1,G2.1⟩
      ·rw[Ng hik]at hst;have aeW:¬(n2:Int)≤(i:Int):=om;have hid:i<d.length:=by have:=HKd.1;omega
       have HKY:=Aj (Q9 hlt2);have CE:=Aj (show∀w2 w3,wr.grownBy w2 (some p)→w2.grownBy w3 (some w1.heap.size)→w3.cell? ⟨g,i,none⟩=some (.int .u64 ((d.getD i 0:Nat):Int))from fun w2 w3 h2 h3=>by
        have hd2:aG w2 w.heap.size (some ⟨g,0,none⟩) n2 c2 d:=kX HI.1.dZ h2 hp;have hd3:aG w3 w.heap.size (some ⟨g,0,none⟩) n2 c2 d:=af hd2 h3 (.inr (fun e=>by have:=(show g=w1.heap.size by simpa[ab]using e);omega));have e:d.getD i 0=d[i]:=by rw[ku,l8 hid];rfl
        rw[e];exact(hd3.at_ hid).1)
       have OA:=Aj (show∀w2 w3,wr.grownBy w2 (some p)→w2.grownBy w3 (some w1.heap.size)→aG w3 (w1.heap.size+1) A3 j c3 acc from fun w2 w3 h2 h3=>af (kX HI.1.own h2 om) h3 (by
        rcases hA:ab A3 with _|q
        ·exact .inl rfl
        ·exact .inr fun e=>by have:=(ae HI.1.own q hA).1;have:=Oj e;omega))
       have KM2:=Aj (show∀w2,wr.grownBy w2 (some p)→Km w2 w1.heap.size j D ks from fun w2 h2=>HI.1.km.kept h2 (fun e=>by have:=Oj e;omega));have hin2:i<n2:=om;have NX:=Aj (fun(w2 w3 w5:World) (A4:Option Addr) (c4:Nat) (E:DataW Unit) (o:Obj) (hb2:Br w2 p r4) (hg2:wr.grownBy w2 (some p)) (IJ:w3.ownsMap prog 125 (plainElem prog 4) w1.heap.size (j+1) (D.put (kl i) E)) (hg3:w2.grownBy w3 (some w1.heap.size)) h5 h6=>HI.1.next (w5:=w5) (A4:=A4) (c4:=c4) (E:=E) hp hst.1 hin2 hjl hb2 hg2 IJ hg3 o h5 h6);clear hid hlt2;generalize d.getD i 0=x at*;go_wp2_with (first
        |(go_at_call 262;refine(W0.1 _).mono ?_;rintro e w2 ⟨rfl,rfl⟩)
        |(at_mapUpdate;refine wpList_mapUpdate_own _ rfl _ _ _ 386 rfl 125 4 U5 underlying386 _ w1.heap.size j _ rfl (KM2.1 w2 G2.1).1 (by unfold maxLen;omega) _ _ _ rfl rfl HKY.1 _ [] (plainElem_bool underlying4 true) ?_;intro w3 hown3 hgrow3;have k0:=CE.1 w2 w3 G2.1 hgrow3;have M3:=Aj hown3;have G3:=Aj hgrow3;have O3:=Aj (OA.1 w2 w3 G2.1 hgrow3);have hz3:=hgrow3.size;clear hown3 hgrow3)
        |(at_builtin;refine dC rfl (.tmp 53) (.tmp 58) rfl (w1.heap.size+1) A3 j c3 _ rfl (Oa O3.1 _) _ _ _ _ _ rfl (kg.one w3 x) om (by simp;omega) ?_;intro A4 c4 w5 ax aj di;have IX:=Aj (NX.1 w2 w3 w5 A4 c4 _ _ B2.1 G2.1 M3.1 G3.1 ax aj);clear ax aj di)
        |(go_at_call 213;refine RB.1.mono ?_;rintro e w2 ⟨rfl,hb,hg⟩;have B2:=Aj hb;have G2:=Aj hg;have hz2:=hg.size;clear hb hg))
       go_roundw
       case rel=>exact⟨j+1,A4,c4,_,_,_,_,rfl,by go_num,om,IX.1⟩
       case measure=>simp[intOf];omega
     ·rw[Ps0 sm]at hst;have hx:Kept (X=([],r4,3)):=⟨by rw[HX.1,hst.1];simp⟩
      go_wp2_with (first
       |(go_at_call 262;refine(W0.1 _).mono ?_;rintro e w2 ⟨rfl,rfl⟩)
       |(go_at_call 213;refine RB.1.mono ?_;rintro e w2 ⟨rfl,hb,hg⟩;have B2:=Aj hb;have G2:=Aj (HI.1.grown.trans hg);clear hb hg))
      go_ret2;rw[hx.1];exact⟨none,0,0,rfl,⟨rfl,.inl ⟨rfl,rfl⟩⟩,B2.1,G2.1⟩
    ·obtain rfl:j=n:=by omega
     have hq:Q=(acc,r2,0):=by rw[←HI.1.gv,CZ];simp[Di.gv]
     have hcnt:=Di.count HU.1 (fun i hi=>by rw[HKd.1];exact HI.1.idx i hi) HI.1.km.2.choose_spec.2.2 HI.1.mem;have hx:Kept (X=if ks.length<n2 then([],r2,8)else(acc,r2,0)):=⟨by rw[HX.1,hq];simp[hcnt]⟩
     have hlen:=HI.1.km.1.len underlying386 3;rw[HI.1.km.size]at hlen;clear hcnt hq;by_cases hks:ks.length<n2
     ·rw[Ps0 hks]at hx;have aeY:(ks.length:Int)< (n2:Int):=om;go_wp2;go_ret2;rw[hx.1];exact⟨none,0,0,rfl,⟨rfl,.inl ⟨rfl,rfl⟩⟩,HI.1.br,HI.1.grown⟩
     ·rw[Ng hks]at hx;have aeY:¬(ks.length:Int)< (n2:Int):=om;go_wp2;go_ret2;rw[hx.1];exact⟨A3,j,c3,rfl,Jf HI.1.own om,HI.1.br,HI.1.grown⟩
  ·rw[Ps0 he]at hX;have HX:=Aj hX;clear hX hok;have hne:(e1 !=0)=true:=by simpa using he
   clear he;go_enter func223,ntmps223;go_wp2_with (go_at_call 264;refine GD.1.mono ?_;rintro e w1 ⟨A2,n2,c2,rfl,ho,hb,hg⟩;have B1:=Aj hb;have G1:=Aj hg;clear ho hb hg);go_ret2;rw[HX.1];exact⟨none,0,0,rfl,⟨rfl,.inl ⟨rfl,rfl⟩⟩,B1.1,G1.1⟩
end
section
open Go.Shelf
attribute [local go_sem] Oper.semAt_some
theorem qc.wk {w w'} {base p} (h:qc w) (hk:Wk base p w w') (hg:0<base):qc w':=fun i v hi=>(hk.aU.cell (p:=⟨_,i,none⟩) hg).trans (h i v hi)
theorem Boxed.wk {w w'} {base p bx} {t} {v} (h:Boxed w bx t v) (hk:Wk base p w w') (hne:bx≠p) (ht:t≠5):Boxed w' bx t v:=
 (hk.rest bx h.lt hne (fun cs fr e=>by
  have e2:=(show w.heap[bx]? =some (.cells #[v] t (0,0))from h).symm.trans e;simp only[gV,Dn]at e2;exact ht e2.2.1)).trans h
theorem Wk.kept {w w'} {base p g} {cs} {t} {fr} (hk:Wk base p w w') (hg:w.heap[g]? =some (.cells cs t fr)) (hne:g≠p) (ht:t≠5):w'.heap[g]? =some (.cells cs t fr):=
 (hk.rest g (Ge.1 hg).1 hne (fun cs2 fr2 e=>by
  have e2:=hg.symm.trans e;simp only[gV,Dn]at e2;exact ht e2.2.1)).trans hg
theorem Wk.keeps {base p B} {w w'} (h:Wk base p w w') (hp:∀o,w.heap[p]? =some o→o.isCells=true):KeepsFrom B w w':=
 ⟨h.aU.size,fun r _ o ho hc=>(h.rest r (Ge.1 ho).1 (fun e=>by subst e;rw[hp _ ho]at hc;cases hc) (fun cs fr e=>by rw[ho]at e;cases e;cases hc)).trans ho⟩
theorem eZ.cells {w} {base p} {bs} (h:eZ w base p bs):∀o,w.heap[p]? =some o→o.isCells=true:=by
 obtain⟨A,n,c,L,h1,-⟩:=h;intro o ho;rw[h1]at ho;cases ho;rfl
theorem eZ.gr {w w'} {base p} {bs} (h:eZ w base p bs) (hg:Gr w w'):eZ w' base p bs:=by
 obtain⟨A,n,c,L,h1,h2,h3,h4⟩:=h;have hp:=(Ge.1 h1).1;exact⟨A,n,c,L,(hg.below.block p hp).trans h1,own_below h2 hg.below (fun g e=>(ae h2 g e).2),h3,h4⟩
theorem Wk.gr {base p} {w w'} (h:Gr w w') (hb:base≤w.heap.size):Wk base p w w':=⟨h.below.mono hb,fun k hk _ _=>h.below.block k hk⟩
theorem eZ.alloc {w} {base p} {bs} (h:eZ w base p bs) (o):eZ (w.alloc o) base p bs:=h.gr ((Gr.refl w).alloc o)
theorem eZ.apart {w w'} {base p} {bs} {row} (h:eZ w base p bs) (hg:w.grownBy w' row) (hr:∀r,row=some r→∃o:Obj,w.heap[r]? =some o∧o.isCells=false):eZ w' base p bs:=by
 obtain⟨A,n,c,L,h1,h2,h3,h4⟩:=h;refine⟨A,n,c,L,(hg.block p (Ge.1 h1).1 (fun e=>?_)).trans h1,h2.apart hg (fun r e=> .inr (hr r e)),h3,h4⟩;obtain⟨o,ho,hc⟩:=hr p e.symm;rw[h1]at ho;cases ho;cases hc
theorem Wk.more {base p} {w W W'} {row} (h:Wk base p w W) (hg:W.grownBy W' row) (hb:base≤w.heap.size) (hr:∀r,row=some r→w.heap.size≤r):Wk base p w W':=
 ⟨h.aU.grown hg (by have:=h.aU.size;omega) (fun r e=>by have:=hr r e;omega),fun k hk hp hn=>(hg.block k (by have:=h.aU.size;omega) (fun e=>by have:=hr k e.symm;omega)).trans (h.rest k hk hp hn)⟩
def uC (w:World) (base p:Nat) (bs:List Bool) (bx:Nat) (v:Value) (pre:List Int) (W:World):Prop:=
 eZ W base p (bs++pre.flatMap Tm.ch)∧Wk base p w W∧Boxed W w.heap.size 302 (.pointer (some ⟨p,0,none⟩))∧Boxed W bx 281 v
theorem uC.own {w} {base p N bx} {v} {bs} (hb:base≤w.heap.size) (hN:w.heap.size<N) (hx:bx<N):aJ N (fun _=>False) (uC w base p bs bx v):=by
 rintro s W W' row ⟨h1,h2,h3,h4⟩ hg hr;have hrow:∀r,row=some r→N≤r∧∃o:Obj,W.heap[r]? =some o∧o.isCells=false:=fun r e=>by
  rcases hr r e with h|h
  ·exact h.elim
  ·exact h
 exact⟨h1.apart hg (fun r e=>(hrow r e).2),h2.more hg hb (fun r e=>by have:=(hrow r e).1;omega),h3.kept hg (fun e=>by have:=(hrow _ e.symm).1;omega),h4.kept hg (fun e=>by have:=(hrow _ e.symm).1;omega)⟩
def Tm.fst:List Int→List Bool
 |[]=>[]
 |t::_=>Bt.bw 64 (Tm.wd t)
theorem Tm.Vd (l):(Tm.fst l).length≤64:=by cases l<;>simp[Tm.fst,Bt.ak]
theorem Tm.Rf (l):(Tm.uA l).length≤l.length:=by
 cases l with
 |nil=>simp[Tm.uA]
 |cons t l=>rw[Tm.uA,Ck.yA];simp
theorem Tm.Ve (l:List Int):(l.flatMap Tm.ch).length≤68*l.length:=Ck.nV (f:=Tm.ch) (B:=68) (fun x=>by
 unfold Tm.ch;rw[La,Bt.ak,Bt.ak];exact Ck.Wz (Tm.Et x)) l
theorem Rh (base p B) (bs) (A) (n c) (l) (w) (h:eZ w base p bs) (hr:vF w B A n c l) (hB:B≤base) (hF:qc w) (hg:0<base)
  (hin:∀x∈l,Tm.In x) (hn:n≤1000000) (hl:bs.length≤100000000):
  Calls prog 192 #[.pointer (some ⟨p,0,none⟩),.slice A n c] w fun e w'=>e= .returned (.int .i64 0)∧eZ w' base p (bs++Tm.enc l)∧Wk base p w w':=by
 have hln:=Aj hr.len;have hlc:=hr.1;have hcm:=hr.2.1;unfold maxLen at hcm;have hz:=h.lt;have henc:Kept (Tm.enc l=Tm.fst l++(Tm.uA l).flatMap Tm.ch):=⟨by cases l<;>rfl⟩
 have Wp:p≠w.heap.size:=om;have hbx:=Boxed.new w 302 (.pointer (some ⟨p,0,none⟩));have H0:=Aj (h.alloc (.cells #[.pointer (some ⟨p,0,none⟩)] 302));have K0:=Aj ((Wk.refl base p w).alloc (.cells #[.pointer (some ⟨p,0,none⟩)] 302) om);have R0:=Aj hr;obtain⟨W0,hW0⟩:∃W0,W0=w.alloc (.cells #[.pointer (some ⟨p,0,none⟩)] 302):=⟨_,rfl⟩
 have hz0:W0.heap.size=w.heap.size+1:=by rw[hW0];simp
 have HW0:=Aj hW0.symm;rw[←hW0]at hbx H0 K0;have hc0:=hbx.cell;have Z5:=Aj hbx;have HF:=Aj hF;clear h hr hW0 hbx hF;refine(Bd (n:=9)).1 ?_;refine callsIn_of_wp_marks func192 rfl trivial ?_ rfl;simp only[ntmps192,Ca,Lc,AB,Nat.reduceAdd,Nat.reduceSub,Cg,Ch,Cz,Cm,Ay,AU];refine Bl.2 ?_;go_upto_if 11 with(fail)
 rw[HW0.1];go_cut []from 5 (fun wx=>eZ wx base p (bs++Tm.fst l)∧Wk base p w wx∧Boxed wx w.heap.size 302 (.pointer (some ⟨p,0,none⟩)))
 case first=>
  cases l with
  |nil=>
   have hn0:n=0:=hln.1;subst hn0;go_wp2;go_meet;exact⟨by simpa[Tm.fst]using H0.1,K0.1,Z5.1⟩
  |cons t l=>
   obtain⟨b,off,rfl,lX,hck⟩:=R0.1.at_ (k:=0) sm;simp only[Da,Cx]at hck;have hwl:=Tm.J5 t;have hwd:=Tm.zu t;have hpos:(0:Int)< (n:Int):=by have:=hln.1;simp at this;omega
   have ajW:W0.cell? ⟨b,off,none⟩=some (.int .i64 t):=by
    rw[←HW0.1];exact(AJ _ _ ⟨b,off,none⟩ (by show b<_;omega)).trans hck
   clear hck;go_upto_region 4 with(fail)
   refine wp_region_still_tail 5 kr kr ?_;simp only[Bu,Dz,Bv,BO]
   repeat still_step
   refine wpStill_nil ?_
   change wpList _ _ _ _ _ W0.drew
   go_wp2_with (go_at_call 191;refine(bZ base p (Tm.wd t) 64 bs _ (by exact H0.1) hwl om om).mono ?_;rintro e w2 ⟨rfl,hw2,hk2⟩;have H2:=Aj hw2;have K2:=Aj (K0.1.drew.trans hk2);have X2:=Aj (show Boxed w2 w.heap.size _ _ from Boxed.wk (show Boxed W0.drew w.heap.size _ _ from Z5.1) hk2 Wp.symm Ah);clear hw2 hk2);go_meet;exact⟨H2.1,K2.1,X2.1⟩
 case rest=>
  rename World=>wx
  obtain⟨hwx,hkx,hbx⟩:=hcut;clear hc0 Z5 H0 K0 HW0 hz0;go_wp2_with (go_at_call 241;refine(Fz _ _ _ wx).mono ?_;rintro e w3 ⟨rfl,hw3⟩;have HW3:=Aj hw3;clear hw3);have hzx:=hkx.aU.size;have hz3:w3.heap.size=wx.heap.size+1:=by rw[HW3.1];simp
  have g3:wx.grownBy w3 none:=by rw[HW3.1];exact Ga _ _ _
  have hI0:uC w base p (bs++Tm.fst l) wx.heap.size (.slice A n c) [] w3:=⟨by rw[CR,AZ];exact hwx.apart g3 (fun r e=>by cases e),hkx.more g3 om (fun r e=>by cases e),hbx.kept g3 (fun e=>by cases e),by rw[HW3.1];exact Boxed.new _ _ _⟩
  have b3:Boxed w3 wx.heap.size 281 (.slice A n c):=by rw[HW3.1];exact Boxed.new _ _ _
  have r3:vF w3 B A n c l:=(R0.1.below (hkx.aU.mono hB)).below ((Ae B wx).grown g3 om (fun r e=>by cases e));have HFx:=Aj (HF.1.wk hkx hg);clear hwx hkx hbx;refine(Bl (n:=9)).1 ?_;refine iX Ah (gf:=270) (lb:= #[.pointer (some ⟨wx.heap.size,0,none⟩)]) rfl (enters_of func270 kr rfl)
   (encs:=U4) (O:=fun _=>False) (Kp:=zJ B wx.heap.size) (L:=Tm.uA l)
   (by rintro r h;exact h.elim) (fun h k=>h.trans k) (fun W W' row hW hg hr=>zJ.grown hW om om hg hr) (fun _=>rfl)
   (uC w base p (bs++Tm.fst l) wx.heap.size (.slice A n c)) (fun _ _ _=>False)
   (fun pre x a₁ W=>uC w base p (bs++Tm.fst l) wx.heap.size (.slice A n c) pre W∧
    a₁={tmps:= #[.pointer (some ⟨p,0,none⟩),.slice A n c,.pointer (some ⟨w.heap.size,0,none⟩),undef,.int .i64 0,.int .i64 x,u6,u7,u8,u9,u10,u11,u12,u13,u14,u15,u16,u17,.slice A n c,.func (.func 270) #[] #[.pointer (some ⟨wx.heap.size,0,none⟩)],.int .i64 x,u21,u22,u23,u24,u25,u26,u27,u28,u29,u30,u31,u32,u33,u34,u35,u36],defers:=[]})
   (uB 8 wx.heap.size B 0 n c A l w3 _ b3 r3 (bE _) (fun pre W ⟨_,h⟩=>h))
   ?hI (fun _ _ _ _ _ h _ _=>h) ?hM hI0 ?assign ?body ?done ?stop
  case hI=>rw[hz3];exact uC.own om om om
  case hM=>
   rw[hz3];rintro pre x a₁ u W W' row ⟨hI,ha⟩ hgr hr;exact⟨uC.own om om om _ _ _ _ hI hgr hr,ha⟩
  case assign=>
   rintro lp pre x W hI hpre hW;unfold U4
   gi_wp2
   exact⟨⟨Nr _,fun _ _ _ h _=>h⟩,⟨Ae _ _,rfl⟩,hI,trivial⟩
  case body=>
   rintro lp pre x a₁ W ⟨⟨hw1,hk1,hb1,hb2⟩,rfl⟩ hpre hW;have hx:Tm.In x:=Tm.U3 l x (hpre.subset sm);have hlx:=hpre.length_le;rw[La,Dh]at hlx;have hcl:=Tm.Rf l;have hlb:Kept ((bs++Tm.fst l++pre.flatMap Tm.ch).length≤900000000):=⟨by
    have h1:=Tm.Ve pre;have h2:=Tm.Vd l;have h3:=hln.1;simp only[La];omega⟩
   have HF1:=HF.1.wk hk1 hg;have hi4:=Tm.Et x;have hwl:=Tm.J5 x;have hwd:=Tm.zu x;have hfw:=Tm.W9 (Tm.fm x);have hfl:Tm.fl (Tm.fm x)≤4:=by unfold Tm.fl;split<;>omega
   have Pt:Tm.fb (Tm.fm x)≤15:=by unfold Tm.fb;split<;>omega
   have hcell:Kept (∀w1,qc w1→w1.cell? ⟨0,Tm.fm x*3,none⟩=some (.int .u64 ((Tm.fb (Tm.fm x):Nat):Int))∧w1.cell? ⟨0,Tm.fm x*3+1,none⟩=some (.int .i64 ((Tm.fl (Tm.fm x):Nat):Int))∧
     w1.cell? ⟨0,Tm.fm x*3+2,none⟩=some (.int .i64 ((Tm.fw (Tm.fm x):Nat):Int))):=⟨fun w1 h1=>by
    rcases(by omega:Tm.fm x=0∨Tm.fm x=1∨Tm.fm x=2∨Tm.fm x=3∨Tm.fm x=4)with h|h|h|h|h<;>rw[h]
    ·exact⟨h1 0 _ rfl,h1 1 _ rfl,h1 2 _ rfl⟩
    ·exact⟨h1 3 _ rfl,h1 4 _ rfl,h1 5 _ rfl⟩
    ·exact⟨h1 6 _ rfl,h1 7 _ rfl,h1 8 _ rfl⟩
    ·exact⟨h1 9 _ rfl,h1 10 _ rfl,h1 11 _ rfl⟩
    ·exact⟨h1 12 _ rfl,h1 13 _ rfl,h1 14 _ rfl⟩⟩
   have FO:=Aj (Bd (n:=6).2 (uz x W hx HF1));have hch:Kept (Tm.ch x=Bt.bw (Tm.fl (Tm.fm x)) (Tm.fb (Tm.fm x))++Bt.bw (Tm.fw (Tm.fm x)) (Tm.wd x)):=⟨rfl⟩
   generalize hi:Tm.fm x=i at*;have hi5:(i:Int)<5:=om;have H1:=Aj hw1;have K1:=Aj hk1;have X1:=Aj hb1;have Z1:=Aj hb2;have F1:=Aj HF1;clear hw1 hk1 hb1 hb2 HF1 hi;have tf1:Fence.wide.fn 242:=trivial;have tf2:Fence.wide.fn 191:=trivial;have WB:=Aj (fun(w1:World) (h1:eZ w1 base p (bs++Tm.fst l++pre.flatMap Tm.ch))=>CallsIn.inRound lp (Bd (n:=6).2 (bZ base p (Tm.fb i) (Tm.fl i) _ w1 h1 om om (by have:=hlb.1;omega))));have WC:=Aj (fun(w1:World) (h1:eZ w1 base p (bs++Tm.fst l++pre.flatMap Tm.ch++Bt.bw (Tm.fl i) (Tm.fb i)))=>CallsIn.inRound lp (Bd (n:=6).2 (bZ base p (Tm.wd x) (Tm.fw i) _ w1 h1 hwl om (by have:=hlb.1;rw[La,Bt.ak];omega))))
   gi_wp2_with (first
    |(gi_at_call 191;refine(WC.1 w3 H3.1).mono ?_;rintro e w4 ⟨rfl,hw4,hk4⟩;have H4:=Aj hw4;have K4:=Aj (K3.1.trans hk4);have X4:=Aj (Boxed.wk X3.1 hk4 Wp.symm Ah);clear hw4 hk4)
    |(gi_at_call 191;refine(WB.1 _ H2.1).mono ?_;rintro e w3 ⟨rfl,hw3,hk3⟩;have H3:=Aj hw3;have K3:=Aj (K2.1.trans hk3);have X3:=Aj (Boxed.wk X2.1 hk3 Wp.symm Ah);have d0:=Boxed.cell X3.1;have d1:=Co _ _ 2 _ _ _ (Wk.kept hk3 Y2.1 hy1 Ah);clear hw3 hk3)
    |(gi_at_call 242;refine(CallsIn.inRound lp FO.1).mono ?_;rintro e w1 ⟨rfl,hg1⟩;obtain⟨c0,c1,c2⟩:=hcell.1 _ (F1.1.gr hg1);have hg2:=(hg1.alloc (.cells #[.int .u64 ((Tm.fb i:Nat):Int),.int .i64 ((Tm.fl i:Nat):Int),.int .i64 ((Tm.fw i:Nat):Int)] 355));have H2:=Aj (H1.1.gr hg2);have k12:=(Wk.gr (base:=base) (p:=p) hg2 (by have:=K1.1.aU.size;omega));have K2:=Aj k12;have X2:=Aj (Boxed.wk X1.1 k12 Wp.symm Ah);clear hg2 k12;have d2:=Boxed.cell X2.1;have hy1:w1.heap.size≠p:=(by have h1:=hg1.size;have h2:=H1.1.lt;omega);have Y2:=Aj (Av w1 (.cells #[.int .u64 ((Tm.fb i:Nat):Int),.int .i64 ((Tm.fl i:Nat):Int),.int .i64 ((Tm.fw i:Nat):Int)] 355));clear hg1))
   have hxp:wx.heap.size≠p:=om;refine⟨K4.1.keeps H1.1.cells,⟨K4.1.aU.mono hB,(Wk.kept K4.1 Z1.1 hxp Ah).trans Z1.1.symm⟩,?_,K1.1.trans K4.1,X4.1,Wk.kept K4.1 Z1.1 hxp Ah⟩;have:=H4.1;rw[Af,←hch.1,Af]at this;rw[oV,List.flatMap_singleton];exact this
  case done=>
   rintro D W hD ⟨hw1,hk1,hb1,-⟩ hK;have H1:=Aj hw1;have K1:=Aj hk1;clear hw1 hk1 hb1;go_wp2;refine⟨sm,.inl ⟨_,_,rfl,run_takeDeferred hK,?_⟩⟩;have hgo:W.grownBy (W.putObj D (.deferred none)) (some D):=grownBy_putObj' W D _;refine⟨_,results_tmp rfl _ _ _,rfl,?_,K1.1.more hgo om (fun r e=>by cases e;omega)⟩;rw[henc.1,←Af];exact H1.1.apart hgo (fun r e=>by cases e;exact⟨_,hK,rfl⟩)
  case stop=>
   rintro D c pre W _ _ h _;exact h.elim
end
section
open Go.Shelf
attribute [local go_sem] Oper.semAt_some
def encR (x:Nat×Nat):Array Value:= #[.agg #[.int .u64 (x.1:Int),.int .i64 (x.2:Int)]]
theorem Ru.xy:∀(l),∀p∈(Ru.runs l).head?,l.head? =some p.1
 |[],p,h=>by simp[Ru.runs]at h
 |x::l,p,h=>by
  have ih:=Ru.xy l;rw[Ru.runs]at h;cases hr:Ru.runs l with
  |nil=>rw[hr]at h;simp at h;rw[←h];rfl
  |cons q rs=>
   obtain⟨y,c⟩:=q;rw[hr]at h;simp only[]at h;split at h
   ·rename_i hxy;simp at h;rw[←h,hxy];rfl
   ·simp at h;rw[←h];rfl
theorem Ru.KR {l:List Nat} {a b:Nat} (h1:a<b) (h2:b≤l.length) (h3:∀(j:Nat) (hj:j<l.length),a≤j→j<b→l[j]=l[a]) (h4:∀(hb:b<l.length),l[b]≠l[a]):
  Ru.runs (l.drop a)=(l[a],b-a)::Ru.runs (l.drop b):=by
 have e:l.drop a=List.replicate (b-a-1+1) l[a]++l.drop b:=by
  apply Dy
  ·simp;omega
  ·intro i i1 i2;rw[Dq];by_cases hi:i<b-a
   ·rw[sP (by simp;omega),List.getElem_replicate];exact h3 _ _ om om
   ·rw[List.getElem_append_right (by simp;omega),Dq]
    congr 1;simp;omega
 rw[e,Ru.pM (Ru.runs (l.drop b)) rfl (fun p hp=>?_)]
 ·rw[show b-a-1+1=b-a from om]
 ·have:=Ru.xy _ p hp;rw[List.head?_drop]at this;by_cases hb:b<l.length
  ·rw[l8 hb]at this;have h5:=h4 hb;intro e2;exact h5 (by rw[Oj this,e2])
  ·rw[BC om]at this;cases this
theorem qQ (n bx B m c) (A) (l) (w) (X) (hw:Boxed w bx 284 (.slice A m c)) (hr:kg w B A m c l) (hm:m≤128)
  (hX:∀pre W,¬X pre W):
  ru n prog 281 #[.pointer (some ⟨bx,0,none⟩)] encR (fun _=>False) (zJ B bx) (Ru.runs l) w X:=by
 intro lp J Jx W hK hJ hJx NZ bz h0;have hW:Boxed W bx 284 (.slice A m c):=hK.2.trans hw;have hR:kg W B A m c l:=hr.below hK.1;have df:=Aj bz;have HX:Kept (∀pre W,¬Jx pre W):=⟨fun pre W h=>hX pre W (NZ pre W h)⟩
 have hln:=Aj hr.len;have hc1:=hr.1;have hc2:=hr.2.1;unfold maxLen at hc2;have HJ:=Aj hJ;clear hw hK bz hJ hX NZ hr hJx;refine Bd.2 ?_;go_enter func281,ntmps281;go_wp2;go_loopw [3] (fun i wr=>∃(pre:List (Nat×Nat)) (k:Nat),i= .int .i64 k∧Boxed wr bx 284 (.slice A m c)∧kg wr B A m c l∧k≤m∧
  Kept (Ru.runs l=pre++Ru.runs (l.drop k))∧Kept (J pre wr)) (fun i _=>m-(intOf i).toNat)
 case atStart=>exact⟨[],0,rfl,hW,hR,om,⟨rfl⟩,⟨h0⟩⟩
 case round=>
  clear hW hR h0;obtain⟨pre,k,rfl,hb,hr,hk,hm1,hj⟩:=hrel;have hc:=hb.cell;have Hb:=Aj hb;have Hr:=Aj hr;clear hb hr;by_cases hlt:k<m
  ·have hlt':(k:Int)< (m:Int):=by omega
   have hkl:k<l.length:=by have:=hln.1;omega
   obtain⟨b,off,rfl,lX,hck⟩:=Hr.1.at_ hkl;have YE:Kept (∀(j:Nat) (hj:j<l.length),wr.cell? ⟨b,off+j,none⟩=some (.int .u64 (l[j]:Int))):=⟨fun j hj=>by
    obtain⟨b',off',e,_,hc⟩:=Hr.1.at_ hj;simp only[gV,BP,Bi]at e;obtain⟨rfl,rfl⟩:=e;exact hc⟩
   obtain⟨x,hx⟩:∃x,x=l[k]:=⟨_,rfl⟩
   rw[←hx]at hck;have HXk:=Aj hx;clear hx;go_upto_block 2 with(fail)
   go_cut [4] (fun tv wx=>∃(t q:Nat),tv= .int .i64 t∧k<t∧t≤m∧wx=wr.drewN q∧Kept (Ru.runs (l.drop k)=(x,t-k)::Ru.runs (l.drop t)))
   case first=>
    go_wp2;go_loopw [4] (fun i w2=>∃(t q:Nat),i= .int .i64 t∧k<t∧t≤m∧w2=wr.drewN q∧Kept (∀(j:Nat) (hj:j<l.length),k≤j→j<t→l[j]=l[k])) (fun i _=>m-(intOf i).toNat)
    case atStart=>exact⟨k+1,0,by go_num,om,om,rfl,⟨fun j hj h1 h2=>by congr 1;omega⟩⟩
    case round=>
     obtain⟨t,q,rfl,h1,h2,rfl,h3⟩:=hrel;by_cases ZP:t<m
     ·have htl:t<l.length:=by have:=hln.1;omega
      have hct:=YE.1 t htl;have g1:decide ((t:Int)< (m:Int))=true:=Bc om;have g2:(t:Int)< (m:Int):=om;have g3:decide ((t:Int)-(k:Int)<128)=true:=Bc om;have g4:(t:Int)-(k:Int)<128:=om;obtain⟨y,hy⟩:∃y,y=l[t]:=⟨_,rfl⟩
      rw[←hy]at hct;by_cases hyx:y=x
      ·have h3':Kept (∀(j:Nat) (hj:j<l.length),k≤j→j<t+1→l[j]=l[k]):=⟨fun j hj a1 a2=>by
        rcases DF (Nat.le_of_lt_succ a2)with h|h
        ·exact h3.1 j hj a1 h
        ·subst h;rw[←hy,hyx,HXk.1]⟩
       have g5:((y:Int)==(x:Int))=true:=by simp;omega
       clear hy hyx h3 htl;go_wp2;go_quiet (fail);go_wp2;go_roundw
       case rel=>exact⟨t+1,_,by go_num,om,om,by first|rfl|exact jq _ _ _,h3'⟩
       case measure=>simp[intOf];omega
      ·have hR2:Kept (Ru.runs (l.drop k)=(x,t-k)::Ru.runs (l.drop t)):=⟨by
        rw[Ru.KR h1 (by have:=hln.1;omega) h3.1 (fun hb e=>hyx (by rw[hy,e,HXk.1])),←HXk.1]⟩
       have g5:((y:Int)==(x:Int))=false:=by simp;omega
       clear hy hyx h3 htl;go_wp2;go_quiet (fail);go_wp2;go_meet;exact⟨t,_,rfl,h1,h2,by first|rfl|exact jq _ _ _,hR2⟩
     ·obtain rfl:t=m:=by omega
      have hR2:Kept (Ru.runs (l.drop k)=(x,t-k)::Ru.runs (l.drop t)):=⟨by
       rw[Ru.KR h1 (by have:=hln.1;omega) h3.1 (fun hb e=>by have:=hln.1;omega),←HXk.1]⟩
      have g1:decide ((t:Int)< (t:Int))=false:=Az om;clear h3;go_wp2;go_quiet (fail);go_wp2;go_meet;exact⟨t,_,rfl,h1,h2,by first|rfl|exact jq _ _ _,hR2⟩
   case rest=>
    rename World=>wx
    obtain⟨t,q,rfl,h1,h2,rfl,hR2⟩:=hcut;obtain⟨w2,hw2⟩:∃w2,w2=wr.drewN q:=⟨_,rfl⟩
    have hgd:wr.grownBy w2 none:=by rw[hw2];exact⟨rfl,rfl,rfl,Nr _,fun _ _ _=>rfl⟩
    have hj2:=Aj (HJ.1 _ _ _ none hj.1 hgd (fun r e=>by cases e));have hb2:Boxed w2 bx 284 (.slice (some ⟨b,off,none⟩) m c):=by rw[hw2];exact Hb.1
    have ajY:=Boxed.cell hb2;have ajZ:w2.cell? ⟨b,off+k,none⟩=some (.int .u64 (x:Int)):=by rw[hw2];exact hck
    have Hb2:=Aj hb2;have ZY:=Aj (show kg w2 B _ m c l from by rw[hw2];exact Hr.1.drewN q);have hm2:Kept (Ru.runs l=pre++[(x,t-k)]++Ru.runs (l.drop t)):=⟨by rw[hm1.1,hR2.1];simp⟩
    rw[←hw2];clear hw2 hgd hc hck hj Hb Hr hb2;obtain⟨fn,tmps,assign,body,hy,qx⟩:=df.1 pre (x,t-k) w2 hj2.1 ⟨_,hm2.1.symm⟩;unfold encR at hy;have ee:((t-k:Nat):Int)=(t:Int)-(k:Int):=om;simp only[ee]at hy;clear ee;go_upto_region 5 with(fail)
    refine(Bl (n:=n)).1 ?_
    gi_wp2
    refine⟨(fun h=>by simp[Fence.wide]at h),qx.mono ?_⟩;rintro e W' (⟨rfl,hj',hb'⟩|⟨rfl,rW⟩)
    ·have Hb3:=Aj (show Boxed W' bx 284 _ from hb'.2.trans Hb2.1);have ZZ:=Aj (ZY.1.below hb'.1);have V3:=Aj hj';clear hj' hb' qx hy
     gi_wp2
     go_wp2;go_roundw
     case rel=>exact⟨pre++[(x,t-k)],t,rfl,Hb3.1,ZZ.1,h2,hm2,V3⟩
     case measure=>simp[intOf];omega
    ·exact absurd rW (HX.1 _ _)
  ·obtain rfl:k=m:=by omega
   have hm2:Kept (Ru.runs l=pre):=⟨by
    rw[hm1.1,oL (by have:=hln.1;omega)];simp[Ru.runs]⟩
   go_wp2;go_end0;exact⟨⟨_,rfl⟩,.inl (by rw[hm2.1];exact hj.1)⟩
theorem FI (A) (n c) (w):Calls prog 258 #[.slice A n c] w fun e w'=>
  e= .returned (.func (.func 281) #[] #[.pointer (some ⟨w.heap.size,0,none⟩)])∧w'=w.alloc (.cells #[.slice A n c] 284):=by
 go_enter func258,ntmps258;go_wp2;go_ret;exact⟨rfl,rfl⟩
end
section
open Go.Shelf
attribute [local go_sem] Oper.semAt_some
theorem Ru.bC (l):(Ru.enc l).length=71*(Ru.runs l).length:=by
 unfold Ru.enc;generalize Ru.runs l=rs
 induction rs with
 |nil=>rfl
 |cons p rs ih=>rw[Aq,La,ih];simp only[Ru.one,La,Bt.ak,Lc];omega
theorem Ru.KS (l):(Ru.runs l).length≤l.length:=by
 induction l with
 |nil=>simp[Ru.runs]
 |cons x l ih=>
  rw[Ru.runs];cases hr:Ru.runs l with
  |nil=>simp
  |cons q rs=>
   obtain⟨y,c⟩:=q;rw[hr]at ih;simp only[]at*;split<;>simp at* <;>omega
def Jk (w:World) (bn bx:Nat) (v:Value) (pre:List (Nat×Nat)) (W:World):Prop:=
 Boxed W bn 3 (.int .i64 ((71*pre.length:Nat):Int))∧Below w.heap.size w W∧Boxed W bx 284 v
theorem Jk.own {w} {bn bx N} {v} (hb:bn<N) (hN:w.heap.size≤N) (hx:bx<N):aJ N (fun _=>False) (Jk w bn bx v):=by
 rintro s W W' row ⟨h1,h2,h3⟩ hg hr;have hrow:∀r,row=some r→N≤r:=fun r e=>by
  rcases hr r e with h|h
  ·exact h.elim
  ·exact h.1
 exact⟨h1.kept hg (fun e=>by have:=hrow _ e.symm;omega),h2.grown hg h2.size (fun r e=>by have:=hrow r e;omega),h3.kept hg (fun e=>by have:=hrow _ e.symm;omega)⟩
theorem Nb (A) (n c B) (l) (w) (hr:kg w B A n c l) (hB:B≤w.heap.size) (hn:n≤128):
  Calls prog 218 #[.slice A n c] w fun e w'=>e= .returned (.int .i64 (((Ru.enc l).length:Nat):Int))∧Below w.heap.size w w':=by
 have hln:=Aj hr.len;have hle:=Ru.KS l;have R0:=Aj hr;have hbx:=Boxed.new w 3 (.int .i64 0);obtain⟨W0,hW0⟩:∃W0,W0=w.alloc (.cells #[.int .i64 0] 3):=⟨_,rfl⟩
 have hz0:W0.heap.size=w.heap.size+1:=by rw[hW0];simp
 have hb0:Below w.heap.size w W0:=by rw[hW0];exact(Ae _ w).alloc Ai _
 have HW0:=Aj hW0.symm;rw[←hW0]at hbx;clear hW0 hr;refine(Bd (n:=9)).1 ?_;refine callsIn_of_wp_marks func218 rfl trivial ?_ rfl;simp only[ntmps218,Ca,Lc,AB,Nat.reduceAdd,Nat.reduceSub,Cg,Ch,Cz,Cm,Ay,AU];refine Bl.2 ?_;go_wp2_with (go_at_call 258;refine(FI _ _ _ _).mono ?_;rintro e w3 ⟨rfl,hw3⟩;rw[HW0.1]at hw3;have HW3:=Aj hw3;clear hw3);have hz3:w3.heap.size=W0.heap.size+1:=by rw[HW3.1];simp
 have g3:W0.grownBy w3 none:=by rw[HW3.1];exact Ga _ _ _
 have b3:Boxed w3 (w.heap.size+1) 284 (.slice A n c):=by rw[HW3.1,←hz0];exact Boxed.new _ _ _
 have hI0:Jk w w.heap.size (w.heap.size+1) (.slice A n c) [] w3:=⟨Boxed.kept hbx g3 (fun e=>by cases e),hb0.grown g3 om (fun r e=>by cases e),b3⟩
 have r3:kg w3 B A n c l:=R0.1.below (hI0.2.1.mono hB);clear hbx;refine(Bl (n:=9)).1 ?_;refine iX Ah (gf:=281) (lb:= #[.pointer (some ⟨w.heap.size+1,0,none⟩)]) rfl (enters_of func281 kr rfl)
  (encs:=encR) (O:=fun _=>False) (Kp:=zJ B (w.heap.size+1)) (L:=Ru.runs l)
  (by rintro r h;exact h.elim) (fun h k=>h.trans k) (fun W W' row hW hg hr=>zJ.grown hW om om hg hr) (fun _=>rfl)
  (Jk w w.heap.size (w.heap.size+1) (.slice A n c)) (fun _ _ _=>False)
  (fun pre x a₁ W=>Jk w w.heap.size (w.heap.size+1) (.slice A n c) pre W∧
   a₁={tmps:= #[.slice A n c,undef,.int .i64 0,.pointer (some ⟨w.heap.size,0,none⟩),.slice A n c,.func (.func 281) #[] #[.pointer (some ⟨w.heap.size+1,0,none⟩)],.agg #[.int .u64 (x.1:Int),.int .i64 (x.2:Int)],undef,undef,undef],defers:=[]})
  (qQ 8 (w.heap.size+1) B n c A l w3 _ b3 r3 hn (fun pre W ⟨_,h⟩=>h))
  ?hI (fun _ _ _ _ _ h _ _=>h) ?hM hI0 ?assign ?body ?done ?stop
 case hI=>exact Jk.own om om om
 case hM=>
  rintro pre x a₁ u W W' row ⟨hI,ha⟩ hgr hr;exact⟨Jk.own om om om _ _ _ _ hI hgr hr,ha⟩
 case assign=>
  rintro lp pre x W hI hpre hW;unfold encR
  gi_wp2
  exact⟨⟨Nr _,fun _ _ _ h _=>h⟩,⟨Ae _ _,rfl⟩,hI,sm⟩
 case body=>
  rintro lp pre x a₁ W ⟨⟨hb1,hk1,hb2⟩,rfl⟩ hpre hW;have hlx:=hpre.length_le;rw[La,Dh]at hlx;have hl3:=hln.1;have hp2:pre.length≤128:=om;have c1:=Boxed.cell hb1;have f1:=Boxed.frozen hb1;obtain⟨k,hk⟩:∃k,k=71*pre.length:=⟨_,rfl⟩
  rw[←hk]at c1;have hk3:k≤9088:=om;have HK:=Aj hk;have B1:=Aj hb1;have K1:=Aj hk1;have B2:=Aj hb2;clear hb1 hk1 hb2 hk hlx
  gi_wp2
  have gs:=av W ⟨w.heap.size,0,none⟩ (.int .i64 ((k:Int)+71));have hz1:=Boxed.lt B1.1;refine⟨KeepsOthers.from (KeepsOthers.setCell _ _ _) _,⟨(Ae B W).grown gs om (fun r e=>by cases e;exact hB),gs.block _ om (fun e=>by have:=Oj e;simp only at this;omega)⟩,?_,K1.1.grown gs om (fun r e=>by cases e;exact Nr _),Boxed.kept B2.1 gs (fun e=>by have:=Oj e;simp only at this;omega)⟩;have:=Boxed.set (.int .i64 ((k:Int)+71)) B1.1;have e:((71*(pre++[x]).length:Nat):Int)=(k:Int)+71:=by rw[HK.1];simp;omega
  rw[e];exact this
 case done=>
  rintro D W hD ⟨hb1,hk1,hb2⟩ hK;have c1:=Boxed.cell hb1;have K1:=Aj hk1;have hE:=Aj (Ru.bC l);rw[←hE.1]at c1;clear hk1 hb1 hb2;go_wp2;refine⟨sm,.inl ⟨_,_,rfl,run_takeDeferred hK,?_⟩⟩;have hgo:W.grownBy (W.putObj D (.deferred none)) (some D):=grownBy_putObj' W D _;exact⟨_,results_tmp rfl _ _ _,rfl,K1.1.grown hgo (K1.1.size) (fun r e=>by cases e;omega)⟩
 case stop=>
  rintro D c pre W _ _ h _;exact h.elim
theorem Ru.FJ:∀{rs} {last},Ru.Good last rs→∀q∈rs,1≤q.2∧q.2≤128∧q.1<2^64
 |[],_,_,q,h=>by simp at h
 |p::rs,_,⟨_,h1,h2,h3,h4⟩,q,h=>by
  rcases iM.1 h with rfl|h
  ·exact⟨h1,h2,h3⟩
  ·exact Ru.FJ h4 q h
def FK {X:Type} (ty:TypeId) (f:X→List Bool) (w:World) (base p:Nat) (bs:List Bool) (bx:Nat) (v:Value) (pre:List X) (W:World):Prop:=
 eZ W base p (bs++pre.flatMap f)∧Wk base p w W∧Boxed W w.heap.size 302 (.pointer (some ⟨p,0,none⟩))∧Boxed W bx ty v
theorem FK.own {X} {ty} {f:X→List Bool} {w} {base p N bx} {v} {bs} (hb:base≤w.heap.size) (hN:w.heap.size<N) (hx:bx<N):aJ N (fun _=>False) (FK ty f w base p bs bx v):=by
 rintro s W W' row ⟨h1,h2,h3,h4⟩ hg hr;have hrow:∀r,row=some r→N≤r∧∃o:Obj,W.heap[r]? =some o∧o.isCells=false:=fun r e=>by
  rcases hr r e with h|h
  ·exact h.elim
  ·exact h
 exact⟨h1.apart hg (fun r e=>(hrow r e).2),h2.more hg hb (fun r e=>by have:=(hrow r e).1;omega),h3.kept hg (fun e=>by have:=(hrow _ e.symm).1;omega),h4.kept hg (fun e=>by have:=(hrow _ e.symm).1;omega)⟩
theorem Ri (base p B) (bs) (A) (n c) (l) (w) (h:eZ w base p bs) (hr:kg w B A n c l) (hB:B≤base) (hin:∀x∈l,x<2^64) (hn:n≤128) (hl:bs.length≤100000000):
  Calls prog 219 #[.pointer (some ⟨p,0,none⟩),.slice A n c] w fun e w'=>e= .returned (.int .i64 0)∧eZ w' base p (bs++Ru.enc l)∧Wk base p w w':=by
 have hln:=Aj hr.len;have hgood:=Aj (Ru.FJ (Ru.pK l (by have:=hr.len;omega) hin));have hle:=Ru.KS l;have hz:=h.lt;have Wp:p≠w.heap.size:=om;have hbx:=Boxed.new w 302 (.pointer (some ⟨p,0,none⟩));have H0:=Aj (h.alloc (.cells #[.pointer (some ⟨p,0,none⟩)] 302));have K0:=Aj ((Wk.refl base p w).alloc (.cells #[.pointer (some ⟨p,0,none⟩)] 302) om);have R0:=Aj hr;obtain⟨W0,hW0⟩:∃W0,W0=w.alloc (.cells #[.pointer (some ⟨p,0,none⟩)] 302):=⟨_,rfl⟩
 have hz0:W0.heap.size=w.heap.size+1:=by rw[hW0];simp
 have HW0:=Aj hW0.symm;rw[←hW0]at hbx H0 K0;have hc0:=hbx.cell;have Z5:=Aj hbx;clear h hr hW0 hbx hin;refine(Bd (n:=9)).1 ?_;refine callsIn_of_wp_marks func219 rfl trivial ?_ rfl;simp only[ntmps219,Ca,Lc,AB,Nat.reduceAdd,Nat.reduceSub,Cg,Ch,Cz,Cm,Ay,AU];refine Bl.2 ?_;go_wp2_with (go_at_call 258;refine(FI _ _ _ _).mono ?_;rintro e w3 ⟨rfl,hw3⟩;rw[HW0.1]at hw3;have HW3:=Aj hw3;clear hw3);have hz3:w3.heap.size=w.heap.size+1+1:=by rw[HW3.1,AO,hz0]
 have g3:W0.grownBy w3 none:=by rw[HW3.1];exact Ga _ _ _
 have hI0:FK 284 Ru.one w base p bs (w.heap.size+1) (.slice A n c) [] w3:=⟨by rw[CR,AZ];exact H0.1.apart g3 (fun r e=>by cases e),K0.1.more g3 om (fun r e=>by cases e),Boxed.kept Z5.1 g3 (fun e=>by cases e),by rw[HW3.1,←hz0];exact Boxed.new _ _ _⟩
 have b3:=hI0.2.2.2;have r3:kg w3 B A n c l:=R0.1.below (hI0.2.1.aU.mono hB);clear Z5 H0 K0 HW0 hc0;refine(Bl (n:=9)).1 ?_;refine iX Ah (gf:=281) (lb:= #[.pointer (some ⟨w.heap.size+1,0,none⟩)]) rfl (enters_of func281 kr rfl)
  (encs:=encR) (O:=fun _=>False) (Kp:=zJ B (w.heap.size+1)) (L:=Ru.runs l)
  (by rintro r h;exact h.elim) (fun h k=>h.trans k) (fun W W' row hW hg hr=>zJ.grown hW om om hg hr) (fun _=>rfl)
  (FK 284 Ru.one w base p bs (w.heap.size+1) (.slice A n c)) (fun _ _ _=>False)
  (fun pre x a₁ W=>FK 284 Ru.one w base p bs (w.heap.size+1) (.slice A n c) pre W∧
   ∃g,w3.heap.size≤g∧W.heap[g]? =some (.cells #[.int .u64 (x.1:Int),.int .i64 (x.2:Int)] 378 (0,0))∧
   a₁={tmps:= #[.pointer (some ⟨p,0,none⟩),.slice A n c,.pointer (some ⟨w.heap.size,0,none⟩),undef,.int .i64 0,.pointer (some ⟨g,0,none⟩),.pointer (some ⟨p,0,none⟩),.bool false,.slice A n c,.func (.func 281) #[] #[.pointer (some ⟨w.heap.size+1,0,none⟩)],
    .agg #[.int .u64 (x.1:Int),.int .i64 (x.2:Int)],undef,undef,undef,undef,undef,undef,undef,undef,undef,undef],defers:=[]})
  (qQ 8 (w.heap.size+1) B n c A l w3 _ b3 r3 hn (fun pre W ⟨_,h⟩=>h))
  ?hI (fun _ _ _ _ _ h _ _=>h) ?hM hI0 ?assign ?body ?done ?stop
 case hI=>exact FK.own om om om
 case hM=>
  rintro pre x a₁ u W W' row ⟨hI,g,hg1,hg2,ha⟩ hgr hr;refine⟨FK.own om om om _ _ _ _ hI hgr hr,g,hg1,(hgr.block g (Ge.1 hg2).1 (fun e=>?_)).trans hg2,ha⟩;rcases hr g e.symm with h|⟨_,o,ho,hc⟩
  ·exact h.elim
  ·rw[hg2]at ho;cases ho;cases hc
 case assign=>
  rintro lp pre x W hI hpre hW;unfold encR
  gi_wp2
  refine⟨KeepsOthers.from (KeepsOthers.alloc W _) _,⟨(Ae B W).alloc om _,Aw _ _ _ om⟩,?_,W.heap.size,hW,Av W _,rfl⟩;exact FK.own (N:=W.heap.size) om om om _ _ _ none hI (Ga _ _ _) (fun r e=>by cases e)
 case body=>
  rintro lp pre x a₁ W ⟨⟨hw1,hk1,hb1,hb2⟩,g,hg1,hg2,rfl⟩ hpre hW;obtain⟨hx1,hx2,hx3⟩:=hgood.1 x (hpre.subset sm);have hlx:=hpre.length_le;rw[La,Dh]at hlx;have hlb:Kept ((bs++pre.flatMap Ru.one).length≤900000000):=⟨by
   have h1:=Ck.nV (f:=Ru.one) (B:=71) (fun x=>by simp only[Ru.one,La,Bt.ak];omega) pre;have h3:=hln.1;simp only[La];omega⟩
  have hone:Kept (Ru.one x=Bt.bw 64 x.1++Bt.bw 7 (x.2-1)):=⟨rfl⟩
  obtain⟨y,cn⟩:=x;simp only[]at*;have e1:IntKind.u64.wrap ((cn:Int)-1)=((cn-1:Nat):Int):=by rw[Bb];omega
  have c1:=Boxed.cell hb1;have d0:W.cell? ⟨g,0,none⟩=some (.int .u64 (y:Int)):=Co _ _ 0 _ _ _ hg2;have vT:g≠p:=om;have H1:=Aj hw1;have K1:=Aj hk1;have X1:=Aj hb1;have Z1:=Aj hb2;have Y1:=Aj hg2;have tf2:Fence.wide.fn 191:=trivial;have WB:=Aj (CallsIn.inRound lp (Bd (n:=6).2 (bZ base p y 64 _ W hw1 om om (by have:=hlb.1;omega))));have WC:=Aj (fun(w1:World) (h1:eZ w1 base p (bs++pre.flatMap Ru.one++Bt.bw 64 y))=>CallsIn.inRound lp (Bd (n:=6).2 (bZ base p (cn-1) 7 _ w1 h1 om om (by have:=hlb.1;rw[La,Bt.ak];omega))));clear hw1 hk1 hb1 hb2 hg2
  gi_wp2_with (first
   |(gi_at_call 191;refine(WC.1 w5 H5.1).mono ?_;rintro e w4 ⟨rfl,hw4,hk4⟩;have H4:=Aj hw4;have K4:=Aj (K5.1.trans hk4);have X4:=Aj (Boxed.wk X5.1 hk4 Wp.symm Ah);clear hw4 hk4)
   |(gi_at_call 191;refine WB.1.mono ?_;rintro e w5 ⟨rfl,hw3,hk3⟩;have H5:=Aj hw3;have K5:=Aj hk3;have X5:=Aj (Boxed.wk X1.1 hk3 Wp.symm Ah);have d0:=Boxed.cell X5.1;have d1:w5.cell? ⟨g,1,none⟩=some (.int .i64 (cn:Int)):=Co _ _ 1 _ _ _ (Wk.kept hk3 Y1.1 vT Ah);clear hw3 hk3))
  have hxp:w.heap.size+1≠p:=om;refine⟨K4.1.keeps H1.1.cells,⟨K4.1.aU.mono hB,(Wk.kept K4.1 Z1.1 hxp Ah).trans Z1.1.symm⟩,?_,K1.1.trans K4.1,X4.1,Wk.kept K4.1 Z1.1 hxp Ah⟩;have:=H4.1;rw[Af,←hone.1,Af]at this;rw[oV,List.flatMap_singleton];exact this
 case done=>
  rintro D W hD ⟨hw1,hk1,hb1,-⟩ hK;have H1:=Aj hw1;have K1:=Aj hk1;clear hw1 hk1 hb1;go_wp2;refine⟨sm,.inl ⟨_,_,rfl,run_takeDeferred hK,?_⟩⟩;have hgo:W.grownBy (W.putObj D (.deferred none)) (some D):=grownBy_putObj' W D _;exact⟨_,results_tmp rfl _ _ _,rfl,H1.1.apart hgo (fun r e=>by cases e;exact⟨_,hK,rfl⟩),K1.1.more hgo om (fun r e=>by cases e;omega)⟩
 case stop=>
  rintro D c pre W _ _ h _;exact h.elim
end
abbrev Vf:=Nat×Nat
def YF (x:Vf):List Value:=[.int .u64 (x.1:Int),.int .i64 (x.2:Int)]
def KT (L:List Vf):List Value:=L.flatMap YF
theorem uD (L):(KT L).length=L.length*2:=by
 unfold KT
 induction L with
 |nil=>rfl
 |cons x L ih=>rw[Aq,La,ih,Lc];simp[YF];omega
theorem KU (L) (i k) (h:i<L.length) (hk:k<2):(KT L)[i*2+k]? =(YF L[i])[k]?:=by
 unfold KT
 induction L generalizing i with
 |nil=>simp at h
 |cons x L ih=>
  rw[Aq];have hx:(YF x).length=2:=rfl;cases i with
  |zero=>rw[CJ om];simp
  |succ i=>
   rw[Bq om,hx,show(i+1)*2+k-2=i*2+k from om];exact ih i (by simpa using h)
theorem Vg (L):∀u∈KT L,u.oneCell'=true:=by
 intro u hu;obtain⟨c,_,hc⟩:=kM.1 hu;simp[YF]at hc;rcases hc with rfl|rfl<;>rfl
theorem Jl (a b):KT (a++b)=KT a++KT b:=by simp[KT]
def qg (w:World) (B:Nat) (A:Option Addr) (n c:Nat) (l:List Vf):Prop:=Rd w B 2 A n c (KT l)
theorem qg.len {w} {B n c} {A} {l} (h:qg w B A n c l):n=l.length:=by have:=h.2.2.1;rw[uD]at this;omega
section
variable {w w':World} {B n c:Nat} {A:Option Addr} {l:List Vf}
theorem qg.below (h:qg w B A n c l) (hb:Below B w w'):qg w' B A n c l:=Rd.below h hb
end
theorem qg.at_ {w} {B n c k} {A} {l} (h:qg w B A n c l) (hk:k<l.length):∃b off,A=some ⟨b,off,none⟩∧b<B∧w.cell? ⟨b,off+k*2,none⟩=some (.int .u64 (l[k].1:Int))∧w.cell? ⟨b,off+(k*2+1),none⟩=some (.int .i64 (l[k].2:Int)):=by
 obtain⟨b,off,e,hb,hc⟩:=h.2.2.2 (by have:=h.len;omega);refine⟨b,off,e,hb,hc _ _ ?_,hc _ _ ?_⟩
 ·have:=KU l k 0 hk om;simpa[YF]using this
 ·have:=KU l k 1 hk om;simpa[YF]using this
def ow (w:World) (base:Nat) (A:Option Addr) (n c:Nat) (l:List Vf):Prop:=w.ownsRow base 378 2 (.slice A n c) n (KT l)
theorem ow.rd {w} {base n c} {A} {l} (h:ow w base A n c l):qg w w.heap.size A n c l:=Rd.bP h
theorem ow.len {w} {base n c} {A} {l} (h:ow w base A n c l):n=l.length:=h.rd.len
theorem YG:(prog.info? 378).map (fun i=>(i.zero,i.size,i.bytes))=some (some (.agg #[.int .u64 0,.int .i64 0]),2,16):=kr
theorem qg.lit (w:World) (l) (fr) (h:l.length≤9223372036854775807):qg (w.alloc (.cells (KT l).toArray 378 fr)) (w.heap.size+1) (some ⟨w.heap.size,0,none⟩) l.length l.length l:=
 ⟨Nr _,by unfold maxLen;omega,by rw[uD],fun _=>⟨_,0,rfl,om,fun i u hu=>by
  rw[cB];exact(Au w _ _ _ i).trans (by simpa using hu)⟩⟩
end Go.Proofs.YtjcpmfphnodaaaaGreatDoor
