/- Part 16. -/
import Derived.Test.YtongopommlghgaaGreatDoorZVAO
namespace Go.Proofs.YtongopommlghgaaGreatDoor
set_option maxRecDepth 100000
set_option maxHeartbeats 0
open _root_.Go.Proofs.Tryz
open Go.RowKit Go.Shelf
structure Ia (aS:Nat) (cv:Value) (base q:Nat) (J:List Bool→World→Prop):Prop where
 Wv:∀args w,(callFunc aS args).run prog w= .ok (.enter aS args) w
 call:∀(bs:List Bool) (x n:Nat) (w:World),J bs w→x<18446744073709551616→n≤64→bs.length≤100000000→Calls prog aS #[.int .u64 (x:Int),.int .i64 (n:Int),cv] w fun e w'=>e= .returned (.tuple #[])∧J (bs++Bt.bw n x) w'∧Wk base q w w'
 gr:∀bs w w',J bs w→Gr w w'→J bs w'
 set:∀bs w e k v cs fr,J bs w→e≠q→w.heap[e]? =some (.cells cs 397 fr)→J bs (w.setCell ⟨e,k,none⟩ v)
def fo (aS:Nat) (cv:Value):Value:= .func (.func aS) #[] #[cv]
def En (w:World) (e last:Nat) (c:Nat×Nat) (fv:Value):Prop:=w.heap[e]? =some (.cells #[.int .u64 (last:Int),.int .i64 (c.1:Int),.int .i64 (c.2:Int),fv] 397 (0,0))
theorem En.lt {w e last c fv} (h:En w e last c fv):e<w.heap.size:=(Ge.1 h).1
theorem En.wk {w w' e last base q c fv} (h:En w e last c fv) (hk:Wk base q w w') (hq:e≠q):En w' e last c fv:=hk.kept h hq Ah
theorem En.gr {w w' e last c fv} (h:En w e last c fv) (hg:Gr w w'):En w' e last c fv:=(hg.below.block e h.lt).trans h
theorem En.k0 {w e last c fv} (h:En w e last c fv):w.cell? ⟨e,0,none⟩=some (.int .u64 (last:Int))∧w.cell? ⟨e,1,none⟩=some (.int .i64 (c.1:Int))∧w.cell? ⟨e,2,none⟩=some (.int .i64 (c.2:Int))∧w.cell? ⟨e,3,none⟩=some fv:=
 ⟨Co _ _ 0 _ _ _ h,Co _ _ 1 _ _ _ h,Co _ _ 2 _ _ _ h,Co _ _ 3 _ _ _ h⟩
theorem En.f {w e last c fv} (h:En w e last c fv) (k):w.frozen? ⟨e,k,none⟩=false:=Fr _ _ k _ _ h
theorem En.last {w e last c fv} (h:En w e last c fv) (v:Nat):En (w.setCell ⟨e,0,none⟩ (.int .u64 (v:Int))) e v c fv:=by
 unfold En at*;rw[Ag _ e 0 _ _ _ h];rfl
theorem En.win {w e last c fv} (h:En w e last c fv) (d):En ((w.setCell ⟨e,1,none⟩ (.int .i64 (d.1:Int))).setCell ⟨e,2,none⟩ (.int .i64 (d.2:Int))) e last d fv:=by
 unfold En at*;rw[Ag _ e 2 _ _ _ (Ag _ e 1 _ _ _ h)];rfl
structure We (base q e:Nat) (w w':World):Prop where
 aZ:Below base w w'
 rest:∀k,k<w.heap.size→k≠q→k≠e→ac9 w k→w'.heap[k]? =w.heap[k]?
theorem We.refl (base q e w):We base q e w w:=⟨Ae _ _,fun _ _ _ _ _=>rfl⟩
theorem We.agO {base q e w w'} (h:Wk base q w w'):We base q e w w':=⟨h.aZ,fun k hk h1 _ h3=>h.rest k hk h1 h3⟩
theorem We.trans {base q e w w1 w2} (h:We base q e w w1) (g:We base q e w1 w2):We base q e w w2:=
 ⟨h.aZ.trans g.aZ,fun k hk hp he hb=>by
  have e1:=h.rest k hk hp he hb;refine(g.rest k (j6 hk h.aZ.size) hp he ?_).trans e1;intro cs fr hc;exact hb cs fr (e1.symm.trans hc)⟩
theorem We.gr {base q e w w'} (h:Gr w w') (hb:base≤w.heap.size):We base q e w w':=⟨h.below.mono hb,fun k hk _ _ _=>h.below.block k hk⟩
theorem We.set {base q e} (w k v) (hb:base≤e) (he:e<w.heap.size):We base q e w (w.setCell ⟨e,k,none⟩ v):=
 ⟨(Ae _ _).grown (au w ⟨e,k,none⟩ v) om (fun r h=>by cases h;exact hb),fun j hj _ hje _=>(au w ⟨e,k,none⟩ v).block j hj (fun h=>hje (by cases h;rfl))⟩
structure mK (base q:Nat) (J:List Bool→World→Prop) (fv:Value) (e:Nat) (w0:World) (bs:List Bool) (last:Nat) (c:Nat×Nat) (w:World):Prop where
 j:J bs w
 en:En w e last c fv
 we:We base q e w0 w
theorem mK.Za {base q aS e last cv J c bs w0 w} (h:mK base q J (fo aS cv) e w0 bs last c w) (O:Ia aS cv base q J) (hq:e≠q) {x n:Nat} (hx:x<18446744073709551616) (hn:n≤64) (hl:bs.length≤100000000):
  Calls prog aS #[.int .u64 (x:Int),.int .i64 (n:Int),cv] w fun r w'=>r= .returned (.tuple #[])∧mK base q J (fo aS cv) e w0 (bs++Bt.bw n x) last c w':=by
 refine(O.call bs x n w h.j hx hn hl).mono ?_;rintro r w' ⟨rfl,hj,hk⟩;exact⟨rfl,hj,h.en.wk hk hq,h.we.trans (We.agO hk)⟩
theorem mK.gr {base q aS e last cv J c bs w0 w w'} (h:mK base q J (fo aS cv) e w0 bs last c w) (O:Ia aS cv base q J) (hb:base≤w0.heap.size) (hg:Gr w w'):mK base q J (fo aS cv) e w0 bs last c w':=
 ⟨O.gr bs w w' h.j hg,h.en.gr hg,h.we.trans (We.gr hg (Lt hb h.we.aZ.size))⟩
theorem mK.last {base q aS e last cv J c bs w0 w} (h:mK base q J (fo aS cv) e w0 bs last c w) (O:Ia aS cv base q J) (hq:e≠q) (hb:base≤e) (v):mK base q J (fo aS cv) e w0 bs v c (w.setCell ⟨e,0,none⟩ (.int .u64 (v:Int))):=
 ⟨O.set bs w e 0 _ _ _ h.j hq h.en,h.en.last v,h.we.trans (We.set w 0 _ hb h.en.lt)⟩
theorem mK.win {base q aS e last cv J c bs w0 w} (h:mK base q J (fo aS cv) e w0 bs last c w) (O:Ia aS cv base q J) (hq:e≠q) (hb:base≤e) (d):mK base q J (fo aS cv) e w0 bs last d ((w.setCell ⟨e,1,none⟩ (.int .i64 (d.1:Int))).setCell ⟨e,2,none⟩ (.int .i64 (d.2:Int))):=by
 have h1:(w.setCell ⟨e,1,none⟩ (.int .i64 (d.1:Int))).heap[e]? =some (.cells (#[.int .u64 (last:Int),.int .i64 (c.1:Int),.int .i64 (c.2:Int),fo aS cv].setIfInBounds 1 (.int .i64 (d.1:Int))) 397 (0,0)):=Ag _ e 1 _ _ _ h.en;refine⟨O.set bs _ e 2 _ _ _ (O.set bs w e 1 _ _ _ h.j hq h.en) hq h1,h.en.win d,(h.we.trans (We.set w 1 _ hb h.en.lt)).trans (We.set _ 2 _ hb (by simpa using h.en.lt))⟩
theorem wQ.aZ {w w' base} (h:wQ w) (hb:Below base w w') (hg:2<base):wQ w':=fun j hj=>(hb.cell (p:=⟨_,j,none⟩) hg).trans (h j hj)
theorem TT {base q aS e last v:Nat} {cv J c bs w} (O:Ia aS cv base q J) (hJ:J bs w) (hE:En w e last c (fo aS cv)) (hq:e≠q) (hb:base≤e) (hbw:base≤w.heap.size) (hD:wQ w) (hD2:2<base)
  (hc:Xo.Cw c) (hv:v<18446744073709551616) (hlast:last<18446744073709551616) (hl:bs.length≤50000000):
  Calls prog 275 #[.pointer (some ⟨e,0,none⟩),.int .u64 (v:Int)] w fun r w'=>r= .returned (.tuple #[])∧mK base q J (fo aS cv) e w (bs++(Xo.put last c v).1) v (Xo.put last c v).2 w':=by
 have S0:mK base q J (fo aS cv) e w bs last c w:=⟨hJ,hE,We.refl _ _ _ _⟩
 have S1:=S0.last O hq hb v;have hent:=O.Wv;obtain⟨x,hx⟩:∃x,v^^^last=x:=⟨_,rfl⟩
 have Pd:bits .xor .u64 (v:Int) (last:Int)=(x:Int):=by rw[bits_xor_u64_nat _ _ hv hlast,hx]
 have mr:x<18446744073709551616:=by rw[←hx];exact BM (n:=64) hv hlast
 have hput:Xo.put last c v=if x=0 then(Bt.bw 1 0,c)else if Xo.fits c x=true then(Bt.bw 2 2++Bt.bw c.2 (x>>>Xo.trail c),c)
   else(Bt.bw 2 3++(Bt.bw 6 (Xo.win x).1++(Bt.bw 6 ((Xo.win x).2-1)++Bt.bw (Xo.win x).2 (x>>>Xo.trail (Xo.win x)))),Xo.win x):=by unfold Xo.put;rw[hx]
 rw[hput];obtain⟨k0,-,-,-⟩:=hE.k0;have f0:=hE.f 0;generalize hW1:w.setCell ⟨e,0,none⟩ (.int .u64 (v:Int))=W1 at S1;have OG:=Aj S1;have HW1:=Aj hW1;have KO:=Aj O;by_cases h0:x=0
 ·subst h0;rw[Ps0 rfl];have OC:=Aj (S1.Za O hq (x:=0) (n:=1) om om om);have k3:=S1.en.k0.2.2.2;unfold fo at k3;clear hput hx hJ hE S0 S1 O hW1 hD;go_enter func275,ntmps275;go_wp2_with (rw[HW1.1]);refine OC.1.mono ?_;rintro r w2 ⟨rfl,h2⟩;have H2:=Aj h2;clear h2;go_wp2
  (try simp only[Exit.inBlock,Exit.then]);refine Bi (CQ rfl _ _ _) rfl ?_
  exact⟨rfl,H2.1⟩
 ·rw[Ng h0];have hD1:=hD.aZ S1.we.aZ hD2;have hx0:((x:Int)==0)=false:=by simp;omega
  have hwn:Wn W1 e 1 c:=⟨S1.en.k0.2.1,S1.en.k0.2.2.1⟩
  have FT:=Hw e x c mr h0 hc W1 hD1 (j6 hD2 (Lt hbw S1.we.aZ.size)) hwn S1.en.lt;by_cases hf:Xo.fits c x=true
  ·rw[Ps0 hf];rw[hf]at FT;have HF:=Aj FT;have hc1:c.1+c.2≤64∧c.2≤64:=by
    rcases hc with h|h
    ·rw[h]at hf;simp[Xo.fits]at hf
    ·omega
   have TR:=Aj (ik c hc1.1);have OA:=Aj (fun(w2:World) (h2:mK base q J (fo aS cv) e w bs v c w2)=>h2.Za O hq (x:=2) (n:=2) om om om);have hsh:x>>>Xo.trail c<18446744073709551616:=Em (by rw[Cq];exact Nat.div_le_self _ _) mr;have XA:((x>>>Xo.trail c:Nat):Int)=(x:Int)/2^ (Xo.trail c):=by rw[Cq];simp
   have OB:=Aj (show∀(w2:World) (h2:mK base q J (fo aS cv) e w (bs++Bt.bw 2 2) v c w2),Calls prog aS #[.int .u64 ((x:Int)/2^ (Xo.trail c)),.int .i64 (c.2:Int),cv] w2 fun r w'=>r= .returned (.tuple #[])∧mK base q J (fo aS cv) e w (bs++Bt.bw 2 2++Bt.bw c.2 (x>>>Xo.trail c)) v c w' from fun w2 h2=>by rw[←XA];exact h2.Za O hq (x:=x>>>Xo.trail c) (n:=c.2) hsh hc1.2 (by rw[La,Bt.aj];omega));have GR:=Aj (fun(b2:List Bool) (w2 w3:World) (h2:mK base q J (fo aS cv) e w b2 v c w2) (hg:Gr w2 w3)=>h2.gr O hbw hg);have htl:Xo.trail c≤64:=by unfold Xo.trail;omega
   clear FT hput hx hJ hE S0 S1 O hW1 hD hD1 hwn hc hf;go_enter func275,ntmps275;go_wp2_with (go_at_call 280;rw[HW1.1];refine HF.1.mono ?_;rintro r w2 ⟨rfl,g2⟩;have H2:=Aj (GR.1 _ _ _ OG.1 g2);have k3:=H2.1.en.k0.2.2.2;unfold fo at k3;clear g2);refine(OA.1 w2 H2.1).mono ?_;rintro r w3 ⟨rfl,h3⟩;have H3:=Aj h3;clear h3 k3;have k6:w3.cell? ⟨e,1,none⟩=some (.int .i64 (c.1:Int))∧w3.cell? ⟨e,2,none⟩=some (.int .i64 (c.2:Int))∧w3.cell? ⟨e,3,none⟩=some (.func (.func aS) #[] #[cv]):=⟨H3.1.en.k0.2.1,H3.1.en.k0.2.2.1,H3.1.en.k0.2.2.2⟩
   unfold wv at TR;clear OA HF H2 k0 f0 hx0 Pd;go_wp2_with fail;go_region_held3 (fun w'=>w'.cell? ⟨e,1,none⟩=some (.int .i64 (c.1:Int))∧w'.cell? ⟨e,2,none⟩=some (.int .i64 (c.2:Int))∧w'.cell? ⟨e,3,none⟩=some (.func (.func aS) #[] #[cv])) (first|exact k6|exact k7|exact k8)
    (first
     |(go_at_call 278;refine(TR.1 _).mono ?_;rintro r w4 ⟨rfl,g4⟩;have H4:=Aj (GR.1 _ _ w4 H3.1 ((Gr.refl w3).drew.trans g4));have k7:w4.cell? ⟨e,1,none⟩=some (.int .i64 (c.1:Int))∧w4.cell? ⟨e,2,none⟩=some (.int .i64 (c.2:Int))∧w4.cell? ⟨e,3,none⟩=some (.func (.func aS) #[] #[cv]):=⟨H4.1.en.k0.2.1,H4.1.en.k0.2.2.1,H4.1.en.k0.2.2.2⟩;clear g4)
     |(refine(OB.1 w4 H4.1).mono ?_;rintro r w5 ⟨rfl,h5⟩;have H5:=Aj h5;have k8:w5.cell? ⟨e,1,none⟩=some (.int .i64 (c.1:Int))∧w5.cell? ⟨e,2,none⟩=some (.int .i64 (c.2:Int))∧w5.cell? ⟨e,3,none⟩=some (.func (.func aS) #[] #[cv]):=⟨H5.1.en.k0.2.1,H5.1.en.k0.2.2.1,H5.1.en.k0.2.2.2⟩;clear h5))
   all_goals
    go_wp2
    (try simp only[Exit.inBlock,Exit.then]);refine bodyPost_end (CQ rfl _ _ _) rfl ?_
    exact⟨rfl,by rw[←Af];exact H5.1⟩
  ·rw[Ng hf];rw[show Xo.fits c x=false by simpa using hf]at FT;have HF:=Aj FT;obtain⟨d1,d2,d3,-,-⟩:=Xo.kX (x:=x) mr h0;have WO:=Aj (show∀(b2:List Bool) (w2:World),mK base q J (fo aS cv) e w b2 v c w2→Calls prog 279 #[.int .u64 (x:Int)] w2 fun r w'=>r= .returned (.agg #[.int .i64 ((Xo.win x).1:Int),.int .i64 ((Xo.win x).2:Int)])∧mK base q J (fo aS cv) e w b2 v c w' from fun b2 w2 h2=>by
    refine(jY x mr h0 w2 (hD.aZ h2.we.aZ hD2) (j6 hD2 (Lt hbw h2.we.aZ.size))).mono ?_;rintro r w' ⟨rfl,hg⟩;exact⟨rfl,h2.gr O hbw hg⟩)
   generalize Xo.win x=d at*;have TR:=Aj (ik d d2);unfold wv at TR;have htl:Xo.trail d≤64:=by unfold Xo.trail;omega
   have hsh:x>>>Xo.trail d<18446744073709551616:=Em (by rw[Cq];exact Nat.div_le_self _ _) mr;have XA:((x>>>Xo.trail d:Nat):Int)=(x:Int)/2^ (Xo.trail d):=by rw[Cq];simp
   have hw1:IntKind.u64.wrap (d.1:Int)=(d.1:Int):=by rw[Bv];omega
   obtain⟨m,hm⟩:∃m,d.2-1=m:=⟨_,rfl⟩
   have hmi:(d.2:Int)-1=(m:Int):=om;have hm1:IntKind.u64.wrap (m:Int)=(m:Int):=by rw[Bv];omega
   rw[hm];have WS:=Aj (fun(b2:List Bool) (w2:World) (h2:mK base q J (fo aS cv) e w b2 v c w2)=>h2.win O hq hb d);have GR:=Aj (fun(b2:List Bool) (w2 w3:World) (h2:mK base q J (fo aS cv) e w b2 v c w2) (hg:Gr w2 w3)=>h2.gr O hbw hg);have GR2:=Aj (fun(b2:List Bool) (w2 w3:World) (h2:mK base q J (fo aS cv) e w b2 v d w2) (hg:Gr w2 w3)=>h2.gr O hbw hg);have OA:=Aj (fun(w2:World) (h2:mK base q J (fo aS cv) e w bs v d w2)=>h2.Za O hq (x:=3) (n:=2) om om om);have OB:=Aj (fun(w2:World) (h2:mK base q J (fo aS cv) e w (bs++Bt.bw 2 3) v d w2)=>h2.Za O hq (x:=d.1) (n:=6) om om (by rw[La,Bt.aj];omega));have OC:=Aj (fun(w2:World) (h2:mK base q J (fo aS cv) e w (bs++Bt.bw 2 3++Bt.bw 6 d.1) v d w2)=>h2.Za O hq (x:=m) (n:=6) om om (by rw[La,La,Bt.aj,Bt.aj];omega));have OD:=Aj (show∀(w2:World) (h2:mK base q J (fo aS cv) e w (bs++Bt.bw 2 3++Bt.bw 6 d.1++Bt.bw 6 m) v d w2),Calls prog aS #[.int .u64 ((x:Int)/2^ (Xo.trail d)),.int .i64 (d.2:Int),cv] w2 fun r w'=>r= .returned (.tuple #[])∧mK base q J (fo aS cv) e w (bs++Bt.bw 2 3++Bt.bw 6 d.1++Bt.bw 6 m++Bt.bw d.2 (x>>>Xo.trail d)) v d w' from fun w2 h2=>by rw[←XA];exact h2.Za O hq (x:=x>>>Xo.trail d) (n:=d.2) hsh om (by rw[La,La,La,Bt.aj,Bt.aj,Bt.aj];omega));clear FT hput hx hJ hE S0 S1 O hW1 hD hD1 hwn hc hf hsh XA hm;go_enter func275,ntmps275;go_wp2_with (first
    |(go_at_call 279;refine(WO.1 bs w2 H2.1).mono ?_;rintro r w3 ⟨rfl,h3⟩;have H3:=Aj h3;have f1:=h3.en.f 1;have f2:=h3.en.f 2;have H4:=Aj (WS.1 bs w3 h3);have k4:=H4.1.en.k0.2.2.2;unfold fo at k4;obtain⟨j1,j2,j3⟩:=h3.en.k0.2;clear h3)
    |(go_at_call 280;rw[HW1.1];refine HF.1.mono ?_;rintro r w2 ⟨rfl,g2⟩;have H2:=Aj (GR.1 _ _ _ OG.1 g2);clear g2))
   refine(OA.1 _ H4.1).mono ?_;rintro r w5 ⟨rfl,h5⟩;have H5:=Aj h5;obtain⟨-,k1,k2,k3⟩:=h5.en.k0;unfold fo at k3;clear h5 k4 j1 j2 j3 f1 f2 H4 H3 H2 k0 f0 hx0 Pd;go_wp2_with fail;refine wp_region_still_tail 11 kr kr ?_;simp only[Cc,Eh,AY,Bp]
   repeat still_step
   refine wpStill_nil ?_
   change wpList _ _ _ _ _ w5.drew
   go_wp2;refine(OB.1 _ (GR2.1 _ _ _ H5.1 (Gr.refl w5).drew)).mono ?_;rintro r w6 ⟨rfl,h6⟩;have H6:=Aj h6;clear k1 k2 k3;obtain⟨-,k1,k2,k3⟩:=h6.en.k0;unfold fo at k3;clear h6 H5;go_wp2_with fail;refine wp_region_still_tail 12 kr kr ?_;simp only[Cc,Eh,AY,Bp]
   repeat still_step
   refine wpStill_nil ?_
   change wpList _ _ _ _ _ w6.drew
   go_wp2;refine(OC.1 _ (GR2.1 _ _ _ H6.1 (Gr.refl w6).drew)).mono ?_;rintro r w7 ⟨rfl,h7⟩;have H7:=Aj h7;clear k1 k2 k3;have k6:w7.cell? ⟨e,1,none⟩=some (.int .i64 (d.1:Int))∧w7.cell? ⟨e,2,none⟩=some (.int .i64 (d.2:Int))∧w7.cell? ⟨e,3,none⟩=some (.func (.func aS) #[] #[cv]):=⟨h7.en.k0.2.1,h7.en.k0.2.2.1,h7.en.k0.2.2.2⟩
   clear h7 H6 OA OB OC HF WO WS;go_wp2_with fail;go_region_held3 (fun w'=>w'.cell? ⟨e,1,none⟩=some (.int .i64 (d.1:Int))∧w'.cell? ⟨e,2,none⟩=some (.int .i64 (d.2:Int))∧w'.cell? ⟨e,3,none⟩=some (.func (.func aS) #[] #[cv])) (first|exact k6|exact k7|exact k8)
    (first
     |(go_at_call 278;refine(TR.1 _).mono ?_;rintro r w8 ⟨rfl,g8⟩;have H8:=Aj (GR2.1 _ _ w8 H7.1 ((Gr.refl w7).drew.trans g8));have k7:w8.cell? ⟨e,1,none⟩=some (.int .i64 (d.1:Int))∧w8.cell? ⟨e,2,none⟩=some (.int .i64 (d.2:Int))∧w8.cell? ⟨e,3,none⟩=some (.func (.func aS) #[] #[cv]):=⟨H8.1.en.k0.2.1,H8.1.en.k0.2.2.1,H8.1.en.k0.2.2.2⟩;clear g8)
     |(refine(OD.1 w8 H8.1).mono ?_;rintro r w9 ⟨rfl,h9⟩;have H9:=Aj h9;have k8:w9.cell? ⟨e,1,none⟩=some (.int .i64 (d.1:Int))∧w9.cell? ⟨e,2,none⟩=some (.int .i64 (d.2:Int))∧w9.cell? ⟨e,3,none⟩=some (.func (.func aS) #[] #[cv]):=⟨H9.1.en.k0.2.1,H9.1.en.k0.2.2.1,H9.1.en.k0.2.2.2⟩;clear h9))
   all_goals
    go_wp2
    (try simp only[Exit.inBlock,Exit.then]);refine bodyPost_end (CQ rfl _ _ _) rfl ?_
    exact⟨rfl,by simp only[←Af];exact H9.1⟩
def Xo.st:Nat→Nat×Nat→List Nat→Nat×(Nat×Nat)
 |last,c,[]=>(last,c)
 |last,c,v::l=>Xo.st v (Xo.put last c v).2 l
theorem Xo.xR:∀(last) (c) (l) (v),Xo.puts last c (l++[v])=Xo.puts last c l++(Xo.put (Xo.st last c l).1 (Xo.st last c l).2 v).1
 |last,c,[],v=>by simp[Xo.puts,Xo.st]
 |last,c,x::l,v=>by rw[Bb,Xo.puts,Xo.xR x _ l v,Xo.puts,Xo.st,Af]
theorem Xo.MQ:∀(last) (c) (l) (v),Xo.st last c (l++[v])=(v,(Xo.put (Xo.st last c l).1 (Xo.st last c l).2 v).2)
 |last,c,[],v=>by simp[Xo.st]
 |last,c,x::l,v=>by rw[Bb,Xo.st,Xo.MQ x _ l v,Xo.st]
theorem Xo.aaG {last v c} (h:Xo.Cw c) (hl:last<2^64) (hv:v<2^64):Xo.Cw (Xo.put last c v).2∧(Xo.put last c v).1.length≤80:=by
 unfold Xo.put;split
 ·exact⟨h,by rw[Bt.aj];omega⟩
 ·rename_i h0
  have hx:v^^^last<2^64:=BM hv hl;have h2:=Xo.kX hx h0;split
  ·refine⟨h,?_⟩;rw[La,Bt.aj,Bt.aj];rcases h with h|h
   ·rw[h];omega
   ·omega
  ·refine⟨.inr ⟨h2.1,h2.2.1⟩,?_⟩;simp only[La,Bt.aj];omega
theorem Xo.Zc:∀(l) (last) (c),Xo.Cw c→last<2^64→(∀x∈l,x<2^64)→Xo.Cw (Xo.st last c l).2∧(Xo.st last c l).1<2^64∧(Xo.puts last c l).length≤80*l.length
 |[],last,c,h,hl,_=>⟨h,hl,by simp[Xo.puts]⟩
 |v::l,last,c,h,hl,hx=>by
  have hv:=hx v jQ;have h1:=Xo.aaG h hl hv;obtain⟨a,b,d⟩:=Xo.Zc l v _ h1.1 hv (fun x hx'=>hx x (kH _ hx'));refine⟨a,b,?_⟩;rw[Xo.puts,La,Lc];omega
def Xo.at_ (l:List Nat) (k:Nat):List Bool×Nat×(Nat×Nat):=
 match l with
 |[]=>([],0,(0,0))
 |v::t=>if k=0 then([],0,(0,0))else(Bt.bw 64 v++Xo.puts v (0,0) (t.take (k-1)),Xo.st v (0,0) (t.take (k-1)))
theorem Xo.iW (l):Xo.at_ l 0=([],0,(0,0)):=by cases l<;>simp[Xo.at_]
theorem Xo.at_one {l} (h:0<l.length):Xo.at_ l 1=(Bt.bw 64 l[0],l[0],(0,0)):=by
 cases l with
 |nil=>simp at h
 |cons v t=>simp[Xo.at_,Xo.puts,Xo.st]
theorem Xo.XB {l k} (h0:0<k) (h:k<l.length):Xo.at_ l (k+1)=((Xo.at_ l k).1++(Xo.put (Xo.at_ l k).2.1 (Xo.at_ l k).2.2 l[k]).1,l[k],(Xo.put (Xo.at_ l k).2.1 (Xo.at_ l k).2.2 l[k]).2):=by
 cases l with
 |nil=>simp at h
 |cons v t=>
  obtain⟨j,rfl⟩:∃j,k=j+1:=⟨k-1,om⟩
  have hj:j<t.length:=by simpa using h
  have e:t.take (j+1)=t.take j++[t[j]]:=Ts hj;simp only[Xo.at_,Bz,BZ];rw[Ng om,Ng om,e,Xo.xR,Xo.MQ,Af]
theorem Xo.JG (l):(Xo.at_ l l.length).1=Xo.enc l:=by
 cases l with
 |nil=>rfl
 |cons v t=>
  simp only[Xo.at_,Lc,Bz];rw[Ng om,iM Ai]
  rfl
theorem Xo.ads {l} (hx:∀x∈l,x<2^64) (k) (hk:k≤l.length):Xo.Cw (Xo.at_ l k).2.2∧(Xo.at_ l k).2.1<2^64∧(Xo.at_ l k).1.length≤80*k:=by
 cases l with
 |nil=>exact⟨.inl rfl,by simp[Xo.at_],by simp[Xo.at_]⟩
 |cons v t=>
  unfold Xo.at_;simp only[];split
  ·exact⟨.inl rfl,sm,sm⟩
  ·obtain⟨a,b,c⟩:=Xo.Zc (t.take (k-1)) v (0,0) (.inl rfl) (hx v jQ) (fun x h=>hx x (kH _ (List.mem_of_mem_take h)));refine⟨a,b,?_⟩;rw[La,Bt.aj];rw[oV]at c;simp only[Lc]at hk;omega
theorem We.agQ {base q e w w0 w'} (h:We base q e w0 w') (h0:Gr w w0) (hb:base≤w.heap.size) (he:w.heap.size≤e):Wk base q w w':=
 ⟨(h0.below.mono hb).trans h.aZ,fun k hk hq hn=>by
  have e1:=h0.below.block k hk;refine(h.rest k (j6 hk h0.size) hq om (fun cs fr hc=>hn cs fr (e1.symm.trans hc))).trans e1⟩
theorem uX {base q aS B n c cv J bs A l w} (O:Ia aS cv base q J) (hJ:J bs w) (hq:q<w.heap.size) (hbw:base≤w.heap.size) (hD:wQ w) (hD2:2<base)
  (hr:kF w B A n c l) (hB:B≤base) (hx:∀x∈l,x<2^64) (hn:n≤100000) (hl:bs.length≤10000000):
  Calls prog 253 #[.slice A n c,fo aS cv] w fun r w'=>r= .returned (.tuple #[])∧J (bs++Xo.enc l) w'∧Wk base q w w':=by
 have hln:=Aj hr.len;have hlc:=hr.1;have hcm:=hr.2.1;unfold maxLen at hcm;have R0:=Aj hr;have HX:=Aj hx;have KO:=Aj O;have hent:=O.Wv;have HD:=Aj hD;have G1:=Aj ((Gr.refl w).alloc (.cells #[.int .u64 0,.int .i64 0,.int .i64 0,fo aS cv] 397));have S1:=Aj (show mK base q J (fo aS cv) w.heap.size (w.alloc (.cells #[.int .u64 0,.int .i64 0,.int .i64 0,fo aS cv] 397)) (bs++(Xo.at_ l 0).1) (Xo.at_ l 0).2.1 (Xo.at_ l 0).2.2 (w.alloc (.cells #[.int .u64 0,.int .i64 0,.int .i64 0,fo aS cv] 397))from by
  rw[Xo.iW];exact⟨by simpa using O.gr bs w _ hJ G1.1,Av w _,We.refl _ _ _ _⟩)
 have hz1:(w.alloc (.cells #[.int .u64 0,.int .i64 0,.int .i64 0,fo aS cv] 397)).heap.size=w.heap.size+1:=sm;obtain⟨W1,hW1⟩:∃W1,W1=w.alloc (.cells #[.int .u64 0,.int .i64 0,.int .i64 0,fo aS cv] 397):=⟨_,rfl⟩
 rw[←hW1]at S1 G1 hz1;obtain⟨e,he⟩:∃e,e=w.heap.size:=⟨_,rfl⟩
 rw[←he]at S1;have HE:=Aj he;have hqe:e≠q:=om;have hbe:base≤e:=om;have hbW:base≤W1.heap.size:=om;unfold fo at hW1;have HW1:=Aj hW1.symm;have hff:fo aS cv= .func (.func aS) #[] #[cv]:=rfl;rw[hff];clear hr hx O hJ hD hW1 he hz1 hff;go_enter func253,ntmps253;go_wp2;rw[HW1.1,←HE.1];go_loopw [12] (fun i wr=>∃k:Nat,k≤n∧i= .int .i64 (k:Int)∧mK base q J (fo aS cv) e W1 (bs++(Xo.at_ l k).1) (Xo.at_ l k).2.1 (Xo.at_ l k).2.2 wr) (fun i _=>n-(intOf i).toNat)
 case atStart=>exact⟨0,bH _,rfl,S1.1⟩
 case round=>
  clear S1;obtain⟨k,hk,rfl,hs⟩:=hrel;have HS:=Aj hs;by_cases hlt:k<n
  ·have hlt':(k:Int)< (n:Int):=by omega
   have hkl:k<l.length:=by have:=hln.1;omega
   have hbel:Below base w wr:=(G1.1.below.mono hbw).trans hs.we.aZ;obtain⟨bb,off,rfl,kK,hc0⟩:=(R0.1.below (hbel.mono hB)).at_ hkl;have hvk:=HX.1 _ (gG hkl);obtain⟨hcw,hla,TU⟩:=Xo.ads HX.1 k om;rcases mM k with hk0|hk0
   ·subst hk0;have e1:=Xo.at_one (l:=l) hkl;have e0:=Xo.iW l;have OC:=Aj (hs.Za KO.1 hqe (x:=l[0]) (n:=64) om om (by rw[e0];simp;omega));rw[e0]at OC;have LS:=Aj (fun(b2:List Bool) (w2:World) (h2:mK base q J (fo aS cv) e W1 b2 0 (0,0) w2)=>h2.last KO.1 hqe hbe l[0]);have E1:=Aj e1;clear hs hcw hla TU e0 e1;rw[Ct]at hc0;generalize l[0]=v at*;go_wp2;refine OC.1.mono ?_;rintro r w2 ⟨rfl,h2⟩;have H2:=Aj h2;have j0:=h2.en.k0.1;have f0:=h2.en.f 0;clear h2;go_wp2;go_roundw
    case rel=>exact⟨1,om,rfl,by rw[E1.1];simpa using LS.1 _ _ H2.1⟩
    case measure=>simp[intOf];omega
   ·have e1:=Aj (Xo.XB hk0 hkl);have PT:=Aj (TT KO.1 hs.j hs.en hqe hbe (Lt hbW hs.we.aZ.size) (HD.1.aZ hbel hD2) hD2 hcw (v:=l[k]) om om (by rw[La];omega));have hk1:(0:Int)< (k:Int):=om;clear hs hcw hla TU;generalize l[k]=v at*;go_wp2_with (go_at_call 275;refine PT.1.mono ?_;rintro r w2 ⟨rfl,h2⟩;have H2:=Aj (show mK _ _ _ _ _ W1 _ _ _ w2 from⟨h2.j,h2.en,HS.1.we.trans h2.we⟩);clear h2);go_roundw
    case rel=>exact⟨k+1,om,by go_num,by rw[e1.1,←Af];exact H2.1⟩
    case measure=>simp[intOf];omega
  ·obtain rfl:k=n:=by omega
   have e:(Xo.at_ l k).1=Xo.enc l:=by rw[hln.1];exact Xo.JG l
   have F:=Aj (show J (bs++Xo.enc l) wr∧Wk base q w wr from⟨by rw[←e];exact hs.j,hs.we.agQ G1.1 hbw (by rw[HE.1];exact Nr _)⟩);clear hs e HS;go_wp2
   (try simp only[Exit.inBlock,Exit.then]);refine bodyPost_end (CQ rfl _ _ _) rfl ?_
   exact⟨rfl,F.1⟩
def SzJ (q:Nat) (bs:List Bool) (W:World):Prop:=W.heap[q]? =some (.cells #[.int .i64 (bs.length:Int)] 3 (0,0))
theorem adt (base q) (hq:base≤q):Ia 254 (.pointer (some ⟨q,0,none⟩)) base q (SzJ q) where
 Wv:=BH func254 kr rfl
 call bs x n w h hx hn hl:=by
  have c0:=Co _ _ 0 _ _ _ h;have f0:=Fr _ _ 0 _ _ h;have H:=Aj h;have hlt:=(Ge.1 h).1;have hb:Kept (((bs++Bt.bw n x).length:Int)=(bs.length:Int)+(n:Int)):=⟨by rw[La,Bt.aj];simp⟩
  have WS:=Aj (Wk.set (base:=base) (p:=q) w 0 (.int .i64 ((bs.length:Int)+(n:Int))) hq hlt);have HS:Kept (SzJ q (bs++Bt.bw n x) (w.setCell ⟨q,0,none⟩ (.int .i64 ((bs.length:Int)+(n:Int))))):=⟨by
   unfold SzJ;rw[hb.1,Ag _ q 0 _ _ _ H.1];rfl⟩
  clear h;go_enter func254,ntmps254;go_wp2;go_end0;exact⟨rfl,HS.1,WS.1⟩
 gr bs w w' h hg:=(hg.below.block q (Ge.1 h).1).trans h
 set bs w e k v cs fr h he hr:=(AO w ⟨e,k,none⟩ v q (fun h=>he h.symm)).trans h
theorem Pf (A n c B l w) (hr:kF w B A n c l) (hB:B≤w.heap.size) (hx:∀x∈l,x<2^64) (hn:n≤100000) (hD:wQ w) (hD2:2<w.heap.size):
  Calls prog 215 #[.slice A n c] w fun r w'=>r= .returned (.int .i64 ((Xo.enc l).length:Int))∧Below w.heap.size w w':=by
 have hG:=(Gr.refl w).alloc (.cells #[.int .i64 0] 3);have hJ:SzJ w.heap.size [] (w.alloc (.cells #[.int .i64 0] 3)):=Av w _;have EC:=Aj (uX (base:=w.heap.size) (q:=w.heap.size) (adt w.heap.size w.heap.size Ai) hJ sm sm (hD.aZ hG.below hD2) hD2 (hr.below (hG.below.mono hB)) hB hx hn sm);have hb:=Aj hG.below;unfold fo at EC;clear hr hx hD hJ hG;go_enter func215,ntmps215;go_wp2_with (go_at_call 253;refine EC.1.mono ?_;rintro r w2 ⟨rfl,h2,k2⟩;have k0:w2.cell? ⟨w.heap.size,0,none⟩=some (.int .i64 ((Xo.enc l).length:Int)):=(by have:=Co _ _ 0 _ _ _ h2;simpa using this);have B2:=Aj (hb.1.trans k2.aZ);clear h2 k2);go_ret;exact⟨rfl,B2.1⟩
def PtJ (base p b:Nat) (bs:List Bool) (W:World):Prop:=fJ W base p bs∧Boxed W b 302 (.pointer (some ⟨p,0,none⟩))
theorem adu (base p b) (hb:b≠p):Ia 255 (.pointer (some ⟨b,0,none⟩)) base p (PtJ base p b) where
 Wv:=BH func255 kr rfl
 call bs x n w h hx hn hl:=by
  have c0:=h.2.cell;have WB:=Aj (cB base p x n bs w h.1 hx hn om);have HB:=Aj h.2;clear h;go_enter func255,ntmps255;go_wp2_with (go_at_call 191;refine WB.1.mono ?_;rintro r w2 ⟨rfl,h2,k2⟩;have H2:=Aj h2;have K2:=Aj k2;clear h2 k2);go_end0;exact⟨rfl,⟨H2.1,Boxed.wk HB.1 K2.1 hb Ah⟩,K2.1⟩
 gr bs w w' h hg:=⟨h.1.gr hg,(hg.below.block b h.2.lt).trans h.2⟩
 set bs w e k v cs fr h he hr:=by
  refine⟨?_,?_⟩
  ·obtain⟨A,n,c,L,h1,h2,h3,h4⟩:=h.1;have hg:=au w ⟨e,k,none⟩ v;exact⟨A,n,c,L,(hg.block p (Ge.1 h1).1 (fun e2=>he (Oj e2).symm)).trans h1,ag h2 hg (.inr (fun e2=>oG h2 hr Ah e2.symm)),h3,h4⟩
  ·refine(AO w ⟨e,k,none⟩ v b (fun e2=>?_)).trans h.2;have h2:=(show w.heap[b]? =some (.cells #[.pointer (some ⟨p,0,none⟩)] 302 (0,0))from h.2)
   rw[e2]at h2;have:=hr.symm.trans h2;simp only[gT,DU]at this;exact absurd this.2.1 Ah
theorem TV (base p B bs A n c l w) (h:fJ w base p bs) (hr:kF w B A n c l) (hB:B≤base) (hx:∀x∈l,x<2^64) (hn:n≤100000) (hl:bs.length≤10000000) (hD:wQ w) (hD2:2<base):
  Calls prog 216 #[.pointer (some ⟨p,0,none⟩),.slice A n c] w fun r w'=>r= .returned (.int .i64 0)∧fJ w' base p (bs++Xo.enc l)∧Wk base p w w':=by
 obtain⟨hp1,hp2⟩:=h.lt;have hG:=(Gr.refl w).alloc (.cells #[.pointer (some ⟨p,0,none⟩)] 302);have hJ:PtJ base p w.heap.size bs (w.alloc (.cells #[.pointer (some ⟨p,0,none⟩)] 302)):=⟨h.gr hG,Bd w _ _⟩
 have hbx:=Bd w 302 (.pointer (some ⟨p,0,none⟩));have c0:=hbx.cell;have EC:=Aj (uX (base:=base) (q:=p) (adu base p w.heap.size om) hJ (by simp;omega) (by simp;omega) (hD.aZ hG.below om) hD2 (hr.below (hG.below.mono om)) hB hx hn hl);have WG:=Aj (Wk.gr (base:=base) (p:=p) hG om);unfold fo at EC;clear h hr hx hD hJ hG hbx;go_enter func216,ntmps216;go_wp2_with (go_at_call 253;refine EC.1.mono ?_;rintro r w2 ⟨rfl,h2,k2⟩;have H2:=Aj h2;have K2:=Aj (WG.1.trans k2);clear h2 k2);go_ret;exact⟨rfl,H2.1.1,K2.1⟩
def De (w:World) (d p last:Nat) (c:Nat×Nat) (er:Int):Prop:=w.heap[d]? =some (.cells #[.int .u64 (last:Int),.int .i64 (c.1:Int),.int .i64 (c.2:Int),.pointer (some ⟨p,0,none⟩),.int .i64 er] 372 (0,0))
theorem De.lt {w d p last c er} (h:De w d p last c er):d<w.heap.size:=(Ge.1 h).1
theorem De.k {w d p last c er} (h:De w d p last c er):w.cell? ⟨d,0,none⟩=some (.int .u64 (last:Int))∧w.cell? ⟨d,1,none⟩=some (.int .i64 (c.1:Int))∧w.cell? ⟨d,2,none⟩=some (.int .i64 (c.2:Int))∧w.cell? ⟨d,3,none⟩=some (.pointer (some ⟨p,0,none⟩))∧w.cell? ⟨d,4,none⟩=some (.int .i64 er):=
 ⟨Co _ _ 0 _ _ _ h,Co _ _ 1 _ _ _ h,Co _ _ 2 _ _ _ h,Co _ _ 3 _ _ _ h,Co _ _ 4 _ _ _ h⟩
theorem De.f {w d p last c er} (h:De w d p last c er) (k):w.frozen? ⟨d,k,none⟩=false:=Fr _ _ k _ _ h
theorem De.err {w d p last c er} (h:De w d p last c er) (e):De (w.setCell ⟨d,4,none⟩ (.int .i64 e)) d p last c e:=by
 unfold De at*;rw[Ag _ d 4 _ _ _ h];rfl
theorem De.last {w d p last c er} (h:De w d p last c er) (v:Nat):De (w.setCell ⟨d,0,none⟩ (.int .u64 (v:Int))) d p v c er:=by
 unfold De at*;rw[Ag _ d 0 _ _ _ h];rfl
theorem De.win {w d p last c er} (h:De w d p last c er) (u):De ((w.setCell ⟨d,1,none⟩ (.int .i64 (u.1:Int))).setCell ⟨d,2,none⟩ (.int .i64 (u.2:Int))) d p last u er:=by
 unfold De at*;rw[Ag _ d 2 _ _ _ (Ag _ d 1 _ _ _ h)];rfl
structure Wd (p d:Nat) (w w':World):Prop where
 os:w'.os=w.os
 tape:w'.tape=w.tape
 output:w'.output=w.output
 size:w.heap.size≤w'.heap.size
 block:∀k,k<w.heap.size→k≠p→k≠d→w'.heap[k]? =w.heap[k]?
theorem Wd.refl (p d w):Wd p d w w:=⟨rfl,rfl,rfl,Nr _,fun _ _ _ _=>rfl⟩
theorem Wd.trans {p d w w1 w2} (h:Wd p d w w1) (g:Wd p d w1 w2):Wd p d w w2:=
 ⟨g.os.trans h.os,g.tape.trans h.tape,g.output.trans h.output,Lt h.size g.size,fun k hk hp hd=>(g.block k (j6 hk h.size) hp hd).trans (h.block k hk hp hd)⟩
theorem Wd.rd {p d w w'} (h:w.grownBy w' (some p)):Wd p d w w':=⟨h.os,h.tape,h.output,h.size,fun k hk hp _=>h.block k hk (fun e=>hp (Oj e))⟩
theorem Wd.set (p) {d} (w k v):Wd p d w (w.setCell ⟨d,k,none⟩ v):=
 have h:=au w ⟨d,k,none⟩ v
 ⟨h.os,h.tape,h.output,h.size,fun j hj _ hd=>h.block j hj (fun e=>hd (Oj e))⟩
theorem De.rd {w w' d p last c er} (h:De w d p last c er) (hg:w.grownBy w' (some p)) (hne:d≠p):De w' d p last c er:=(hg.block d h.lt (fun e=>hne (Oj e))).trans h
theorem Br.wR {w d p r} (h:Br w p r) (hd:p<d) (k v):Br (w.setCell ⟨d,k,none⟩ v) p r:=h.grown (au w ⟨d,k,none⟩ v) (fun g e=>by cases e;exact hd)
def Xo.bJ (n:Nat) (er:Int) (r:List Bool):Nat×List Bool×Int:=if er≠0 then(0,r,er)else Tm.rd n r
theorem eX (d p last n:Nat) (c er r w) (hD:De w d p last c er) (hB:Br w p r) (hn:n≤64) (mD:p<d):
  Calls prog 256 #[.pointer (some ⟨d,0,none⟩),.int .i64 (n:Int)] w fun e w'=>e= .returned (.int .u64 ((Xo.bJ n er r).1:Int))∧De w' d p last c (Xo.bJ n er r).2.2∧Br w' p (Xo.bJ n er r).2.1∧Wd p d w w':=by
 have HD:=Aj hD;have HB:=Aj hB;obtain⟨-,-,-,k3,k4⟩:=hD.k;by_cases he:er=0
 ·subst he;have hx:Kept (Xo.bJ n 0 r=Tm.rd n r):=⟨by unfold Xo.bJ;rw[Ng sm]⟩
  rw[hx.1];have RB:=Aj (dL p n r w hB hn);generalize Tm.rd n r=Y at*;obtain⟨x,r1,e1⟩:=Y;simp only[]at*;clear hD hB;go_enter func256,ntmps256;go_wp2_with (go_at_call 213;refine RB.1.mono ?_;rintro e w1 ⟨rfl,hb,hg⟩;have B1:=Aj hb;have G1:=Aj hg;have D1:=Aj (HD.1.rd hg om);have f4:=D1.1.f 4;have j4:=D1.1.k.2.2.2.2;clear hb hg);go_ret;exact⟨rfl,D1.1.err e1,B1.1.wR mD 4 _,(Wd.rd G1.1).trans (Wd.set p w1 4 _)⟩
 ·have hne:(er !=0)=true:=by simpa using he
  have hx:Kept (Xo.bJ n er r=(0,r,er)):=⟨by unfold Xo.bJ;rw[Ps0 he]⟩
  rw[hx.1];clear hD hB he;go_enter func256,ntmps256;go_wp2;go_ret;exact⟨rfl,HD.1,HB.1,Wd.refl _ _ _⟩
def Xo.kM (b:Bool) (er:Int):Int:=if er=0∧b=false then 8 else er
theorem gy (d p last c er b r w) (hD:De w d p last c er) (hB:Br w p r) (mD:p<d):
  Calls prog 277 #[.pointer (some ⟨d,0,none⟩),.bool b] w fun e w'=>e= .returned (.tuple #[])∧De w' d p last c (Xo.kM b er)∧Br w' p r∧Wd p d w w':=by
 have HD:=Aj hD;have HB:=Aj hB;obtain⟨-,-,-,k3,k4⟩:=hD.k;have f4:=hD.f 4;unfold Xo.kM;clear hD hB;by_cases he:er=0
 ·subst he;cases b
  ·go_enter func277,ntmps277;go_wp2;go_end0;exact⟨rfl,HD.1.err 8,HB.1.wR mD 4 _,Wd.set p w 4 _⟩
  ·go_enter func277,ntmps277;go_wp2;go_end0;exact⟨rfl,HD.1,HB.1,Wd.refl _ _ _⟩
 ·have hne:(er==0)=false:=by simpa using he
  rw[Ng (fun h=>he h.1)];go_enter func277,ntmps277;go_wp2;go_end0;exact⟨rfl,HD.1,HB.1,Wd.refl _ _ _⟩
theorem Wd.alloc {p d w w1} (h:Wd p d w w1) (o):Wd p d w (w1.alloc o):=
 h.trans ⟨rfl,rfl,rfl,sm,fun k hk _ _=>(Ga w1 o none).block k hk sm⟩
theorem De.alloc {w d p last c er} (h:De w d p last c er) (o):De (w.alloc o) d p last c er:=((Ga w o none).block d h.lt sm).trans h
theorem Br.al {w p r} (h:Br w p r) (o):Br (w.alloc o) p r:=h.grown (Ga w o none) (fun g e=>by cases e)
theorem Wd.row {p d g w w' cs t fr} (h:Wd p d w w') (hr:w.heap[g]? =some (.cells cs t fr)) (hp:g≠p) (hd:g≠d):w'.heap[g]? =some (.cells cs t fr):=(h.block g (Ge.1 hr).1 hp hd).trans hr
theorem Wd.late {p d g w w1} (h:Wd p d w w1) (hg:w.heap.size≤g) (k v):Wd p d w (w1.setCell ⟨g,k,none⟩ v):=
 have e:=au w1 ⟨g,k,none⟩ v
 ⟨e.os.trans h.os,e.tape.trans h.tape,e.output.trans h.output,Lt h.size e.size,fun j hj hp hd=>(e.block j (j6 hj h.size) (fun q=>by have:=Oj q;simp only at this;omega)).trans (h.block j hj hp hd)⟩
theorem De.late {w d p last g c er} (h:De w d p last c er) (hg:d≠g) (k v):De (w.setCell ⟨g,k,none⟩ v) d p last c er:=(AO w ⟨g,k,none⟩ v d hg).trans h
def Xo.Va (er:Int) (r:List Bool):(Nat×Nat)×List Bool×Int:=
 (((Xo.bJ 6 er r).1,(Xo.bJ 6 (Xo.bJ 6 er r).2.2 (Xo.bJ 6 er r).2.1).1+1),(Xo.bJ 6 (Xo.bJ 6 er r).2.2 (Xo.bJ 6 er r).2.1).2.1,
  Xo.kM (decide ((Xo.bJ 6 er r).1+((Xo.bJ 6 (Xo.bJ 6 er r).2.2 (Xo.bJ 6 er r).2.1).1+1)≤64)) (Xo.bJ 6 (Xo.bJ 6 er r).2.2 (Xo.bJ 6 er r).2.1).2.2)
theorem Xo.MR (n er r):(Xo.bJ n er r).1<2^n:=by
 unfold Xo.bJ;split
 ·exact Nat.two_pow_pos n
 ·exact Tm.jH n r
theorem Pg (d p last c er r w) (hD:De w d p last c er) (hB:Br w p r) (mD:p<d):
  Calls prog 276 #[.pointer (some ⟨d,0,none⟩)] w fun e w'=>e= .returned (.agg #[.int .i64 ((Xo.Va er r).1.1:Int),.int .i64 ((Xo.Va er r).1.2:Int)])∧De w' d p last c (Xo.Va er r).2.2∧Br w' p (Xo.Va er r).2.1∧Wd p d w w':=by
 have hdl:=hD.lt;obtain⟨W0,hW0⟩:∃W0,W0=w.alloc (.cells #[.int .i64 0,.int .i64 0] 368):=⟨_,rfl⟩
 have hr0:W0.heap[w.heap.size]? =some (.cells #[.int .i64 0,.int .i64 0] 368 (0,0)):=by rw[hW0];exact Av w _
 have hD0:De W0 d p last c er:=by rw[hW0];exact hD.alloc _
 have hB0:Br W0 p r:=by rw[hW0];exact hB.al _
 have hF0:Wd p d w W0:=by rw[hW0];exact(Wd.refl p d w).alloc _
 have hz0:W0.heap.size=w.heap.size+1:=by rw[hW0];simp
 have HX:Kept (Xo.Va er r=(((Xo.bJ 6 er r).1,(Xo.bJ 6 (Xo.bJ 6 er r).2.2 (Xo.bJ 6 er r).2.1).1+1),(Xo.bJ 6 (Xo.bJ 6 er r).2.2 (Xo.bJ 6 er r).2.1).2.1,Xo.kM (decide ((Xo.bJ 6 er r).1+((Xo.bJ 6 (Xo.bJ 6 er r).2.2 (Xo.bJ 6 er r).2.1).1+1)≤64)) (Xo.bJ 6 (Xo.bJ 6 er r).2.2 (Xo.bJ 6 er r).2.1).2.2)):=⟨rfl⟩
 rw[HX.1];have B1:=eX d p last 6 c er r W0 hD0 hB0 om mD;have l1:=Xo.MR 6 er r;generalize Xo.bJ 6 er r=Y at*;obtain⟨a,r1,e1⟩:=Y;simp only[]at*;have B2:=fun(w1:World) (h1:De w1 d p last c e1) (h2:Br w1 p r1)=>eX d p last 6 c e1 r1 w1 h1 h2 om mD
 have l2:=Xo.MR 6 e1 r1;generalize Xo.bJ 6 e1 r1=Y at*;obtain⟨b,r2,e2⟩:=Y;simp only[]at*;have CH:=Aj (fun(w1:World) (h1:De w1 d p last c e2) (h2:Br w1 p r2)=>gy d p last c e2 (decide (a+(b+1)≤64)) r2 w1 h1 h2 mD);have KB1:=Aj B1;have U9:=Aj B2;have HR0:=Aj hr0;have HF0:=Aj hF0;have HW0:=Aj hW0.symm;have hga:IntKind.i64.wrap (a:Int)=(a:Int):=OQ om om;have hgb:IntKind.i64.wrap (b:Int)=(b:Int):=OQ om om;have hdec:decide ((a:Int)+((b:Int)+1)≤64)=decide (a+(b+1)≤64):=decide_eq_decide.2 ⟨fun h=>om,fun h=>om⟩;obtain⟨g2,hg2⟩:∃g2,g2=w.heap.size:=⟨_,rfl⟩
 have HG2:=Aj hg2.symm;clear B1 B2 hD hB hD0 hB0 hr0 hF0 hW0 HX;go_enter func276,ntmps276;go_wp2_with (go_at_call 256;rw[HW0.1];refine KB1.1.mono ?_;rintro e w1 ⟨rfl,h1,h2,h3⟩;have D1:=Aj h1;have R1:=Aj h2;have F1:=Aj h3;have z1:=h3.size;clear h1 h2 h3 KB1);have adw:w.heap.size+1≤w1.heap.size:=om;refine(U9.1 _ (D1.1.alloc _) (R1.1.al _)).mono ?_;rintro e w2 ⟨rfl,h1,h2,h3⟩;have hrow3:w2.heap[w1.heap.size]? =some (.cells #[.int .i64 (a:Int),.int .i64 0] 368 (0,0)):=h3.row (Av w1 _) om om;have hrow2:w2.heap[w.heap.size]? =some (.cells #[.int .i64 0,.int .i64 0] 368 (0,0)):=h3.row (((Ga w1 _ none).block _ om sm).trans (F1.1.row HR0.1 om om)) om om;have F2:=Aj (((HF0.1.trans F1.1).alloc _).trans h3);have D2:=Aj h1;have R2:=Aj h2;have z2:w1.heap.size+1≤w2.heap.size:=by have:=h3.size;simpa using this
 clear h1 h2 h3 F1 HR0 HF0 D1 R1 U9 hz0;obtain⟨g3,hg3⟩:∃g3,g3=w1.heap.size:=⟨_,rfl⟩
 rw[←hg3]at hrow3 z2 adw⊢;rw[HG2.1];rw[←hg2]at hrow2 adw hdl;have QD:w.heap.size≤g2:=om;clear hg3 hg2 z1;have c31:=Co _ _ 1 _ _ _ hrow3;have f31:=Fr _ _ 1 _ _ hrow3;have c30:=Co _ _ 0 _ _ _ hrow3;have HR3:=Aj hrow3;have HR2:=Aj hrow2;clear hrow3 hrow2;have D3:=Aj (D2.1.late (g:=g3) om 1 (.int .i64 ((b:Int)+1)));have R3:=Aj (R2.1.grown (au w2 ⟨g3,1,none⟩ (.int .i64 ((b:Int)+1))) (fun g e=>by have:=Oj e;simp only at this;omega));have F3:=Aj (F2.1.late (g:=g3) om 1 (.int .i64 ((b:Int)+1)));have R33:=Aj (show(w2.setCell ⟨g3,1,none⟩ (.int .i64 ((b:Int)+1))).heap[g3]? =some (.cells #[.int .i64 (a:Int),.int .i64 ((b:Int)+1)] 368 (0,0))from by rw[Ag _ g3 1 _ _ _ HR3.1];rfl);have R32:=Aj ((AO w2 ⟨g3,1,none⟩ (.int .i64 ((b:Int)+1)) g2 (by simp only;omega)).trans HR2.1);go_wp2_with (go_at_call 277;refine(CH.1 _ D3.1 R3.1).mono ?_;rintro e w5 ⟨rfl,h1,h2,h3⟩;have D5:=Aj h1;have R5:=Aj h2;have F5:=Aj (F3.1.trans h3);have Q3:=Aj (h3.row R33.1 om om);have Q2:=Aj (h3.row R32.1 om om);have j0:=Co _ _ 0 _ _ _ Q3.1;have j1:=Co _ _ 1 _ _ _ Q3.1;have i0:=Co _ _ 0 _ _ _ Q2.1;have i1:=Co _ _ 1 _ _ _ Q2.1;have f0:=Fr _ _ 0 _ _ Q2.1;have f1:=Fr _ _ 1 _ _ Q2.1;clear h1 h2 h3);refine Bi (v:= .agg #[.int .i64 (a:Int),.int .i64 ((b:Int)+1)]) ?_ rfl ⟨sm,?_,?_,?_⟩
 ·exact bG (fn:=Tryz.f276) (a:=2) (T1:=368) rfl _ _ g2 _ _ _ _ rfl (lC _ g2 (.int .i64 (a:Int)) (.int .i64 ((b:Int)+1)) Q2.1 rfl) underlying368 rfl kr
 ·exact(D5.1.late om 0 _).late om 1 _
 ·exact(R5.1.grown (au w5 ⟨g2,0,none⟩ _) (fun g e=>by have:=Oj e;simp only at this;omega)).grown (au _ ⟨g2,1,none⟩ _) (fun g e=>by have:=Oj e;simp only at this;omega)
 ·exact(F5.1.late QD 0 _).late QD 1 _
def Ph (f:Nat):Value:= .func (.func f) #[] #[]
def TW:Array Value:= #[Ph 215,Ph 216,Ph 217,Ph 218,Ph 219,Ph 220,Ph 221,Ph 222,Ph 223]
theorem jh (w):Calls prog 179 #[] w fun e w'=>e= .returned (.agg TW)∧Below w.heap.size w w':=by
 unfold TW Ph;go_enter func179,ntmps179;have hr:=Av w (.cells #[Value.nilFunc,Value.nilFunc,Value.nilFunc,Value.nilFunc,Value.nilFunc,Value.nilFunc,Value.nilFunc,Value.nilFunc,Value.nilFunc] 291);have hi:(prog.info? 291).map (·.size)=some 9:=kr;have h1:(#[Value.func (Fn.func 215) #[] #[],Value.func (Fn.func 216) #[] #[],Value.func (Fn.func 217) #[] #[],Value.func (Fn.func 218) #[] #[],Value.func (Fn.func 219) #[] #[],Value.func (Fn.func 220) #[] #[],Value.func (Fn.func 221) #[] #[],Value.func (Fn.func 222) #[] #[],Value.func (Fn.func 223) #[] #[]]:Array Value).all (·.oneCell')=true:=by simp[Value.oneCell']
 have HR:=Aj hr;have HI:=Aj hi;have H1:=Aj h1;have hb:=Aj ((Ae w.heap.size w).alloc Ai (.cells #[Value.nilFunc,Value.nilFunc,Value.nilFunc,Value.nilFunc,Value.nilFunc,Value.nilFunc,Value.nilFunc,Value.nilFunc,Value.nilFunc] 291));clear hr hi h1;go_wp2_with (refine wpList_store_row rfl 291 _ _ rfl w.heap.size _ rfl rfl _ _ HR.1 HI.1 rfl H1.1 ?_);refine Bi (v:= .agg #[Value.func (Fn.func 215) #[] #[],Value.func (Fn.func 216) #[] #[],Value.func (Fn.func 217) #[] #[],Value.func (Fn.func 218) #[] #[],Value.func (Fn.func 219) #[] #[],Value.func (Fn.func 220) #[] #[],Value.func (Fn.func 221) #[] #[],Value.func (Fn.func 222) #[] #[],Value.func (Fn.func 223) #[] #[]]) ?_ rfl ⟨rfl,?_⟩
 ·exact bG (fn:=Tryz.f179) (a:=0) (T1:=291) rfl _ _ w.heap.size _ _ _ _ rfl (setRow_heap _ _ _ _ _ _ HR.1) underlying291 rfl kr
 ·exact⟨hb.1.os,hb.1.tape,hb.1.output,sm,fun k hk=>(setRow_other _ _ k _ om).trans (hb.1.block k hk)⟩
theorem aaI (w):(Instr.index 291 (.agg #[.func (.func 215) #[] #[],.func (.func 216) #[] #[],.func (.func 217) #[] #[],.func (.func 218) #[] #[],.func (.func 219) #[] #[],.func (.func 220) #[] #[],.func (.func 221) #[] #[],.func (.func 222) #[] #[],.func (.func 223) #[] #[]]) (.int .i64 0)).run prog w= .ok (.agg #[.func (.func 215) #[] #[],.func (.func 216) #[] #[],.func (.func 217) #[] #[]]) w:=kr
theorem aaJ (w):(Instr.index 291 (.agg #[.func (.func 215) #[] #[],.func (.func 216) #[] #[],.func (.func 217) #[] #[],.func (.func 218) #[] #[],.func (.func 219) #[] #[],.func (.func 220) #[] #[],.func (.func 221) #[] #[],.func (.func 222) #[] #[],.func (.func 223) #[] #[]]) (.int .i64 1)).run prog w= .ok (.agg #[.func (.func 218) #[] #[],.func (.func 219) #[] #[],.func (.func 220) #[] #[]]) w:=kr
theorem aaK (w):(Instr.index 291 (.agg #[.func (.func 215) #[] #[],.func (.func 216) #[] #[],.func (.func 217) #[] #[],.func (.func 218) #[] #[],.func (.func 219) #[] #[],.func (.func 220) #[] #[],.func (.func 221) #[] #[],.func (.func 222) #[] #[],.func (.func 223) #[] #[]]) (.int .i64 2)).run prog w= .ok (.agg #[.func (.func 221) #[] #[],.func (.func 222) #[] #[],.func (.func 223) #[] #[]]) w:=kr
def Ck.Pj (l:List Nat) (k:Nat):Int:=if k=0 then((Xo.enc l).length:Int)else if k=1 then((Ru.enc l).length:Int)else Di.Kj l
theorem Pk (A n c B l w) (hr:kF w B A n c l) (hB:B≤w.heap.size) (hx:∀x∈l,x<2^64) (hn:n≤128) (hD:wQ w) (hD2:2<w.heap.size):
  Calls prog 226 #[.slice A n c] w fun r w'=>r= .returned (.agg #[.int .i64 (Ck.Pj l 0),.int .i64 (Ck.Pj l 1),.int .i64 (Ck.Pj l 2)])∧Below w.heap.size w w':=by
 have X0:=Aj (show∀W,Below w.heap.size w W→Calls prog 215 #[.slice A n c] W fun r w'=>r= .returned (.int .i64 (Ck.Pj l 0))∧Below W.heap.size W w' from fun W hb=>Pf A n c B l W (hr.below (hb.mono hB)) (Lt hB hb.size) hx om (hD.aZ hb hD2) (j6 hD2 hb.size));have X1:=Aj (show∀W,Below w.heap.size w W→Calls prog 218 #[.slice A n c] W fun r w'=>r= .returned (.int .i64 (Ck.Pj l 1))∧Below W.heap.size W w' from fun W hb=>OY A n c B l W (hr.below (hb.mono hB)) (Lt hB hb.size) hn);have X2:=Aj (show∀W,Below w.heap.size w W→Calls prog 221 #[.slice A n c] W fun r w'=>r= .returned (.int .i64 (Ck.Pj l 2))∧Below W.heap.size W w' from fun W hb=>OW A n c B l W (hr.below (hb.mono hB)) (Lt hB hb.size) hx om);generalize Ck.Pj l 0=s0 at*;generalize Ck.Pj l 1=s1 at*;generalize Ck.Pj l 2=s2 at*;have EC:=Aj (fun W=>jh W);unfold TW Ph at EC;clear hr hx hD;obtain⟨W2,hW2⟩:∃W2,W2=(w.alloc (.cells #[.int .i64 0,.int .i64 0,.int .i64 0] 335)).alloc (.cells #[.int .i64 0,.int .i64 0,.int .i64 0] 335):=⟨_,rfl⟩
 have hz:W2.heap.size=w.heap.size+1+1:=by rw[hW2];simp
 have r3:W2.heap[w.heap.size+1]? =some (.cells #[.int .i64 0,.int .i64 0,.int .i64 0] 335 (0,0)):=by
  rw[hW2];have:=Av (w.alloc (.cells #[.int .i64 0,.int .i64 0,.int .i64 0] 335)) (.cells #[.int .i64 0,.int .i64 0,.int .i64 0] 335);simpa using this
 have r2:W2.heap[w.heap.size]? =some (.cells #[.int .i64 0,.int .i64 0,.int .i64 0] 335 (0,0)):=by
  rw[hW2,Aw _ _ _ sm];exact Av w _
 have b2:Below w.heap.size w W2:=by rw[hW2];exact((Ae _ w).alloc Ai _).alloc sm _
 have R3:=Aj r3;have R2:=Aj r2;have B2:=Aj b2;have HW2:=Aj hW2.symm;have HZ:=Aj hz;clear hW2 r3 r2 b2 hz;go_enter func226,ntmps226;go_wp2_with (go_at_call 179;rw[HW2.1];refine(EC.1 W2).mono ?_;rintro e w1 ⟨rfl,h1⟩;have B1:=Aj h1;clear h1);go_loopw [7] (fun i wr=>∃k:Nat,k≤3∧i= .int .i64 (k:Int)∧Below w.heap.size w wr∧w.heap.size+2≤wr.heap.size∧wr.heap[w.heap.size]? =some (.cells #[.int .i64 0,.int .i64 0,.int .i64 0] 335 (0,0))∧
  wr.heap[w.heap.size+1]? =some (.cells #[.int .i64 (if 0<k then s0 else 0),.int .i64 (if 1<k then s1 else 0),.int .i64 (if 2<k then s2 else 0)] 335 (0,0))) (fun i _=>3-(intOf i).toNat)
 case atStart=>exact⟨0,om,rfl,B2.1.trans (B1.1.mono (by rw[HZ.1];omega)),by have:=B1.1.size;rw[HZ.1]at this;omega,(B1.1.block _ (by rw[HZ.1];omega)).trans R2.1,by simpa using(B1.1.block _ (by rw[HZ.1];omega)).trans R3.1⟩
 case round=>
  clear B1 R3 R2 B2 HZ;obtain⟨k,hk,rfl,hb,hz,q2,q3⟩:=hrel;have HB:=Aj hb;have Q2:=Aj q2;have Q3:=Aj q3;have hcs:k=0∨k=1∨k=2∨k=3:=om;have ix0:=aaI wr;have ix1:=aaJ wr;have ix2:=aaK wr;clear hb q2 q3;rcases hcs with rfl|rfl|rfl|rfl
  ·have HR:=Aj (Av wr (.cells #[Value.nilFunc,Value.nilFunc,Value.nilFunc] 290));have HI:Kept ((prog.info? 290).map (·.size)=some 3):=⟨kr⟩
   have H1:Kept ((#[.func (.func 215) #[] #[],.func (.func 216) #[] #[],.func (.func 217) #[] #[]]:Array Value).all (·.oneCell')=true):=⟨by simp[Value.oneCell']⟩
   have W5:Below wr.heap.size wr ((wr.alloc (.cells #[Value.nilFunc,Value.nilFunc,Value.nilFunc] 290)).setRow wr.heap.size #[.func (.func 215) #[] #[],.func (.func 216) #[] #[],.func (.func 217) #[] #[]]):=by
    have hb:=(Ae wr.heap.size wr).alloc Ai (.cells #[Value.nilFunc,Value.nilFunc,Value.nilFunc] 290);exact⟨hb.os,hb.tape,hb.output,sm,fun k hk=>(setRow_other _ _ k _ om).trans (hb.block k hk)⟩
   have c0:((wr.alloc (.cells #[Value.nilFunc,Value.nilFunc,Value.nilFunc] 290)).setRow wr.heap.size #[.func (.func 215) #[] #[],.func (.func 216) #[] #[],.func (.func 217) #[] #[]]).cell? ⟨wr.heap.size,0,none⟩=some (.func (.func 215) #[] #[]):=cell_setRow_same _ _ 0 _ _ _ _ HR.1;have Hz:=Aj W5;clear W5;go_wp2_with (first
    |(refine wpList_store_row rfl 290 _ _ rfl wr.heap.size _ rfl rfl _ _ HR.1 HI.1 rfl H1.1 ?_)
    |(go_at_call 215;refine(X0.1 _ (HB.1.trans (Hz.1.mono om))).mono ?_;rintro e w6 ⟨rfl,h6⟩;have B6:=Aj (Hz.1.trans (h6.mono Hz.1.size));have P2:=Aj ((B6.1.block _ om).trans Q2.1);have P3:=Aj ((B6.1.block _ om).trans Q3.1);have t0:=Co _ _ 0 _ _ _ P3.1;have f0:=Fr _ _ 0 _ _ P3.1;have hz6:=B6.1.size;clear h6))
   go_roundw
   case rel=>
    refine⟨1,om,rfl,(HB.1.trans (B6.1.mono om)).setCell (by simp only;omega) _,by simp;omega,(AO _ ⟨w.heap.size+1,0,none⟩ _ _ (by simp only;omega)).trans P2.1,?_⟩;rw[Ag _ _ 0 _ _ _ P3.1];simp
   case measure=>simp[intOf]
  ·have HR:=Aj (Av wr (.cells #[Value.nilFunc,Value.nilFunc,Value.nilFunc] 290));have HI:Kept ((prog.info? 290).map (·.size)=some 3):=⟨kr⟩
   have H1:Kept ((#[.func (.func 218) #[] #[],.func (.func 219) #[] #[],.func (.func 220) #[] #[]]:Array Value).all (·.oneCell')=true):=⟨by simp[Value.oneCell']⟩
   have W5:Below wr.heap.size wr ((wr.alloc (.cells #[Value.nilFunc,Value.nilFunc,Value.nilFunc] 290)).setRow wr.heap.size #[.func (.func 218) #[] #[],.func (.func 219) #[] #[],.func (.func 220) #[] #[]]):=by
    have hb:=(Ae wr.heap.size wr).alloc Ai (.cells #[Value.nilFunc,Value.nilFunc,Value.nilFunc] 290);exact⟨hb.os,hb.tape,hb.output,sm,fun k hk=>(setRow_other _ _ k _ om).trans (hb.block k hk)⟩
   have c0:((wr.alloc (.cells #[Value.nilFunc,Value.nilFunc,Value.nilFunc] 290)).setRow wr.heap.size #[.func (.func 218) #[] #[],.func (.func 219) #[] #[],.func (.func 220) #[] #[]]).cell? ⟨wr.heap.size,0,none⟩=some (.func (.func 218) #[] #[]):=cell_setRow_same _ _ 0 _ _ _ _ HR.1;have Hz:=Aj W5;clear W5;go_wp2_with (first
    |(refine wpList_store_row rfl 290 _ _ rfl wr.heap.size _ rfl rfl _ _ HR.1 HI.1 rfl H1.1 ?_)
    |(go_at_call 218;refine(X1.1 _ (HB.1.trans (Hz.1.mono om))).mono ?_;rintro e w6 ⟨rfl,h6⟩;have B6:=Aj (Hz.1.trans (h6.mono Hz.1.size));have P2:=Aj ((B6.1.block _ om).trans Q2.1);have P3:=Aj ((B6.1.block _ om).trans Q3.1);have t0:=Co _ _ 1 _ _ _ P3.1;have f0:=Fr _ _ 1 _ _ P3.1;have hz6:=B6.1.size;clear h6))
   go_roundw
   case rel=>
    refine⟨2,om,rfl,(HB.1.trans (B6.1.mono om)).setCell (by simp only;omega) _,by simp;omega,(AO _ ⟨w.heap.size+1,1,none⟩ _ _ (by simp only;omega)).trans P2.1,?_⟩;rw[Ag _ _ 1 _ _ _ P3.1];simp
   case measure=>simp[intOf]
  ·have HR:=Aj (Av wr (.cells #[Value.nilFunc,Value.nilFunc,Value.nilFunc] 290));have HI:Kept ((prog.info? 290).map (·.size)=some 3):=⟨kr⟩
   have H1:Kept ((#[.func (.func 221) #[] #[],.func (.func 222) #[] #[],.func (.func 223) #[] #[]]:Array Value).all (·.oneCell')=true):=⟨by simp[Value.oneCell']⟩
   have W5:Below wr.heap.size wr ((wr.alloc (.cells #[Value.nilFunc,Value.nilFunc,Value.nilFunc] 290)).setRow wr.heap.size #[.func (.func 221) #[] #[],.func (.func 222) #[] #[],.func (.func 223) #[] #[]]):=by
    have hb:=(Ae wr.heap.size wr).alloc Ai (.cells #[Value.nilFunc,Value.nilFunc,Value.nilFunc] 290);exact⟨hb.os,hb.tape,hb.output,sm,fun k hk=>(setRow_other _ _ k _ om).trans (hb.block k hk)⟩
   have c0:((wr.alloc (.cells #[Value.nilFunc,Value.nilFunc,Value.nilFunc] 290)).setRow wr.heap.size #[.func (.func 221) #[] #[],.func (.func 222) #[] #[],.func (.func 223) #[] #[]]).cell? ⟨wr.heap.size,0,none⟩=some (.func (.func 221) #[] #[]):=cell_setRow_same _ _ 0 _ _ _ _ HR.1;have Hz:=Aj W5;clear W5;go_wp2_with (first
    |(refine wpList_store_row rfl 290 _ _ rfl wr.heap.size _ rfl rfl _ _ HR.1 HI.1 rfl H1.1 ?_)
    |(go_at_call 221;refine(X2.1 _ (HB.1.trans (Hz.1.mono om))).mono ?_;rintro e w6 ⟨rfl,h6⟩;have B6:=Aj (Hz.1.trans (h6.mono Hz.1.size));have P2:=Aj ((B6.1.block _ om).trans Q2.1);have P3:=Aj ((B6.1.block _ om).trans Q3.1);have t0:=Co _ _ 2 _ _ _ P3.1;have f0:=Fr _ _ 2 _ _ P3.1;have hz6:=B6.1.size;clear h6))
   go_roundw
   case rel=>
    refine⟨3,om,rfl,(HB.1.trans (B6.1.mono om)).setCell (by simp only;omega) _,by simp;omega,(AO _ ⟨w.heap.size+1,2,none⟩ _ _ (by simp only;omega)).trans P2.1,?_⟩;rw[Ag _ _ 2 _ _ _ P3.1];simp
   case measure=>simp[intOf]
  ·have q3:=Q3.1;simp only[show(0:Nat)<3 from om,show(1:Nat)<3 from om,show(2:Nat)<3 from om,if_true]at q3;have t0:=Co _ _ 0 _ _ _ q3;have t1:=Co _ _ 1 _ _ _ q3;have t2:=Co _ _ 2 _ _ _ q3;have d0:=Co _ _ 0 _ _ _ Q2.1;have d1:=Co _ _ 1 _ _ _ Q2.1;have d2:=Co _ _ 2 _ _ _ Q2.1;have f0:=Fr _ _ 0 _ _ Q2.1;have f1:=Fr _ _ 1 _ _ Q2.1;have f2:=Fr _ _ 2 _ _ Q2.1;have hrow:(((wr.setCell ⟨w.heap.size,0,none⟩ (.int .i64 s0)).setCell ⟨w.heap.size,1,none⟩ (.int .i64 s1)).setCell ⟨w.heap.size,2,none⟩ (.int .i64 s2)).heap[w.heap.size]? =some (.cells #[.int .i64 s0,.int .i64 s1,.int .i64 s2] 335 (0,0)):=by
    rw[Ag _ _ 2 _ _ _ (Ag _ _ 1 _ _ _ (Ag _ _ 0 _ _ _ Q2.1))];simp
   have HRW:=Aj hrow;clear q3 hrow;go_wp2;refine Bi (v:= .agg #[.int .i64 s0,.int .i64 s1,.int .i64 s2]) ?_ rfl ⟨rfl,?_⟩
   ·exact bG (fn:=Tryz.f226) (a:=2) (T1:=335) rfl _ _ w.heap.size _ _ _ _ rfl HRW.1 underlying335 rfl kr
   ·exact((HB.1.setCell Ai _).setCell Ai _).setCell Ai _
theorem agR (w a b c):(Instr.index 335 (.agg #[.int .i64 a,.int .i64 b,.int .i64 c]) (.int .i64 0)).run prog w= .ok (.int .i64 a) w:=kr
theorem agS (w a b c):(Instr.index 335 (.agg #[.int .i64 a,.int .i64 b,.int .i64 c]) (.int .i64 1)).run prog w= .ok (.int .i64 b) w:=kr
theorem agT (w a b c):(Instr.index 335 (.agg #[.int .i64 a,.int .i64 b,.int .i64 c]) (.int .i64 2)).run prog w= .ok (.int .i64 c) w:=kr
theorem Di.XC (l) (h:(Di.fe l).length≤128):Di.Kj l=((Di.enc l).length:Int):=by
 unfold Di.Kj;rw[Ng om];by_cases hl:l=[]
 ·subst hl;rfl
 ·have hd:(Di.fe l).length≠0:=fun e=>by
   obtain⟨x,hx⟩:=List.exists_mem_of_ne_nil l hl;have:=(Di.fE l x).2 hx;rw[nL e]at this;simp at this
  have f1:∀(k:Nat) (d:List Nat),(d.flatMap (Bt.bw k)).length=k*d.length:=fun k d=>by
   induction d with
   |nil=>rfl
   |cons x d ih=>rw[Au,La,ih,Bt.aj,Lc,Nat.mul_add];omega
  have f2:∀(k:Nat) (f:Nat→Nat) (d:List Nat),(d.flatMap fun x=>Bt.bw k (f x)).length=k*d.length:=fun k f d=>by
   induction d with
   |nil=>rfl
   |cons x d ih=>rw[Au,La,ih,Bt.aj,Lc,Nat.mul_add];omega
  rw[Ng hd];unfold Di.enc;rw[Ng hl,La,La,Bt.aj,f1,f2]
  push_cast
  rw[Int.mul_comm 64,Int.mul_comm ((Di.ng (Di.fe l).length:Nat):Int)];omega
theorem uY (A n c B l w) (hr:kF w B A n c l) (hB:B≤w.heap.size) (hx:∀x∈l,x<2^64) (hn:n≤128) (hD:wQ w) (hD2:2<w.heap.size):
  Calls prog 181 #[.slice A n c] w fun r w'=>r= .returned (.int .i64 ((Ck.choose l:Nat):Int))∧Below w.heap.size w w':=by
 have SZ:=Aj (Pk A n c B l w hr hB hx hn hD hD2);have hdl:(Di.fe l).length≤128:=by have:=Ck.Jz l;have:=hr.len;omega
 have e0:Ck.Pj l 0=((Xo.enc l).length:Int):=rfl;have e1:Ck.Pj l 1=((Ru.enc l).length:Int):=rfl;have e2:Ck.Pj l 2=((Di.enc l).length:Int):=(show Ck.Pj l 2=Di.Kj l from rfl).trans (Di.XC l hdl);rw[e0,e1,e2]at SZ;have HCH:Kept (Ck.choose l=if(Di.enc l).length<min (Xo.enc l).length (Ru.enc l).length then 3 else if(Ru.enc l).length< (Xo.enc l).length then 2 else 1):=⟨rfl⟩
 generalize Ck.choose l=ch at*;generalize (Xo.enc l).length=s0 at*;generalize (Ru.enc l).length=s1 at*;generalize (Di.enc l).length=s2 at*;clear hr hx hD e0 e1 e2;go_enter func181,ntmps181;go_wp2_with (go_at_call 226;refine SZ.1.mono ?_;rintro e w1 ⟨rfl,h1⟩;have B1:=Aj h1;clear h1);have hb3:=Aj ((B1.1).alloc B1.1.size (.cells #[.int .i64 (s0:Int),.int .i64 (s1:Int),.int .i64 (s2:Int)] 335));have hrow:=Av w1 (.cells #[.int .i64 (s0:Int),.int .i64 (s1:Int),.int .i64 (s2:Int)] 335);generalize w1.alloc (.cells #[.int .i64 (s0:Int),.int .i64 (s1:Int),.int .i64 (s2:Int)] 335)=W3 at*;generalize w1.heap.size=g at*;have c0:=Co _ _ 0 _ _ _ hrow;have c1:=Co _ _ 1 _ _ _ hrow;have c2:=Co _ _ 2 _ _ _ hrow;clear hrow B1 SZ;have p0:(0:Int)≤(s0:Int):=om;have p1:(0:Int)≤(s1:Int):=om;have p2:(0:Int)≤(s2:Int):=om;go_loopw [3,10] (fun v i wr=>∃k b:Nat,i= .int .i64 (k:Int)∧v= .int .i64 (b:Int)∧wr=W3∧k≤3∧Kept ((k=0∧b=0)∨(k=1∧b=0)∨(k=2∧b=if s1<s0 then 1 else 0)∨(k=3∧b=if s2<min s0 s1 then 2 else if s1<s0 then 1 else 0))) (fun _ i _=>3-(intOf i).toNat)
 case atStart=>exact⟨0,0,rfl,rfl,(by first|rfl|trivial),om,⟨.inl ⟨rfl,rfl⟩⟩⟩
 case round=>
  obtain⟨k,b,rfl,rfl,rfl,hk3,HK⟩:=hrel;have ix0:=agR wr (s0:Int) (s1:Int) (s2:Int);have ix1:=agS wr (s0:Int) (s1:Int) (s2:Int);have ix2:=agT wr (s0:Int) (s1:Int) (s2:Int);rcases HK.1 with⟨rfl,rfl⟩|⟨rfl,rfl⟩|⟨rfl,hb⟩|⟨rfl,hb⟩
  ·go_wp2;go_roundw
   case rel=>exact⟨1,0,rfl,rfl,(by first|rfl|trivial),om,⟨.inr (.inl ⟨rfl,rfl⟩)⟩⟩
   case measure=>simp[intOf]
  ·by_cases h:s1<s0
   ·have h':(s1:Int)< (s0:Int):=by omega
    go_wp2;go_roundw
    case rel=>exact⟨2,1,rfl,rfl,(by first|rfl|trivial),om,⟨.inr (.inr (.inl ⟨rfl,by rw[Ps0 h]⟩))⟩⟩
    case measure=>simp[intOf]
   ·have h':¬(s1:Int)< (s0:Int):=by omega
    go_wp2;go_roundw
    case rel=>exact⟨2,0,rfl,rfl,(by first|rfl|trivial),om,⟨.inr (.inr (.inl ⟨rfl,by rw[Ng h]⟩))⟩⟩
    case measure=>simp[intOf]
  ·by_cases h:s1<s0
   ·rw[Ps0 h]at hb;subst hb;by_cases h2:s2<s1
    ·have h':(s2:Int)< (s1:Int):=by omega
     go_wp2;go_roundw
     case rel=>exact⟨3,2,rfl,rfl,(by first|rfl|trivial),om,⟨.inr (.inr (.inr ⟨rfl,by rw[Ps0 om]⟩))⟩⟩
     case measure=>simp[intOf]
    ·have h':¬(s2:Int)< (s1:Int):=by omega
     go_wp2;go_roundw
     case rel=>exact⟨3,1,rfl,rfl,(by first|rfl|trivial),om,⟨.inr (.inr (.inr ⟨rfl,by rw[Ng om,Ps0 h]⟩))⟩⟩
     case measure=>simp[intOf]
   ·rw[Ng h]at hb;subst hb;by_cases h2:s2<s0
    ·have h':(s2:Int)< (s0:Int):=by omega
     go_wp2;go_roundw
     case rel=>exact⟨3,2,rfl,rfl,(by first|rfl|trivial),om,⟨.inr (.inr (.inr ⟨rfl,by rw[Ps0 om]⟩))⟩⟩
     case measure=>simp[intOf]
    ·have h':¬(s2:Int)< (s0:Int):=by omega
     go_wp2;go_roundw
     case rel=>exact⟨3,0,rfl,rfl,(by first|rfl|trivial),om,⟨.inr (.inr (.inr ⟨rfl,by rw[Ng om,Ng h]⟩))⟩⟩
     case measure=>simp[intOf]
  ·have HB:=Aj hb;have ac8:b≤2:=by rw[hb];split<;>(try split)<;>omega
   clear hb;go_wp2;go_ret;refine⟨?_,hb3.1⟩;have e:(if s2<min s0 s1 then 3 else if s1<s0 then 2 else 1)=b+1:=by rw[HB.1];split<;>(try split)<;>rfl
   rw[HCH.1,e];rfl
theorem aJ.wk {w w' base p b2 n c A l} (h:aJ w b2 A n c l) (hk:Wk base p w w') (hp:p<b2):aJ w' b2 A n c l:=by
 refine⟨h.1,h.2.imp id ?_⟩;rintro⟨g,cap,cur,hv,hb,hg,rest⟩;exact⟨g,cap,cur,hv,hb,hk.kept hg om Ah,rest⟩
theorem Wk.dr {base p w w1} (h:Wk base p w w1) (m):Wk base p w (w1.drewN m):=⟨⟨h.aZ.os,h.aZ.tape,h.aZ.output,h.aZ.size,h.aZ.block⟩,h.rest⟩
theorem fJ.aZ {w w' base p bs} (h:fJ w base p bs) (hb:Below w.heap.size w w'):fJ w' base p bs:=by
 obtain⟨A,n,c,L,h1,h2,h3,h4⟩:=h;have hp:=(Ge.1 h1).1;exact⟨A,n,c,L,(hb.block p hp).trans h1,own_below h2 hb (fun g e=>(ae h2 g e).2),h3,h4⟩
theorem Wk.of {base p w w'} (h:Below w.heap.size w w') (hb:base≤w.heap.size):Wk base p w w':=⟨h.mono hb,fun k hk _ _=>h.block k hk⟩
theorem MS (k) (d:List Nat):(d.flatMap (Bt.bw k)).length=k*d.length:=by
 induction d with
 |nil=>rfl
 |cons x d ih=>rw[Au,La,ih,Bt.aj,Lc,Nat.mul_add];omega
theorem TY (k) (f:Nat→Nat) (d:List Nat):(d.flatMap fun x=>Bt.bw k (f x)).length=k*d.length:=by
 induction d with
 |nil=>rfl
 |cons x d ih=>rw[Au,La,ih,Bt.aj,Lc,Nat.mul_add];omega
theorem TZ (base p B bs A n c l w) (h:fJ w base p bs) (hr:kF w B A n c l) (hB:B≤base) (hx:∀x∈l,x<2^64) (hk:(Di.fe l).length≤128)
  (hn:n≤1000000) (hl:bs.length≤100000000):
  Calls prog 222 #[.pointer (some ⟨p,0,none⟩),.slice A n c] w fun e w'=>e= .returned (.int .i64 0)∧fJ w' base p (bs++Di.enc l)∧Wk base p w w':=by
 have hln:=Aj hr.len;have hlc:=hr.1;have hcm:=hr.2.1;unfold maxLen at hcm;obtain⟨mq,hbp⟩:=h.lt;have D0:=Aj (GY A n c B l w hr om hx hn);have R0:=Aj hr;have H0:=Aj h;have hup:=Aj (Di.pO l);have hmem:=Aj (Di.fE l);have Nz:Kept (∀x∈Di.fe l,x<2^64):=⟨fun x h=>hx x ((Di.fE l x).1 h)⟩
 by_cases hl0:l=[]
 ·subst hl0;obtain rfl:n=0:=hln.1;have he:Kept (Di.enc []=[]):=⟨rfl⟩
  have D1:Kept ((Di.fe []).length=0):=⟨rfl⟩
  rw[D1.1]at D0;clear h hr hx hk;go_enter func222,ntmps222;go_wp2_with (go_at_call 261;refine D0.1.mono ?_;rintro e w1 ⟨A2,c2,rfl,ho,hb⟩;have B1:=Aj hb;clear ho hb);go_ret;rw[he.1,Bh];exact⟨rfl,H0.1.aZ B1.1,Wk.of B1.1 om⟩
 ·have hlp:0<l.length:=oW.2 hl0;have hd0:0< (Di.fe l).length:=by
   rcases mM (Di.fe l).length with e|e
   ·exfalso;obtain⟨x,hx⟩:=List.exists_mem_of_ne_nil l hl0;have:=(Di.fE l x).2 hx;rw[nL e]at this;simp at this
   ·exact e
  have he:Kept (Di.enc l=Bt.bw 7 ((Di.fe l).length-1)++((Di.fe l).flatMap (Bt.bw 64)++l.flatMap fun x=>Bt.bw (Di.ng (Di.fe l).length) ((Di.fe l).idxOf x))):=⟨by unfold Di.enc;rw[Ng hl0]⟩
  have hn0:¬(n:Int)=0:=by have:=hln.1;omega
  rw[he.1];clear he hl0;generalize Di.fe l=d at*;obtain⟨K,hK⟩:∃K,d.length=K:=⟨_,rfl⟩
  rw[hK]at D0 hk hd0⊢;have HK:=Aj hK;obtain⟨K1,hK1⟩:∃K1,K1=K-1:=⟨_,rfl⟩
  rw[←hK1];have hki:(K:Int)-1=(K1:Int):=om;have hku:IntKind.u64.wrap (K1:Int)=(K1:Int):=by rw[Bv];omega
  have ajp:¬(128:Int)< (K:Int):=om;have W0:=Aj (fun w=>qj K om w);have hv7:Di.ng K≤7:=Di.Kk hk;generalize Di.ng K=v at*;have WB1:=Aj (fun(w1:World) (h1:fJ w1 base p bs)=>cB base p K1 7 bs w1 h1 om om om);clear h hr hx hK hK1;go_enter func222,ntmps222;go_wp2_with (first
   |(go_at_call 191;refine(WB1.1 w1 H1.1).mono ?_;rintro e w2 ⟨rfl,h2,k2⟩;have H2:=Aj h2;have K2:=Aj ((Wk.of B1.1 om).trans k2);have O2:=Aj (O1.1.wk k2 mq);clear h2 k2)
   |(go_at_call 261;refine D0.1.mono ?_;rintro e w1 ⟨A2,c2,rfl,ho,hb⟩;have B1:=Aj hb;have O1:=Aj ho;have H1:=Aj (H0.1.aZ hb);clear ho hb))
  clear H0 H1 O1 B1 D0 WB1;have NV:=O2.1.rd.1;have hcm2:=O2.1.rd.2.1;unfold maxLen at hcm2;go_loopw [33] (fun i wr=>∃k:Nat,k≤K∧i= .int .i64 (k:Int)∧fJ wr base p (bs++Bt.bw 7 K1++(d.take k).flatMap (Bt.bw 64))∧Wk base p w wr∧aJ wr w.heap.size A2 K c2 d) (fun i _=>K-(intOf i).toNat)
  case atStart=>exact⟨0,bH _,rfl,by simpa using H2.1,K2.1,O2.1⟩
  case round=>
   clear H2 K2 O2;obtain⟨k,hkK,rfl,h3,k3,o3⟩:=hrel;by_cases hlt:k<K
   ·have hlt':(k:Int)< (K:Int):=by omega
    have hkd:k<d.length:=by have:=HK.1;omega
    obtain⟨bb,off,rfl,kK,hc0⟩:=o3.rd.at_ hkd;have hxk:=Nz.1 _ (gG hkd);have hbl:(bs++Bt.bw 7 K1++(d.take k).flatMap (Bt.bw 64)).length≤1000000000:=by
     rw[La,La,Bt.aj,MS,oV];omega
    have WB:=Aj (cB base p d[k] 64 _ wr h3 hxk om hbl);have HKx:=Aj k3;have HO3:=Aj o3;have htk:Kept ((d.take (k+1)).flatMap (Bt.bw 64)=(d.take k).flatMap (Bt.bw 64)++Bt.bw 64 d[k]):=⟨by rw[Ts hkd,pz];simp⟩
    generalize d[k]=x at*;clear h3 k3 o3 hbl;go_wp2_with (go_at_call 191;refine WB.1.mono ?_;rintro e w4 ⟨rfl,h4,k4⟩;have H4:=Aj h4;have K4:=Aj (HKx.1.trans k4);have O4:=Aj (HO3.1.wk k4 mq);clear h4 k4);go_roundw
    case rel=>exact⟨k+1,om,by go_num,by rw[htk.1,←Af];exact H4.1,K4.1,O4.1⟩
    case measure=>simp[intOf];omega
   ·obtain rfl:k=K:=by omega
    have htk:d.take k=d:=iM (by rw[HK.1];exact Nr _);rw[htk]at h3;have H3:=Aj h3;have K3:=Aj k3;have O3:=Aj o3;clear h3 k3 o3 htk;go_wp2;go_loopw [43] (fun i wr=>∃j:Nat,j≤n∧i= .int .i64 (j:Int)∧fJ wr base p (bs++Bt.bw 7 K1++d.flatMap (Bt.bw 64)++(l.take j).flatMap fun x=>Bt.bw v (d.idxOf x))∧Wk base p w wr∧aJ wr w.heap.size A2 k c2 d) (fun i _=>n-(intOf i).toNat)
    case atStart=>exact⟨0,bH _,rfl,by simpa using H3.1,K3.1,O3.1⟩
    case round=>
     clear H3 K3 O3;obtain⟨j,hjn,rfl,h5,k5,o5⟩:=hrel;by_cases hjl:j<n
     ·have agI:(j:Int)< (n:Int):=by omega
      have hjd:j<l.length:=by have:=hln.1;omega
      obtain⟨bb,off,rfl,kK,hc0⟩:=(R0.1.below (k5.aZ.mono hB)).at_ hjd;have hq:d.idxOf l[j]<d.length:=List.idxOf_lt_length_of_mem ((hmem.1 _).2 (gG hjd));have hxq:l[j]=d[d.idxOf l[j]]:=(List.getElem_idxOf hq).symm;have BS:=Aj (GZ A2 k c2 wr.heap.size (d.idxOf l[j]) l[j] d wr o5.rd Ai hq hxq hup.1 om);have hbl:(bs++Bt.bw 7 K1++d.flatMap (Bt.bw 64)++(l.take j).flatMap fun x=>Bt.bw v (d.idxOf x)).length≤1000000000:=by
       rw[La,La,La,Bt.aj,MS,TY,oV,HK.1];have:v*min j l.length≤7*1000000:=Nat.mul_le_mul hv7 om;omega
      have hqK:d.idxOf l[j]<k:=by rw[←HK.1];exact hq
      have WB:=Aj (fun m=>cB base p (d.idxOf l[j]) v _ (wr.drewN m) (show fJ (wr.drewN m) base p _ from h5) om om hbl);have K5:=Aj k5;have O5:=Aj o5;have htk:Kept (((l.take (j+1)).flatMap fun x=>Bt.bw v (d.idxOf x))=((l.take j).flatMap fun x=>Bt.bw v (d.idxOf x))++Bt.bw v (d.idxOf l[j])):=⟨by rw[Ts hjd,pz];simp⟩
      clear hxq hq hbl h5 k5 o5;generalize d.idxOf l[j]=q at*;generalize l[j]=x at*;have hqu:IntKind.u64.wrap (q:Int)=(q:Int):=by rw[Bv];omega
      go_wp2_with (first
       |(go_at_call 263;refine BS.1.mono ?_;rintro e w6 ⟨rfl,m,rfl⟩)
       |(go_at_call 262;refine(W0.1 _).mono ?_;rintro e w6 ⟨rfl,rfl⟩)
       |(go_at_call 191;refine(WB.1 _).mono ?_;rintro e w7 ⟨rfl,h7,k7⟩;have H7:=Aj h7;have K7:=Aj ((K5.1.dr m).trans k7);have O7:=Aj (aJ.wk (show aJ (wr.drewN m) _ _ _ _ _ from O5.1) k7 mq);clear h7 k7))
      go_roundw
      case rel=>exact⟨j+1,om,by go_num,by rw[htk.1,←Af];exact H7.1,K7.1,O7.1⟩
      case measure=>simp[intOf];omega
     ·obtain rfl:j=n:=by omega
      have htl:l.take j=l:=iM (by have:=hln.1;omega);rw[htl]at h5;have H5:=Aj h5;have K5:=Aj k5;clear h5 k5 o5 htl;go_wp2;go_ret;exact⟨rfl,by rw[←Af,←Af];exact H5.1,K5.1⟩
theorem T9:(prog.info? 2).map (fun i=>(i.zero,i.size,i.bytes))=some (some (.int .i64 0),1,8):=kr
theorem Ua:(prog.info? 125).map (fun i=>(i.zero,i.size,i.bytes))=some (some (.int .u64 0),1,8):=kr
theorem MU (n:Nat) (hn:n≤1000000) (w):(Instr.makeSlice 281 (.int .i64 n) (.int .i64 n)).run prog w= .ok (.slice (some ⟨w.heap.size,0,none⟩) n n) (w.alloc (.cells (madeCells #[.int .i64 0] n) 2)):=by
 obtain⟨i0,hi0,hz0,hz1,hz2⟩:=AV T9;have:=Eb (P:=prog) w 281 2 i0 (.int .i64 0) underlying281 hi0 hz0 .i64 .i64 (n:Int) (n:Int) om om (by rw[hz1];simp;omega) (by rw[hz2];omega) om;rw[hz1]at this;simpa[Value.cells]using this
theorem MW (n:Nat) (hn:n≤1000000) (w):(Instr.makeSlice 284 (.int .i64 n) (.int .i64 n)).run prog w= .ok (.slice (some ⟨w.heap.size,0,none⟩) n n) (w.alloc (.cells (madeCells #[.int .u64 0] n) 125)):=by
 obtain⟨i0,hi0,hz0,hz1,hz2⟩:=AV Ua;have:=Eb (P:=prog) w 284 125 i0 (.int .u64 0) underlying284 hi0 hz0 .i64 .i64 (n:Int) (n:Int) om om (by rw[hz1];simp;omega) (by rw[hz2];omega) om;rw[hz1]at this;simpa[Value.cells]using this
theorem fB.zeros (w:World) (n base) (hn:n≤1000000) (hb:base≤w.heap.size):fB (w.alloc (.cells (madeCells #[.int .i64 0] n) 2)) base (some ⟨w.heap.size,0,none⟩) n n (List.replicate n 0):=by
 obtain⟨i0,hi0,hz0,hz1,hz2⟩:=AV T9;obtain⟨w',h1,h2,-⟩:=run_make_full (P:=prog) w base 281 2 i0 (.int .i64 0) 1 underlying281 hi0 hz0 hz1 .i64 .i64 n (by rw[hz2];omega) (by unfold maxLen;omega) hb;rw[MU n hn w]at h1
 injection h1 with _ h1
 subst h1;rw[C8,show(Value.int .i64 0).cells= #[Value.int .i64 0]from rfl,toList_madeCells_one]at h2;have e:yG (List.replicate n 0)=List.replicate n (Value.int .i64 0):=by simp[yG,tv]
 unfold fB;rw[e];exact h2
theorem aJ.zeros (w:World) (n base) (hn:n≤1000000) (hb:base≤w.heap.size):aJ (w.alloc (.cells (madeCells #[.int .u64 0] n) 125)) base (some ⟨w.heap.size,0,none⟩) n n (List.replicate n 0):=by
 obtain⟨i0,hi0,hz0,hz1,hz2⟩:=AV Ua;obtain⟨w',h1,h2,-⟩:=run_make_full (P:=prog) w base 284 125 i0 (.int .u64 0) 1 underlying284 hi0 hz0 hz1 .i64 .i64 n (by rw[hz2];omega) (by unfold maxLen;omega) hb;rw[MW n hn w]at h1
 injection h1 with _ h1
 subst h1;rw[C8,show(Value.int .u64 0).cells= #[Value.int .u64 0]from rfl,toList_madeCells_one]at h2;have e:vK (List.replicate n 0)=List.replicate n (Value.int .u64 0):=by simp[vK,uv]
 unfold aJ;rw[e];exact h2
def wS {X:Type} (xs:List X) (d:X) (k n:Nat):List X:=xs.take k++List.replicate (n-k) d
theorem uZ {X} (xs:List X) (d n):wS xs d 0 n=List.replicate n d:=by simp[wS]
theorem MX {X} (xs:List X) (d n) (h:n=xs.length):wS xs d n n=xs:=by subst h;simp[wS]
theorem zP {X:Type} (xs:List X) (d:X) (k n:Nat) (hk:k<n) (h:n=xs.length):(wS xs d k n).set k (xs[k]'om)=wS xs d (k+1) n:=by
 unfold wS;rw[List.set_append_right _ _ (by rw[oV];omega),oV,Nat.min_eq_left om,Dy];obtain⟨m,hm⟩:∃m,n-k=m+1:=⟨n-k-1,om⟩
 rw[hm,List.replicate_succ,Aq,Ts (show k<xs.length from om),show n-(k+1)=m from om,Af]
 rfl
theorem gV.agU {w B n c k A l} (h:gV w B A n c l) (hB:B≤w.heap.size) (hk:k<l.length):
  ∃b off,A=some ⟨b,off,none⟩∧∀W,Below w.heap.size w W→W.cell? ⟨b,off+k*2,none⟩=some (.int .i64 l[k].1)∧W.cell? ⟨b,off+k*2+1,none⟩=some (.int .u64 (l[k].2:Int)):=by
 obtain⟨b,off,e,hb,h1,h2⟩:=h.at_ hk;exact⟨b,off,e,fun W hW=>⟨(hW.cell (p:=⟨b,_,none⟩) (by show b<_;omega)).trans h1,(hW.cell (p:=⟨b,_,none⟩) (by show b<_;omega)).trans (by rw[fA];exact h2)⟩⟩
theorem Ub (a b c w):(Instr.field 290 (.agg #[a,b,c]) 1).run prog w= .ok b w:=kr
theorem ady (a b c w):(Instr.field 290 (.agg #[a,b,c]) 2).run prog w= .ok c w:=kr
theorem zQ {w:World} {b1 b2 sz n c A xs e} (h:w.ownsRow b1 e sz (.slice A n c) n xs) (hb:b2≤b1):w.ownsRow b2 e sz (.slice A n c) n xs:=
 ⟨h.1,h.2.imp id fun⟨g,cap,cur,h1,h2,h3⟩=>⟨g,cap,cur,h1,om,h3⟩⟩
structure Gl (w:World):Prop where
 frm:qh w
 dbj:wQ w
 tab:gD w
 dlt:2<w.heap.size
theorem Gl.below {w w'} (h:Gl w) (hb:Below w.heap.size w w'):Gl w':=⟨h.frm.below hb,h.dbj.aZ hb h.dlt,h.tab.below hb,j6 h.dlt hb.size⟩
theorem Ib (A n c B) (l:Cs.gH) (w) (hv:gV w B A n c l) (hB:B≤w.heap.size) (hin:Cs.In l) (h1:1≤n) (h2:n≤120) (hG:Gl w):
  Calls prog 140 #[.slice A n c] w fun e w'=>∃A2 n2 c2,e= .returned (.tuple #[.slice A2 n2 c2,.int .i64 0])∧ah w' w.heap.size A2 n2 c2 (Ck.enc l)∧Below w.heap.size w w':=by
 have hlc:=hv.1;have hcm:=hv.2.1;unfold maxLen at hcm;have Hv:=Aj hv;have hn:=Aj hv.len;have HI:=Aj hin;have HG:=Aj hG;have m1:=fun W=>MU n om W
 have m2:=fun W=>MW n om W
 have z1:((n:Int)==0)=false:=by simp;omega
 have z2:¬(120:Int)< (n:Int):=om;clear hv hin hG;go_enter func140,ntmps140;go_upto_region 6 with fail;go_cut [5,6] (fun t v W=>∃gt gv:Nat,t= .slice (some ⟨gt,0,none⟩) n n∧v= .slice (some ⟨gv,0,none⟩) n n∧gt≠gv∧fB W w.heap.size (some ⟨gt,0,none⟩) n n (List.replicate n 0)∧aJ W w.heap.size (some ⟨gv,0,none⟩) n n (List.replicate n 0)∧Below w.heap.size w W)
 case first=>
  go_region
  ·go_wp2_with fail;go_meet;refine⟨w.heap.size,w.heap.size+1,rfl,rfl,om,Oa (fB.zeros w n _ om Ai) _,?_,(((Ae _ w).alloc Ai _).alloc sm _).drew⟩;have:=aJ.zeros (w.alloc (.cells (madeCells #[.int .i64 0] n) 2)) n w.heap.size om sm;have Ic:=this;rw[show(w.alloc (.cells (madeCells #[Value.int .i64 0] n) 2)).heap.size=w.heap.size+1 from sm]at Ic;exact Ic
  ·go_wp2_with fail;go_meet;refine⟨w.heap.size+1,w.heap.size,rfl,rfl,om,?_,Oa (aJ.zeros w n _ om Ai) _,(((Ae _ w).alloc Ai _).alloc sm _).drew⟩;have:=fB.zeros (w.alloc (.cells (madeCells #[.int .u64 0] n) 125)) n w.heap.size om sm;have Ic:=this;rw[show(w.alloc (.cells (madeCells #[Value.int .u64 0] n) 125)).heap.size=w.heap.size+1 from sm]at Ic;exact Ic
 case rest=>
  rename World=>wc
  obtain⟨gt,gv,rfl,rfl,hne,oT,oU,hb⟩:=hcut;have OT:=Aj oT;have OU:=Aj oU;have HB:=Aj hb;clear m1 m2 oT oU hb z1 z2;go_wp2;go_loopw [27] (fun i wr=>∃k:Nat,k≤n∧i= .int .i64 k∧fB wr w.heap.size (some ⟨gt,0,none⟩) n n (wS (l.map (·.1)) 0 k n)∧aJ wr w.heap.size (some ⟨gv,0,none⟩) n n (wS (l.map (·.2)) 0 k n)∧Below w.heap.size w wr) (fun i _=>n-(intOf i).toNat)
  case atStart=>exact⟨0,om,rfl,by rw[uZ];exact OT.1,by rw[uZ];exact OU.1,HB.1⟩
  case round=>
   clear OT OU HB;obtain⟨k,hk,rfl,oT,oU,hb⟩:=hrel;by_cases hlt:k<n
   ·have hkl:k<l.length:=by rw[←hn.1];exact hlt
    obtain⟨b,off,rfl,hc⟩:=gV.agU Hv.1 hB hkl;obtain⟨c0,c1⟩:=hc wr hb;have fT:=zP (l.map (·.1)) 0 k n hlt (by rw[fM];exact hn.1);have fU:=zP (l.map (·.2)) 0 k n hlt (by rw[fM];exact hn.1);rw[Ey]at fT fU;have lT:k< (wS (l.map (·.1)) 0 k n).length:=by rw[←oT.len];exact hlt
    have lU:k< (wS (l.map (·.2)) 0 k n).length:=by rw[←oU.len];exact hlt
    have FT:=Aj fT;have FU:=Aj fU;have kK:=Aj hb;have gtl:=(ae oT gt rfl).2;have gvl:=(ae oU gv rfl).2;have hz:=hb.size;have OT:=Aj oT;have OU:=Aj oU;have ZS:=Aj (by decide:True);clear hc fT fU;generalize l[k]=x at*;go_upto_region 10 with fail;have oT1:fB (wr.alloc (.cells #[.int .i64 x.1,.int .u64 (x.2:Int)] 127)) w.heap.size (some ⟨gt,0,none⟩) n n (wS (l.map (·.1)) 0 k n):=Oa oT _;have oU1:aJ (wr.alloc (.cells #[.int .i64 x.1,.int .u64 (x.2:Int)] 127)) w.heap.size (some ⟨gv,0,none⟩) n n (wS (l.map (·.2)) 0 k n):=Oa oU _;have hb1:=hb.alloc hz (.cells #[.int .i64 x.1,.int .u64 (x.2:Int)] 127);have hrow:=Av wr (.cells #[.int .i64 x.1,.int .u64 (x.2:Int)] 127);have t0:=Co _ _ 0 _ _ _ hrow;have t1:=Co _ _ 1 _ _ _ hrow;have gbl:gt≠wr.heap.size∧gv≠wr.heap.size:=⟨om,om⟩
    clear oT oU hb c0 c1 hrow;generalize wr.alloc (.cells #[.int .i64 x.1,.int .u64 (x.2:Int)] 127)=wa at*;generalize wr.heap.size=gb at*;obtain⟨a0,a1⟩:=oT1.at_ lT;obtain⟨b0,b1⟩:=oU1.at_ lU;have OT1:=Aj oT1;have OU1:=Aj oU1;have HB1:=Aj hb1;generalize (wS (l.map (·.1)) 0 k n)[k]=va at a0;generalize (wS (l.map (·.2)) 0 k n)[k]=vb at b0;clear oT1 oU1 hb1 lT lU;go_region;have adB:=au wa ⟨gt,k,none⟩ (.int .i64 x.1);have Uc:=au (wa.setCell ⟨gt,k,none⟩ (.int .i64 x.1)) ⟨gv,k,none⟩ (.int .u64 (x.2:Int));have TF:fB ((wa.setCell ⟨gt,k,none⟩ (.int .i64 x.1)).setCell ⟨gv,k,none⟩ (.int .u64 (x.2:Int))) w.heap.size (some ⟨gt,0,none⟩) n n (wS (l.map (·.1)) 0 (k+1) n):=by
     have h1:=OT1.1.set k x.1;rw[FT.1]at h1;exact ag h1 Uc (.inr (fun e=>hne (Oj e)))
    have UF:aJ ((wa.setCell ⟨gt,k,none⟩ (.int .i64 x.1)).setCell ⟨gv,k,none⟩ (.int .u64 (x.2:Int))) w.heap.size (some ⟨gv,0,none⟩) n n (wS (l.map (·.2)) 0 (k+1) n):=by
     have h1:aJ (wa.setCell ⟨gt,k,none⟩ (.int .i64 x.1)) w.heap.size (some ⟨gv,0,none⟩) n n (wS (l.map (·.2)) 0 k n):=ag OU1.1 adB (.inr (fun e=>hne (Oj e).symm));have h2:=h1.set k x.2;rw[FU.1]at h2;exact h2
    have BF:Below w.heap.size w ((wa.setCell ⟨gt,k,none⟩ (.int .i64 x.1)).setCell ⟨gv,k,none⟩ (.int .u64 (x.2:Int))):=(HB1.1.setCell (ae OT1.1 gt rfl).1 _).setCell (ae OU1.1 gv rfl).1 _;have KTF:=Aj TF;have KUF:=Aj UF;have KBF:=Aj BF;clear adB Uc TF UF BF;go_wp2;go_roundw
    case rel=>exact⟨k+1,om,by go_num,KTF.1,KUF.1,KBF.1.drew⟩
    case measure=>simp[intOf];omega
   ·obtain rfl:k=n:=by omega
    rw[MX _ _ k (by rw[fM];exact hn.1)]at oT oU;have RT:=Aj oT.rd;have RU:=Aj oU.rd;have HB2:=Aj hb;have kP:=hb.size;have GW:Gl wr:=by
     have h1:=hb.mono Ai;exact HG.1.below h1
    have hxs:∀y∈l.map (·.2),y<2^64:=fun y hy=>by
     obtain⟨q,hq,rfl⟩:=bY.1 hy;exact(HI.1 q hq).2
    have hts:∀y∈l.map (·.1),Tm.In y:=fun y hy=>by
     obtain⟨q,hq,rfl⟩:=bY.1 hy;exact(HI.1 q hq).1
    have hdk:(Di.fe (l.map (·.2))).length≤128:=by
     have h1:=Ck.Jz (l.map (·.2));have h2:=hn.1;rw[fM]at h1;omega
    have CH:=uY (some ⟨gv,0,none⟩) k k wr.heap.size (l.map (·.2)) wr RU.1 Ai hxs om GW.dbj GW.dlt;have htr:=Ck.tO (l.map (·.2));have hcb:Kept (Ck.enc l=Ck.pk ((((([]:List Bool)++Bt.bw 8 (Ck.choose (l.map (·.2))))++Bt.bw 8 (k-1))++Tm.enc (l.map (·.1)))++Ck.vals (Ck.choose (l.map (·.2))) (l.map (·.2)))):=⟨by
     unfold Ck.enc Ck.cb;rw[←hn.1];simp only[AA,Af]⟩
    have hlT:(Tm.enc (l.map (·.1))).length≤100000:=by
     have h1:=Ck.YJ (l.map (·.1));have h2:=hn.1;rw[fM]at h1;omega
    have PT:Kept (∀(w1:World) (bs:List Bool) (W:World),Below wr.heap.size wr w1→bs.length≤1000→fJ W w1.heap.size w1.heap.size bs→Below w1.heap.size w1 W→Calls prog 192 #[.pointer (some ⟨w1.heap.size,0,none⟩),.slice (some ⟨gt,0,none⟩) k k] W fun e w'=>e= .returned (.int .i64 0)∧fJ w' w1.heap.size w1.heap.size (bs++Tm.enc (l.map (·.1)))∧Below w1.heap.size w1 w'):=⟨fun w1 bs W hb1 hl hw hbW=>by
     have hc:=hb1.trans (hbW.mono hb1.size);exact(TK _ _ wr.heap.size bs _ k k (l.map (·.1)) W hw (RT.1.below hc) hb1.size (GW.below hc).frm (j6 GW.frm.lt hb1.size) hts om om).mono fun _ _ q=>⟨q.1,q.2.1,hbW.trans q.2.2.aZ⟩⟩
    have PV:Kept (∀(w1:World) (bs:List Bool) (W:World),Below wr.heap.size wr w1→bs.length≤200000→fJ W w1.heap.size w1.heap.size bs→Below w1.heap.size w1 W→Calls prog (if Ck.choose (l.map (·.2))=1 then 216 else if Ck.choose (l.map (·.2))=2 then 219 else 222) #[.pointer (some ⟨w1.heap.size,0,none⟩),.slice (some ⟨gv,0,none⟩) k k] W fun e w'=>e= .returned (.int .i64 0)∧fJ w' w1.heap.size w1.heap.size (bs++Ck.vals (Ck.choose (l.map (·.2))) (l.map (·.2)))∧Below w1.heap.size w1 w'):=⟨fun w1 bs W hb1 hl hw hbW=>by
     have hc:=hb1.trans (hbW.mono hb1.size);unfold Ck.vals;split
     ·exact(TV _ _ wr.heap.size bs _ k k _ W hw (RU.1.below hc) hb1.size hxs om om (GW.below hc).dbj (j6 GW.dlt hb1.size)).mono fun _ _ q=>⟨q.1,q.2.1,hbW.trans q.2.2.aZ⟩
     ·split
      ·exact(TN _ _ wr.heap.size bs _ k k _ W hw (RU.1.below hc) hb1.size hxs om om).mono fun _ _ q=>⟨q.1,q.2.1,hbW.trans q.2.2.aZ⟩
      ·exact(TZ _ _ wr.heap.size bs _ k k _ W hw (RU.1.below hc) hb1.size hxs hdk om om).mono fun _ _ q=>⟨q.1,q.2.1,hbW.trans q.2.2.aZ⟩⟩
    have hvl:(Ck.vals (Ck.choose (l.map (·.2))) (l.map (·.2))).length≤100000:=by
     have h1:=Ck.LW (l.map (·.2));have h2:=Ck.YK (l.map (·.2));have h3:=hn.1;rw[fM]at h2;omega
    have BW:Kept (∀(w1:World) (x:Nat) (bs:List Bool) (W:World),x<1000→bs.length≤1000→fJ W w1.heap.size w1.heap.size bs→Below w1.heap.size w1 W→Calls prog 191 #[.pointer (some ⟨w1.heap.size,0,none⟩),.int .u64 (x:Int),.int .i64 8] W fun e w'=>e= .returned (.int .i64 0)∧fJ w' w1.heap.size w1.heap.size (bs++Bt.bw 8 x)∧Below w1.heap.size w1 w'):=⟨fun w1 x bs W hx hl hw hbW=>(cB _ _ x 8 bs W hw om om om).mono fun _ _ q=>⟨q.1,q.2.1,hbW.trans q.2.2.aZ⟩⟩
    have KCH:=Aj CH;have hkm:(k:Int)-1=((k-1:Nat):Int):=om;have hkw:IntKind.u64.wrap ((k-1:Nat):Int)=((k-1:Nat):Int):=by rw[Bv];omega
    have EC:=Aj (fun W=>jh W);unfold TW Ph at EC;generalize Ck.choose (l.map (·.2))=tag at*;generalize Ck.vals tag (l.map (·.2))=vb at*;generalize Tm.enc (l.map (·.1))=tb at*;clear CH GW hxs hts hdk oT oU hb;have h3:tag=1∨tag=2∨tag=3:=om;rcases h3 with rfl|rfl|rfl
    have CH1:Kept (Calls prog 181 #[.slice (some ⟨gv,0,none⟩) k k] wr fun r w'=>r= .returned (.int .i64 1)∧Below wr.heap.size wr w'):=⟨KCH.1⟩
    have BW1:Kept (∀(w1 W:World),fJ W w1.heap.size w1.heap.size []→Below w1.heap.size w1 W→Calls prog 191 #[.pointer (some ⟨w1.heap.size,0,none⟩),.int .u64 1,.int .i64 8] W fun e w'=>e= .returned (.int .i64 0)∧fJ w' w1.heap.size w1.heap.size ([]++Bt.bw 8 1)∧Below w1.heap.size w1 w'):=⟨fun w1 W h1 h2=>BW.1 w1 1 [] W om sm h1 h2⟩
    have PV1:Kept (∀(w1:World) (bs:List Bool) (W:World),Below wr.heap.size wr w1→bs.length≤200000→fJ W w1.heap.size w1.heap.size bs→Below w1.heap.size w1 W→Calls prog 216 #[.pointer (some ⟨w1.heap.size,0,none⟩),.slice (some ⟨gv,0,none⟩) k k] W fun e w'=>e= .returned (.int .i64 0)∧fJ w' w1.heap.size w1.heap.size (bs++vb)∧Below w1.heap.size w1 w'):=⟨PV.1⟩
    have ix:=fun W=>aaI W
    have fl:=fun W=>Ub (.func (.func 215) #[] #[]) (.func (.func 216) #[] #[]) (.func (.func 217) #[] #[]) W
    rotate_left
    have CH1:Kept (Calls prog 181 #[.slice (some ⟨gv,0,none⟩) k k] wr fun r w'=>r= .returned (.int .i64 2)∧Below wr.heap.size wr w'):=⟨KCH.1⟩
    have BW1:Kept (∀(w1 W:World),fJ W w1.heap.size w1.heap.size []→Below w1.heap.size w1 W→Calls prog 191 #[.pointer (some ⟨w1.heap.size,0,none⟩),.int .u64 2,.int .i64 8] W fun e w'=>e= .returned (.int .i64 0)∧fJ w' w1.heap.size w1.heap.size ([]++Bt.bw 8 2)∧Below w1.heap.size w1 w'):=⟨fun w1 W h1 h2=>BW.1 w1 2 [] W om sm h1 h2⟩
    have PV1:Kept (∀(w1:World) (bs:List Bool) (W:World),Below wr.heap.size wr w1→bs.length≤200000→fJ W w1.heap.size w1.heap.size bs→Below w1.heap.size w1 W→Calls prog 219 #[.pointer (some ⟨w1.heap.size,0,none⟩),.slice (some ⟨gv,0,none⟩) k k] W fun e w'=>e= .returned (.int .i64 0)∧fJ w' w1.heap.size w1.heap.size (bs++vb)∧Below w1.heap.size w1 w'):=⟨PV.1⟩
    have ix:=fun W=>aaJ W
    have fl:=fun W=>Ub (.func (.func 218) #[] #[]) (.func (.func 219) #[] #[]) (.func (.func 220) #[] #[]) W
    rotate_left
    have CH1:Kept (Calls prog 181 #[.slice (some ⟨gv,0,none⟩) k k] wr fun r w'=>r= .returned (.int .i64 3)∧Below wr.heap.size wr w'):=⟨KCH.1⟩
    have BW1:Kept (∀(w1 W:World),fJ W w1.heap.size w1.heap.size []→Below w1.heap.size w1 W→Calls prog 191 #[.pointer (some ⟨w1.heap.size,0,none⟩),.int .u64 3,.int .i64 8] W fun e w'=>e= .returned (.int .i64 0)∧fJ w' w1.heap.size w1.heap.size ([]++Bt.bw 8 3)∧Below w1.heap.size w1 w'):=⟨fun w1 W h1 h2=>BW.1 w1 3 [] W om sm h1 h2⟩
    have PV1:Kept (∀(w1:World) (bs:List Bool) (W:World),Below wr.heap.size wr w1→bs.length≤200000→fJ W w1.heap.size w1.heap.size bs→Below w1.heap.size w1 W→Calls prog 222 #[.pointer (some ⟨w1.heap.size,0,none⟩),.slice (some ⟨gv,0,none⟩) k k] W fun e w'=>e= .returned (.int .i64 0)∧fJ w' w1.heap.size w1.heap.size (bs++vb)∧Below w1.heap.size w1 w'):=⟨PV.1⟩
    have ix:=fun W=>aaK W
    have fl:=fun W=>Ub (.func (.func 221) #[] #[]) (.func (.func 222) #[] #[]) (.func (.func 223) #[] #[]) W
    rotate_left
    all_goals
     clear KCH PV;go_wp2_with (first
      |(go_at_call 193;refine(Ke _ _ _ w7 S7.1 (by have:=hvl;have:=hlT;simp only[La,Bt.aj,Ba];omega)).mono ?_;rintro e w8 ⟨A8,n8,c8,rfl,h1,h2⟩;have O8:=Aj h1;have B8:=Aj h2;clear h1 h2)
      |((first|go_at_call 216|go_at_call 219|go_at_call 222);refine(PV1.1 w1 _ w6 B1.1 (by have:=hlT;simp only[La,Bt.aj,Ba];omega) (S5.1.aZ B6.1) (B5.1.trans (B6.1.mono B5.1.size))).mono ?_;rintro e w7 ⟨rfl,h1,h2⟩;have S7:=Aj h1;have B7:=Aj h2;clear h1 h2)
      |(go_at_call 179;refine(EC.1 w5).mono ?_;rintro e w6 ⟨rfl,h1⟩;have B6:=Aj h1;clear h1)
      |(go_at_call 192;refine(PT.1 w1 _ w4 B1.1 (by simp only[La,Bt.aj,Ba];omega) S4.1 B4.1).mono ?_;rintro e w5 ⟨rfl,h1,h2⟩;have S5:=Aj h1;have B5:=Aj h2;clear h1 h2)
      |(go_at_call 191;refine(BW.1 w1 (k-1) _ w3 om (by simp only[La,Bt.aj,Ba];omega) S3.1 B3.1).mono ?_;rintro e w4 ⟨rfl,h1,h2⟩;have S4:=Aj h1;have B4:=Aj h2;clear h1 h2)
      |(go_at_call 191;refine(BW1.1 w1 w2 S2.1 B2.1).mono ?_;rintro e w3 ⟨rfl,h1,h2⟩;have S3:=Aj h1;have B3:=Aj h2;clear h1 h2)
      |(go_at_call 190;refine(wN w1).mono ?_;rintro e w2 ⟨rfl,h1,h2⟩;have S2:=Aj h1;have B2:=Aj h2;clear h1 h2)
      |(go_at_call 181;refine CH1.1.mono ?_;rintro e w1 ⟨rfl,h1⟩;have B1:=Aj h1;clear h1 CH1))
     go_ret2;have z1:=HB2.1.size;have z2:=B1.1.size;have z3:=B7.1.size;refine⟨A8,n8,c8,rfl,?_,((HB2.1.trans (B1.1.mono z1)).trans (B7.1.mono om)).trans (B8.1.mono om)⟩;rw[hcb.1];exact zQ O8.1 om
end Go.Proofs.YtongopommlghgaaGreatDoor
