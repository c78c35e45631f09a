/- Part 26. -/
import Derived.Test.YtjcpmfphnodaaaaGreatDoorZYAY
namespace Go.Proofs.YtjcpmfphnodaaaaGreatDoor
set_option maxRecDepth 100000
set_option maxHeartbeats 0
open _root_.Go.Proofs.Tryz
open Go.RowKit Go.Shelf
def Wn (w:World) (g k:Nat) (c:Nat×Nat):Prop:=w.cell? ⟨g,k,none⟩=some (.int .i64 (c.1:Int))∧w.cell? ⟨g,k+1,none⟩=some (.int .i64 (c.2:Int))
theorem Wn.gr {w w' g k c} (h:Wn w g k c) (hg:Gr w w') (hl:g<w.heap.size):Wn w' g k c:=⟨(hg.cell g k hl).trans h.1,(hg.cell g (k+1) hl).trans h.2⟩
theorem Wn.lt {w g k c} (h:Wn w g k c):g<w.heap.size:=Bc w ⟨g,k,none⟩ h.1
theorem Wn.mv {w w' g k c} (h:Wn w g k c) (hg:Gr w w'):Wn w' g k c:=h.gr hg h.lt
theorem Gu (g x:Nat) (c) (hx:x<18446744073709551616) (h0:x≠0) (hc:Xo.Cw c) (w) (hT:wB w) (hg:2<w.heap.size) (hw:Wn w g 1 c) (hl:g<w.heap.size):
  Calls prog 280 #[.pointer (some ⟨g,0,none⟩),.int .u64 (x:Int)] w fun e w'=>e= .returned (.bool (Xo.fits c x))∧Gr w w':=by
 have WO:=Aj (jX x hx h0 w hT hg);obtain⟨w1,w2,w3,w4,-⟩:=Xo.kU (x:=x) hx h0;have hf:Kept (Xo.fits c x=(c !=(0,0)&& (decide (c.1≤(Xo.win x).1)&&decide (Xo.trail c≤Xo.trail (Xo.win x))))):=⟨rfl⟩
 rw[hf.1];generalize Xo.win x=v at*;obtain⟨p,q⟩:=v;have T1:=Aj (ib (p,q) w2);unfold wv at WO T1;have HW:=Aj hw;obtain⟨c1,c2⟩:=hw;clear hf hT hx h0 w4;by_cases hcz:c=(0,0)
 ·subst hcz;go_enter func280,ntmps280;go_wp2;go_ret;exact⟨rfl,Gr.refl w⟩
 ·have T2:=Aj (ib c (by rcases hc with h|h;exact absurd h hcz;exact h.2));unfold wv at T2;obtain⟨a,b⟩:=c;simp only[]at*;have hab:¬((a:Int)=0)∨(((a:Int)=0)∧¬((b:Int)=0)):=by
   by_cases h1:a=0
   ·refine .inr ⟨om,fun h2=>hcz ?_⟩;rw[h1,show b=0 from om]
   ·exact .inl om
  have hne:Kept (((a,b) !=((0:Nat),(0:Nat)))=true):=⟨by simpa using hcz⟩
  rcases hab with ha|⟨ha,hb⟩
  all_goals
   go_enter func280,ntmps280;go_wp2_with (go_at_call 279;refine WO.1.mono ?_;rintro e w5 ⟨rfl,g5⟩;have G5:=Aj g5;have L8:=Aj (HW.1.gr g5 hl);clear g5);have k6:Wn (w5.alloc (.cells #[.int .i64 (p:Int),.int .i64 (q:Int)] 368)) w5.heap.size 0 (p,q)∧Wn (w5.alloc (.cells #[.int .i64 (p:Int),.int .i64 (q:Int)] 368)) g 1 (a,b):=
    ⟨⟨Co _ _ 0 _ _ _ (Av w5 _),Co _ _ 1 _ _ _ (Av w5 _)⟩,L8.1.mv ((Gr.refl w5).alloc _)⟩
   have G6:=Aj (G5.1.alloc (.cells #[.int .i64 (p:Int),.int .i64 (q:Int)] 368));generalize w5.alloc (.cells #[.int .i64 (p:Int),.int .i64 (q:Int)] 368)=W6 at*;generalize w5.heap.size=h at*;have MV:=Aj (show∀w1 w2,(Wn w1 h 0 (p,q)∧Wn w1 g 1 (a,b))→Gr w1 w2→(Wn w2 h 0 (p,q)∧Wn w2 g 1 (a,b))from fun w1 w2 k hg=>⟨k.1.mv hg,k.2.mv hg⟩);have T2:=T2
   (try rw[ha]at T2)
   have KP:=Aj k6;unfold Wn at k6 MV KP;simp only[bZ,Nat.reduceAdd]at k6 MV KP;obtain⟨tv,htv⟩:∃tv,Xo.trail (p,q)=tv:=⟨_,rfl⟩
   obtain⟨tc,htc⟩:∃tc,Xo.trail (a,b)=tc:=⟨_,rfl⟩
   rw[htv]at T1;rw[htc]at T2;have HTV:=Aj htv;have HTC:=Aj htc;clear htv htc;clear WO HW c1 c2 hc G5 L8;have hap:(a≤p∧(a:Int)≤(p:Int))∨(¬a≤p∧decide ((a:Int)≤(p:Int))=false):=by
    by_cases h:a≤p
    ·exact .inl ⟨h,om⟩
    ·exact .inr ⟨h,AF om⟩
   rcases hap with⟨hap,afQ⟩|⟨hap,afQ⟩
   ·go_region_held3 (fun w'=>(w'.cell? ⟨h,0,none⟩=some (.int .i64 (p:Int))∧w'.cell? ⟨h,1,none⟩=some (.int .i64 (q:Int)))∧w'.cell? ⟨g,1,none⟩=some (.int .i64 (a:Int))∧w'.cell? ⟨g,2,none⟩=some (.int .i64 (b:Int))) (first|exact k6|exact ka|exact kb)
     (first
      |(go_at_call 278;refine(T1.1 _).mono ?_;rintro e wa ⟨rfl,ga⟩;have ka:=MV.1 _ wa (by first|exact kb|exact k6) ga;have GA:=Aj (show Gr w wa from(by first|exact GB.1.trans ga|exact(G6.1.drew).trans ga));clear ga)
      |(go_at_call 278;refine(T2.1 _).mono ?_;rintro e wb ⟨rfl,gb⟩;have kb:=MV.1 _ wb (by first|exact ka|exact k6) gb;have GB:=Aj (show Gr w wb from(by first|exact GA.1.trans gb|exact(G6.1.drew).trans gb));clear gb))
    all_goals
     go_wp2;go_ret;rw[hne.1];refine⟨?_,(by first|exact GB.1|exact GA.1)⟩;show Ending.returned (Value.bool (decide (tc≤tv)))=_;rw[HTV.1,HTC.1];simp[hap]
   ·first
    |(exfalso;omega)
    |(go_quiet (fail)
      go_wp2;go_ret;rw[hne.1];refine⟨by simp[hap],G6.1.drewN _⟩)
structure Gv (aP:Nat) (cv:Value) (base q:Nat) (J:List Bool→World→Prop):Prop where
 Vs:∀args w,(callFunc aP args).run prog w= .ok (.enter aP args) w
 call:∀(bs:List Bool) (x n:Nat) (w:World),J bs w→x<18446744073709551616→n≤64→bs.length≤100000000→Calls prog aP #[.int .u64 (x:Int),.int .i64 (n:Int),cv] w fun e w'=>e= .returned (.tuple #[])∧J (bs++Bt.bw n x) w'∧Wk base q w w'
 gr:∀bs w w',J bs w→Gr w w'→J bs w'
 set:∀bs w e k v cs fr,J bs w→e≠q→w.heap[e]? =some (.cells cs 397 fr)→J bs (w.setCell ⟨e,k,none⟩ v)
def fo (aP:Nat) (cv:Value):Value:= .func (.func aP) #[] #[cv]
def En (w:World) (e last:Nat) (c:Nat×Nat) (fv:Value):Prop:=w.heap[e]? =some (.cells #[.int .u64 (last:Int),.int .i64 (c.1:Int),.int .i64 (c.2:Int),fv] 397 (0,0))
theorem En.lt {w e last c fv} (h:En w e last c fv):e<w.heap.size:=(Ge.1 h).1
theorem En.wk {w w' e last base q c fv} (h:En w e last c fv) (hk:Wk base q w w') (hq:e≠q):En w' e last c fv:=hk.kept h hq Ah
theorem En.gr {w w' e last c fv} (h:En w e last c fv) (hg:Gr w w'):En w' e last c fv:=(hg.below.block e h.lt).trans h
theorem En.k0 {w e last c fv} (h:En w e last c fv):w.cell? ⟨e,0,none⟩=some (.int .u64 (last:Int))∧w.cell? ⟨e,1,none⟩=some (.int .i64 (c.1:Int))∧w.cell? ⟨e,2,none⟩=some (.int .i64 (c.2:Int))∧w.cell? ⟨e,3,none⟩=some fv:=
 ⟨Co _ _ 0 _ _ _ h,Co _ _ 1 _ _ _ h,Co _ _ 2 _ _ _ h,Co _ _ 3 _ _ _ h⟩
theorem En.f {w e last c fv} (h:En w e last c fv) (k):w.frozen? ⟨e,k,none⟩=false:=Fr _ _ k _ _ h
theorem En.last {w e last c fv} (h:En w e last c fv) (v:Nat):En (w.setCell ⟨e,0,none⟩ (.int .u64 (v:Int))) e v c fv:=by
 unfold En at*;rw[Ag _ e 0 _ _ _ h];rfl
theorem En.win {w e last c fv} (h:En w e last c fv) (d):En ((w.setCell ⟨e,1,none⟩ (.int .i64 (d.1:Int))).setCell ⟨e,2,none⟩ (.int .i64 (d.2:Int))) e last d fv:=by
 unfold En at*;rw[Ag _ e 2 _ _ _ (Ag _ e 1 _ _ _ h)];rfl
structure We (base q e:Nat) (w w':World):Prop where
 aX:Below base w w'
 rest:∀k,k<w.heap.size→k≠q→k≠e→ach w k→w'.heap[k]? =w.heap[k]?
theorem We.refl (base q e w):We base q e w w:=⟨Ae _ _,fun _ _ _ _ _=>rfl⟩
theorem We.afR {base q e w w'} (h:Wk base q w w'):We base q e w w':=⟨h.aX,fun k hk h1 _ h3=>h.rest k hk h1 h3⟩
theorem We.trans {base q e w w1 w2} (h:We base q e w w1) (g:We base q e w1 w2):We base q e w w2:=
 ⟨h.aX.trans g.aX,fun k hk hp he hb=>by
  have e1:=h.rest k hk hp he hb;refine(g.rest k (ku hk h.aX.size) hp he ?_).trans e1;intro cs fr hc;exact hb cs fr (e1.symm.trans hc)⟩
theorem We.gr {base q e w w'} (h:Gr w w') (hb:base≤w.heap.size):We base q e w w':=⟨h.below.mono hb,fun k hk _ _ _=>h.below.block k hk⟩
theorem We.set {base q e} (w k v) (hb:base≤e) (he:e<w.heap.size):We base q e w (w.setCell ⟨e,k,none⟩ v):=
 ⟨(Ae _ _).grown (au w ⟨e,k,none⟩ v) om (fun r h=>by cases h;exact hb),fun j hj _ hje _=>(au w ⟨e,k,none⟩ v).block j hj (fun h=>hje (by cases h;rfl))⟩
structure mq (base q:Nat) (J:List Bool→World→Prop) (fv:Value) (e:Nat) (w0:World) (bs:List Bool) (last:Nat) (c:Nat×Nat) (w:World):Prop where
 j:J bs w
 en:En w e last c fv
 we:We base q e w0 w
theorem mq.Yl {base q aP e last cv J c bs w0 w} (h:mq base q J (fo aP cv) e w0 bs last c w) (O:Gv aP cv base q J) (hq:e≠q) {x n:Nat} (hx:x<18446744073709551616) (hn:n≤64) (hl:bs.length≤100000000):
  Calls prog aP #[.int .u64 (x:Int),.int .i64 (n:Int),cv] w fun r w'=>r= .returned (.tuple #[])∧mq base q J (fo aP cv) e w0 (bs++Bt.bw n x) last c w':=by
 refine(O.call bs x n w h.j hx hn hl).mono ?_;rintro r w' ⟨rfl,hj,hk⟩;exact⟨rfl,hj,h.en.wk hk hq,h.we.trans (We.afR hk)⟩
theorem mq.gr {base q aP e last cv J c bs w0 w w'} (h:mq base q J (fo aP cv) e w0 bs last c w) (O:Gv aP cv base q J) (hb:base≤w0.heap.size) (hg:Gr w w'):mq base q J (fo aP cv) e w0 bs last c w':=
 ⟨O.gr bs w w' h.j hg,h.en.gr hg,h.we.trans (We.gr hg (Lt hb h.we.aX.size))⟩
theorem mq.last {base q aP e last cv J c bs w0 w} (h:mq base q J (fo aP cv) e w0 bs last c w) (O:Gv aP cv base q J) (hq:e≠q) (hb:base≤e) (v):mq base q J (fo aP cv) e w0 bs v c (w.setCell ⟨e,0,none⟩ (.int .u64 (v:Int))):=
 ⟨O.set bs w e 0 _ _ _ h.j hq h.en,h.en.last v,h.we.trans (We.set w 0 _ hb h.en.lt)⟩
theorem mq.win {base q aP e last cv J c bs w0 w} (h:mq base q J (fo aP cv) e w0 bs last c w) (O:Gv aP cv base q J) (hq:e≠q) (hb:base≤e) (d):mq base q J (fo aP cv) e w0 bs last d ((w.setCell ⟨e,1,none⟩ (.int .i64 (d.1:Int))).setCell ⟨e,2,none⟩ (.int .i64 (d.2:Int))):=by
 have h1:(w.setCell ⟨e,1,none⟩ (.int .i64 (d.1:Int))).heap[e]? =some (.cells (#[.int .u64 (last:Int),.int .i64 (c.1:Int),.int .i64 (c.2:Int),fo aP cv].setIfInBounds 1 (.int .i64 (d.1:Int))) 397 (0,0)):=Ag _ e 1 _ _ _ h.en;refine⟨O.set bs _ e 2 _ _ _ (O.set bs w e 1 _ _ _ h.j hq h.en) hq h1,h.en.win d,(h.we.trans (We.set w 1 _ hb h.en.lt)).trans (We.set _ 2 _ hb (by simpa using h.en.lt))⟩
theorem wB.aX {w w' base} (h:wB w) (hb:Below base w w') (hg:2<base):wB w':=fun j hj=>(hb.cell (p:=⟨_,j,none⟩) hg).trans (h j hj)
theorem Su {base q aP e last v:Nat} {cv J c bs w} (O:Gv aP cv base q J) (hJ:J bs w) (hE:En w e last c (fo aP cv)) (hq:e≠q) (hb:base≤e) (hbw:base≤w.heap.size) (hD:wB w) (hD2:2<base)
  (hc:Xo.Cw c) (hv:v<18446744073709551616) (hlast:last<18446744073709551616) (hl:bs.length≤50000000):
  Calls prog 275 #[.pointer (some ⟨e,0,none⟩),.int .u64 (v:Int)] w fun r w'=>r= .returned (.tuple #[])∧mq base q J (fo aP cv) e w (bs++(Xo.put last c v).1) v (Xo.put last c v).2 w':=by
 have S0:mq base q J (fo aP cv) e w bs last c w:=⟨hJ,hE,We.refl _ _ _ _⟩
 have S1:=S0.last O hq hb v;have hent:=O.Vs;obtain⟨x,hx⟩:∃x,v^^^last=x:=⟨_,rfl⟩
 have NV:bits .xor .u64 (v:Int) (last:Int)=(x:Int):=by rw[bits_xor_u64_nat _ _ hv hlast,hx]
 have ma:x<18446744073709551616:=by rw[←hx];exact BJ (n:=64) hv hlast
 have hput:Xo.put last c v=if x=0 then(Bt.bw 1 0,c)else if Xo.fits c x=true then(Bt.bw 2 2++Bt.bw c.2 (x>>>Xo.trail c),c)
   else(Bt.bw 2 3++(Bt.bw 6 (Xo.win x).1++(Bt.bw 6 ((Xo.win x).2-1)++Bt.bw (Xo.win x).2 (x>>>Xo.trail (Xo.win x)))),Xo.win x):=by unfold Xo.put;rw[hx]
 rw[hput];obtain⟨k0,-,-,-⟩:=hE.k0;have f0:=hE.f 0;generalize hW1:w.setCell ⟨e,0,none⟩ (.int .u64 (v:Int))=W1 at S1;have NF:=Aj S1;have HW1:=Aj hW1;have KO:=Aj O;by_cases h0:x=0
 ·subst h0;rw[Ps0 rfl];have OC:=Aj (S1.Yl O hq (x:=0) (n:=1) om om om);have k3:=S1.en.k0.2.2.2;unfold fo at k3;clear hput hx hJ hE S0 S1 O hW1 hD;go_enter func275,ntmps275;go_wp2_with (rw[HW1.1]);refine OC.1.mono ?_;rintro r w2 ⟨rfl,h2⟩;have H2:=Aj h2;clear h2;go_wp2
  (try simp only[Exit.inBlock,Exit.then]);refine Bh (CJ rfl _ _ _) rfl ?_
  exact⟨rfl,H2.1⟩
 ·rw[Ng h0];have hD1:=hD.aX S1.we.aX hD2;have hx0:((x:Int)==0)=false:=by simp;omega
  have hwn:Wn W1 e 1 c:=⟨S1.en.k0.2.1,S1.en.k0.2.2.1⟩
  have FT:=Gu e x c ma h0 hc W1 hD1 (ku hD2 (Lt hbw S1.we.aX.size)) hwn S1.en.lt;by_cases hf:Xo.fits c x=true
  ·rw[Ps0 hf];rw[hf]at FT;have HF:=Aj FT;have hc1:c.1+c.2≤64∧c.2≤64:=by
    rcases hc with h|h
    ·rw[h]at hf;simp[Xo.fits]at hf
    ·omega
   have TR:=Aj (ib c hc1.1);have OA:=Aj (fun(w2:World) (h2:mq base q J (fo aP cv) e w bs v c w2)=>h2.Yl O hq (x:=2) (n:=2) om om om);have hsh:x>>>Xo.trail c<18446744073709551616:=El (by rw[Cj];exact Nat.div_le_self _ _) ma;have WA:((x>>>Xo.trail c:Nat):Int)=(x:Int)/2^ (Xo.trail c):=by rw[Cj];simp
   have OB:=Aj (show∀(w2:World) (h2:mq base q J (fo aP cv) e w (bs++Bt.bw 2 2) v c w2),Calls prog aP #[.int .u64 ((x:Int)/2^ (Xo.trail c)),.int .i64 (c.2:Int),cv] w2 fun r w'=>r= .returned (.tuple #[])∧mq base q J (fo aP cv) e w (bs++Bt.bw 2 2++Bt.bw c.2 (x>>>Xo.trail c)) v c w' from fun w2 h2=>by rw[←WA];exact h2.Yl O hq (x:=x>>>Xo.trail c) (n:=c.2) hsh hc1.2 (by rw[La,Bt.aj];omega));have GR:=Aj (fun(b2:List Bool) (w2 w3:World) (h2:mq base q J (fo aP cv) e w b2 v c w2) (hg:Gr w2 w3)=>h2.gr O hbw hg);have htl:Xo.trail c≤64:=by unfold Xo.trail;omega
   clear FT hput hx hJ hE S0 S1 O hW1 hD hD1 hwn hc hf;go_enter func275,ntmps275;go_wp2_with (go_at_call 280;rw[HW1.1];refine HF.1.mono ?_;rintro r w2 ⟨rfl,g2⟩;have H2:=Aj (GR.1 _ _ _ NF.1 g2);have k3:=H2.1.en.k0.2.2.2;unfold fo at k3;clear g2);refine(OA.1 w2 H2.1).mono ?_;rintro r w3 ⟨rfl,h3⟩;have H3:=Aj h3;clear h3 k3;have k6:w3.cell? ⟨e,1,none⟩=some (.int .i64 (c.1:Int))∧w3.cell? ⟨e,2,none⟩=some (.int .i64 (c.2:Int))∧w3.cell? ⟨e,3,none⟩=some (.func (.func aP) #[] #[cv]):=⟨H3.1.en.k0.2.1,H3.1.en.k0.2.2.1,H3.1.en.k0.2.2.2⟩
   unfold wv at TR;clear OA HF H2 k0 f0 hx0 NV;go_wp2_with fail;go_region_held3 (fun w'=>w'.cell? ⟨e,1,none⟩=some (.int .i64 (c.1:Int))∧w'.cell? ⟨e,2,none⟩=some (.int .i64 (c.2:Int))∧w'.cell? ⟨e,3,none⟩=some (.func (.func aP) #[] #[cv])) (first|exact k6|exact k7|exact k8)
    (first
     |(go_at_call 278;refine(TR.1 _).mono ?_;rintro r w4 ⟨rfl,g4⟩;have H4:=Aj (GR.1 _ _ w4 H3.1 ((Gr.refl w3).drew.trans g4));have k7:w4.cell? ⟨e,1,none⟩=some (.int .i64 (c.1:Int))∧w4.cell? ⟨e,2,none⟩=some (.int .i64 (c.2:Int))∧w4.cell? ⟨e,3,none⟩=some (.func (.func aP) #[] #[cv]):=⟨H4.1.en.k0.2.1,H4.1.en.k0.2.2.1,H4.1.en.k0.2.2.2⟩;clear g4)
     |(refine(OB.1 w4 H4.1).mono ?_;rintro r w5 ⟨rfl,h5⟩;have H5:=Aj h5;have k8:w5.cell? ⟨e,1,none⟩=some (.int .i64 (c.1:Int))∧w5.cell? ⟨e,2,none⟩=some (.int .i64 (c.2:Int))∧w5.cell? ⟨e,3,none⟩=some (.func (.func aP) #[] #[cv]):=⟨H5.1.en.k0.2.1,H5.1.en.k0.2.2.1,H5.1.en.k0.2.2.2⟩;clear h5))
   all_goals
    go_wp2
    (try simp only[Exit.inBlock,Exit.then]);refine bodyPost_end (CJ rfl _ _ _) rfl ?_
    exact⟨rfl,by rw[←Af];exact H5.1⟩
  ·rw[Ng hf];rw[show Xo.fits c x=false by simpa using hf]at FT;have HF:=Aj FT;obtain⟨d1,d2,d3,-,-⟩:=Xo.kU (x:=x) ma h0;have WO:=Aj (show∀(b2:List Bool) (w2:World),mq base q J (fo aP cv) e w b2 v c w2→Calls prog 279 #[.int .u64 (x:Int)] w2 fun r w'=>r= .returned (.agg #[.int .i64 ((Xo.win x).1:Int),.int .i64 ((Xo.win x).2:Int)])∧mq base q J (fo aP cv) e w b2 v c w' from fun b2 w2 h2=>by
    refine(jX x ma h0 w2 (hD.aX h2.we.aX hD2) (ku hD2 (Lt hbw h2.we.aX.size))).mono ?_;rintro r w' ⟨rfl,hg⟩;exact⟨rfl,h2.gr O hbw hg⟩)
   generalize Xo.win x=d at*;have TR:=Aj (ib d d2);unfold wv at TR;have htl:Xo.trail d≤64:=by unfold Xo.trail;omega
   have hsh:x>>>Xo.trail d<18446744073709551616:=El (by rw[Cj];exact Nat.div_le_self _ _) ma;have WA:((x>>>Xo.trail d:Nat):Int)=(x:Int)/2^ (Xo.trail d):=by rw[Cj];simp
   have hw1:IntKind.u64.wrap (d.1:Int)=(d.1:Int):=by rw[Bv];omega
   obtain⟨m,hm⟩:∃m,d.2-1=m:=⟨_,rfl⟩
   have hmi:(d.2:Int)-1=(m:Int):=om;have hm1:IntKind.u64.wrap (m:Int)=(m:Int):=by rw[Bv];omega
   rw[hm];have WS:=Aj (fun(b2:List Bool) (w2:World) (h2:mq base q J (fo aP cv) e w b2 v c w2)=>h2.win O hq hb d);have GR:=Aj (fun(b2:List Bool) (w2 w3:World) (h2:mq base q J (fo aP cv) e w b2 v c w2) (hg:Gr w2 w3)=>h2.gr O hbw hg);have GR2:=Aj (fun(b2:List Bool) (w2 w3:World) (h2:mq base q J (fo aP cv) e w b2 v d w2) (hg:Gr w2 w3)=>h2.gr O hbw hg);have OA:=Aj (fun(w2:World) (h2:mq base q J (fo aP cv) e w bs v d w2)=>h2.Yl O hq (x:=3) (n:=2) om om om);have OB:=Aj (fun(w2:World) (h2:mq base q J (fo aP cv) e w (bs++Bt.bw 2 3) v d w2)=>h2.Yl O hq (x:=d.1) (n:=6) om om (by rw[La,Bt.aj];omega));have OC:=Aj (fun(w2:World) (h2:mq base q J (fo aP cv) e w (bs++Bt.bw 2 3++Bt.bw 6 d.1) v d w2)=>h2.Yl O hq (x:=m) (n:=6) om om (by rw[La,La,Bt.aj,Bt.aj];omega));have OD:=Aj (show∀(w2:World) (h2:mq base q J (fo aP cv) e w (bs++Bt.bw 2 3++Bt.bw 6 d.1++Bt.bw 6 m) v d w2),Calls prog aP #[.int .u64 ((x:Int)/2^ (Xo.trail d)),.int .i64 (d.2:Int),cv] w2 fun r w'=>r= .returned (.tuple #[])∧mq base q J (fo aP cv) e w (bs++Bt.bw 2 3++Bt.bw 6 d.1++Bt.bw 6 m++Bt.bw d.2 (x>>>Xo.trail d)) v d w' from fun w2 h2=>by rw[←WA];exact h2.Yl O hq (x:=x>>>Xo.trail d) (n:=d.2) hsh om (by rw[La,La,La,Bt.aj,Bt.aj,Bt.aj];omega));clear FT hput hx hJ hE S0 S1 O hW1 hD hD1 hwn hc hf hsh WA hm;go_enter func275,ntmps275;go_wp2_with (first
    |(go_at_call 279;refine(WO.1 bs w2 H2.1).mono ?_;rintro r w3 ⟨rfl,h3⟩;have H3:=Aj h3;have f1:=h3.en.f 1;have f2:=h3.en.f 2;have H4:=Aj (WS.1 bs w3 h3);have k4:=H4.1.en.k0.2.2.2;unfold fo at k4;obtain⟨j1,j2,j3⟩:=h3.en.k0.2;clear h3)
    |(go_at_call 280;rw[HW1.1];refine HF.1.mono ?_;rintro r w2 ⟨rfl,g2⟩;have H2:=Aj (GR.1 _ _ _ NF.1 g2);clear g2))
   refine(OA.1 _ H4.1).mono ?_;rintro r w5 ⟨rfl,h5⟩;have H5:=Aj h5;obtain⟨-,k1,k2,k3⟩:=h5.en.k0;unfold fo at k3;clear h5 k4 j1 j2 j3 f1 f2 H4 H3 H2 k0 f0 hx0 NV;go_wp2_with fail;refine wp_region_still_tail 11 kr kr ?_;simp only[Cb,Eg,AY,Bq]
   repeat still_step
   refine wpStill_nil ?_
   change wpList _ _ _ _ _ w5.drew
   go_wp2;refine(OB.1 _ (GR2.1 _ _ _ H5.1 (Gr.refl w5).drew)).mono ?_;rintro r w6 ⟨rfl,h6⟩;have H6:=Aj h6;clear k1 k2 k3;obtain⟨-,k1,k2,k3⟩:=h6.en.k0;unfold fo at k3;clear h6 H5;go_wp2_with fail;refine wp_region_still_tail 12 kr kr ?_;simp only[Cb,Eg,AY,Bq]
   repeat still_step
   refine wpStill_nil ?_
   change wpList _ _ _ _ _ w6.drew
   go_wp2;refine(OC.1 _ (GR2.1 _ _ _ H6.1 (Gr.refl w6).drew)).mono ?_;rintro r w7 ⟨rfl,h7⟩;have H7:=Aj h7;clear k1 k2 k3;have k6:w7.cell? ⟨e,1,none⟩=some (.int .i64 (d.1:Int))∧w7.cell? ⟨e,2,none⟩=some (.int .i64 (d.2:Int))∧w7.cell? ⟨e,3,none⟩=some (.func (.func aP) #[] #[cv]):=⟨h7.en.k0.2.1,h7.en.k0.2.2.1,h7.en.k0.2.2.2⟩
   clear h7 H6 OA OB OC HF WO WS;go_wp2_with fail;go_region_held3 (fun w'=>w'.cell? ⟨e,1,none⟩=some (.int .i64 (d.1:Int))∧w'.cell? ⟨e,2,none⟩=some (.int .i64 (d.2:Int))∧w'.cell? ⟨e,3,none⟩=some (.func (.func aP) #[] #[cv])) (first|exact k6|exact k7|exact k8)
    (first
     |(go_at_call 278;refine(TR.1 _).mono ?_;rintro r w8 ⟨rfl,g8⟩;have H8:=Aj (GR2.1 _ _ w8 H7.1 ((Gr.refl w7).drew.trans g8));have k7:w8.cell? ⟨e,1,none⟩=some (.int .i64 (d.1:Int))∧w8.cell? ⟨e,2,none⟩=some (.int .i64 (d.2:Int))∧w8.cell? ⟨e,3,none⟩=some (.func (.func aP) #[] #[cv]):=⟨H8.1.en.k0.2.1,H8.1.en.k0.2.2.1,H8.1.en.k0.2.2.2⟩;clear g8)
     |(refine(OD.1 w8 H8.1).mono ?_;rintro r w9 ⟨rfl,h9⟩;have H9:=Aj h9;have k8:w9.cell? ⟨e,1,none⟩=some (.int .i64 (d.1:Int))∧w9.cell? ⟨e,2,none⟩=some (.int .i64 (d.2:Int))∧w9.cell? ⟨e,3,none⟩=some (.func (.func aP) #[] #[cv]):=⟨H9.1.en.k0.2.1,H9.1.en.k0.2.2.1,H9.1.en.k0.2.2.2⟩;clear h9))
   all_goals
    go_wp2
    (try simp only[Exit.inBlock,Exit.then]);refine bodyPost_end (CJ rfl _ _ _) rfl ?_
    exact⟨rfl,by simp only[←Af];exact H9.1⟩
def Xo.st:Nat→Nat×Nat→List Nat→Nat×(Nat×Nat)
 |last,c,[]=>(last,c)
 |last,c,v::l=>Xo.st v (Xo.put last c v).2 l
theorem Xo.xC:∀(last) (c) (l) (v),Xo.puts last c (l++[v])=Xo.puts last c l++(Xo.put (Xo.st last c l).1 (Xo.st last c l).2 v).1
 |last,c,[],v=>by simp[Xo.puts,Xo.st]
 |last,c,x::l,v=>by rw[Ba,Xo.puts,Xo.xC x _ l v,Xo.puts,Xo.st,Af]
theorem Xo.L9:∀(last) (c) (l) (v),Xo.st last c (l++[v])=(v,(Xo.put (Xo.st last c l).1 (Xo.st last c l).2 v).2)
 |last,c,[],v=>by simp[Xo.st]
 |last,c,x::l,v=>by rw[Ba,Xo.st,Xo.L9 x _ l v,Xo.st]
theorem Xo.ZJ {last v c} (h:Xo.Cw c) (hl:last<2^64) (hv:v<2^64):Xo.Cw (Xo.put last c v).2∧(Xo.put last c v).1.length≤80:=by
 unfold Xo.put;split
 ·exact⟨h,by rw[Bt.aj];omega⟩
 ·rename_i h0
  have hx:v^^^last<2^64:=BJ hv hl;have h2:=Xo.kU hx h0;split
  ·refine⟨h,?_⟩;rw[La,Bt.aj,Bt.aj];rcases h with h|h
   ·rw[h];omega
   ·omega
  ·refine⟨.inr ⟨h2.1,h2.2.1⟩,?_⟩;simp only[La,Bt.aj];omega
theorem Xo.Ym:∀(l) (last) (c),Xo.Cw c→last<2^64→(∀x∈l,x<2^64)→Xo.Cw (Xo.st last c l).2∧(Xo.st last c l).1<2^64∧(Xo.puts last c l).length≤80*l.length
 |[],last,c,h,hl,_=>⟨h,hl,by simp[Xo.puts]⟩
 |v::l,last,c,h,hl,hx=>by
  have hv:=hx v jO;have h1:=Xo.ZJ h hl hv;obtain⟨a,b,d⟩:=Xo.Ym l v _ h1.1 hv (fun x hx'=>hx x (kF _ hx'));refine⟨a,b,?_⟩;rw[Xo.puts,La,Lc];omega
def Xo.at_ (l:List Nat) (k:Nat):List Bool×Nat×(Nat×Nat):=
 match l with
 |[]=>([],0,(0,0))
 |v::t=>if k=0 then([],0,(0,0))else(Bt.bw 64 v++Xo.puts v (0,0) (t.take (k-1)),Xo.st v (0,0) (t.take (k-1)))
theorem Xo.iT (l):Xo.at_ l 0=([],0,(0,0)):=by cases l<;>simp[Xo.at_]
theorem Xo.at_one {l} (h:0<l.length):Xo.at_ l 1=(Bt.bw 64 l[0],l[0],(0,0)):=by
 cases l with
 |nil=>simp at h
 |cons v t=>simp[Xo.at_,Xo.puts,Xo.st]
theorem Xo.WE {l k} (h0:0<k) (h:k<l.length):Xo.at_ l (k+1)=((Xo.at_ l k).1++(Xo.put (Xo.at_ l k).2.1 (Xo.at_ l k).2.2 l[k]).1,l[k],(Xo.put (Xo.at_ l k).2.1 (Xo.at_ l k).2.2 l[k]).2):=by
 cases l with
 |nil=>simp at h
 |cons v t=>
  obtain⟨j,rfl⟩:∃j,k=j+1:=⟨k-1,om⟩
  have hj:j<t.length:=by simpa using h
  have e:t.take (j+1)=t.take j++[t[j]]:=Ts hj;simp only[Xo.at_,Bz,BR];rw[Ng om,Ng om,e,Xo.xC,Xo.L9,Af]
theorem Xo.I9 (l):(Xo.at_ l l.length).1=Xo.enc l:=by
 cases l with
 |nil=>rfl
 |cons v t=>
  simp only[Xo.at_,Lc,Bz];rw[Ng om,iL Ai]
  rfl
theorem Xo.acB {l} (hx:∀x∈l,x<2^64) (k) (hk:k≤l.length):Xo.Cw (Xo.at_ l k).2.2∧(Xo.at_ l k).2.1<2^64∧(Xo.at_ l k).1.length≤80*k:=by
 cases l with
 |nil=>exact⟨.inl rfl,by simp[Xo.at_],by simp[Xo.at_]⟩
 |cons v t=>
  unfold Xo.at_;simp only[];split
  ·exact⟨.inl rfl,sm,sm⟩
  ·obtain⟨a,b,c⟩:=Xo.Ym (t.take (k-1)) v (0,0) (.inl rfl) (hx v jO) (fun x h=>hx x (kF _ (List.mem_of_mem_take h)));refine⟨a,b,?_⟩;rw[La,Bt.aj];rw[oF]at c;simp only[Lc]at hk;omega
theorem We.afT {base q e w w0 w'} (h:We base q e w0 w') (h0:Gr w w0) (hb:base≤w.heap.size) (he:w.heap.size≤e):Wk base q w w':=
 ⟨(h0.below.mono hb).trans h.aX,fun k hk hq hn=>by
  have e1:=h0.below.block k hk;refine(h.rest k (ku hk h0.size) hq om (fun cs fr hc=>hn cs fr (e1.symm.trans hc))).trans e1⟩
theorem uM {base q aP B n c cv J bs A l w} (O:Gv aP cv base q J) (hJ:J bs w) (hq:q<w.heap.size) (hbw:base≤w.heap.size) (hD:wB w) (hD2:2<base)
  (hr:kD w B A n c l) (hB:B≤base) (hx:∀x∈l,x<2^64) (hn:n≤100000) (hl:bs.length≤10000000):
  Calls prog 253 #[.slice A n c,fo aP cv] w fun r w'=>r= .returned (.tuple #[])∧J (bs++Xo.enc l) w'∧Wk base q w w':=by
 have hln:=Aj hr.len;have hlc:=hr.1;have hcm:=hr.2.1;unfold maxLen at hcm;have R0:=Aj hr;have HX:=Aj hx;have KO:=Aj O;have hent:=O.Vs;have HD:=Aj hD;have G1:=Aj ((Gr.refl w).alloc (.cells #[.int .u64 0,.int .i64 0,.int .i64 0,fo aP cv] 397));have S1:=Aj (show mq base q J (fo aP cv) w.heap.size (w.alloc (.cells #[.int .u64 0,.int .i64 0,.int .i64 0,fo aP cv] 397)) (bs++(Xo.at_ l 0).1) (Xo.at_ l 0).2.1 (Xo.at_ l 0).2.2 (w.alloc (.cells #[.int .u64 0,.int .i64 0,.int .i64 0,fo aP cv] 397))from by
  rw[Xo.iT];exact⟨by simpa using O.gr bs w _ hJ G1.1,Av w _,We.refl _ _ _ _⟩)
 have hz1:(w.alloc (.cells #[.int .u64 0,.int .i64 0,.int .i64 0,fo aP cv] 397)).heap.size=w.heap.size+1:=sm;obtain⟨W1,hW1⟩:∃W1,W1=w.alloc (.cells #[.int .u64 0,.int .i64 0,.int .i64 0,fo aP cv] 397):=⟨_,rfl⟩
 rw[←hW1]at S1 G1 hz1;obtain⟨e,he⟩:∃e,e=w.heap.size:=⟨_,rfl⟩
 rw[←he]at S1;have HE:=Aj he;have hqe:e≠q:=om;have hbe:base≤e:=om;have hbW:base≤W1.heap.size:=om;unfold fo at hW1;have HW1:=Aj hW1.symm;have hff:fo aP cv= .func (.func aP) #[] #[cv]:=rfl;rw[hff];clear hr hx O hJ hD hW1 he hz1 hff;go_enter func253,ntmps253;go_wp2;rw[HW1.1,←HE.1];go_loopw [12] (fun i wr=>∃k:Nat,k≤n∧i= .int .i64 (k:Int)∧mq base q J (fo aP cv) e W1 (bs++(Xo.at_ l k).1) (Xo.at_ l k).2.1 (Xo.at_ l k).2.2 wr) (fun i _=>n-(intOf i).toNat)
 case atStart=>exact⟨0,bE _,rfl,S1.1⟩
 case round=>
  clear S1;obtain⟨k,hk,rfl,hs⟩:=hrel;have HS:=Aj hs;by_cases hlt:k<n
  ·have hlt':(k:Int)< (n:Int):=by omega
   have hkl:k<l.length:=by have:=hln.1;omega
   have hbel:Below base w wr:=(G1.1.below.mono hbw).trans hs.we.aX;obtain⟨bb,off,rfl,jT,hc0⟩:=(R0.1.below (hbel.mono hB)).at_ hkl;have hvk:=HX.1 _ (gP hkl);obtain⟨hcw,hla,acC⟩:=Xo.acB HX.1 k om;rcases l5 k with hk0|hk0
   ·subst hk0;have e1:=Xo.at_one (l:=l) hkl;have e0:=Xo.iT l;have OC:=Aj (hs.Yl KO.1 hqe (x:=l[0]) (n:=64) om om (by rw[e0];simp;omega));rw[e0]at OC;have LS:=Aj (fun(b2:List Bool) (w2:World) (h2:mq base q J (fo aP cv) e W1 b2 0 (0,0) w2)=>h2.last KO.1 hqe hbe l[0]);have E1:=Aj e1;clear hs hcw hla acC e0 e1;rw[Cr]at hc0;generalize l[0]=v at*;go_wp2;refine OC.1.mono ?_;rintro r w2 ⟨rfl,h2⟩;have H2:=Aj h2;have j0:=h2.en.k0.1;have f0:=h2.en.f 0;clear h2;go_wp2;go_roundw
    case rel=>exact⟨1,om,rfl,by rw[E1.1];simpa using LS.1 _ _ H2.1⟩
    case measure=>simp[intOf];omega
   ·have e1:=Aj (Xo.WE hk0 hkl);have PT:=Aj (Su KO.1 hs.j hs.en hqe hbe (Lt hbW hs.we.aX.size) (HD.1.aX hbel hD2) hD2 hcw (v:=l[k]) om om (by rw[La];omega));have hk1:(0:Int)< (k:Int):=om;clear hs hcw hla acC;generalize l[k]=v at*;go_wp2_with (go_at_call 275;refine PT.1.mono ?_;rintro r w2 ⟨rfl,h2⟩;have H2:=Aj (show mq _ _ _ _ _ W1 _ _ _ w2 from⟨h2.j,h2.en,HS.1.we.trans h2.we⟩);clear h2);go_roundw
    case rel=>exact⟨k+1,om,by go_num,by rw[e1.1,←Af];exact H2.1⟩
    case measure=>simp[intOf];omega
  ·obtain rfl:k=n:=by omega
   have e:(Xo.at_ l k).1=Xo.enc l:=by rw[hln.1];exact Xo.I9 l
   have F:=Aj (show J (bs++Xo.enc l) wr∧Wk base q w wr from⟨by rw[←e];exact hs.j,hs.we.afT G1.1 hbw (by rw[HE.1];exact Nr _)⟩);clear hs e HS;go_wp2
   (try simp only[Exit.inBlock,Exit.then]);refine bodyPost_end (CJ rfl _ _ _) rfl ?_
   exact⟨rfl,F.1⟩
def SzJ (q:Nat) (bs:List Bool) (W:World):Prop:=W.heap[q]? =some (.cells #[.int .i64 (bs.length:Int)] 3 (0,0))
theorem acD (base q) (hq:base≤q):Gv 254 (.pointer (some ⟨q,0,none⟩)) base q (SzJ q) where
 Vs:=enters_of func254 kr rfl
 call bs x n w h hx hn hl:=by
  have c0:=Co _ _ 0 _ _ _ h;have f0:=Fr _ _ 0 _ _ h;have H:=Aj h;have hlt:=(Ge.1 h).1;have hb:Kept (((bs++Bt.bw n x).length:Int)=(bs.length:Int)+(n:Int)):=⟨by rw[La,Bt.aj];simp⟩
  have WS:=Aj (Wk.set (base:=base) (p:=q) w 0 (.int .i64 ((bs.length:Int)+(n:Int))) hq hlt);have HS:Kept (SzJ q (bs++Bt.bw n x) (w.setCell ⟨q,0,none⟩ (.int .i64 ((bs.length:Int)+(n:Int))))):=⟨by
   unfold SzJ;rw[hb.1,Ag _ q 0 _ _ _ H.1];rfl⟩
  clear h;go_enter func254,ntmps254;go_wp2;go_end0;exact⟨rfl,HS.1,WS.1⟩
 gr bs w w' h hg:=(hg.below.block q (Ge.1 h).1).trans h
 set bs w e k v cs fr h he hr:=(AL w ⟨e,k,none⟩ v q (fun h=>he h.symm)).trans h
theorem NW (A n c B l w) (hr:kD w B A n c l) (hB:B≤w.heap.size) (hx:∀x∈l,x<2^64) (hn:n≤100000) (hD:wB w) (hD2:2<w.heap.size):
  Calls prog 215 #[.slice A n c] w fun r w'=>r= .returned (.int .i64 ((Xo.enc l).length:Int))∧Below w.heap.size w w':=by
 have hG:=(Gr.refl w).alloc (.cells #[.int .i64 0] 3);have hJ:SzJ w.heap.size [] (w.alloc (.cells #[.int .i64 0] 3)):=Av w _;have EC:=Aj (uM (base:=w.heap.size) (q:=w.heap.size) (acD w.heap.size w.heap.size Ai) hJ sm sm (hD.aX hG.below hD2) hD2 (hr.below (hG.below.mono hB)) hB hx hn sm);have hb:=Aj hG.below;unfold fo at EC;clear hr hx hD hJ hG;go_enter func215,ntmps215;go_wp2_with (go_at_call 253;refine EC.1.mono ?_;rintro r w2 ⟨rfl,h2,k2⟩;have k0:w2.cell? ⟨w.heap.size,0,none⟩=some (.int .i64 ((Xo.enc l).length:Int)):=(by have:=Co _ _ 0 _ _ _ h2;simpa using this);have B2:=Aj (hb.1.trans k2.aX);clear h2 k2);go_ret;exact⟨rfl,B2.1⟩
def PtJ (base p b:Nat) (bs:List Bool) (W:World):Prop:=fC W base p bs∧Boxed W b 302 (.pointer (some ⟨p,0,none⟩))
theorem acE (base p b) (hb:b≠p):Gv 255 (.pointer (some ⟨b,0,none⟩)) base p (PtJ base p b) where
 Vs:=enters_of func255 kr rfl
 call bs x n w h hx hn hl:=by
  have c0:=h.2.cell;have WB:=Aj (bY base p x n bs w h.1 hx hn om);have HB:=Aj h.2;clear h;go_enter func255,ntmps255;go_wp2_with (go_at_call 191;refine WB.1.mono ?_;rintro r w2 ⟨rfl,h2,k2⟩;have H2:=Aj h2;have K2:=Aj k2;clear h2 k2);go_end0;exact⟨rfl,⟨H2.1,Boxed.wk HB.1 K2.1 hb Ah⟩,K2.1⟩
 gr bs w w' h hg:=⟨h.1.gr hg,(hg.below.block b h.2.lt).trans h.2⟩
 set bs w e k v cs fr h he hr:=by
  refine⟨?_,?_⟩
  ·obtain⟨A,n,c,L,h1,h2,h3,h4⟩:=h.1;have hg:=au w ⟨e,k,none⟩ v;exact⟨A,n,c,L,(hg.block p (Ge.1 h1).1 (fun e2=>he (Oj e2).symm)).trans h1,ag h2 hg (.inr (fun e2=>nZ h2 hr Ah e2.symm)),h3,h4⟩
  ·refine(AL w ⟨e,k,none⟩ v b (fun e2=>?_)).trans h.2;have h2:=(show w.heap[b]? =some (.cells #[.pointer (some ⟨p,0,none⟩)] 302 (0,0))from h.2)
   rw[e2]at h2;have:=hr.symm.trans h2;simp only[gK,DU]at this;exact absurd this.2.1 Ah
theorem Sw (base p B bs A n c l w) (h:fC w base p bs) (hr:kD w B A n c l) (hB:B≤base) (hx:∀x∈l,x<2^64) (hn:n≤100000) (hl:bs.length≤10000000) (hD:wB w) (hD2:2<base):
  Calls prog 216 #[.pointer (some ⟨p,0,none⟩),.slice A n c] w fun r w'=>r= .returned (.int .i64 0)∧fC w' base p (bs++Xo.enc l)∧Wk base p w w':=by
 obtain⟨hp1,hp2⟩:=h.lt;have hG:=(Gr.refl w).alloc (.cells #[.pointer (some ⟨p,0,none⟩)] 302);have hJ:PtJ base p w.heap.size bs (w.alloc (.cells #[.pointer (some ⟨p,0,none⟩)] 302)):=⟨h.gr hG,Bb w _ _⟩
 have hbx:=Bb w 302 (.pointer (some ⟨p,0,none⟩));have c0:=hbx.cell;have EC:=Aj (uM (base:=base) (q:=p) (acE base p w.heap.size om) hJ (by simp;omega) (by simp;omega) (hD.aX hG.below om) hD2 (hr.below (hG.below.mono om)) hB hx hn hl);have WG:=Aj (Wk.gr (base:=base) (p:=p) hG om);unfold fo at EC;clear h hr hx hD hJ hG hbx;go_enter func216,ntmps216;go_wp2_with (go_at_call 253;refine EC.1.mono ?_;rintro r w2 ⟨rfl,h2,k2⟩;have H2:=Aj h2;have K2:=Aj (WG.1.trans k2);clear h2 k2);go_ret;exact⟨rfl,H2.1.1,K2.1⟩
def De (w:World) (d p last:Nat) (c:Nat×Nat) (er:Int):Prop:=w.heap[d]? =some (.cells #[.int .u64 (last:Int),.int .i64 (c.1:Int),.int .i64 (c.2:Int),.pointer (some ⟨p,0,none⟩),.int .i64 er] 372 (0,0))
theorem De.lt {w d p last c er} (h:De w d p last c er):d<w.heap.size:=(Ge.1 h).1
theorem De.k {w d p last c er} (h:De w d p last c er):w.cell? ⟨d,0,none⟩=some (.int .u64 (last:Int))∧w.cell? ⟨d,1,none⟩=some (.int .i64 (c.1:Int))∧w.cell? ⟨d,2,none⟩=some (.int .i64 (c.2:Int))∧w.cell? ⟨d,3,none⟩=some (.pointer (some ⟨p,0,none⟩))∧w.cell? ⟨d,4,none⟩=some (.int .i64 er):=
 ⟨Co _ _ 0 _ _ _ h,Co _ _ 1 _ _ _ h,Co _ _ 2 _ _ _ h,Co _ _ 3 _ _ _ h,Co _ _ 4 _ _ _ h⟩
theorem De.f {w d p last c er} (h:De w d p last c er) (k):w.frozen? ⟨d,k,none⟩=false:=Fr _ _ k _ _ h
theorem De.err {w d p last c er} (h:De w d p last c er) (e):De (w.setCell ⟨d,4,none⟩ (.int .i64 e)) d p last c e:=by
 unfold De at*;rw[Ag _ d 4 _ _ _ h];rfl
theorem De.last {w d p last c er} (h:De w d p last c er) (v:Nat):De (w.setCell ⟨d,0,none⟩ (.int .u64 (v:Int))) d p v c er:=by
 unfold De at*;rw[Ag _ d 0 _ _ _ h];rfl
theorem De.win {w d p last c er} (h:De w d p last c er) (u):De ((w.setCell ⟨d,1,none⟩ (.int .i64 (u.1:Int))).setCell ⟨d,2,none⟩ (.int .i64 (u.2:Int))) d p last u er:=by
 unfold De at*;rw[Ag _ d 2 _ _ _ (Ag _ d 1 _ _ _ h)];rfl
structure Wd (p d:Nat) (w w':World):Prop where
 os:w'.os=w.os
 tape:w'.tape=w.tape
 output:w'.output=w.output
 size:w.heap.size≤w'.heap.size
 block:∀k,k<w.heap.size→k≠p→k≠d→w'.heap[k]? =w.heap[k]?
theorem Wd.refl (p d w):Wd p d w w:=⟨rfl,rfl,rfl,Nr _,fun _ _ _ _=>rfl⟩
theorem Wd.trans {p d w w1 w2} (h:Wd p d w w1) (g:Wd p d w1 w2):Wd p d w w2:=
 ⟨g.os.trans h.os,g.tape.trans h.tape,g.output.trans h.output,Lt h.size g.size,fun k hk hp hd=>(g.block k (ku hk h.size) hp hd).trans (h.block k hk hp hd)⟩
theorem Wd.rd {p d w w'} (h:w.grownBy w' (some p)):Wd p d w w':=⟨h.os,h.tape,h.output,h.size,fun k hk hp _=>h.block k hk (fun e=>hp (Oj e))⟩
theorem Wd.set (p) {d} (w k v):Wd p d w (w.setCell ⟨d,k,none⟩ v):=
 have h:=au w ⟨d,k,none⟩ v
 ⟨h.os,h.tape,h.output,h.size,fun j hj _ hd=>h.block j hj (fun e=>hd (Oj e))⟩
theorem De.rd {w w' d p last c er} (h:De w d p last c er) (hg:w.grownBy w' (some p)) (hne:d≠p):De w' d p last c er:=(hg.block d h.lt (fun e=>hne (Oj e))).trans h
theorem Br.wD {w d p r} (h:Br w p r) (hd:p<d) (k v):Br (w.setCell ⟨d,k,none⟩ v) p r:=h.grown (au w ⟨d,k,none⟩ v) (fun g e=>by cases e;exact hd)
def Xo.bH (n:Nat) (er:Int) (r:List Bool):Nat×List Bool×Int:=if er≠0 then(0,r,er)else Tm.rd n r
theorem eF (d p last n:Nat) (c er r w) (hD:De w d p last c er) (hB:Br w p r) (hn:n≤64) (mf:p<d):
  Calls prog 256 #[.pointer (some ⟨d,0,none⟩),.int .i64 (n:Int)] w fun e w'=>e= .returned (.int .u64 ((Xo.bH n er r).1:Int))∧De w' d p last c (Xo.bH n er r).2.2∧Br w' p (Xo.bH n er r).2.1∧Wd p d w w':=by
 have HD:=Aj hD;have HB:=Aj hB;obtain⟨-,-,-,k3,k4⟩:=hD.k;by_cases he:er=0
 ·subst he;have hx:Kept (Xo.bH n 0 r=Tm.rd n r):=⟨by unfold Xo.bH;rw[Ng sm]⟩
  rw[hx.1];have RB:=Aj (dG p n r w hB hn);generalize Tm.rd n r=Y at*;obtain⟨x,r1,e1⟩:=Y;simp only[]at*;clear hD hB;go_enter func256,ntmps256;go_wp2_with (go_at_call 213;refine RB.1.mono ?_;rintro e w1 ⟨rfl,hb,hg⟩;have B1:=Aj hb;have G1:=Aj hg;have D1:=Aj (HD.1.rd hg om);have f4:=D1.1.f 4;have j4:=D1.1.k.2.2.2.2;clear hb hg);go_ret;exact⟨rfl,D1.1.err e1,B1.1.wD mf 4 _,(Wd.rd G1.1).trans (Wd.set p w1 4 _)⟩
 ·have hne:(er !=0)=true:=by simpa using he
  have hx:Kept (Xo.bH n er r=(0,r,er)):=⟨by unfold Xo.bH;rw[Ps0 he]⟩
  rw[hx.1];clear hD hB he;go_enter func256,ntmps256;go_wp2;go_ret;exact⟨rfl,HD.1,HB.1,Wd.refl _ _ _⟩
def Xo.kH (b:Bool) (er:Int):Int:=if er=0∧b=false then 8 else er
theorem fQ (d p last c er b r w) (hD:De w d p last c er) (hB:Br w p r) (mf:p<d):
  Calls prog 277 #[.pointer (some ⟨d,0,none⟩),.bool b] w fun e w'=>e= .returned (.tuple #[])∧De w' d p last c (Xo.kH b er)∧Br w' p r∧Wd p d w w':=by
 have HD:=Aj hD;have HB:=Aj hB;obtain⟨-,-,-,k3,k4⟩:=hD.k;have f4:=hD.f 4;unfold Xo.kH;clear hD hB;by_cases he:er=0
 ·subst he;cases b
  ·go_enter func277,ntmps277;go_wp2;go_end0;exact⟨rfl,HD.1.err 8,HB.1.wD mf 4 _,Wd.set p w 4 _⟩
  ·go_enter func277,ntmps277;go_wp2;go_end0;exact⟨rfl,HD.1,HB.1,Wd.refl _ _ _⟩
 ·have hne:(er==0)=false:=by simpa using he
  rw[Ng (fun h=>he h.1)];go_enter func277,ntmps277;go_wp2;go_end0;exact⟨rfl,HD.1,HB.1,Wd.refl _ _ _⟩
theorem Wd.alloc {p d w w1} (h:Wd p d w w1) (o):Wd p d w (w1.alloc o):=
 h.trans ⟨rfl,rfl,rfl,sm,fun k hk _ _=>(Ga w1 o none).block k hk sm⟩
theorem De.alloc {w d p last c er} (h:De w d p last c er) (o):De (w.alloc o) d p last c er:=((Ga w o none).block d h.lt sm).trans h
theorem Br.al {w p r} (h:Br w p r) (o):Br (w.alloc o) p r:=h.grown (Ga w o none) (fun g e=>by cases e)
theorem Wd.row {p d g w w' cs t fr} (h:Wd p d w w') (hr:w.heap[g]? =some (.cells cs t fr)) (hp:g≠p) (hd:g≠d):w'.heap[g]? =some (.cells cs t fr):=(h.block g (Ge.1 hr).1 hp hd).trans hr
theorem Wd.late {p d g w w1} (h:Wd p d w w1) (hg:w.heap.size≤g) (k v):Wd p d w (w1.setCell ⟨g,k,none⟩ v):=
 have e:=au w1 ⟨g,k,none⟩ v
 ⟨e.os.trans h.os,e.tape.trans h.tape,e.output.trans h.output,Lt h.size e.size,fun j hj hp hd=>(e.block j (ku hj h.size) (fun q=>by have:=Oj q;simp only at this;omega)).trans (h.block j hj hp hd)⟩
theorem De.late {w d p last g c er} (h:De w d p last c er) (hg:d≠g) (k v):De (w.setCell ⟨g,k,none⟩ v) d p last c er:=(AL w ⟨g,k,none⟩ v d hg).trans h
def Xo.Ue (er:Int) (r:List Bool):(Nat×Nat)×List Bool×Int:=
 (((Xo.bH 6 er r).1,(Xo.bH 6 (Xo.bH 6 er r).2.2 (Xo.bH 6 er r).2.1).1+1),(Xo.bH 6 (Xo.bH 6 er r).2.2 (Xo.bH 6 er r).2.1).2.1,
  Xo.kH (decide ((Xo.bH 6 er r).1+((Xo.bH 6 (Xo.bH 6 er r).2.2 (Xo.bH 6 er r).2.1).1+1)≤64)) (Xo.bH 6 (Xo.bH 6 er r).2.2 (Xo.bH 6 er r).2.1).2.2)
theorem Xo.Ma (n er r):(Xo.bH n er r).1<2^n:=by
 unfold Xo.bH;split
 ·exact Nat.two_pow_pos n
 ·exact Tm.jF n r
theorem NY (d p last c er r w) (hD:De w d p last c er) (hB:Br w p r) (mf:p<d):
  Calls prog 276 #[.pointer (some ⟨d,0,none⟩)] w fun e w'=>e= .returned (.agg #[.int .i64 ((Xo.Ue er r).1.1:Int),.int .i64 ((Xo.Ue er r).1.2:Int)])∧De w' d p last c (Xo.Ue er r).2.2∧Br w' p (Xo.Ue er r).2.1∧Wd p d w w':=by
 have hdl:=hD.lt;obtain⟨W0,hW0⟩:∃W0,W0=w.alloc (.cells #[.int .i64 0,.int .i64 0] 368):=⟨_,rfl⟩
 have hr0:W0.heap[w.heap.size]? =some (.cells #[.int .i64 0,.int .i64 0] 368 (0,0)):=by rw[hW0];exact Av w _
 have hD0:De W0 d p last c er:=by rw[hW0];exact hD.alloc _
 have hB0:Br W0 p r:=by rw[hW0];exact hB.al _
 have hF0:Wd p d w W0:=by rw[hW0];exact(Wd.refl p d w).alloc _
 have hz0:W0.heap.size=w.heap.size+1:=by rw[hW0];simp
 have HX:Kept (Xo.Ue er r=(((Xo.bH 6 er r).1,(Xo.bH 6 (Xo.bH 6 er r).2.2 (Xo.bH 6 er r).2.1).1+1),(Xo.bH 6 (Xo.bH 6 er r).2.2 (Xo.bH 6 er r).2.1).2.1,Xo.kH (decide ((Xo.bH 6 er r).1+((Xo.bH 6 (Xo.bH 6 er r).2.2 (Xo.bH 6 er r).2.1).1+1)≤64)) (Xo.bH 6 (Xo.bH 6 er r).2.2 (Xo.bH 6 er r).2.1).2.2)):=⟨rfl⟩
 rw[HX.1];have B1:=eF d p last 6 c er r W0 hD0 hB0 om mf;have l1:=Xo.Ma 6 er r;generalize Xo.bH 6 er r=Y at*;obtain⟨a,r1,e1⟩:=Y;simp only[]at*;have B2:=fun(w1:World) (h1:De w1 d p last c e1) (h2:Br w1 p r1)=>eF d p last 6 c e1 r1 w1 h1 h2 om mf
 have l2:=Xo.Ma 6 e1 r1;generalize Xo.bH 6 e1 r1=Y at*;obtain⟨b,r2,e2⟩:=Y;simp only[]at*;have CH:=Aj (fun(w1:World) (h1:De w1 d p last c e2) (h2:Br w1 p r2)=>fQ d p last c e2 (decide (a+(b+1)≤64)) r2 w1 h1 h2 mf);have ZA:=Aj B1;have Ud:=Aj B2;have HR0:=Aj hr0;have ZL:=Aj hF0;have HW0:=Aj hW0.symm;have hga:IntKind.i64.wrap (a:Int)=(a:Int):=NK om om;have hgb:IntKind.i64.wrap (b:Int)=(b:Int):=NK om om;have hdec:decide ((a:Int)+((b:Int)+1)≤64)=decide (a+(b+1)≤64):=decide_eq_decide.2 ⟨fun h=>om,fun h=>om⟩;obtain⟨g2,hg2⟩:∃g2,g2=w.heap.size:=⟨_,rfl⟩
 have HG2:=Aj hg2.symm;clear B1 B2 hD hB hD0 hB0 hr0 hF0 hW0 HX;go_enter func276,ntmps276;go_wp2_with (go_at_call 256;rw[HW0.1];refine ZA.1.mono ?_;rintro e w1 ⟨rfl,h1,h2,h3⟩;have D1:=Aj h1;have R1:=Aj h2;have F1:=Aj h3;have z1:=h3.size;clear h1 h2 h3 ZA);have acG:w.heap.size+1≤w1.heap.size:=om;refine(Ud.1 _ (D1.1.alloc _) (R1.1.al _)).mono ?_;rintro e w2 ⟨rfl,h1,h2,h3⟩;have hrow3:w2.heap[w1.heap.size]? =some (.cells #[.int .i64 (a:Int),.int .i64 0] 368 (0,0)):=h3.row (Av w1 _) om om;have hrow2:w2.heap[w.heap.size]? =some (.cells #[.int .i64 0,.int .i64 0] 368 (0,0)):=h3.row (((Ga w1 _ none).block _ om sm).trans (F1.1.row HR0.1 om om)) om om;have F2:=Aj (((ZL.1.trans F1.1).alloc _).trans h3);have D2:=Aj h1;have R2:=Aj h2;have z2:w1.heap.size+1≤w2.heap.size:=by have:=h3.size;simpa using this
 clear h1 h2 h3 F1 HR0 ZL D1 R1 Ud hz0;obtain⟨g3,hg3⟩:∃g3,g3=w1.heap.size:=⟨_,rfl⟩
 rw[←hg3]at hrow3 z2 acG⊢;rw[HG2.1];rw[←hg2]at hrow2 acG hdl;have PO:w.heap.size≤g2:=om;clear hg3 hg2 z1;have c31:=Co _ _ 1 _ _ _ hrow3;have f31:=Fr _ _ 1 _ _ hrow3;have c30:=Co _ _ 0 _ _ _ hrow3;have HR3:=Aj hrow3;have HR2:=Aj hrow2;clear hrow3 hrow2;have D3:=Aj (D2.1.late (g:=g3) om 1 (.int .i64 ((b:Int)+1)));have R3:=Aj (R2.1.grown (au w2 ⟨g3,1,none⟩ (.int .i64 ((b:Int)+1))) (fun g e=>by have:=Oj e;simp only at this;omega));have F3:=Aj (F2.1.late (g:=g3) om 1 (.int .i64 ((b:Int)+1)));have R33:=Aj (show(w2.setCell ⟨g3,1,none⟩ (.int .i64 ((b:Int)+1))).heap[g3]? =some (.cells #[.int .i64 (a:Int),.int .i64 ((b:Int)+1)] 368 (0,0))from by rw[Ag _ g3 1 _ _ _ HR3.1];rfl);have R32:=Aj ((AL w2 ⟨g3,1,none⟩ (.int .i64 ((b:Int)+1)) g2 (by simp only;omega)).trans HR2.1);go_wp2_with (go_at_call 277;refine(CH.1 _ D3.1 R3.1).mono ?_;rintro e w5 ⟨rfl,h1,h2,h3⟩;have D5:=Aj h1;have R5:=Aj h2;have F5:=Aj (F3.1.trans h3);have Q3:=Aj (h3.row R33.1 om om);have Q2:=Aj (h3.row R32.1 om om);have j0:=Co _ _ 0 _ _ _ Q3.1;have j1:=Co _ _ 1 _ _ _ Q3.1;have i0:=Co _ _ 0 _ _ _ Q2.1;have i1:=Co _ _ 1 _ _ _ Q2.1;have f0:=Fr _ _ 0 _ _ Q2.1;have f1:=Fr _ _ 1 _ _ Q2.1;clear h1 h2 h3);refine Bh (v:= .agg #[.int .i64 (a:Int),.int .i64 ((b:Int)+1)]) ?_ rfl ⟨sm,?_,?_,?_⟩
 ·exact bD (fn:=Tryz.f276) (a:=2) (T1:=368) rfl _ _ g2 _ _ _ _ rfl (lh _ g2 (.int .i64 (a:Int)) (.int .i64 ((b:Int)+1)) Q2.1 rfl) underlying368 rfl kr
 ·exact(D5.1.late om 0 _).late om 1 _
 ·exact(R5.1.grown (au w5 ⟨g2,0,none⟩ _) (fun g e=>by have:=Oj e;simp only at this;omega)).grown (au _ ⟨g2,1,none⟩ _) (fun g e=>by have:=Oj e;simp only at this;omega)
 ·exact(F5.1.late PO 0 _).late PO 1 _
def NZ (f:Nat):Value:= .func (.func f) #[] #[]
def Sz:Array Value:= #[NZ 215,NZ 216,NZ 217,NZ 218,NZ 219,NZ 220,NZ 221,NZ 222,NZ 223]
theorem je (w):Calls prog 179 #[] w fun e w'=>e= .returned (.agg Sz)∧Below w.heap.size w w':=by
 unfold Sz NZ;go_enter func179,ntmps179;have hr:=Av w (.cells #[Value.nilFunc,Value.nilFunc,Value.nilFunc,Value.nilFunc,Value.nilFunc,Value.nilFunc,Value.nilFunc,Value.nilFunc,Value.nilFunc] 291);have hi:(prog.info? 291).map (·.size)=some 9:=kr;have h1:(#[Value.func (Fn.func 215) #[] #[],Value.func (Fn.func 216) #[] #[],Value.func (Fn.func 217) #[] #[],Value.func (Fn.func 218) #[] #[],Value.func (Fn.func 219) #[] #[],Value.func (Fn.func 220) #[] #[],Value.func (Fn.func 221) #[] #[],Value.func (Fn.func 222) #[] #[],Value.func (Fn.func 223) #[] #[]]:Array Value).all (·.oneCell')=true:=by simp[Value.oneCell']
 have HR:=Aj hr;have HI:=Aj hi;have H1:=Aj h1;have hb:=Aj ((Ae w.heap.size w).alloc Ai (.cells #[Value.nilFunc,Value.nilFunc,Value.nilFunc,Value.nilFunc,Value.nilFunc,Value.nilFunc,Value.nilFunc,Value.nilFunc,Value.nilFunc] 291));clear hr hi h1;go_wp2_with (refine wpList_store_row rfl 291 _ _ rfl w.heap.size _ rfl rfl _ _ HR.1 HI.1 rfl H1.1 ?_);refine Bh (v:= .agg #[Value.func (Fn.func 215) #[] #[],Value.func (Fn.func 216) #[] #[],Value.func (Fn.func 217) #[] #[],Value.func (Fn.func 218) #[] #[],Value.func (Fn.func 219) #[] #[],Value.func (Fn.func 220) #[] #[],Value.func (Fn.func 221) #[] #[],Value.func (Fn.func 222) #[] #[],Value.func (Fn.func 223) #[] #[]]) ?_ rfl ⟨rfl,?_⟩
 ·exact bD (fn:=Tryz.f179) (a:=0) (T1:=291) rfl _ _ w.heap.size _ _ _ _ rfl (setRow_heap _ _ _ _ _ _ HR.1) underlying291 rfl kr
 ·exact⟨hb.1.os,hb.1.tape,hb.1.output,sm,fun k hk=>(setRow_other _ _ k _ om).trans (hb.1.block k hk)⟩
theorem ZM (w):(Instr.index 291 (.agg #[.func (.func 215) #[] #[],.func (.func 216) #[] #[],.func (.func 217) #[] #[],.func (.func 218) #[] #[],.func (.func 219) #[] #[],.func (.func 220) #[] #[],.func (.func 221) #[] #[],.func (.func 222) #[] #[],.func (.func 223) #[] #[]]) (.int .i64 0)).run prog w= .ok (.agg #[.func (.func 215) #[] #[],.func (.func 216) #[] #[],.func (.func 217) #[] #[]]) w:=kr
theorem ZN (w):(Instr.index 291 (.agg #[.func (.func 215) #[] #[],.func (.func 216) #[] #[],.func (.func 217) #[] #[],.func (.func 218) #[] #[],.func (.func 219) #[] #[],.func (.func 220) #[] #[],.func (.func 221) #[] #[],.func (.func 222) #[] #[],.func (.func 223) #[] #[]]) (.int .i64 1)).run prog w= .ok (.agg #[.func (.func 218) #[] #[],.func (.func 219) #[] #[],.func (.func 220) #[] #[]]) w:=kr
theorem ZO (w):(Instr.index 291 (.agg #[.func (.func 215) #[] #[],.func (.func 216) #[] #[],.func (.func 217) #[] #[],.func (.func 218) #[] #[],.func (.func 219) #[] #[],.func (.func 220) #[] #[],.func (.func 221) #[] #[],.func (.func 222) #[] #[],.func (.func 223) #[] #[]]) (.int .i64 2)).run prog w= .ok (.agg #[.func (.func 221) #[] #[],.func (.func 222) #[] #[],.func (.func 223) #[] #[]]) w:=kr
def Ck.N8 (l:List Nat) (k:Nat):Int:=if k=0 then((Xo.enc l).length:Int)else if k=1 then((Ru.enc l).length:Int)else Di.JI l
theorem N9 (A n c B l w) (hr:kD w B A n c l) (hB:B≤w.heap.size) (hx:∀x∈l,x<2^64) (hn:n≤128) (hD:wB w) (hD2:2<w.heap.size):
  Calls prog 226 #[.slice A n c] w fun r w'=>r= .returned (.agg #[.int .i64 (Ck.N8 l 0),.int .i64 (Ck.N8 l 1),.int .i64 (Ck.N8 l 2)])∧Below w.heap.size w w':=by
 have X0:=Aj (show∀W,Below w.heap.size w W→Calls prog 215 #[.slice A n c] W fun r w'=>r= .returned (.int .i64 (Ck.N8 l 0))∧Below W.heap.size W w' from fun W hb=>NW A n c B l W (hr.below (hb.mono hB)) (Lt hB hb.size) hx om (hD.aX hb hD2) (ku hD2 hb.size));have X1:=Aj (show∀W,Below w.heap.size w W→Calls prog 218 #[.slice A n c] W fun r w'=>r= .returned (.int .i64 (Ck.N8 l 1))∧Below W.heap.size W w' from fun W hb=>NQ A n c B l W (hr.below (hb.mono hB)) (Lt hB hb.size) hn);have X2:=Aj (show∀W,Below w.heap.size w W→Calls prog 221 #[.slice A n c] W fun r w'=>r= .returned (.int .i64 (Ck.N8 l 2))∧Below W.heap.size W w' from fun W hb=>NL A n c B l W (hr.below (hb.mono hB)) (Lt hB hb.size) hx om);generalize Ck.N8 l 0=s0 at*;generalize Ck.N8 l 1=s1 at*;generalize Ck.N8 l 2=s2 at*;have EC:=Aj (fun W=>je W);unfold Sz NZ at EC;clear hr hx hD;obtain⟨W2,hW2⟩:∃W2,W2=(w.alloc (.cells #[.int .i64 0,.int .i64 0,.int .i64 0] 335)).alloc (.cells #[.int .i64 0,.int .i64 0,.int .i64 0] 335):=⟨_,rfl⟩
 have hz:W2.heap.size=w.heap.size+1+1:=by rw[hW2];simp
 have r3:W2.heap[w.heap.size+1]? =some (.cells #[.int .i64 0,.int .i64 0,.int .i64 0] 335 (0,0)):=by
  rw[hW2];have:=Av (w.alloc (.cells #[.int .i64 0,.int .i64 0,.int .i64 0] 335)) (.cells #[.int .i64 0,.int .i64 0,.int .i64 0] 335);simpa using this
 have r2:W2.heap[w.heap.size]? =some (.cells #[.int .i64 0,.int .i64 0,.int .i64 0] 335 (0,0)):=by
  rw[hW2,Aw _ _ _ sm];exact Av w _
 have b2:Below w.heap.size w W2:=by rw[hW2];exact((Ae _ w).alloc Ai _).alloc sm _
 have R3:=Aj r3;have R2:=Aj r2;have B2:=Aj b2;have HW2:=Aj hW2.symm;have HZ:=Aj hz;clear hW2 r3 r2 b2 hz;go_enter func226,ntmps226;go_wp2_with (go_at_call 179;rw[HW2.1];refine(EC.1 W2).mono ?_;rintro e w1 ⟨rfl,h1⟩;have B1:=Aj h1;clear h1);go_loopw [7] (fun i wr=>∃k:Nat,k≤3∧i= .int .i64 (k:Int)∧Below w.heap.size w wr∧w.heap.size+2≤wr.heap.size∧wr.heap[w.heap.size]? =some (.cells #[.int .i64 0,.int .i64 0,.int .i64 0] 335 (0,0))∧
  wr.heap[w.heap.size+1]? =some (.cells #[.int .i64 (if 0<k then s0 else 0),.int .i64 (if 1<k then s1 else 0),.int .i64 (if 2<k then s2 else 0)] 335 (0,0))) (fun i _=>3-(intOf i).toNat)
 case atStart=>exact⟨0,om,rfl,B2.1.trans (B1.1.mono (by rw[HZ.1];omega)),by have:=B1.1.size;rw[HZ.1]at this;omega,(B1.1.block _ (by rw[HZ.1];omega)).trans R2.1,by simpa using(B1.1.block _ (by rw[HZ.1];omega)).trans R3.1⟩
 case round=>
  clear B1 R3 R2 B2 HZ;obtain⟨k,hk,rfl,hb,hz,q2,q3⟩:=hrel;have HB:=Aj hb;have Q2:=Aj q2;have Q3:=Aj q3;have hcs:k=0∨k=1∨k=2∨k=3:=om;have ix0:=ZM wr;have ix1:=ZN wr;have ix2:=ZO wr;clear hb q2 q3;rcases hcs with rfl|rfl|rfl|rfl
  ·have HR:=Aj (Av wr (.cells #[Value.nilFunc,Value.nilFunc,Value.nilFunc] 290));have HI:Kept ((prog.info? 290).map (·.size)=some 3):=⟨kr⟩
   have H1:Kept ((#[.func (.func 215) #[] #[],.func (.func 216) #[] #[],.func (.func 217) #[] #[]]:Array Value).all (·.oneCell')=true):=⟨by simp[Value.oneCell']⟩
   have W5:Below wr.heap.size wr ((wr.alloc (.cells #[Value.nilFunc,Value.nilFunc,Value.nilFunc] 290)).setRow wr.heap.size #[.func (.func 215) #[] #[],.func (.func 216) #[] #[],.func (.func 217) #[] #[]]):=by
    have hb:=(Ae wr.heap.size wr).alloc Ai (.cells #[Value.nilFunc,Value.nilFunc,Value.nilFunc] 290);exact⟨hb.os,hb.tape,hb.output,sm,fun k hk=>(setRow_other _ _ k _ om).trans (hb.block k hk)⟩
   have c0:((wr.alloc (.cells #[Value.nilFunc,Value.nilFunc,Value.nilFunc] 290)).setRow wr.heap.size #[.func (.func 215) #[] #[],.func (.func 216) #[] #[],.func (.func 217) #[] #[]]).cell? ⟨wr.heap.size,0,none⟩=some (.func (.func 215) #[] #[]):=cell_setRow_same _ _ 0 _ _ _ _ HR.1;have L8:=Aj W5;clear W5;go_wp2_with (first
    |(refine wpList_store_row rfl 290 _ _ rfl wr.heap.size _ rfl rfl _ _ HR.1 HI.1 rfl H1.1 ?_)
    |(go_at_call 215;refine(X0.1 _ (HB.1.trans (L8.1.mono om))).mono ?_;rintro e w6 ⟨rfl,h6⟩;have B6:=Aj (L8.1.trans (h6.mono L8.1.size));have P2:=Aj ((B6.1.block _ om).trans Q2.1);have P3:=Aj ((B6.1.block _ om).trans Q3.1);have t0:=Co _ _ 0 _ _ _ P3.1;have f0:=Fr _ _ 0 _ _ P3.1;have hz6:=B6.1.size;clear h6))
   go_roundw
   case rel=>
    refine⟨1,om,rfl,(HB.1.trans (B6.1.mono om)).setCell (by simp only;omega) _,by simp;omega,(AL _ ⟨w.heap.size+1,0,none⟩ _ _ (by simp only;omega)).trans P2.1,?_⟩;rw[Ag _ _ 0 _ _ _ P3.1];simp
   case measure=>simp[intOf]
  ·have HR:=Aj (Av wr (.cells #[Value.nilFunc,Value.nilFunc,Value.nilFunc] 290));have HI:Kept ((prog.info? 290).map (·.size)=some 3):=⟨kr⟩
   have H1:Kept ((#[.func (.func 218) #[] #[],.func (.func 219) #[] #[],.func (.func 220) #[] #[]]:Array Value).all (·.oneCell')=true):=⟨by simp[Value.oneCell']⟩
   have W5:Below wr.heap.size wr ((wr.alloc (.cells #[Value.nilFunc,Value.nilFunc,Value.nilFunc] 290)).setRow wr.heap.size #[.func (.func 218) #[] #[],.func (.func 219) #[] #[],.func (.func 220) #[] #[]]):=by
    have hb:=(Ae wr.heap.size wr).alloc Ai (.cells #[Value.nilFunc,Value.nilFunc,Value.nilFunc] 290);exact⟨hb.os,hb.tape,hb.output,sm,fun k hk=>(setRow_other _ _ k _ om).trans (hb.block k hk)⟩
   have c0:((wr.alloc (.cells #[Value.nilFunc,Value.nilFunc,Value.nilFunc] 290)).setRow wr.heap.size #[.func (.func 218) #[] #[],.func (.func 219) #[] #[],.func (.func 220) #[] #[]]).cell? ⟨wr.heap.size,0,none⟩=some (.func (.func 218) #[] #[]):=cell_setRow_same _ _ 0 _ _ _ _ HR.1;have L8:=Aj W5;clear W5;go_wp2_with (first
    |(refine wpList_store_row rfl 290 _ _ rfl wr.heap.size _ rfl rfl _ _ HR.1 HI.1 rfl H1.1 ?_)
    |(go_at_call 218;refine(X1.1 _ (HB.1.trans (L8.1.mono om))).mono ?_;rintro e w6 ⟨rfl,h6⟩;have B6:=Aj (L8.1.trans (h6.mono L8.1.size));have P2:=Aj ((B6.1.block _ om).trans Q2.1);have P3:=Aj ((B6.1.block _ om).trans Q3.1);have t0:=Co _ _ 1 _ _ _ P3.1;have f0:=Fr _ _ 1 _ _ P3.1;have hz6:=B6.1.size;clear h6))
   go_roundw
   case rel=>
    refine⟨2,om,rfl,(HB.1.trans (B6.1.mono om)).setCell (by simp only;omega) _,by simp;omega,(AL _ ⟨w.heap.size+1,1,none⟩ _ _ (by simp only;omega)).trans P2.1,?_⟩;rw[Ag _ _ 1 _ _ _ P3.1];simp
   case measure=>simp[intOf]
  ·have HR:=Aj (Av wr (.cells #[Value.nilFunc,Value.nilFunc,Value.nilFunc] 290));have HI:Kept ((prog.info? 290).map (·.size)=some 3):=⟨kr⟩
   have H1:Kept ((#[.func (.func 221) #[] #[],.func (.func 222) #[] #[],.func (.func 223) #[] #[]]:Array Value).all (·.oneCell')=true):=⟨by simp[Value.oneCell']⟩
   have W5:Below wr.heap.size wr ((wr.alloc (.cells #[Value.nilFunc,Value.nilFunc,Value.nilFunc] 290)).setRow wr.heap.size #[.func (.func 221) #[] #[],.func (.func 222) #[] #[],.func (.func 223) #[] #[]]):=by
    have hb:=(Ae wr.heap.size wr).alloc Ai (.cells #[Value.nilFunc,Value.nilFunc,Value.nilFunc] 290);exact⟨hb.os,hb.tape,hb.output,sm,fun k hk=>(setRow_other _ _ k _ om).trans (hb.block k hk)⟩
   have c0:((wr.alloc (.cells #[Value.nilFunc,Value.nilFunc,Value.nilFunc] 290)).setRow wr.heap.size #[.func (.func 221) #[] #[],.func (.func 222) #[] #[],.func (.func 223) #[] #[]]).cell? ⟨wr.heap.size,0,none⟩=some (.func (.func 221) #[] #[]):=cell_setRow_same _ _ 0 _ _ _ _ HR.1;have L8:=Aj W5;clear W5;go_wp2_with (first
    |(refine wpList_store_row rfl 290 _ _ rfl wr.heap.size _ rfl rfl _ _ HR.1 HI.1 rfl H1.1 ?_)
    |(go_at_call 221;refine(X2.1 _ (HB.1.trans (L8.1.mono om))).mono ?_;rintro e w6 ⟨rfl,h6⟩;have B6:=Aj (L8.1.trans (h6.mono L8.1.size));have P2:=Aj ((B6.1.block _ om).trans Q2.1);have P3:=Aj ((B6.1.block _ om).trans Q3.1);have t0:=Co _ _ 2 _ _ _ P3.1;have f0:=Fr _ _ 2 _ _ P3.1;have hz6:=B6.1.size;clear h6))
   go_roundw
   case rel=>
    refine⟨3,om,rfl,(HB.1.trans (B6.1.mono om)).setCell (by simp only;omega) _,by simp;omega,(AL _ ⟨w.heap.size+1,2,none⟩ _ _ (by simp only;omega)).trans P2.1,?_⟩;rw[Ag _ _ 2 _ _ _ P3.1];simp
   case measure=>simp[intOf]
  ·have q3:=Q3.1;simp only[show(0:Nat)<3 from om,show(1:Nat)<3 from om,show(2:Nat)<3 from om,if_true]at q3;have t0:=Co _ _ 0 _ _ _ q3;have t1:=Co _ _ 1 _ _ _ q3;have t2:=Co _ _ 2 _ _ _ q3;have d0:=Co _ _ 0 _ _ _ Q2.1;have d1:=Co _ _ 1 _ _ _ Q2.1;have d2:=Co _ _ 2 _ _ _ Q2.1;have f0:=Fr _ _ 0 _ _ Q2.1;have f1:=Fr _ _ 1 _ _ Q2.1;have f2:=Fr _ _ 2 _ _ Q2.1;have hrow:(((wr.setCell ⟨w.heap.size,0,none⟩ (.int .i64 s0)).setCell ⟨w.heap.size,1,none⟩ (.int .i64 s1)).setCell ⟨w.heap.size,2,none⟩ (.int .i64 s2)).heap[w.heap.size]? =some (.cells #[.int .i64 s0,.int .i64 s1,.int .i64 s2] 335 (0,0)):=by
    rw[Ag _ _ 2 _ _ _ (Ag _ _ 1 _ _ _ (Ag _ _ 0 _ _ _ Q2.1))];simp
   have HRW:=Aj hrow;clear q3 hrow;go_wp2;refine Bh (v:= .agg #[.int .i64 s0,.int .i64 s1,.int .i64 s2]) ?_ rfl ⟨rfl,?_⟩
   ·exact bD (fn:=Tryz.f226) (a:=2) (T1:=335) rfl _ _ w.heap.size _ _ _ _ rfl HRW.1 underlying335 rfl kr
   ·exact((HB.1.setCell Ai _).setCell Ai _).setCell Ai _
end Go.Proofs.YtjcpmfphnodaaaaGreatDoor
