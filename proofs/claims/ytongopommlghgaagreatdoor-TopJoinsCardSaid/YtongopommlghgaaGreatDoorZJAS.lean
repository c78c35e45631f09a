/- Part 19. -/
import Derived.Test.YtongopommlghgaaGreatDoorZJAR
import Derived.Laws.CopyOwn
namespace Go.Proofs.YtongopommlghgaaGreatDoor
set_option maxRecDepth 100000
set_option maxHeartbeats 0
open _root_.Go.Proofs.Tryz
section
open Go.RowKit Go.Shelf
theorem Im (f w):Calls prog 36 #[.iface 25 (.int .i64 f)] w fun e w'=>∃c:Int,e= .returned (.int .i64 c)∧(c≠0∧(f=3→c=1))∧w=w':=by
 have hta:∀W,(Instr.typeAssert (.iface 25 (.int .i64 f)) 50 25 true).run prog W= .ok (.tuple #[.int .i64 f,.bool true]) W:=fun _=>kr
 by_cases h3:f=3
 ·subst h3;go_enter func36,ntmps36;go_wp2;go_ret;exact⟨1,rfl,⟨Ai,fun _=>rfl⟩,rfl⟩
 ·have e3:(f==3)=false:=by simpa using h3
  by_cases h12:f=12
  ·subst h12;go_enter func36,ntmps36;go_wp2;go_ret;exact⟨3,rfl,⟨Ai,fun h=>absurd h Ai⟩,rfl⟩
  ·have e12:(f==12)=false:=by simpa using h12
   have hk:=Al h3;clear h3 h12;go_enter func36,ntmps36;go_wp2;go_ret;exact⟨2,rfl,⟨Ai,fun h=>absurd h hk.1⟩,rfl⟩
def aa9 (w:World) (g:Nat) (a0 a1 a2 a3 a4 a5 a6 a7:Value):World:=(((((((w.setCell ⟨g,0,none⟩ a0).setCell ⟨g,1,none⟩ a1).setCell ⟨g,2,none⟩ a2).setCell ⟨g,3,none⟩ a3).setCell ⟨g,4,none⟩ a4).setCell ⟨g,5,none⟩ a5).setCell ⟨g,6,none⟩ a6).setCell ⟨g,7,none⟩ a7
theorem Ul (w g a0 a1 a2 a3 a4 a5 a6 a7 c0 c1 c2 c3 c4 c5 c6 c7) {t} (h:w.heap[g]? =some (.cells #[c0,c1,c2,c3,c4,c5,c6,c7] t (0,0))):(aa9 w g a0 a1 a2 a3 a4 a5 a6 a7).heap[g]? =some (.cells #[a0,a1,a2,a3,a4,a5,a6,a7] t (0,0)):=by
 unfold aa9;have h0:=Ag w g 0 _ t a0 h;rw[Ao]at h0;simp only[Au]at h0;have h1:=Ag _ g 1 _ t a1 h0;rw[Ao]at h1;simp only[Ap,Au]at h1;have h2:=Ag _ g 2 _ t a2 h1;rw[Ao]at h2;simp only[Ap,Au]at h2;have h3:=Ag _ g 3 _ t a3 h2;rw[Ao]at h3;simp only[Ap,Au]at h3;have h4:=Ag _ g 4 _ t a4 h3;rw[Ao]at h4;simp only[Ap,Au]at h4;have h5:=Ag _ g 5 _ t a5 h4;rw[Ao]at h5;simp only[Ap,Au]at h5;have h6:=Ag _ g 6 _ t a6 h5;rw[Ao]at h6;simp only[Ap,Au]at h6;have h7:=Ag _ g 7 _ t a7 h6;rw[Ao]at h7;simp only[Ap,Au]at h7;exact h7
theorem Kq (w:World) (g a0 a1 a2 a3 a4 a5 a6 a7):w.grownBy (aa9 w g a0 a1 a2 a3 a4 a5 a6 a7) (some g):=
 (((((((ak w ⟨g,0,none⟩ a0).trans (ak _ ⟨g,1,none⟩ a1)).trans (ak _ ⟨g,2,none⟩ a2)).trans (ak _ ⟨g,3,none⟩ a3)).trans (ak _ ⟨g,4,none⟩ a4)).trans (ak _ ⟨g,5,none⟩ a5)).trans (ak _ ⟨g,6,none⟩ a6)).trans (ak _ ⟨g,7,none⟩ a7)
abbrev aba:TypeId:=30
def ahH (w:World) (f r:Int) (e:Ending) (w':World):Prop:=
 ∃c z0 z1 z2 z3 s1 s2:Int,e= .returned (.agg #[.int .i64 c,.int .i64 r,.int .i64 z0,.int .i64 z1,.int .i64 z2,.int .i64 z3,.int .i64 s1,.int .i64 s2])∧(c=0↔r=0)∧(f=3→c=1)∧Below w.heap.size w w'
theorem Pn (A n c l w) (hv:aY w w.heap.size A n c l) (hn:n≤140737488353000) (hG:Gl w) (hf0:Ly.pe l≠0):
  Calls prog 10 #[.slice A n c] w (ahH w (Ly.pe l) (Ly.pe l)):=by
 obtain⟨W0,hW0⟩:∃W0,W0=w.alloc (.cells #[.int .i64 0,.int .i64 0,.int .i64 0,.int .i64 0,.int .i64 0,.int .i64 0,.int .i64 0,.int .i64 0] aba):=⟨_,rfl⟩
 have hb0:Below w.heap.size w W0:=by rw[hW0];exact(Ae _ w).alloc Aj _
 have hz0:W0.heap.size=w.heap.size+1:=by rw[hW0];simp
 have hg0:W0.heap[w.heap.size]? =some (.cells #[.int .i64 0,.int .i64 0,.int .i64 0,.int .i64 0,.int .i64 0,.int .i64 0,.int .i64 0,.int .i64 0] aba (0,0)):=by rw[hW0];exact Aw w _
 have HW0:=Al hW0.symm;have LP:=Al (sN A n c l W0 ((hv.below hb0).more om) hn (hG.below hb0).tab);have B0:=Al hb0;have G0:=Al hg0;have Z0:=Al hz0;have HG:=Al hG;obtain⟨f,hf⟩:∃f,f=Ly.pe l:=⟨_,rfl⟩
 rw[←hf]at LP hf0⊢;clear hf hv hG hW0 hb0 hz0 hg0;have hf1:(f !=0)=true:=by simpa using hf0
 have HF0:=Al hf0;have CL:=Al (fun W=>Im f W);clear hf0;go_enter func10,ntmps10;go_upto_region 1 with fail;rw[HW0.1];go_upto_region 3 with(go_at_call 34;refine LP.1.mono ?_;rintro r w2 ⟨V,rfl,hf,hb⟩;obtain⟨Aa,na,ca,Ab,nb,cb,Ac,nc,cc,Ad,nd,cd,hV⟩:=hf.lit;rw[hV];have B2:=Al hb;clear hf hb hV LP)
 have hb3:Below w.heap.size w (w2.alloc (.cells #[.slice Aa na ca,.slice Ab nb cb,.slice Ac nc cc,.slice Ad nd cd] 76)):=B0.1.trans ((B2.1.alloc B2.1.size _).mono (by have:=Z0.1;omega));have hr3:(w2.alloc (.cells #[.slice Aa na ca,.slice Ab nb cb,.slice Ac nc cc,.slice Ad nd cd] 76)).heap[w.heap.size]? =some (.cells #[.int .i64 0,.int .i64 0,.int .i64 0,.int .i64 0,.int .i64 0,.int .i64 0,.int .i64 0,.int .i64 0] aba (0,0)):=((B2.1.alloc B2.1.size _).block _ (by have:=Z0.1;omega)).trans G0.1;generalize w2.alloc (.cells #[.slice Aa na ca,.slice Ab nb cb,.slice Ac nc cc,.slice Ad nd cd] 76)=W3 at*;have fz:=fun k=>Fr W3 w.heap.size k _ _ hr3
 have y0:=Co W3 w.heap.size 0 _ _ _ hr3;have y1:=Co W3 w.heap.size 1 _ _ _ hr3;have y2:=Co W3 w.heap.size 2 _ _ _ hr3;have y3:=Co W3 w.heap.size 3 _ _ _ hr3;have y4:=Co W3 w.heap.size 4 _ _ _ hr3;have y5:=Co W3 w.heap.size 5 _ _ _ hr3;have y6:=Co W3 w.heap.size 6 _ _ _ hr3;have y7:=Co W3 w.heap.size 7 _ _ _ hr3;simp at y0 y1 y2 y3 y4 y5 y6 y7;have B3:=Al hb3;have R3:=Al hr3;clear hb3 hr3 B2;go_wp2_with (go_at_call 36;refine(CL.1 _).mono ?_;rintro e w4 ⟨c4,rfl,hc4,rfl⟩;have TY:=Al hc4;clear hc4);refine Bg (v:= .agg #[.int .i64 c4,.int .i64 f,.int .i64 0,.int .i64 0,.int .i64 0,.int .i64 0,.int .i64 0,.int .i64 0]) ?_ rfl ⟨c4,_,_,_,_,_,_,rfl,⟨fun h=>absurd h TY.1.1,fun h=>absurd h HF0.1⟩,TY.1.2,?_⟩
 ·exact bI (fn:=Tryz.f10) (a:=2) (T1:=30) rfl _ _ w.heap.size _ _ _ _ rfl (Ul _ w.heap.size _ _ _ _ _ _ _ _ _ _ _ _ _ _ _ _ R3.1) underlying30 rfl kr
 ·exact B3.1.grown (Kq _ w.heap.size _ _ _ _ _ _ _ _) B3.1.size (fun r e=>by cases e;exact Nr _)
end
section
open Go.RowKit Go.Shelf
theorem xO (A n c B b w) (hv:fK w B A n c b) (hB:B≤w.heap.size) (hf:∀s∈b,Lb.Fit s.1):
  Calls prog 19 #[.slice A n c] w fun e w'=>∃v:Bool,e= .returned (.bool v)∧(v=true→Bk.wh b∧Bk.bN b=0)∧Below w.heap.size w w':=by
 have LG:=Al (qP A n c B b w hv hB hf);have CK:=Al (fun W (h:Below w.heap.size w W) (hs:Bk.wh b)=>FI A n c B b W (hv.below (h.mono hB)) (Lt hB h.size) (by have:=hs.bu;omega) hf);clear hv hf;go_enter func19,ntmps19;go_wp2_with (first
  |(go_at_call 47;refine(CK.1 w2 B2.1 (HV.1 (Int.le_of_eq h0'))).mono ?_;rintro e w3 ⟨u,rfl,hu,hg⟩;have HU:=Al hu;have B3:=Al (B2.1.trans (hg.below.mono B2.1.size));clear hu hg)
  |(go_at_call 28;refine LG.1.mono ?_;rintro e w2 ⟨v,rfl,hv,hb⟩;have HV:=Al hv;have B2:=Al hb;clear hv hb;by_cases h0':v=0))
 ·go_ret;refine⟨_,rfl,fun h=>?_,B3.1⟩;exact⟨HV.1 (Int.le_of_eq h0'),HU.1 (by simpa using h)⟩
 ·go_ret;exact⟨_,rfl,(fun h=>by cases h),B2.1⟩
end
section
open Go.RowKit Go.Shelf
def Tp.sb:Bk.gN:=[([⟨⟨#[97]⟩,⟨#[49]⟩⟩],[(1,2)])]
theorem Tp.Um:Bk.bN Tp.sb=0:=by decide+kernel
theorem Tp.YT:∀s∈Tp.sb,Cs.In s.2:=by
 intro s hs p hp;unfold Tp.sb at hs;rw[iP]at hs;subst hs;simp only[iP]at hp;subst hp;exact⟨by unfold Tm.In;omega,Ai⟩
theorem Tp.Un:Bk.wh Tp.sb:=⟨Ai,Ai,Ai,by decide+kernel⟩
theorem Bk.wh.ok {b} (h:Bk.wh b) (hc:Bk.bN b=0) (hi:∀s∈b,Cs.In s.2):Bk.Ok b:=by
 have hw:=h.wt;refine⟨hc,hi,om,by have:=Bk.Md h;omega,fun T ht=>?_,fun T E ho i hi4=>?_⟩
 ·have:=Bk.Mc (T:=T) (by have:=(h.tab hc ht).1;omega) h;omega
 ·have:=h.sec hc ho i hi4;split at this<;>omega
theorem Ly.Po (D) (hD:Ly.tot D 4≤140737488352000):(Ly.asm D).length≤Ly.tot D 4+200:=by
 rw[Ly.yA];unfold Ly.body;rw[La];have h1:=Ly.sJ D hD 4 om;have h2:=Ly.wR D hD;have h3:=Wr.lq 5 (Ly.ig (Ly.off D) 4) om;omega
theorem Rd.two (w:World) (a b t):Rd (w.alloc (.cells #[a,b] t)) (w.heap.size+1) 2 (some ⟨w.heap.size,0,none⟩) 1 1 [a,b]:=
 ⟨Nr _,by unfold maxLen;omega,rfl,fun _=>⟨_,0,rfl,om,fun i u hu=>by
  rw[bO];exact(Aq w _ _ _ i).trans (by simpa using hu)⟩⟩
theorem Bk.wh.short {b L} (h:Bk.wh b) (hc:Bk.bN b=0) (hi:∀s∈b,Cs.In s.2) (hf:Bk.File b L):Ko L∧L.length≤140737488353000∧Bk.dec L=(b,0):=by
 obtain⟨T,E,ho,rfl⟩:=hf;have htot:=(h.ok hc hi).tot ho;have hle:=Ly.Po (Bk.D4 T E b) om;refine⟨fun i hi4=>?_,om,Bk.Sc hc hi (by have:=h.wt;omega) ?_ ⟨T,E,ho,rfl⟩⟩
 ·rw[Ly.Fb _ om i hi4];exact h.sec hc ho i hi4
 ·omega
theorem xP (w):Calls prog 33 #[] w fun e w'=>∃A n c,e= .returned (.slice A n c)∧fK w' w'.heap.size A n c Tp.sb∧Below w.heap.size w w':=by
 go_enter func33,ntmps33;go_wp2;go_ret;refine⟨_,_,_,rfl,?_,(((Ae _ w).alloc Aj _).alloc Ah _).alloc (by simp;try omega) _⟩;have r1:=Rd.two w (.string ⟨#[97]⟩) (.string ⟨#[49]⟩) 59;have r2:=Rd.two (w.alloc (.cells #[.string ⟨#[97]⟩,.string ⟨#[49]⟩] 59)) (.int .i64 1) (.int .u64 2) 127;have r3:=Rd.two ((w.alloc (.cells #[.string ⟨#[97]⟩,.string ⟨#[49]⟩] 59)).alloc (.cells #[.int .i64 1,.int .u64 2] 127)) (.slice (some ⟨w.heap.size,0,none⟩) 1 1) (.slice (some ⟨w.heap.size+1,0,none⟩) 1 1) 57;simp only[AV]at r1 r2 r3;have b2:Below (w.heap.size+1+1) ((w.alloc (.cells #[.string ⟨#[97]⟩,.string ⟨#[49]⟩] 59)).alloc (.cells #[.int .i64 1,.int .u64 2] 127)) (((w.alloc (.cells #[.string ⟨#[97]⟩,.string ⟨#[49]⟩] 59)).alloc (.cells #[.int .i64 1,.int .u64 2] 127)).alloc (.cells #[.slice (some ⟨w.heap.size,0,none⟩) 1 1,.slice (some ⟨w.heap.size+1,0,none⟩) 1 1] 57)):=(Ae _ _).alloc Ah _;have b1:Below (w.heap.size+1) (w.alloc (.cells #[.string ⟨#[97]⟩,.string ⟨#[49]⟩] 59)) ((w.alloc (.cells #[.string ⟨#[97]⟩,.string ⟨#[49]⟩] 59)).alloc (.cells #[.int .i64 1,.int .u64 2] 127)):=(Ae _ _).alloc Ah _;refine⟨[(.slice (some ⟨w.heap.size,0,none⟩) 1 1,.slice (some ⟨w.heap.size+1,0,none⟩) 1 1)],Rd.more r3 Ah,rfl,fun i a a'=>?_⟩;have hi:i=0:=by simpa using a
 subst hi;exact⟨_,_,_,_,_,_,rfl,Rd.more (Rd.below (Rd.below r1 b1) (b2.mono om)) (by simp;try omega),Rd.more (Rd.below r2 b2) Ah⟩
theorem ad9 (a b c d e f g h w):(Instr.field 30 (.agg #[a,b,c,d,e,f,g,h]) 0).run prog w= .ok a w:=kr
theorem Kr (w) (hG:Gl w):Calls prog 8 #[] w fun e w'=>e= .returned (.bool true)∧Below w.heap.size w w':=by
 have HG:=Al hG;have SM:=Al (xP w);have EN:=Al (fun(w1:World) (A:Option Addr) (n c:Nat) (hb:Below w.heap.size w w1) (hk:fK w1 w1.heap.size A n c Tp.sb)=>MM A n c Tp.sb w1 hk (Tp.Un.ok Tp.Um Tp.YT) (hG.below hb));clear hG;go_enter func8,ntmps8;go_upto_region 2 with(first
  |(go_at_call 16;refine(EN.1 w1 A1 n1 c1 B1.1 K1.1).mono ?_;rintro e w2 ⟨A2,n2,c2,L,rfl,hf,ho,hb⟩;have HF:=Al hf;have O2:=Al ho;have B2:=Al (B1.1.trans (hb.mono B1.1.size));clear hf ho hb EN K1 B1)
  |(go_at_call 33;refine SM.1.mono ?_;rintro e w1 ⟨A1,n1,c1,rfl,hk,hb⟩;have K1:=Al hk;have B1:=Al hb;clear hk hb SM))
 obtain⟨s1,s2,s3⟩:=Tp.Un.short Tp.Um Tp.YT HF.1;have DE:=Al (MN A2 n2 c2 L w2 O2.1.rd (by rw[O2.1.len];exact s2) s1 (HG.1.below B2.1));rw[s3]at DE;clear s1 s2 s3;go_upto_region 3 with(go_at_call 9;refine DE.1.mono ?_;rintro e w3 ⟨A3,n3,c3,rfl,hk,hb⟩;have K3:=Al hk;have B3:=Al (B2.1.trans (hb.mono B2.1.size));clear hk hb DE)
 have SM2:=Al (xP w3);have EQ:=Al (fun(w4:World) (A4:Option Addr) (n4 c4:Nat) (hb:Below w3.heap.size w3 w4) (hk:fK w4 w4.heap.size A4 n4 c4 Tp.sb)=>Ju A3 A4 n3 c3 n4 c4 w3.heap.size w4.heap.size Tp.sb w4 (K3.1.below hb) hk hb.size Aj);have hpe:Ly.pe []=3:=by decide+kernel
 have VE:=Al (fun(w5:World) (hb:Below w.heap.size w w5)=>by
  have h:=Pn none 0 0 [] w5 (Rd.nil w5 _ 1 0 none (by unfold maxLen;omega)) om (HG.1.below hb) (by rw[hpe];decide);rw[hpe]at h;exact h)
 clear hpe;have fr0:=ad9;go_wp2_with (first
  |(go_at_call 10;refine(VE.1 w5 B5.1).mono ?_;rintro e w6 ⟨q,z0,z1,z2,z3,t1,t2,rfl,-,hq,hb⟩;obtain rfl:=hq rfl;have B6:=Al (B5.1.trans (hb.mono B5.1.size));clear hq hb VE)
  |(go_at_call 15;refine(EQ.1 w4 A4 n4 c4 B34.1 K4.1).mono ?_;rintro e w5 ⟨rfl,hg⟩;have B5:=Al (B4.1.trans (hg.below.mono B4.1.size));clear hg EQ)
  |(go_at_call 33;refine SM2.1.mono ?_;rintro e w4 ⟨A4,n4,c4,rfl,hk,hb⟩;have K4:=Al hk;have B34:=Al hb;have B4:=Al (B3.1.trans (hb.mono B3.1.size));clear hk hb SM2))
 go_ret;exact⟨rfl,B6.1⟩
end
section
open Go.RowKit Go.Shelf
theorem aJ.aea (w:World) (base) (h:base≤w.heap.size):aJ (w.alloc (.cells #[] 59)) base (some ⟨w.heap.size,0,none⟩) 0 0 []:=World.ownsRow_made w #[] 0 h Ah rfl
theorem Kt (A n c B l w) (hv:dH w B A n c l) (hB:B≤w.heap.size) (hl:n≤4398046511104):
  Calls prog 161 #[.slice A n c] w fun e w'=>∃A3 c3,e= .returned (.slice A3 n c3)∧aJ w' w.heap.size A3 n c3 l∧Below w.heap.size w w':=by
 have hlc:=hv.1;have hcm:=hv.2.1;unfold maxLen at hcm;have Hv:=Al hv;have hn:=Al hv.len;clear hv;have qT:∀(w:World) (a:Option Addr) (n c n' c':Nat),(binOp .eql 54 (.slice a n c) (.slice none n' c')).run prog w= .ok (.bool a.isNone) w:=fun w a n c n' c'=>Lib.run_eql_slice_nil w _ _ a n c n' c' underlying54
 cases A with
 |none=>
  have h0:n=0:=by
   rcases lY n with h|h
   ·exact h
   ·obtain⟨b,off,e,_⟩:=Hv.1.2.2.2 h;cases e
  subst h0;obtain rfl:l=[]:=qU hn.1.symm;go_enter func161,ntmps161;go_wp2;go_ret;exact⟨none,0,rfl,aJ.nil _ _,Ae _ _⟩
 |some a=>
  go_enter func161,ntmps161;go_wp2_with (at_builtin;refine iR rfl (.tmp 5) (.tmp 6) rfl w.heap.size _ _ _ [] rfl (aJ.aea w _ Aj) B _ _ _ l rfl (Rd.alloc Hv.1 hB _) om Ah ?_;intro A2 c2 w1 hown1 hgrow1 U3;have hb1:Below w.heap.size w w1:=((Ae _ w).alloc Aj _).grown hgrow1 Ah (by simp[ab]));rw[AB,bO]at hown1;go_ret;exact⟨A2,c2,rfl,hown1,hb1⟩
namespace Lb
def cf (x y:aU):Int:=St.cmp x.n y.n
theorem MO:ltOf cf=fun x y=>St.lt x.n y.n:=by
 funext x y
 unfold ltOf cf;by_cases h:St.lt x.n y.n=true
 ·rw[h,BI (St.nL.2 h)]
 ·have h':St.lt x.n y.n=false:=by simpa using h
  rw[h',AA (fun e=>h (St.nL.1 e))]
theorem ahI:Sort.SWO (ltOf cf):=by
 rw[MO];exact⟨fun x=>St.irrefl _,fun x y z h1 h2=>St.trans h1 h2,fun x y z h1 h2=>St.ntrans h1 h2⟩
end Lb
theorem Pp (g n c base Bf l w) (ho:aJ w base (some ⟨g,0,none⟩) n c l) (hb:base≤w.heap.size) (hB:Bf<w.heap.size) (hne:Bf≠g) (hc:w.cell? ⟨Bf,0,none⟩=some (.func (.func 203) #[] #[])) (hn:n≤4398046511104):
  Calls prog 134 #[.slice (some ⟨g,0,none⟩) n c,.func (.func 202) #[] #[.pointer (some ⟨Bf,0,none⟩)]] w fun e w'=>
   e= .returned (.tuple #[])∧∃d:Array aU,Sort.PermIn 0 l.toArray.size l.toArray d∧Sort.SortedIn (fun x y=>St.lt x.n y.n) 0 l.toArray.size d∧dH w' w.heap.size (some ⟨g,0,none⟩) n c d.toList∧Below base w w':=by
 have hlen:=ho.len;have hgl:=ae ho g rfl;have hrd:=ho.rd;have eg:∀args w,(callFunc 202 args).run prog w= .ok (.enter 202 args) w:=BR func202 kr rfl;have hH:=Lb.xA ho;have hcmp:CmpLays prog 202 #[.pointer (some ⟨Bf,0,none⟩)] mi 2 Lb.cf g 0 l.toArray.size w:=by
  intro m os dk hdk x y;have hz:Bf< (sortWorldK mi 2 w g 0 m dk os).heap.size:=jE hB (gP (base:=0) (bf _) (bf _)).size;have hcell:(sortWorldK mi 2 w g 0 m dk os).cell? ⟨Bf,0,none⟩=some (.func (.func 203) #[] #[]):=by
   unfold sortWorldK;rw[Sort.cell?_grow _ _ _ (by unfold Sort.putRowK Sort.putRow Sort.mapBlock;simp[Sort.ahead];exact hB),Sort.cell?_putRowK_other mi 2 _ g 0 dk _ hne];exact hc
  exact rJ 203 aU.n (BR func203 kr rfl) lG Bf x y _ hz hcell
 have ig:=AnyQ.slices_SortFunc Tryz.sortL 2 Tryz.isAgg59 Tryz.sizeOf59 mi Lb.zh Lb.LH Lb.cf Lb.ahI 202 #[.pointer (some ⟨Bf,0,none⟩)] g 0 c l.toArray w eg hcmp hH hgl.2 (by simp;omega)
 change Calls prog 134 _ _ _ at ig
 rw[show l.toArray.size=n by simp[hlen]]at ig⊢;refine ig.mono fun e w' ⟨h1,d,m,os,h2,h3,h4⟩=>⟨h1,d,h2,by rw[←Lb.MO];exact h3,?_,by rw[h4];exact gP hgl.1 hb⟩
 rw[h4];have hds:d.size=n:=by have:=h2.1;simp at this;omega
 exact Lb.Gc hgl.2 hrd.1 hrd.2.1 hds (holdsK_sortWorldK_c mi 2 w g 0 l.toArray d m os hH hgl.2 (by simp;omega))
theorem Ku (A c fv w):
  Calls prog 134 #[.slice A 0 c,fv] w fun e w'=>e= .returned (.tuple #[])∧w'=w:=
 AnyF.slices_SortFunc_none Tryz.sortL A c fv w
theorem Pq (A n c base Bf l w) (ho:aJ w base A n c l) (hb:base≤w.heap.size) (hB:Bf<w.heap.size) (hne:∀g,ab A=some g→Bf≠g) (hc:w.cell? ⟨Bf,0,none⟩=some (.func (.func 203) #[] #[])) (hn:n≤4398046511104):
  Calls prog 134 #[.slice A n c,.func (.func 202) #[] #[.pointer (some ⟨Bf,0,none⟩)]] w fun e w'=>
   e= .returned (.tuple #[])∧∃d:Array aU,Sort.PermIn 0 l.toArray.size l.toArray d∧Sort.SortedIn (fun x y=>St.lt x.n y.n) 0 l.toArray.size d∧dH w' w.heap.size A n c d.toList∧Below base w w':=by
 rcases lY n with h0|h0
 ·subst h0;have hl:l=[]:=qU ho.len.symm;subst hl;have hm:=ho.rd.2.1;refine(Ku A c _ w).mono fun e w' ⟨h1,h2⟩=>⟨h1,#[],⟨rfl,fun _ _=>rfl,List.Perm.refl _⟩,fun i j _ h2 h3=>absurd h3 Ah,?_,by rw[h2];exact Ae _ _⟩
  exact Rd.nil _ _ 2 c A hm
 ·obtain⟨g,rfl,h1,h2⟩:=ho.pos h0;exact Pp g n c base Bf l w ho hb hB (hne g rfl) hc hn
theorem Kv (A n c B l w) (hv:dH w B A n c l) (hB:B≤w.heap.size) (hf:Lb.Fit l) (hn4:n≤4398046511104) (hs:Lb.aN l) (ho:Lb.ones l=0):
  Calls prog 106 #[.slice A n c] w fun r w'=>∃A2 c2,r= .returned (.tuple #[.slice A2 n c2,.int .i64 0])∧dH w' w'.heap.size A2 n c2 l∧(∀q,ab A2=some q→w.heap.size≤q)∧Below w.heap.size w w':=by
 have hlc:=hv.1;have hcm:=hv.2.1;unfold maxLen at hcm;have hn:=Al hv.len;have V:=Al hv;have F:=Al hf;have HS:=Al hs;have HO:=Al ho;have H1:=Al ((Lb.gq l).1 ho);clear hv hf hs ho;go_enter func106,ntmps106;go_wp2;go_loopw [11] (fun i wr=>∃k:Nat,k≤n∧i= .int .i64 k∧Gr w wr) (fun i _=>n-(intOf i).toNat)
 case atStart=>exact⟨0,om,rfl,Gr.refl w⟩
 case round=>
  obtain⟨k,hk,rfl,gr⟩:=hrel;by_cases hlt:k<n
  ·have hkl:k<l.length:=by rw[←hn.1];exact hlt
   obtain⟨b,off,rfl,hc⟩:=V.1.cells hB hkl;obtain⟨c0,c1⟩:=hc wr gr.below;have G:=Al gr;obtain⟨hf1,hf2⟩:=F.1.at hkl;have ONE:=Al (fun W=>sV l[k] W hf1 hf2);rw[H1.1 _ (dR hkl)]at ONE;clear hc gr hf1 hf2;generalize l[k].n=xn at*;generalize l[k].v=xv at*;go_wp2_with (go_at_call 151;refine(ONE.1 _).mono ?_;rintro e w2 ⟨rfl,g2⟩;have G2:=Al ((G.1.alloc _).trans g2);clear g2);go_roundw
   case rel=>exact⟨k+1,om,by go_num,G2.1⟩
   case measure=>simp[intOf];omega
  ·have G:=Al gr;have CL:=Al (Kt A n c B l wr (V.1.below ((gr.below).mono hB)) (Lt hB gr.size) hn4);have ii:=fun W=>nN (.func (.func 203) #[] #[]) (.func (.func 204) #[] #[]) W
   have jj:=fun W=>Fy (.func (.func 203) #[] #[]) W
   have BY:=fun W=>yE (.func (.func 203) #[] #[]) rfl W
   clear gr;go_upto_region 10 with(first
    |(go_at_call 161;refine CL.1.mono ?_;rintro e w1 ⟨A3,c3,rfl,ho1,hb1⟩;have O1:=Al ho1;have A3P:=Al (fun q e=>(ae ho1 q e).1);have B1:=Al hb1;clear ho1 hb1)
    |(go_at_call 150;refine(lH _).mono ?_;rintro e w2 ⟨rfl,g2⟩;have G2:=Al g2;clear g2)
    |(go_at_call 149;refine(BY _).mono ?_;rintro e w3 ⟨rfl,rfl⟩;have O2:=Al (own_below (Oa (own_below O1.1 G2.1.below (fun g e=>(ae O1.1 g e).2)) (.cells #[.func (.func 203) #[] #[]] 252)) (Ae (w2.heap.size+1) _) (fun g e=>by have:=(ae O1.1 g e).2;have:=G2.1.size;omega));have SO:=Al (Pq A3 n c3 wr.heap.size w2.heap.size l _ O2.1 (by have:=B1.1.size;have:=G2.1.size;simp;omega) Ah (fun g e=>by have:=(ae O1.1 g e).2;have:=G2.1.size;omega) (Aq w2 _ _ _ 0) hn4))
    |(go_at_call 134;refine SO.1.mono ?_;rintro e w4 ⟨rfl,d,hp,hs,hr4,hb4⟩;have P4:=Al hp;have S4:=Al hs;have R4:=Al hr4;have B4:=Al hb4;clear hp hs hr4 hb4))
   have yu:=B4.1.size;have hdl:d.toList=l:=by
    rcases Lb.yD HO.1 P4.1 S4.1 with⟨_,nm⟩|⟨_,nm⟩
    ·exact(Lb.Norm.self HS.1 HO.1 nm).2
    ·exact absurd (Lb.Norm.self HS.1 HO.1 nm).1 Ai
   have R5:Kept (dH w4 _ A3 n c3 l):=⟨hdl▸R4.1⟩
   have CK:=Al (tC A3 n c3 _ l w4 R5.1 yu F.1);rw[Lb.Vo HS.1 HO.1]at CK;have b1:Below wr.heap.size wr w4:=((B1.1.trans (G2.1.below.mono B1.1.size)).alloc (by have:=B1.1.size;have:=G2.1.size;omega) _).trans B4.1;have b2:=Al (G.1.below.trans (b1.mono G.1.size));have hz5:=b2.1.size;have rf:=G.1.size;clear b1 hdl;go_wp2_with (go_at_call 92;refine CK.1.mono ?_;rintro e w5 ⟨rfl,g5⟩;have G5:=Al g5;clear g5);go_ret2;exact⟨A3,c3,rfl,((R5.1.more yu).below G5.1.below).more G5.1.size,fun q e=>Lt rf (A3P.1 q e),b2.1.trans (G5.1.below.mono hz5)⟩
end
namespace Bk
open Cs (fI)
theorem abb {b} (h1:b.length≤1048576) (h2:bu b≤16777216) (h3:∀s∈b,one s=0) (h4:b.Pairwise fun x y=>Lb.cmpL x.1 y.1<0):bN b=0:=by
 unfold bN;rw[Ng om];rcases Lb.dX (zY b) b.length with⟨h,_⟩|⟨k,hk,hk0,he,_⟩
 ·exact h
 ·exfalso;apply hk0;unfold zY;rw[gd hk,Ng (by simpa using h3 _ (dR hk))];unfold bH;by_cases q:k=0
  ·rw[Ps0 q]
  ·rw[Ng q,gd hk,gd (show k-1<b.length from om)];have h5:=AF.1 h4 (k-1) k om hk om;unfold bE;rw[Ng om,Ng om]
end Bk
namespace EI
variable {α:Type}
def swp (f:Nat→α) (i j:Nat):Nat→α:=fun t=>if t=i then f j else if t=j then f i else f t
inductive Ps (a b:Nat) (f:Nat→α):(Nat→α)→Prop
 |refl:Ps a b f f
 |step {g:Nat→α} (i j:Nat) (h:Ps a b f g) (hi:a≤i) (hi':i<b) (hj:a≤j) (hj':j<b):Ps a b f (swp g i j)
theorem Ps.trans {a b} {f g h:Nat→α} (h1:Ps a b f g) (h2:Ps a b g h):Ps a b f h:=by
 induction h2 with
 |refl=>exact h1
 |step i j _ hi hi' hj hj' ih=>exact ih.step i j hi hi' hj hj'
theorem Ps.mono {a b a' b'} {f g:Nat→α} (h:Ps a b f g) (ha:a'≤a) (hb:b≤b'):Ps a' b' f g:=by
 induction h with
 |refl=>exact .refl
 |step i j _ hi hi' hj hj' ih=>exact ih.step i j om om om om
theorem Ps.o {a b} {f g:Nat→α} (h:Ps a b f g) (t) (ht:t<a∨b≤t):g t=f t:=by
 induction h with
 |refl=>rfl
 |step i j _ hi hi' hj hj' ih=>unfold swp;rw[Ng om,Ng om];exact ih
theorem Ps.from {a b} {f g:Nat→α} (h:Ps a b f g) (t) (ht:a≤t∧t<b):∃s,a≤s∧s<b∧g t=f s:=by
 induction h generalizing t with
 |refl=>exact⟨t,ht.1,ht.2,rfl⟩
 |step i j _ hi hi' hj hj' ih=>
  unfold swp;split
  ·exact ih j ⟨hj,hj'⟩
  ·split
   ·exact ih i ⟨hi,hi'⟩
   ·exact ih t ht
theorem MQ (f:Nat→α) (i j n) (hi:i<n) (hj:j<n):(List.range n).map (swp f i j)=(((List.range n).map f).set i (f j)).set j (f i):=by
 apply Ev;intro k;by_cases hk:k<n
 ·by_cases h1:k=j
  ·subst h1;by_cases h2:k=i
   ·subst h2;simp[swp,hk]
   ·simp[swp,hk,h2]
  ·by_cases h2:k=i
   ·subst h2;simp[swp,hk,Ne.symm h1]
   ·simp[swp,hk,h1,h2,Ne.symm h1,Ne.symm h2]
 ·simp[hk]
theorem Ps.perm {a b} {f g:Nat→α} (h:Ps a b f g) (n) (hn:b≤n):((List.range n).map g).Perm ((List.range n).map f):=by
 induction h with
 |refl=>exact .refl _
 | @step g i j _ hi hi' hj hj' ih=>
  refine List.Perm.trans ?_ ih;rw[MQ g i j n om om];have:= @List.set_set_perm _ ((List.range n).map g) i j (by simp;omega) (by simp;omega);simpa using this
structure Wo (lt:α→α→Bool):Prop where
 asym:∀x y,lt x y=true→lt y x=false
 tr:∀x y z,lt y x=false→lt z y=false→lt z x=false
def aN (lt:α→α→Bool) (f:Nat→α) (a b:Nat):Prop:=∀p q,a≤p→p<q→q<b→lt (f q) (f p)=false
variable {lt:α→α→Bool} {f g:Nat→α}
theorem Wo.irr (W:Wo lt) (x):lt x x=false:=by
 cases h:lt x x with
 |false=>rfl
 |true=>have:=W.asym x x h;rw[h]at this;cases this
theorem aN.mono {a b a' b'} (h:aN lt f a b) (ha:a≤a') (hb:b'≤b):aN lt f a' b':=fun p q h1 h2 h3=>h p q om h2 om
theorem aN.keep {a b x y} (h:aN lt f x y) (hp:Ps a b f g) (hd:y≤a∨b≤x):aN lt g x y:=fun p q h1 h2 h3=>by
 rw[hp.o p om,hp.o q om];exact h p q h1 h2 h3
theorem aN.few {a b} (h:b≤a+1):aN lt f a b:=fun p q h1 h2 h3=>om
theorem aN.le (W:Wo lt) {a b} (h:aN lt f a b) (p q) (h1:a≤p) (h2:p≤q) (h3:q<b):lt (f q) (f p)=false:=by
 rcases Cy p q with h4|h4
 ·exact h p q h1 h4 h3
 ·have:p=q:=by omega
  subst this;exact W.irr _
def Ins (lt:α→α→Bool) (f:Nat→α) (a i j:Nat):Prop:=∀p q,a≤p→p<q→q≤i→q≠j→lt (f q) (f p)=false
theorem Ins.start {a i} (h:aN lt f a i):Ins lt f a i i:=fun p q h1 h2 h3 h4=>h p q h1 h2 om
theorem Ins.step (W:Wo lt) {a i j} (h:Ins lt f a i j) (haj:a<j) (hji:j≤i) (hl:lt (f j) (f (j-1))=true):Ins lt (swp f j (j-1)) a i (j-1):=by
 intro p q h1 h2 h3 h4;unfold swp;by_cases hq:q=j
 ·subst hq;rw[Ps0 rfl,Ng om];by_cases hp:p=q-1
  ·subst hp;rw[Ps0 rfl];exact W.asym _ _ hl
  ·rw[Ng hp];exact h p (q-1) h1 om om om
 ·rw[Ng hq,Ng h4];by_cases hp:p=j
  ·subst hp;rw[Ps0 rfl];exact h (p-1) q om om h3 hq
  ·rw[Ng hp];by_cases hp2:p=j-1
   ·subst hp2;rw[Ps0 rfl];exact h j q om om h3 hq
   ·rw[Ng hp2];exact h p q h1 h2 h3 hq
theorem Ins.stop (W:Wo lt) {a i j} (h:Ins lt f a i j) (hs:j≤a∨lt (f j) (f (j-1))=false):aN lt f a (i+1):=by
 intro p q h1 h2 h3;by_cases hq:q=j
 ·subst hq;rcases hs with hs|hs
  ·omega
  ·by_cases hp:p=q-1
   ·subst hp;exact hs
   ·exact W.tr _ _ _ (h p (q-1) h1 om om om) hs
 ·exact h p q h1 h2 om hq
def Up (lt:α→α→Bool) (f:Nat→α) (a b i k:Nat):Prop:=
 (∀p q,a≤p→p<q→q<b→p≠k→lt (f q) (f p)=false)∧(∀t,k<t→t<i→lt (f t) (f k)=true)∧∀t,i≤t→t<b→lt (f t) (f k)=false
theorem Up.step (W:Wo lt) {a b i k} (h:Up lt f a b i k) (hak:a≤k) (hki:k+1<i) (hib:i≤b):Up lt (swp f k (k+1)) a b i (k+1):=by
 obtain⟨h1,h2,h3⟩:=h;have hk:swp f k (k+1) (k+1)=f k:=by unfold swp;rw[Ng om,Ps0 rfl]
 have hk0:swp f k (k+1) k=f (k+1):=by unfold swp;rw[Ps0 rfl]
 have ho:∀t,t≠k→t≠k+1→swp f k (k+1) t=f t:=fun t a b=>by unfold swp;rw[Ng a,Ng b]
 refine⟨fun p q p1 p2 p3 p4=>?_,fun t t1 t2=>?_,fun t t1 t2=>?_⟩
 ·by_cases hp:p=k
  ·subst hp;rw[hk0];by_cases hq:q=p+1
   ·subst hq;rw[hk];exact W.asym _ _ (h2 _ om om)
   ·rw[ho q om hq];exact h1 (p+1) q om om p3 om
  ·rw[ho p hp p4];by_cases hq:q=k
   ·subst hq;rw[hk0];exact h1 p (q+1) p1 om om hp
   ·by_cases hq2:q=k+1
    ·subst hq2;rw[hk];exact h1 p k p1 om om hp
    ·rw[ho q hq hq2];exact h1 p q p1 p2 p3 hp
 ·rw[hk,ho t om om];exact h2 t om t2
 ·rw[hk,ho t om om];exact h3 t t1 t2
theorem Up.stop {a b i k} (h:Up lt f a b i k) (hk:i≤k+1):aN lt f a b:=by
 intro p q h1 h2 h3;by_cases hp:p=k
 ·subst hp;exact h.2.2 q om h3
 ·exact h.1 p q h1 h2 h3 hp
def Dn (lt:α→α→Bool) (f:Nat→α) (a b i k:Nat):Prop:=
 (∀p q,a≤p→p<q→q<b→q≠k→lt (f q) (f p)=false)∧(∀t,i≤t→t<k→lt (f k) (f t)=true)∧∀t,a≤t→t<i→lt (f k) (f t)=false
theorem Dn.step (W:Wo lt) {a b i k} (h:Dn lt f a b i k) (hai:a≤i) (hik:i<k) (hkb:k<b):Dn lt (swp f k (k-1)) a b i (k-1):=by
 obtain⟨h1,h2,h3⟩:=h;have hk:swp f k (k-1) (k-1)=f k:=by unfold swp;rw[Ng om,Ps0 rfl]
 have hk0:swp f k (k-1) k=f (k-1):=by unfold swp;rw[Ps0 rfl]
 have ho:∀t,t≠k→t≠k-1→swp f k (k-1) t=f t:=fun t a b=>by unfold swp;rw[Ng a,Ng b]
 refine⟨fun p q p1 p2 p3 p4=>?_,fun t t1 t2=>?_,fun t t1 t2=>?_⟩
 ·by_cases hq:q=k
  ·subst hq;rw[hk0];by_cases hp:p=q-1
   ·subst hp;rw[hk];exact W.asym _ _ (h2 _ om om)
   ·rw[ho p om hp];exact h1 p (q-1) p1 om om om
  ·rw[ho q hq p4];by_cases hp:p=k
   ·subst hp;rw[hk0];exact h1 (p-1) q om om p3 hq
   ·by_cases hp2:p=k-1
    ·subst hp2;rw[hk];exact h1 k q om om p3 hq
    ·rw[ho p hp hp2];exact h1 p q p1 p2 p3 hq
 ·rw[hk,ho t om om];exact h2 t t1 om
 ·rw[hk,ho t om om];exact h3 t t1 t2
theorem Dn.stop {a b i k} (h:Dn lt f a b i k) (hk:k≤i):aN lt f a b:=by
 intro p q h1 h2 h3;by_cases hq:q=k
 ·subst hq;exact h.2.2 p h1 om
 ·exact h.1 p q h1 h2 h3 hq
def EJ (f:Nat→α) (a b n:Nat):Nat→α:=fun t=>if a≤t∧t<a+n then f (t-a+b)else if b≤t∧t<b+n then f (t-b+a)else f t
theorem Io (f:Nat→α) (a b):EJ f a b 0=f:=by funext t;unfold EJ;rw[Ng om,Ng om]
theorem Ip (f:Nat→α) (a b i) (h:a+i<b):swp (EJ f a b i) (a+i) (b+i)=EJ f a b (i+1):=by
 funext t
 unfold swp EJ;by_cases h1:t=a+i
 ·subst h1;rw[Ps0 rfl,Ng om,Ng om,Ps0 om];congr 1;omega
 ·by_cases h2:t=b+i
  ·subst h2;rw[Ng h1,Ps0 rfl,Ng om,Ng om,Ng om,Ps0 om];congr 1;omega
  ·rw[Ng h1,Ng h2];by_cases h3:a≤t∧t<a+i
   ·rw[Ps0 h3,Ps0 om]
   ·rw[Ng h3,Ng (show¬(a≤t∧t<a+(i+1))from om)];by_cases h4:b≤t∧t<b+i
    ·rw[Ps0 h4,Ps0 om]
    ·rw[Ng h4,Ng om]
theorem Kw (f:Nat→α) (a b n x y) (hx:x≤a) (h:a+n≤b) (hy:b+n≤y):Ps x y f (EJ f a b n):=by
 induction n with
 |zero=>rw[Io];exact .refl
 |succ n ih=>rw[←Ip f a b n om];exact(ih om om).step _ _ om om om om
def mD (f:Nat→α) (a m b:Nat):Nat→α:=fun t=>if a≤t∧t<a+(b-m)then f (t+(m-a))else if a+(b-m)≤t∧t<b then f (t-(b-m))else f t
theorem Iq (f:Nat→α) (m i j) (h:j<i) (hm:i≤m):mD (EJ f (m-i) m j) (m-(i-j)) m (m+j)=mD f (m-i) m (m+j):=by
 funext t
 unfold mD EJ;by_cases h1:m-i≤t∧t<m-i+j
 ·rw[Ng om,Ng om,Ps0 h1,Ps0 om];congr 1;omega
 ·by_cases h2:m-i+j≤t∧t<m-i+j+j
  ·rw[Ps0 om,Ng om,Ng (show¬(m-i≤t∧t<m-i+(m+j-m))from om),Ps0 (show m-i+(m+j-m)≤t∧t<m+j from om)];by_cases h3:m≤t+(m-(m-(i-j)))
   ·rw[Ps0 om];congr 1;omega
   ·exfalso;omega
  ·by_cases h3:m-i≤t∧t<m+j
   ·rw[Ng om,Ps0 om,Ng om,Ng om,Ng om,Ps0 om]
   ·rw[Ng om,Ng om,Ng om,Ng om,Ng om,Ng om]
theorem Ir (f:Nat→α) (m i j) (h:i<j) (hm:i≤m):mD (EJ f (m-i) (m+j-i) i) (m-i) m (m+(j-i))=mD f (m-i) m (m+j):=by
 funext t
 unfold mD EJ;by_cases h1:m-i≤t∧t<m-i+(j-i)
 ·rw[Ps0 om,Ng om,Ps0 (show m-i≤t∧t<m-i+(m+j-m)from om),Ng om]
 ·by_cases h2:m-i+(j-i)≤t∧t<m+(j-i)
  ·rw[Ng om,Ps0 om,Ps0 om,Ps0 (show m-i≤t∧t<m-i+(m+j-m)from om)];congr 1;omega
  ·by_cases h3:m+(j-i)≤t∧t<m+j
   ·rw[Ng om,Ng om,Ng om,Ps0 om,Ng om,Ps0 om];congr 1;omega
   ·rw[Ng om,Ng om,Ng om,Ng om,Ng om,Ng om]
theorem Iu (f:Nat→α) (m i) (hm:i≤m):EJ f (m-i) m i=mD f (m-i) m (m+i):=by
 funext t
 unfold mD EJ;by_cases h1:m-i≤t∧t<m-i+i
 ·rw[Ps0 h1,Ps0 om];congr 1;omega
 ·by_cases h2:m≤t∧t<m+i
  ·rw[Ng h1,Ps0 h2,Ng om,Ps0 om];congr 1;omega
  ·rw[Ng h1,Ng h2,Ng om,Ng om]
theorem oJ (f:Nat→α) (a m b) (h:a=m∨m=b) (h1:a≤m) (h2:m≤b):mD f a m b=f:=by
 funext t
 unfold mD;by_cases k1:a≤t∧t<a+(b-m)
 ·rw[Ps0 k1];congr 1;omega
 ·rw[Ng k1];by_cases k2:a+(b-m)≤t∧t<b
  ·rw[Ps0 k2];congr 1;omega
  ·rw[Ng k2]
theorem XH {x y} (N):∀(i j m) (f:Nat→α),i+j≤N→i≤m→x≤m-i→m+j≤y→Ps x y f (mD f (m-i) m (m+j)):=by
 induction N with
 |zero=>
  intro i j m f h1 h2 h3 h4;rw[oJ f _ _ _ om om om];exact .refl
 |succ N ih=>
  intro i j m f h1 h2 h3 h4;by_cases h0:i=0∨j=0
  ·rw[oJ f _ _ _ om om om];exact .refl
  ·rcases Dj i j with h|h|h
   ·rw[←Ir f m i j h h2];exact(Kw f _ _ _ x y om om om).trans (ih i (j-i) m _ om h2 h3 om)
   ·subst h;rw[←Iu f m i h2];exact Kw f _ _ _ x y om om om
   ·rw[←Iq f m i j h h2];exact(Kw f _ _ _ x y om om om).trans (ih (i-j) j m _ om om om h4)
theorem Uo {x y s m e} (f:Nat→α) (h1:x≤s) (h2:s≤m) (h3:m≤e) (h4:e≤y):Ps x y f (mD f s m e):=by
 have:=XH (x:=x) (y:=y) _ (m-s) (e-m) m f Aj om om om;rwa[show m-(m-s)=s from om,show m+(e-m)=e from om]at this
structure Cut (lt:α→α→Bool) (f:Nat→α) (a m b mid s e:Nat):Prop where
 ls:a≤s
 sm:s≤m
 me:m≤e
 eb:e≤b
 sum:s+e=mid+m
 low:s=a∨e=b∨lt (f e) (f (s-1))=false
 high:s=m∨e=m∨lt (f (e-1)) (f s)=true
section
variable {a m b mid s e:Nat}
theorem Cut.left (h:Cut lt f a m b mid s e) (h1:aN lt f a m) (h2:aN lt f m b):aN lt (mD f s m e) a s∧aN lt (mD f s m e) s mid∧aN lt (mD f s m e) mid e∧aN lt (mD f s m e) e b:=by
 obtain⟨k1,k2,k3,k4,k5,-,-⟩:=h;refine⟨fun p q p1 p2 p3=>?_,fun p q p1 p2 p3=>?_,fun p q p1 p2 p3=>?_,fun p q p1 p2 p3=>?_⟩<;>unfold mD
 ·rw[Ng om,Ng om,Ng om,Ng om];exact h1 p q p1 p2 om
 ·rw[Ps0 om,Ps0 om];exact h2 _ _ om om om
 ·rw[Ng om,Ps0 om,Ng om,Ps0 om];exact h1 _ _ om om om
 ·rw[Ng om,Ng om,Ng om,Ng om];exact h2 p q om p2 p3
theorem Cut.across (W:Wo lt) (h:Cut lt f a m b mid s e) (h1:aN lt f a m) (h2:aN lt f m b) (p q) (hp:a≤p) (hp':p<mid) (hq:mid≤q) (hq':q<b):lt (mD f s m e q) (mD f s m e p)=false:=by
 obtain⟨k1,k2,k3,k4,k5,kl,kh⟩:=h;unfold mD;by_cases c1:p<s
 ·rw[Ng (show¬(s≤p∧p<s+(e-m))from om),Ng (show¬(s+(e-m)≤p∧p<e)from om)];by_cases c2:q<e
  ·rw[Ng om,Ps0 om];exact h1 _ _ hp om om
  ·rw[Ng om,Ng om];rcases kl with kl|kl|kl
   ·omega
   ·omega
   ·exact W.tr _ _ _ (h1.le W p (s-1) hp om om) (W.tr _ _ _ kl (h2.le W e q k3 om hq'))
 ·rw[Ps0 (show s≤p∧p<s+(e-m)from om)];by_cases c2:q<e
  ·rw[Ng om,Ps0 om];rcases kh with kh|kh|kh
   ·omega
   ·omega
   ·exact W.tr _ _ _ (h2.le W _ (e-1) om om om) (W.tr _ _ _ (W.asym _ _ kh) (h1.le W s _ k1 om om))
  ·rw[Ng om,Ng om];exact h2 _ _ om om hq'
theorem aN.join {x y} (hx:Ps a mid f x) (hy:Ps mid b x y) (h1:aN lt x a mid) (h2:aN lt y mid b)
  (hc:∀p q,a≤p→p<mid→mid≤q→q<b→lt (f q) (f p)=false):aN lt y a b:=by
 intro p q p1 p2 p3;rcases Cy q mid with c|c
 ·exact(h1.keep hy (.inl Aj)) p q p1 p2 c
 ·rcases Cy p mid with d|d
  ·rw[hy.o p (.inl d)];obtain⟨s,s1,s2,e1⟩:=hx.from p ⟨p1,d⟩;obtain⟨t,t1,t2,e2⟩:=hy.from q ⟨c,p3⟩;rw[e1,e2,hx.o t (.inr t1)];exact hc s t s1 s2 t1 t2
  ·exact h2 p q d p2 p3
theorem Cut.fin (W:Wo lt) {f2 f3} (h:Cut lt f a m b mid s e) (h1:aN lt f a m) (h2:aN lt f m b) (hp2:Ps a mid (mD f s m e) f2) (hs2:aN lt f2 a mid) (hp3:Ps mid b f2 f3) (hs3:aN lt f3 mid b) (hm:a<mid) (hm2:mid<b):
  Ps a b f f3∧aN lt f3 a b:=
 ⟨((Uo f h.ls h.sm h.me h.eb).trans (hp2.mono Aj om)).trans (hp3.mono om Aj),aN.join hp2 hp3 hs2 hs3 fun p q=>h.across W h1 h2 p q⟩
end
def UK (lt:α→α→Bool) (f:Nat→α) (s n:Nat):Prop:=∀k,aN lt f (k*s) (min (k*s+s) n)
def Half (lt:α→α→Bool) (f:Nat→α) (s n k0:Nat):Prop:=(∀k,k<k0→aN lt f (k*(2*s)) (k*(2*s)+2*s))∧∀k,k0*2≤k→aN lt f (k*s) (min (k*s+s) n)
theorem UK.all {s n} (h:UK lt f s n) (hn:n≤s):aN lt f 0 n:=by
 have:=h 0;rwa[Nat.zero_mul,bO,Nat.min_eq_right hn]at this
theorem UK.half {s n} (h:UK lt f s n):Half lt f s n 0:=⟨fun k hk=>om,fun k _=>h k⟩
theorem Half.two {s n k0} (h:Half lt f s n k0) (hb:k0*(2*s)+2*s≤n):aN lt f (k0*(2*s)) (k0*(2*s)+s)∧aN lt f (k0*(2*s)+s) (k0*(2*s)+2*s):=by
 have h1:=h.2 (k0*2) Aj;have h2:=h.2 (k0*2+1) om;have e:k0*2*s=k0*(2*s):=EE _ _ _;have e2:(k0*2+1)*s=k0*(2*s)+s:=by rw[DX,e,Nat.one_mul]
 rw[e]at h1;rw[e2]at h2;exact⟨h1.mono Aj om,h2.mono Aj om⟩
theorem Half.next {s n k0} (h:Half lt f s n k0) (hp:Ps (k0*(2*s)) (k0*(2*s)+2*s) f g) (hs:aN lt g (k0*(2*s)) (k0*(2*s)+2*s)):Half lt g s n (k0+1):=by
 refine⟨fun k hk=>?_,fun k hk=>?_⟩
 ·rcases Cy k k0 with c|c
  ·refine(h.1 k c).keep hp (.inl ?_);have:(k+1)*(2*s)≤k0*(2*s):=Bl _ c;rw[DX,Nat.one_mul]at this;exact this
  ·have:k=k0:=by omega
   subst this;exact hs
 ·refine(h.2 k om).keep hp (.inr ?_);have:=Bl s hk;have e:(k0+1)*2*s=k0*(2*s)+2*s:=by rw[EE,DX,Nat.one_mul]
  omega
theorem Half.last {s n k0} (h:Half lt f s n k0) (hn:n<k0*(2*s)+2*s):aN lt f (k0*(2*s)) (min (k0*(2*s)+s) n)∧aN lt f (k0*(2*s)+s) n:=by
 have h1:=h.2 (k0*2) Aj;have h2:=h.2 (k0*2+1) om;have e:k0*2*s=k0*(2*s):=EE _ _ _;have e2:(k0*2+1)*s=k0*(2*s)+s:=by rw[DX,e,Nat.one_mul]
 rw[e]at h1;rw[e2]at h2;exact⟨h1,h2.mono Aj om⟩
theorem Half.done {s n k0} (h:Half lt f s n k0) (hp:Ps (k0*(2*s)) n f g) (hs:aN lt g (k0*(2*s)) n):UK lt g (2*s) n:=by
 intro k;rcases Cy k k0 with c|c
 ·refine((h.1 k c).keep hp (.inl ?_)).mono Aj (Nat.min_le_left _ _);have:(k+1)*(2*s)≤k0*(2*s):=Bl _ c;rw[DX,Nat.one_mul]at this;exact this
 ·have:=Bl (2*s) c;exact hs.mono this (Nat.min_le_right _ _)
def Run (lt:α→α→Bool) (f:Nat→α) (s k0:Nat):Prop:=∀k,k<k0→aN lt f (k*s) (k*s+s)
theorem Run.next {s k0} (h:Run lt f s k0) (hp:Ps (k0*s) (k0*s+s) f g) (hs:aN lt g (k0*s) (k0*s+s)):Run lt g s (k0+1):=by
 intro k hk;rcases Cy k k0 with c|c
 ·refine(h k c).keep hp (.inl ?_);have:(k+1)*s≤k0*s:=Bl _ c;rw[DX,Nat.one_mul]at this;exact this
 ·have:k=k0:=by omega
  subst this;exact hs
theorem Run.done {s k0 n} (h:Run lt f s k0) (hp:Ps (k0*s) n f g) (hs:aN lt g (k0*s) n):UK lt g s n:=by
 intro k;rcases Cy k k0 with c|c
 ·refine((h k c).keep hp (.inl ?_)).mono Aj (Nat.min_le_left _ _);have:(k+1)*s≤k0*s:=Bl _ c;rw[DX,Nat.one_mul]at this;exact this
 ·have:=Bl s c;exact hs.mono this (Nat.min_le_right _ _)
end EI
namespace EI
theorem Wo.of {α β lt} (h:Wo lt) (f:α→β):Wo (fun x y=>lt (f x) (f y)):=⟨fun _ _=>h.asym _ _,fun _ _ _=>h.tr _ _ _⟩
def dI {α:Type} (f:Nat→α) (n:Nat):List α:=(List.range n).map f
theorem MR {α} {lt:α→α→Bool} {f n} (h:aN lt f 0 n):(dI f n).Pairwise fun x y=>lt y x=false:=by
 rw[AF];intro i j hi hj hij;simp only[dI,DL,List.getElem_range];exact h i j (bf _) hij (by simpa[dI]using hj)
end EI
namespace Bk
theorem woS:EI.Wo fun x y:yQ=>decide (bE x y<0):=by
 refine⟨fun x y h=>?_,fun x y z h1 h2=>?_⟩
 ·have h:=Ew h;have:=Lb.fZ x.1 y.1;unfold bE at*;exact AA om
 ·have h1:=Eo h1;have h2:=Eo h2;have a:=Lb.fZ x.1 y.1;have b:=Lb.fZ y.1 z.1;have c:=Lb.fZ x.1 z.1;have d:=(Lb.wU x.1 y.1 z.1).1;unfold bE at*;exact AA om
theorem woT:EI.Wo fun x y:Int×Nat=>decide (fJ x y<0):=by
 refine⟨fun x y h=>?_,fun x y z h1 h2=>?_⟩
 ·have h:=Ew h;have a:=dA x y;have b:=dA y x;exact AA om
 ·have h1:=Eo h1;have h2:=Eo h2;have a:=dA y x;have b:=dA z y;have c:=dA z x;exact AA om
theorem MU {m:gN} (h:m.Pairwise fun x y=>decide (bE y x<0)=false):
  (qY bE 19 m=0∧(m.map (·.1)).Nodup∧m.Pairwise fun x y=>Lb.cmpL x.1 y.1<0)∨(qY bE 19 m=19∧¬(m.map (·.1)).Nodup):=by
 have hle:∀(k:Nat) (hk:k<m.length) (h0:k≠0),bE (m[k-1]'om) m[k]≤0:=fun k hk h0=>by
  have h1:=Eo (AF.1 h (k-1) k om hk om);have h2:=Lb.fZ m[k].1 (m[k-1]'om).1;unfold bE at*;omega
 have hat:∀(k:Nat) (hk:k<m.length),k≠0→bH bE 19 m k=if bE (m[k-1]'om) m[k]=0 then 19 else if 0<bE (m[k-1]'om) m[k]then 16 else 0:=fun k hk h0=>by
  unfold bH;rw[Ng h0,gd hk,gd (show k-1<m.length from om)]
 rcases Lb.dX (bH bE 19 m) m.length with⟨h0,hz⟩|⟨k,hk,hk0,he,_⟩
 ·refine .inl ⟨h0,?_⟩;have hpw:m.Pairwise fun x y=>Lb.cmpL x.1 y.1<0:=by
   rw[AF];intro i j hi hj hij;have step:∀k (hk:k+1<m.length),Lb.cmpL m[k].1 m[k+1].1<0:=fun k hk=>by
    have h1:=hat (k+1) hk om;rw[hz (k+1) hk]at h1;have h2:=hle (k+1) hk om;simp only[Bj]at h1 h2;unfold bE at h1 h2;by_cases q:Lb.cmpL m[k].1 m[k+1].1=0
    ·rw[Ps0 q]at h1;cases h1
    ·omega
   obtain⟨d,rfl⟩:∃d,j=i+1+d:=⟨j-(i+1),om⟩
   clear hij
   induction d with
   |zero=>exact step i hj
   |succ d ih=>exact Lb.sS (ih om step) (step (i+1+d) hj)
  refine⟨?_,hpw⟩;unfold List.Nodup;rw[Ea];exact hpw.imp fun{a b} hab e=>by rw[e,Lb.jq.2 rfl]at hab;omega
 ·have h0:k≠0:=fun e=>by subst e;exact hk0 rfl
  have h1:=hat k hk h0;have h2:=hle k hk h0;by_cases q:bE (m[k-1]'om) m[k]=0
  ·rw[Ps0 q]at h1;refine .inr ⟨he.trans h1,fun hn=>?_⟩;have:=AF.1 hn (k-1) k (by simp;omega) (by simpa using hk) om;simp only[DL]at this;exact this (Lb.jq.1 q)
  ·rw[Ng q,Ng om]at h1;exact absurd h1 hk0
theorem uZ {a b} (h:a.Perm b):bu a=bu b:=by
 unfold bu;exact(h.map _).sum_nat
theorem join {l m:gN} (hp:m.Perm l) (h:m.Pairwise fun x y=>decide (bE y x<0)=false) (ho:∀s∈l,one s=0) (h1:l.length≤1048576) (h2:bu l≤16777216):
  ((l.map (·.1)).Nodup∧qY bE 19 m=0∧bN m=0)∨(¬(l.map (·.1)).Nodup∧qY bE 19 m=19):=by
 have hn:(m.map (·.1)).Nodup↔(l.map (·.1)).Nodup:=(hp.map _).nodup_iff;rcases MU h with⟨a,b,c⟩|⟨a,b⟩
 ·exact .inl ⟨hn.1 b,a,abb (by rw[hp.length_eq];exact h1) (by rw[uZ hp];exact h2) (fun s hs=>ho s (hp.mem_iff.1 hs)) c⟩
 ·exact .inr ⟨fun q=>b (hn.2 q),a⟩
end Bk
section
open Go.RowKit Go.Shelf
namespace EI
theorem YU (ks k) (h:k<ks.length) (u v):((ax ks).set (k*2) u).set (k*2+1) v=ax (ks.set k (u,v)):=by
 unfold ax
 induction ks generalizing k with
 |nil=>simp at h
 |cons x ks ih=>
  cases k with
  |zero=>rfl
  |succ k=>
   have h':k<ks.length:=by simpa using h
   rw[Av,show(x::ks).set (k+1) (u,v)=x::ks.set k (u,v)from rfl,Av,←ih k h'];rw[show(k+1)*2=k*2+1+1 from om]
   rfl
theorem MW (w:World) (a v):w.grownBy (w.setCell a v) (some a.block):=⟨rfl,rfl,rfl,Ah,fun k _ hne=>heap_setCell_other w a k v (fun e=>hne (by rw[e]))⟩
variable {α:Type}
structure Sw (val:α→Value×Value) (T:TypeId) (w:World) (base g n:Nat) (f:Nat→α) (wr:World):Prop where
 own:wr.ownsRow base T 2 (.slice (some ⟨g,0,none⟩) n n) n (ax (dI (fun t=>val (f t)) n))
 gb:w.grownBy wr (some g)
 one:∀x,(val x).1.oneCell'=true∧(val x).2.oneCell'=true
variable {val:α→Value×Value} {T:TypeId} {w wr:World} {base g n:Nat} {f:Nat→α}
theorem Pt (f) {n t} (h:t<n):(ax (dI f n))[t*2]? =some (f t).1∧(ax (dI f n))[t*2+1]? =some (f t).2:=by
 have hl:t< (dI f n).length:=by simpa[dI]using h
 have:=bR (dI f n) t hl;have e:(dI f n)[t]=f t:=by simp[dI]
 rwa[e]at this
theorem Sw.cells (h:Sw val T w base g n f wr) {t} (ht:t<n):wr.cell? ⟨g,t*2,none⟩=some (val (f t)).1∧wr.cell? ⟨g,t*2+1,none⟩=some (val (f t)).2∧wr.frozen? ⟨g,t*2,none⟩=false∧wr.frozen? ⟨g,t*2+1,none⟩=false:=by
 obtain⟨h1,h2⟩:=Pt (fun t=>val (f t)) ht;exact⟨(Bq h.own (t*2) om).trans h1,(Bq h.own (t*2+1) om).trans h2,AX h.own _,AX h.own _⟩
theorem Sw.gr {w2} (h:Sw val T w base g n f wr) (hg:Gr wr w2):Sw val T w base g n f w2:=by
 have hb:=hg.below;have hG:wr.grownBy w2 none:=⟨hb.os,hb.tape,hb.output,hb.size,fun k hk _=>hb.block k hk⟩
 exact⟨ag h.own hG (.inr (by simp[ab])),h.gb.trans (hG.but _),h.one⟩
theorem XI {β} (F:Nat→β) (i j n) (hi:i<n) (hj:j<n):((dI F n).set i (F j)).set j (F i)=dI (swp F i j) n:=(MQ F i j n hi hj).symm
theorem zQ {W:World} {a u v} (hv:v.oneCell'=true) (hc:W.cell? a=some u) (hf:W.frozen? a=false):(store a v).run prog W.drew= .ok () (W.setCell a v).drew:=by
 rw[run_store _ _ _ _ _ hv,show W.drew.cell? a=some u from hc,show W.drew.frozen? a=false from hf]
 rfl
theorem Sw.swap (h:Sw val T w base g n f wr) {i j} (hi:i<n) (hj:j<n) (hij:i≠j):
  (store ⟨g,i*2,none⟩ (val (f j)).1).run prog wr.drew= .ok () (wr.setCell ⟨g,i*2,none⟩ (val (f j)).1).drew∧
  (store ⟨g,i*2+1,none⟩ (val (f j)).2).run prog (wr.setCell ⟨g,i*2,none⟩ (val (f j)).1).drew= .ok () ((wr.setCell ⟨g,i*2,none⟩ (val (f j)).1).setCell ⟨g,i*2+1,none⟩ (val (f j)).2).drew∧
  (store ⟨g,j*2,none⟩ (val (f i)).1).run prog ((wr.setCell ⟨g,i*2,none⟩ (val (f j)).1).setCell ⟨g,i*2+1,none⟩ (val (f j)).2).drew= .ok () (((wr.setCell ⟨g,i*2,none⟩ (val (f j)).1).setCell ⟨g,i*2+1,none⟩ (val (f j)).2).setCell ⟨g,j*2,none⟩ (val (f i)).1).drew∧
  (store ⟨g,j*2+1,none⟩ (val (f i)).2).run prog (((wr.setCell ⟨g,i*2,none⟩ (val (f j)).1).setCell ⟨g,i*2+1,none⟩ (val (f j)).2).setCell ⟨g,j*2,none⟩ (val (f i)).1).drew= .ok () ((((wr.setCell ⟨g,i*2,none⟩ (val (f j)).1).setCell ⟨g,i*2+1,none⟩ (val (f j)).2).setCell ⟨g,j*2,none⟩ (val (f i)).1).setCell ⟨g,j*2+1,none⟩ (val (f i)).2).drew∧
  Sw val T w base g n (swp f i j) ((((wr.setCell ⟨g,i*2,none⟩ (val (f j)).1).setCell ⟨g,i*2+1,none⟩ (val (f j)).2).setCell ⟨g,j*2,none⟩ (val (f i)).1).setCell ⟨g,j*2+1,none⟩ (val (f i)).2).drew:=by
 obtain⟨i1,i2,-,-⟩:=h.cells hi;obtain⟨j1,j2,-,-⟩:=h.cells hj;have o:∀(W:World) (a b:Nat) (v:Value),a≠b→(W.setCell ⟨g,a,none⟩ v).cell? ⟨g,b,none⟩=W.cell? ⟨g,b,none⟩:=fun W a b v hab=>AO W ⟨g,a,none⟩ ⟨g,b,none⟩ v (by intro e;injection e;omega)
 have h1:=(BJ h.own (i*2) (val (f j)).1).1;have h2:=(BJ h1 (i*2+1) (val (f j)).2).1;have h3:=(BJ h2 (j*2) (val (f i)).1).1;have h4:=(BJ h3 (j*2+1) (val (f i)).2).1;refine⟨zQ (h.one _).1 i1 (AX h.own _),zQ (h.one _).2 ((o _ _ _ _ om).trans i2) (AX h1 _),zQ (h.one _).1 (by rw[o _ _ _ _ om,o _ _ _ _ om];exact j1) (AX h2 _),
  zQ (h.one _).2 (by rw[o _ _ _ _ om,o _ _ _ _ om,o _ _ _ _ om];exact j2) (AX h3 _),Sw.gr ⟨?_,?_,h.one⟩ ((Gr.refl _).drew)⟩
 ·rw[YU _ i (by simpa[dI]using hi),YU _ j (by simpa[dI]using hj)]at h4;have e:=XI (fun t=>val (f t)) i j n hi hj;have e2:swp (fun t=>val (f t)) i j=fun t=>val (swp f i j t):=by
   funext t
   unfold swp;split
   ·rfl
   ·split<;>rfl
  rw[e2]at e;rw[←e];exact h4
 ·exact(((h.gb.trans (MW _ ⟨g,i*2,none⟩ _)).trans (MW _ ⟨g,i*2+1,none⟩ _)).trans (MW _ ⟨g,j*2,none⟩ _)).trans (MW _ ⟨g,j*2+1,none⟩ _)
end EI
end
section
open Go.RowKit Go.Shelf
namespace EI
variable {α:Type} {val:α→Value×Value} {c:α→α→Int} {S:α→Prop} {base g n:Nat} {f:Nat→α} {w wr:World}
def tT (k:Bool):TypeId:=bif k then 57 else 127
def fC (k:Bool):Nat:=bif k then 46 else 94
def Cp (k:Bool) (val:α→Value×Value) (c:α→α→Int) (S:α→Prop) (w:World) (g:Nat):Prop:=
 ∀W x y,w.grownBy W (some g)→S x→S y→Calls prog (fC k) #[.agg #[(val x).1,(val x).2],.agg #[(val y).1,(val y).2]] W fun e w'=>e= .returned (.int .i64 (c x y))∧Gr W w'
theorem Cp.step {k w1} (h:Cp k val c S w g) (hg:w.grownBy w1 (some g)):Cp k val c S w1 g:=fun W x y h1=>h W x y (hg.trans h1)
theorem Ps.all {a b f f'} (h:Ps a b f f') (hb:b≤n) (hS:∀t,t<n→S (f t)):∀t,t<n→S (f' t):=fun t ht=>by
 by_cases hr:a≤t∧t<b
 ·obtain⟨s,_,s2,e⟩:=h.from t hr;rw[e];exact hS s om
 ·rw[h.o t om];exact hS t ht
theorem Sw.mF {T w1 w2 f1 f2} (h:Sw val T w base g n f1 w1) (h2:Sw val T w1 base g n f2 w2):Sw val T w base g n f2 w2:=⟨h2.own,h.gb.trans h2.gb,h.one⟩
theorem Sw.here {T} (h:Sw val T w base g n f wr):Sw val T wr base g n f wr:=⟨h.own,Ci _ _,h.one⟩
def iq (c:α→α→Int):α→α→Bool:=fun x y=>decide (c x y<0)
theorem XJ (k x y) (hs:Sw val (tT k) w base g n f w) (hS:∀t,t<n→S (f t)) (hC:Cp k val c S w g) (hW:Wo (iq c)) (hxy:x≤y) (hy:y≤n) (hn:n≤1000000):
  Calls prog (bif k then 209 else 207) #[.slice (some ⟨g,0,none⟩) n n,.int .i64 x,.int .i64 y,.func (.func (fC k)) #[] #[]] w
   fun e w'=>e= .returned (.tuple #[])∧∃f',Sw val (tT k) w base g n f' w'∧Ps x y f f'∧aN (iq c) f' x y:=by
 have mixed:prog.follows .mixedOrders=true:=kr;have qR:=Al hs;have IL:=Al hS;have HC:=Al hC;have HW:=Al hW;clear hs hS hC hW;cases k
 all_goals
  simp only[fC,tT,cond_true,cond_false]at*
  first
   |go_enter func209,ntmps209
   |go_enter func207,ntmps207
  go_wp2;go_loopw [8] (fun vi wr=>∃(i:Nat) (fk:Nat→α),vi= .int .i64 i∧x<i∧i≤y+1∧Kept (Sw val _ w base g n fk wr)∧Kept (Ps x y f fk)∧Kept (aN (iq c) fk x i)) (fun vi _=>y+1-(intOf vi).toNat)
  case atStart=>exact⟨x+1,f,by go_num,om,om,qR,⟨.refl⟩,⟨aN.few Aj⟩⟩
  case round=>
   obtain⟨i,fk,rfl,hi1,hi2,hs,hp,hr⟩:=hrel;by_cases hiy:i<y
   ·have Z8:(i:Int)< (y:Int):=by omega
    go_wp2;go_loopw [9] (fun vj wi=>∃(j:Nat) (fj:Nat→α),vj= .int .i64 j∧x≤j∧j≤i∧Kept (Sw val _ w base g n fj wi)∧Kept (Ps x y f fj)∧Kept (Ins (iq c) fj x i j)) (fun vj _=>(intOf vj).toNat)
    case atStart=>exact⟨i,fk,rfl,om,Nr _,hs,hp,⟨Ins.start hr.1⟩⟩
    case round=>
     clear hs hp hr;obtain⟨j,fj,rfl,hj1,hj2,hs,hp,hi⟩:=hrel;have hbd:=Al (fun(h:j≤x∨iq c (fj j) (fj (j-1))=false)=>hi.1.stop HW.1 h);by_cases qV:x<j
     ·have aaa:(x:Int)< (j:Int):=by omega
      have f0:=fun m os=>((hs.1.gr ⟨m,os,rfl⟩).cells (show j<n from om)).1
      have f1:=fun m os=>((hs.1.gr ⟨m,os,rfl⟩).cells (show j<n from om)).2.1
      have p0:=fun m os=>((hs.1.gr ⟨m,os,rfl⟩).cells (show j-1<n from om)).1
      have p1:=fun m os=>((hs.1.gr ⟨m,os,rfl⟩).cells (show j-1<n from om)).2.1
      have BG:=Al (fun m os=>HC.1 (Sort.grow (wr.drewN m) os) (fj j) (fj (j-1)) (hs.1.gr ⟨m,os,rfl⟩).gb (hp.1.all hy IL.1 j om) (hp.1.all hy IL.1 (j-1) om));have ek:(j:Int)-1=((j-1:Nat):Int):=om;have Nz:((j-1:Nat):Int)< (n:Int):=om;have ek3:(j:Int)< (n:Int):=om;have ew:IntKind.i64.wrap ((j-1:Nat):Int)=((j-1:Nat):Int):=by rw[AZ];omega
      have hl:iq c (fj j) (fj (j-1))=decide (c (fj j) (fj (j-1))<0):=rfl;have NX:=Al (fun(h:iq c (fj j) (fj (j-1))=true)=>hi.1.step HW.1 qV hj2 h);rw[hl]at hbd NX;clear hl;generalize c (fj j) (fj (j-1))=r at*;go_wp2_with fail;have SG:=Al (fun m os=>hs.1.gr ⟨m,os,rfl⟩);clear hs;go_quiet_grown (((first|go_at_call 46|go_at_call 94);refine BU (BG.1 _ _)))
      rename Nat=>nq
      rename Array Obj=>oq
      clear f0 f1 p0 p1 BG;have SQ:=Al (SG.1 nq oq);clear SG;generalize Sort.grow (wr.drewN nq) oq=wq at*;by_cases hr:r<0
      ·have NI:=Al (NX.1 (by simpa using hr));have PS:=Al (hp.1.step j (j-1) om om om om);have SD:=SQ.1;obtain⟨x1,x2,x3,x4⟩:=SD.cells (show j<n from om);obtain⟨y1,y2,y3,y4⟩:=SD.cells (show j-1<n from om);obtain⟨s1,s2,s3,s5,s4⟩:=SD.swap (show j<n from om) (show j-1<n from om) om;have SN:=Al s4;clear s4 NX hbd hi hp SD;generalize val (fj j)=u at*;generalize val (fj (j-1))=v at*;go_wp2_with fail;go_region
       all_goals go_wp2
       go_roundw
       case rel=>exact⟨j-1,_,by go_num,om,om,SN,PS,NI⟩
       case measure=>simp[intOf];omega
      ·have BD:=Al (hbd.1 (.inr (by simpa using hr)));clear NX hbd hi;go_wp2;go_roundw
       case rel=>exact⟨i+1,fj,by go_num,om,om,SQ,hp,BD⟩
       case measure=>simp[intOf];omega
     ·have aaa:¬(x:Int)< (j:Int):=by omega
      have BD:=Al (hbd.1 (.inl om));go_wp2_with fail;go_quiet (fail);go_wp2;go_roundw
      case rel=>exact⟨i+1,fj,by go_num,om,om,⟨hs.1.gr ⟨_,#[],by rw[Sort.grow_empty]⟩⟩,hp,BD⟩
      case measure=>simp[intOf];omega
   ·have Z8:¬(i:Int)< (y:Int):=by omega
    go_wp2;go_end0;exact⟨rfl,fk,hs.1,hp.1,hr.1.mono Aj om⟩
end EI
end
section
open Go.RowKit Go.Shelf
namespace EI
variable {α:Type} {val:α→Value×Value} {base g n:Nat} {f:Nat→α} {w wr:World}
theorem XM (k) (a b m F:Nat) (hs:Sw val (tT k) w base g n f w) (ha:a+m≤b) (hb:b+m≤n) (hn:n≤1000000):
  Calls prog (bif k then 274 else 273) #[.slice (some ⟨g,0,none⟩) n n,.int .i64 a,.int .i64 b,.int .i64 m,.func (.func F) #[] #[]] w
   fun e w'=>e= .returned (.tuple #[])∧Sw val (tT k) w base g n (EJ f a b m) w':=by
 have qR:=Al hs;clear hs;cases k
 all_goals
  simp only[tT,cond_true,cond_false]at*
  first
   |go_enter func274,ntmps274
   |go_enter func273,ntmps273
  go_wp2;go_loopw [10] (fun vi wr=>∃i:Nat,vi= .int .i64 i∧i≤m∧Kept (Sw val _ w base g n (EJ f a b i) wr)) (fun vi _=>m-(intOf vi).toNat)
  case atStart=>exact⟨0,rfl,bf _,⟨by rw[Io];exact qR.1⟩⟩
  case round=>
   obtain⟨i,rfl,hi,hs⟩:=hrel;by_cases hlt:i<m
   ·have hlt':(i:Int)< (m:Int):=by omega
    obtain⟨p,hp⟩:∃p,p=a+i:=⟨_,rfl⟩
    obtain⟨q,hq⟩:∃q,q=b+i:=⟨_,rfl⟩
    obtain⟨x1,x2,x3,x4⟩:=hs.1.cells (show p<n from om);obtain⟨y1,y2,y3,y4⟩:=hs.1.cells (show q<n from om);obtain⟨s1,s2,s3,s5,s4⟩:=hs.1.swap (show p<n from om) (show q<n from om) om;rw[show swp (EJ f a b i) p q=EJ f a b (i+1)by rw[hp,hq];exact Ip _ _ _ _ om]at s4;have NX:=Al s4;have e1:(a:Int)+(i:Int)=(p:Int):=om;have e2:(b:Int)+(i:Int)=(q:Int):=om;have e3:(p:Int)< (n:Int):=om;have e4:(q:Int)< (n:Int):=om;clear s4 hp hq;generalize val (EJ f a b i p)=u at*;generalize val (EJ f a b i q)=v at*;go_wp2_with fail;go_region
    all_goals go_wp2
    go_roundw
    case rel=>exact⟨i+1,by go_num,om,NX⟩
    case measure=>simp[intOf];omega
   ·obtain rfl:i=m:=by omega
    go_wp2;go_end0;exact⟨rfl,hs.1⟩
theorem XN (k) (a m b F:Nat) (hs:Sw val (tT k) w base g n f w) (ha:a<m) (hb:m<b) (hbn:b≤n) (hn:n≤1000000):
  Calls prog (bif k then 250 else 249) #[.slice (some ⟨g,0,none⟩) n n,.int .i64 a,.int .i64 m,.int .i64 b,.func (.func F) #[] #[]] w
   fun e w'=>e= .returned (.tuple #[])∧Sw val (tT k) w base g n (mD f a m b) w':=by
 have qR:=Al hs;clear hs;have SR:=Al (fun(a b m:Nat) (f:Nat→α) (w:World) (hs:Sw val (tT k) w base g n f w) (ha:a+m≤b) (hb:b+m≤n)=>XM k a b m F hs ha hb hn);cases k
 all_goals
  simp only[tT,cond_true,cond_false]at*
  first
   |go_enter func250,ntmps250
   |go_enter func249,ntmps249
  go_wp2;go_loopw [10,11] (fun vi vj wr=>∃(i j:Nat) (fk:Nat→α),vi= .int .i64 i∧vj= .int .i64 j∧0<i∧0<j∧a+i≤m∧m+j≤b∧Kept (Sw val _ w base g n fk wr)∧Kept (mD fk (m-i) m (m+j)=mD f a m b)) (fun vi vj _=>((intOf vi)+(intOf vj)).toNat)
  case atStart=>exact⟨m-a,b-m,f,by go_num,by go_num,om,om,om,om,qR,⟨by rw[show m-(m-a)=a from om,show m+(b-m)=b from om]⟩⟩
  case round=>
   obtain⟨i,j,fk,rfl,rfl,hi,hj,hi2,hj2,hs,hr⟩:=hrel;have hm:i≤m:=om;have e1:(m:Int)-(i:Int)=((m-i:Nat):Int):=om;by_cases hij:i=j
   ·subst hij;have S1:=Al (SR.1 (m-i) m i fk wr hs.1.here om om);have he:=Al ((Iu fk m i hm).trans hr.1);go_wp2_with (((first|go_at_call 274|go_at_call 273);refine S1.1.mono ?_;rintro e w2 ⟨rfl,h2⟩;have H2:=Al h2;clear h2));go_end0;rw[←he.1];exact⟨rfl,hs.1.mF H2.1⟩
   ·have hne:((i:Int)==(j:Int))=false:=by simp;omega
    by_cases hgt:j<i
    ·have abd:(j:Int)< (i:Int):=by omega
     have S1:=Al (SR.1 (m-i) m j fk wr hs.1.here om om);have he:=Al ((Iq fk m i j hgt hm).trans hr.1);go_wp2_with (((first|go_at_call 274|go_at_call 273);refine S1.1.mono ?_;rintro e w2 ⟨rfl,h2⟩;have H2:=Al (hs.1.mF h2);clear h2));go_roundw
     case rel=>exact⟨i-j,j,_,by go_num,rfl,om,om,om,om,H2,he⟩
     case measure=>simp[intOf];omega
    ·have abd:¬(j:Int)< (i:Int):=by omega
     have e2:(m:Int)+(j:Int)-(i:Int)=((m+j-i:Nat):Int):=om;have S1:=Al (SR.1 (m-i) (m+j-i) i fk wr hs.1.here om om);have he:=Al ((Ir fk m i j om hm).trans hr.1);go_wp2_with (((first|go_at_call 274|go_at_call 273);refine S1.1.mono ?_;rintro e w2 ⟨rfl,h2⟩;have H2:=Al (hs.1.mF h2);clear h2));go_roundw
     case rel=>exact⟨i,j-i,_,rfl,by go_num,om,om,om,om,H2,he⟩
     case measure=>simp[intOf];omega
end EI
end
section
open Go.RowKit Go.Shelf
namespace EI
variable {α:Type} {val:α→Value×Value} {c:α→α→Int} {S:α→Prop} {base g n:Nat}
theorem abe {lt:α→α→Bool} {f a m b mid lo hi s} (hab:a<m) (hmb:m<b) (hmid:mid=(a+b)/2) (hlo:(mid<m∧lo=mid+m-b∧hi=mid)∨(m≤mid∧lo=a∧hi=m)) (h1:lo≤s) (h2:s≤hi)
  (h3:s=lo∨lt (f (mid+m-1-(s-1))) (f (s-1))=false) (h4:s=hi∨lt (f (mid+m-1-s)) (f s)=true):Cut lt f a m b mid s (mid+m-s):=by
 refine⟨om,om,om,om,om,?_,?_⟩
 ·rcases h3 with h3|h3
  ·omega
  ·by_cases hs:s=0
   ·left;omega
   ·rw[show mid+m-1-(s-1)=mid+m-s from om]at h3;exact .inr (.inr h3)
 ·rcases h4 with h4|h4
  ·omega
  ·rw[show mid+m-1-s=mid+m-s-1 from om]at h4;exact .inr (.inr h4)
theorem aeb {lt:α→α→Bool} (W:Wo lt) {f m b t h x} (hr:aN lt f m b) (h1:m≤t) (h2:t≤h) (h3:h<b) (hl:lt (f h) x=true):lt (f t) x=true:=by
 have h4:=hr.le W t h h1 h2 h3;cases h5:lt (f t) x with
 |true=>rfl
 |false=>rw[W.tr _ _ _ h5 h4]at hl;cases hl
theorem aec {lt:α→α→Bool} (W:Wo lt) {f m b t h x} (hr:aN lt f m b) (h1:m≤h) (h2:h≤t) (h3:t<b) (hl:lt (f h) x=false):lt (f t) x=false:=W.tr _ _ _ hl (hr.le W h t h1 h2 h3)
theorem aed {lt:α→α→Bool} (W:Wo lt) {f a m t h x} (hr:aN lt f a m) (h1:a≤t) (h2:t≤h) (h3:h<m) (hl:lt x (f h)=false):lt x (f t)=false:=W.tr _ _ _ (hr.le W t h h1 h2 h3) hl
theorem aee {lt:α→α→Bool} (W:Wo lt) {f a m t h x} (hr:aN lt f a m) (h1:a≤h) (h2:h≤t) (h3:t<m) (hl:lt x (f h)=true):lt x (f t)=true:=by
 have h4:=hr.le W h t h1 h2 h3;cases h5:lt x (f t)with
 |true=>rfl
 |false=>rw[W.tr _ _ _ h4 h5]at hl;cases hl
theorem XO (k) (hW:Wo (iq c)) (hn:n≤1000000):∀(N a m b) (f) (w),b-a≤N→a<m→m<b→b≤n→Sw val (tT k) w base g n f w→(∀t,t<n→S (f t))→Cp k val c S w g→aN (iq c) f a m→aN (iq c) f m b→
  Calls prog (bif k then 210 else 208) #[.slice (some ⟨g,0,none⟩) n n,.int .i64 a,.int .i64 m,.int .i64 b,.func (.func (fC k)) #[] #[]] w
   fun e w'=>e= .returned (.tuple #[])∧∃f',Sw val (tT k) w base g n f' w'∧Ps a b f f'∧aN (iq c) f' a b:=by
 have mixed:prog.follows .mixedOrders=true:=kr;intro N
 induction N with
 |zero=>intro a m b f w h1 h2 h3;omega
 |succ N ih=>
 intro a m b f w hN ham hmb hbn hs hS hC hr1 hr2;have qR:=Al hs;have IL:=Al hS;have HC:=Al hC;have HW:=Al hW;have R1:=Al hr1;have R2:=Al hr2;have IH:=Al ih;have RT:=Al (fun(a m b:Nat) (f:Nat→α) (w:World) (hs:Sw val (tT k) w base g n f w) (ha:a<m) (hb:m<b) (hbn:b≤n)=>XN k a m b (fC k) hs ha hb hbn hn);clear hs hS hC hW hr1 hr2 ih;cases k
 all_goals
  simp only[fC,tT,cond_true,cond_false]at*;by_cases h1:m=a+1
  ·have h1':(m:Int)-(a:Int)=1:=by omega
   clear h1
   first
    |go_enter func210,ntmps210
    |go_enter func208,ntmps208
   go_wp2;go_loopw [10,11] (fun vi vj wr=>∃i j:Nat,vi= .int .i64 i∧vj= .int .i64 j∧m≤i∧i≤j∧j≤b∧Kept (∀t,a<t→t<i→iq c (f t) (f a)=true)∧Kept (∀t,j≤t→t<b→iq c (f t) (f a)=false)∧Kept (Gr w wr)) (fun vi vj _=>(intOf vj-intOf vi).toNat)
   case atStart=>exact⟨m,b,rfl,rfl,Nr _,om,Nr _,⟨fun t _ _=>om⟩,⟨fun t _ _=>om⟩,⟨Gr.refl w⟩⟩
   case round=>
    obtain⟨i,j,rfl,rfl,hi,hij,hj,hlo,hup,hg⟩:=hrel;by_cases hlt:i<j
    ·have hlt':(i:Int)< (j:Int):=by omega
     obtain⟨h,hh⟩:∃h,h=(i+j)/2:=⟨_,rfl⟩
     have hh1:((i:Int)+(j:Int))/2=(h:Int):=om;have hhn:h<n:=om;have hh2:i≤h∧h<j:=om;have han:a<n:=om;have f0:=fun d os=>((qR.1.gr (hg.1.trans ⟨d,os,rfl⟩)).cells (show h<n from om)).1
     have f1:=fun d os=>((qR.1.gr (hg.1.trans ⟨d,os,rfl⟩)).cells (show h<n from om)).2.1
     have p0:=fun d os=>((qR.1.gr (hg.1.trans ⟨d,os,rfl⟩)).cells (show a<n from om)).1
     have p1:=fun d os=>((qR.1.gr (hg.1.trans ⟨d,os,rfl⟩)).cells (show a<n from om)).2.1
     have BG:=Al (fun d os=>HC.1 (Sort.grow (wr.drewN d) os) (f h) (f a) (qR.1.gr (hg.1.trans ⟨d,os,rfl⟩)).gb (IL.1 h hhn) (IL.1 a han));have LO:=Al (fun(q:iq c (f h) (f a)=true)=>fun t (t1:a<t) (t2:t<h+1)=>if e:t<m then absurd t1 om else aeb HW.1 R2.1 (show m≤t from om) (show t≤h from om) (show h<b from om) q);have HI:=Al (fun(q:iq c (f h) (f a)=false)=>fun t (t1:h≤t) (t2:t<b)=>aec HW.1 R2.1 (show m≤h from om) t1 t2 q);have hl:iq c (f h) (f a)=decide (c (f h) (f a)<0):=rfl;rw[hl]at LO HI;clear hl hh;generalize c (f h) (f a)=r at*;go_wp2_with fail;go_quiet_grown (((first|go_at_call 46|go_at_call 94);refine BU (BG.1 _ _)));clear f0 f1 p0 p1 BG;by_cases hr:r<0
     ·have L2:=Al (LO.1 (by simpa using hr));clear LO HI;go_wp2;go_roundw
      case rel=>exact⟨h+1,j,by go_num,rfl,om,om,hj,L2,hup,⟨hg.1.trans ⟨_,_,rfl⟩⟩⟩
      case measure=>simp[intOf];omega
     ·have L2:=Al (HI.1 (by simpa using hr));clear LO HI;go_wp2;go_roundw
      case rel=>exact⟨i,h,rfl,rfl,hi,om,om,hlo,L2,⟨hg.1.trans ⟨_,_,rfl⟩⟩⟩
      case measure=>simp[intOf];omega
    ·obtain rfl:i=j:=by omega
     have SW:=Al (qR.1.gr hg.1);have UP:Kept (Up (iq c) f a b i a):=⟨⟨fun p q p1 p2 p3 p4=>R2.1 p q om p2 p3,fun t t1 t2=>hlo.1 t t1 t2,fun t t1 t2=>hup.1 t t1 t2⟩⟩
     clear hlo hup hg;go_wp2;go_loopw [13] (fun vk wx=>∃(q:Nat) (fk:Nat→α),vk= .int .i64 q∧a≤q∧q<i∧Kept (Sw val _ w base g n fk wx)∧Kept (Ps a b f fk)∧Kept (Up (iq c) fk a b i q)) (fun vk _=>i-(intOf vk).toNat)
     case atStart=>exact⟨a,f,rfl,Nr _,om,SW,⟨.refl⟩,UP⟩
     case round=>
      obtain⟨q,fk,rfl,hq1,hq2,hs,hp,hu⟩:=hrel;by_cases hqi:q+1<i
      ·have abf:(q:Int)< (i:Int)-1:=by omega
       have PS:=Al (hp.1.step q (q+1) hq1 om om om);have UP:=Al (hu.1.step HW.1 hq1 hqi hj);obtain⟨q',hq'⟩:∃q',q'=q+1:=⟨_,rfl⟩
       rw[←hq']at PS UP;have e1:(q:Int)+1=(q':Int):=om;clear hq';have SD:=hs.1;obtain⟨x1,x2,x3,x4⟩:=SD.cells (show q<n from om);obtain⟨y1,y2,y3,y4⟩:=SD.cells (show q'<n from om);obtain⟨s1,s2,s3,s5,s4⟩:=SD.swap (show q<n from om) (show q'<n from om) om;have NX:=Al s4;clear s4 SD;generalize val (fk (q))=u at*;generalize val (fk q')=v at*;go_wp2_with fail;go_region
       all_goals go_wp2
       go_roundw
       case rel=>exact⟨q',_,by go_num,om,om,NX,PS,UP⟩
       case measure=>simp[intOf];omega
      ·have abf:¬(q:Int)< (i:Int)-1:=by omega
       go_wp2;exact Bg (Cm rfl _ _ _) rfl ⟨rfl,fk,hs.1,hp.1,hu.1.stop om⟩
  ·have h1':((m:Int)-(a:Int)==1)=false:=by simp;omega
   by_cases h2:b=m+1
   ·have h2':(b:Int)-(m:Int)=1:=by omega
    clear h2
    first
     |go_enter func210,ntmps210
     |go_enter func208,ntmps208
    go_wp2;go_loopw [14,15] (fun vi vj wr=>∃i j:Nat,vi= .int .i64 i∧vj= .int .i64 j∧a≤i∧i≤j∧j≤m∧Kept (∀t,a≤t→t<i→iq c (f m) (f t)=false)∧Kept (∀t,j≤t→t<m→iq c (f m) (f t)=true)∧Kept (Gr w wr)) (fun vi vj _=>(intOf vj-intOf vi).toNat)
    case atStart=>exact⟨a,m,rfl,rfl,Nr _,om,Nr _,⟨fun t _ _=>om⟩,⟨fun t _ _=>om⟩,⟨Gr.refl w⟩⟩
    case round=>
     obtain⟨i,j,rfl,rfl,hi,hij,hj,hlo,hup,hg⟩:=hrel;by_cases hlt:i<j
     ·have hlt':(i:Int)< (j:Int):=by omega
      obtain⟨h,hh⟩:∃h,h=(i+j)/2:=⟨_,rfl⟩
      have hh1:((i:Int)+(j:Int))/2=(h:Int):=om;have hhn:h<n:=om;have hh2:i≤h∧h<j:=om;have hmn:m<n:=om;have f0:=fun d os=>((qR.1.gr (hg.1.trans ⟨d,os,rfl⟩)).cells (show h<n from om)).1
      have f1:=fun d os=>((qR.1.gr (hg.1.trans ⟨d,os,rfl⟩)).cells (show h<n from om)).2.1
      have p0:=fun d os=>((qR.1.gr (hg.1.trans ⟨d,os,rfl⟩)).cells (show m<n from om)).1
      have p1:=fun d os=>((qR.1.gr (hg.1.trans ⟨d,os,rfl⟩)).cells (show m<n from om)).2.1
      have BG:=Al (fun d os=>HC.1 (Sort.grow (wr.drewN d) os) (f m) (f h) (qR.1.gr (hg.1.trans ⟨d,os,rfl⟩)).gb (IL.1 m om) (IL.1 h om));have LO:=Al (fun(q:iq c (f m) (f h)=true)=>fun t (t1:h≤t) (t2:t<m)=>aee HW.1 R1.1 (show a≤h from om) t1 t2 q);have HI:=Al (fun(q:iq c (f m) (f h)=false)=>fun t (t1:a≤t) (t2:t<h+1)=>aed HW.1 R1.1 t1 (show t≤h from om) (show h<m from om) q);have hl:iq c (f m) (f h)=decide (c (f m) (f h)<0):=rfl;rw[hl]at LO HI;clear hl hh;generalize c (f m) (f h)=r at*;rcases hrd:decide (r<0)with _|_
      all_goals
       go_wp2_with fail;go_quiet_grown (((first|go_at_call 46|go_at_call 94);refine BU (BG.1 _ _)));clear f0 f1 p0 p1 BG
      rotate_left 1
      ·have L2:=Al (LO.1 hrd);clear LO HI;go_wp2;go_roundw
       case rel=>exact⟨i,h,rfl,rfl,hi,om,om,hlo,L2,⟨hg.1.trans ⟨_,_,rfl⟩⟩⟩
       case measure=>simp[intOf];omega
      ·have L2:=Al (HI.1 hrd);clear LO HI;go_wp2;go_roundw
       case rel=>exact⟨h+1,j,by go_num,rfl,om,om,hj,L2,hup,⟨hg.1.trans ⟨_,_,rfl⟩⟩⟩
       case measure=>simp[intOf];omega
     ·obtain rfl:i=j:=by omega
      have SW:=Al (qR.1.gr hg.1);have DN:Kept (Dn (iq c) f a b i m):=⟨⟨fun p q p1 p2 p3 p4=>R1.1 p q p1 p2 om,fun t t1 t2=>hup.1 t t1 t2,fun t t1 t2=>hlo.1 t t1 t2⟩⟩
      clear hlo hup hg;go_wp2;go_loopw [17] (fun vk wx=>∃(q:Nat) (fk:Nat→α),vk= .int .i64 q∧i≤q∧q≤m∧Kept (Sw val _ w base g n fk wx)∧Kept (Ps a b f fk)∧Kept (Dn (iq c) fk a b i q)) (fun vk _=>(intOf vk).toNat)
      case atStart=>exact⟨m,f,rfl,om,Nr _,SW,⟨.refl⟩,DN⟩
      case round=>
       obtain⟨q,fk,rfl,hq1,hq2,hs,hp,hu⟩:=hrel;by_cases hqi:i<q
       ·have abf:(i:Int)< (q:Int):=by omega
        have PS:=Al (hp.1.step q (q-1) om om om om);have UP:=Al (hu.1.step HW.1 hi hqi om);have e1:(q:Int)-1=((q-1:Nat):Int):=om;have SD:=hs.1;obtain⟨x1,x2,x3,x4⟩:=SD.cells (show q<n from om);obtain⟨y1,y2,y3,y4⟩:=SD.cells (show q-1<n from om);obtain⟨s1,s2,s3,s5,s4⟩:=SD.swap (show q<n from om) (show q-1<n from om) om;have NX:=Al s4;clear s4 SD;generalize val (fk (q))=u at*;generalize val (fk (q-1))=v at*;go_wp2_with fail;go_region
        all_goals go_wp2
        go_roundw
        case rel=>exact⟨q-1,_,by go_num,om,om,NX,PS,UP⟩
        case measure=>simp[intOf];omega
       ·have abf:¬(i:Int)< (q:Int):=by omega
        go_wp2;exact Bg (Cm rfl _ _ _) rfl ⟨rfl,fk,hs.1,hp.1,hu.1.stop om⟩
   ·have h2':((b:Int)-(m:Int)==1)=false:=by simp;omega
    obtain⟨mid,hmid⟩:∃mid,mid=(a+b)/2:=⟨_,rfl⟩
    obtain⟨lo,hi,hlo⟩:∃lo hi,(mid<m∧lo=mid+m-b∧hi=mid)∨(m≤mid∧lo=a∧hi=m):=by
     by_cases q:mid<m
     ·exact⟨_,_,.inl ⟨q,rfl,rfl⟩⟩
     ·exact⟨_,_,.inr ⟨om,rfl,rfl⟩⟩
    have hm1:((a:Int)+(b:Int))/2=(mid:Int):=om;have hb1:a≤lo∧lo≤hi∧hi≤m∧hi≤mid∧mid+m≤lo+b∧a<mid∧mid<b:=om;have Yr:=Al hlo;have ahJ:=Al hmid;clear hlo hmid;have hdec:(mid:Int)< (m:Int)∨¬(mid:Int)< (m:Int):=om
    first
     |go_enter func210,ntmps210
     |go_enter func208,ntmps208
    rcases hdec with abd|abd
    all_goals
     go_wp2;go_loopw [20,21] (fun vs vr wr=>∃s r:Nat,vs= .int .i64 s∧vr= .int .i64 r∧lo≤s∧s≤r∧r≤hi∧Kept (s=lo∨iq c (f (mid+m-1-(s-1))) (f (s-1))=false)∧Kept (r=hi∨iq c (f (mid+m-1-r)) (f r)=true)∧Kept (Gr w wr)) (fun vs vr _=>(intOf vr-intOf vs).toNat)
     case atStart=>
      have hx:=Yr.1;exact⟨lo,hi,by go_num,by go_num,Nr _,om,Nr _,⟨.inl rfl⟩,⟨.inl rfl⟩,⟨Gr.refl w⟩⟩
     case round=>
      obtain⟨s,r,rfl,rfl,hs1,hsr,hr1,hlow,hhigh,hg⟩:=hrel;by_cases hlt:s<r
      ·have hlt':(s:Int)< (r:Int):=by omega
       obtain⟨h,hh⟩:∃h,h=(s+r)/2:=⟨_,rfl⟩
       obtain⟨ph,hph⟩:∃ph,ph=mid+m-1-h:=⟨_,rfl⟩
       have hh1:((s:Int)+(r:Int))/2=(h:Int):=om;have hh2:s≤h∧h<r:=om;have hhn:h<n∧ph<n:=om;have hp1:(mid:Int)+(m:Int)-1-(h:Int)=(ph:Int):=om;have hp2:(ph:Int)< (n:Int):=om;have hp3:IntKind.i64.wrap (ph:Int)=(ph:Int):=by rw[AZ];omega
       have HPH:=Al hph;clear hph;have f0:=fun d os=>((qR.1.gr (hg.1.trans ⟨d,os,rfl⟩)).cells (show ph<n from om)).1
       have f1:=fun d os=>((qR.1.gr (hg.1.trans ⟨d,os,rfl⟩)).cells (show ph<n from om)).2.1
       have p0:=fun d os=>((qR.1.gr (hg.1.trans ⟨d,os,rfl⟩)).cells (show h<n from om)).1
       have p1:=fun d os=>((qR.1.gr (hg.1.trans ⟨d,os,rfl⟩)).cells (show h<n from om)).2.1
       have BG:=Al (fun d os=>HC.1 (Sort.grow (wr.drewN d) os) (f ph) (f h) (qR.1.gr (hg.1.trans ⟨d,os,rfl⟩)).gb (IL.1 ph om) (IL.1 h om));have LO:=Al (fun(q:iq c (f ph) (f h)=true)=>(Or.inr (by rw[←HPH.1];exact q):h=hi∨iq c (f (mid+m-1-h)) (f h)=true));have HI:=Al (fun(q:iq c (f ph) (f h)=false)=>(Or.inr (by rw[Bj,←HPH.1];exact q):h+1=lo∨iq c (f (mid+m-1-(h+1-1))) (f (h+1-1))=false));have hl:iq c (f ph) (f h)=decide (c (f ph) (f h)<0):=rfl;rw[hl]at LO HI;clear hl hh;generalize c (f ph) (f h)=rr at*;rcases hrd:decide (rr<0)with _|_
       all_goals
        go_wp2_with fail;go_quiet_grown (((first|go_at_call 46|go_at_call 94);refine BU (BG.1 _ _)));clear f0 f1 p0 p1 BG
       rotate_left 1
       ·have L2:=Al (LO.1 hrd);clear LO HI;go_wp2;go_roundw
        case rel=>exact⟨s,h,rfl,rfl,hs1,om,om,hlow,L2,⟨hg.1.trans ⟨_,_,rfl⟩⟩⟩
        case measure=>simp[intOf];omega
       ·have L2:=Al (HI.1 hrd);clear LO HI;go_wp2;go_roundw
        case rel=>exact⟨h+1,r,by go_num,rfl,om,om,hr1,L2,hhigh,⟨hg.1.trans ⟨_,_,rfl⟩⟩⟩
        case measure=>simp[intOf];omega
      ·obtain rfl:s=r:=by omega
       have CUT:=Al (abe ham hmb ahJ.1 Yr.1 hs1 hr1 hlow.1 hhigh.1);obtain⟨e,he⟩:∃e,e=mid+m-s:=⟨_,rfl⟩
       rw[←he]at CUT;have he1:(mid:Int)+(m:Int)-(s:Int)=(e:Int):=om;have he2:IntKind.i64.wrap (e:Int)=(e:Int):=by rw[AZ];omega
       have hb2:a≤s∧s≤m∧m≤e∧e≤b∧s≤mid∧s+e=mid+m:=om;have SW:=Al (qR.1.gr hg.1);have PSR:Kept (Ps a b f (mD f s m e)):=⟨Uo f om om om om⟩
       have ROT:=Al (fun h1 h2=>RT.1 s m e f wr SW.1.here h1 h2 om);have hlt':¬(s:Int)< (s:Int):=om;clear hlow hhigh hg he;have YW:=Al (CUT.1.left R1.1 R2.1);have hq:((s:Int)< (m:Int)∧(m:Int)< (e:Int))∨(¬(s:Int)< (m:Int))∨((s:Int)< (m:Int)∧¬(m:Int)< (e:Int)):=om;rcases hq with⟨q1,q2⟩|q1|⟨q1,q2⟩
       go_upto_region 41 with(((first|go_at_call 250|go_at_call 249);refine(ROT.1 om om).mono ?_;rintro e1 w1 ⟨rfl,h1⟩;have H1:=Al (SW.1.mF h1);clear h1))
       rotate_left 1
       have H1:Kept (Sw val _ w base g n (mD f s m e) wr):=⟨by rw[oJ f s m e om om om];exact SW.1⟩
       go_upto_region 41 with fail
       rotate_left 1
       have H1:Kept (Sw val _ w base g n (mD f s m e) wr):=⟨by rw[oJ f s m e om om om];exact SW.1⟩
       go_upto_region 41 with fail
       rotate_left 1
       all_goals
        clear ROT SW;have hz:((a:Int)< (s:Int)∧(s:Int)< (mid:Int))∨(¬(a:Int)< (s:Int))∨((a:Int)< (s:Int)∧¬(s:Int)< (mid:Int)):=om;rcases hz with⟨z1,z2⟩|z1|⟨z1,z2⟩
        go_upto_region 43 with(((first|go_at_call 210|go_at_call 208);refine(IH.1 a s mid (mD f s m e) _ om om om om H1.1.here (PSR.1.all hbn IL.1) (HC.1.step H1.1.gb) YW.1.1 YW.1.2.1).mono ?_;rintro e2 w2 ⟨rfl,f2,h2,p2,r2⟩;have H2:=Al (H1.1.mF h2);have P2:=Al p2;have Q2:=Al r2;clear h2 p2 r2))
        rotate_left 1
        obtain⟨f2,hf2⟩:∃f2,f2=mD f s m e:=⟨_,rfl⟩
        have H2:Kept (Sw val _ w base g n f2 _):=⟨by rw[hf2];exact H1.1⟩
        have P2:Kept (Ps a mid (mD f s m e) f2):=⟨by rw[hf2];exact .refl⟩
        have Q2:Kept (aN (iq c) f2 a mid):=⟨by rw[hf2];exact YW.1.2.1.mono om Aj⟩
        clear hf2;go_upto_region 43 with fail
        rotate_left 1
        obtain⟨f2,hf2⟩:∃f2,f2=mD f s m e:=⟨_,rfl⟩
        have H2:Kept (Sw val _ w base g n f2 _):=⟨by rw[hf2];exact H1.1⟩
        have P2:Kept (Ps a mid (mD f s m e) f2):=⟨by rw[hf2];exact .refl⟩
        have Q2:Kept (aN (iq c) f2 a mid):=⟨by rw[hf2];exact YW.1.1.mono Aj om⟩
        clear hf2;go_upto_region 43 with fail
        rotate_left 1
        all_goals
         clear H1;have hy:((mid:Int)< (e:Int)∧(e:Int)< (b:Int))∨(¬(mid:Int)< (e:Int))∨((mid:Int)< (e:Int)∧¬(e:Int)< (b:Int)):=om;rcases hy with⟨y1,y2⟩|y1|⟨y1,y2⟩
         ·go_wp2_with (((first|go_at_call 210|go_at_call 208);refine(IH.1 mid e b f2 _ om om om om H2.1.here (P2.1.all om (PSR.1.all hbn IL.1)) (HC.1.step H2.1.gb) (YW.1.2.2.1.keep P2.1 (.inr Aj)) (YW.1.2.2.2.keep P2.1 (.inr om))).mono ?_;rintro e3 w3 ⟨rfl,f3,h3,p3,r3⟩;have H3:=Al (H2.1.mF h3);have P3:=Al p3;have Q3:=Al r3;clear h3 p3 r3));go_end0;exact⟨rfl,f3,H3.1,CUT.1.fin HW.1 R1.1 R2.1 P2.1 Q2.1 P3.1 Q3.1 hb1.2.2.2.2.2.1 hb1.2.2.2.2.2.2⟩
         ·have Q3:Kept (aN (iq c) f2 mid b):=⟨(YW.1.2.2.2.keep P2.1 (.inr om)).mono om Aj⟩
          go_wp2;go_end0;exact⟨rfl,f2,H2.1,CUT.1.fin HW.1 R1.1 R2.1 P2.1 Q2.1 .refl Q3.1 hb1.2.2.2.2.2.1 hb1.2.2.2.2.2.2⟩
         ·have Q3:Kept (aN (iq c) f2 mid b):=⟨(YW.1.2.2.1.keep P2.1 (.inr Aj)).mono Aj om⟩
          go_wp2;go_end0;exact⟨rfl,f2,H2.1,CUT.1.fin HW.1 R1.1 R2.1 P2.1 Q2.1 .refl Q3.1 hb1.2.2.2.2.2.1 hb1.2.2.2.2.2.2⟩
end EI
end
section
open Go.RowKit Go.Shelf
namespace EI
variable {α:Type} {val:α→Value×Value} {c:α→α→Int} {S:α→Prop} {base g n:Nat} {f:Nat→α} {w:World}
theorem mZ (k) (hs:Sw val (tT k) w base g n f w) (hS:∀t,t<n→S (f t)) (hC:Cp k val c S w g) (hW:Wo (iq c)) (hn:n≤1000000):
  Calls prog (bif k then 163 else 162) #[.slice (some ⟨g,0,none⟩) n n,.int .i64 n,.func (.func (fC k)) #[] #[]] w
   fun e w'=>e= .returned (.tuple #[])∧∃f',Sw val (tT k) w base g n f' w'∧Ps 0 n f f'∧aN (iq c) f' 0 n:=by
 have qR:=Al hs;have IL:=Al hS;have HC:=Al hC;have HW:=Al hW;have IN:=Al (fun(x y:Nat) (f:Nat→α) (w:World) (hs:Sw val (tT k) w base g n f w) (hS:∀t,t<n→S (f t)) (hC:Cp k val c S w g) (hxy:x≤y) (hy:y≤n)=>XJ (c:=c) (S:=S) k x y hs hS hC hW hxy hy hn);have SY:=Al (fun(a m b:Nat) (f:Nat→α) (w:World) (h1:a<m) (h2:m<b) (h3:b≤n) (hs:Sw val (tT k) w base g n f w) (hS:∀t,t<n→S (f t)) (hC:Cp k val c S w g)=>XO (c:=c) (S:=S) (val:=val) (base:=base) (g:=g) k hW hn (b-a) a m b f w Aj h1 h2 h3 hs hS hC);clear hs hS hC hW;cases k
 all_goals
  simp only[fC,tT,cond_true,cond_false]at*
  first
   |go_enter func163,ntmps163
   |go_enter func162,ntmps162
  go_wp2;go_loopw [7,8] (fun vi vj wr=>∃(q x:Nat) (fk:Nat→α),vi= .int .i64 x∧vj= .int .i64 ((x+20:Nat):Int)∧x≤n∧Kept (x=q*20)∧Kept (Sw val _ w base g n fk wr)∧Kept (Ps 0 n f fk)∧Kept (Run (iq c) fk 20 q)) (fun vi _ _=>n-(intOf vi).toNat)
  case atStart=>exact⟨0,0,f,rfl,rfl,bf _,⟨rfl⟩,qR,⟨.refl⟩,⟨fun k hk=>absurd hk om⟩⟩
  case round=>
   obtain⟨q,x,fk,rfl,rfl,hx,YN,hs,hp,hr⟩:=hrel;by_cases hle:x+20≤n
   ·have acW:((x+20:Nat):Int)≤(n:Int):=by omega
    have IC:=Al (IN.1 x (x+20) fk wr hs.1.here (hp.1.all Aj IL.1) (HC.1.step hs.1.gb) om hle);go_wp2_with (((first|go_at_call 209|go_at_call 207);refine IC.1.mono ?_;rintro e w2 ⟨rfl,f2,h2,p2,r2⟩;have H2:=Al (hs.1.mF h2);have P2:=Al (hp.1.trans (p2.mono (bf _) hle));have R2:=Al (show Run (iq c) f2 20 (q+1)from hr.1.next (by rw[←YN.1];exact p2) (by rw[←YN.1];exact r2));clear h2 p2 r2));go_roundw
    case rel=>exact⟨q+1,x+20,f2,rfl,by go_num,hle,⟨by have:=YN.1;omega⟩,H2,P2,R2⟩
    case measure=>simp[intOf];omega
   ·have acW:¬((x+20:Nat):Int)≤(n:Int):=by omega
    have IC:=Al (IN.1 x n fk wr hs.1.here (hp.1.all Aj IL.1) (HC.1.step hs.1.gb) hx Aj);go_wp2_with (((first|go_at_call 209|go_at_call 207);refine IC.1.mono ?_;rintro e w2 ⟨rfl,f2,h2,p2,r2⟩;have H2:=Al (hs.1.mF h2);have P2:=Al (hp.1.trans (p2.mono (bf _) Aj));have R2:=Al (show UK (iq c) f2 20 n from hr.1.done (by rw[←YN.1];exact p2) (by rw[←YN.1];exact r2));clear h2 p2 r2));clear hs hp hr IC;go_loopw [6] (fun vs wx=>∃(s:Nat) (fk:Nat→α),vs= .int .i64 s∧0<s∧s≤2*n+20∧Kept (Sw val _ w base g n fk wx)∧Kept (Ps 0 n f fk)∧Kept (UK (iq c) fk s n)) (fun vs _=>n-(intOf vs).toNat)
    case atStart=>exact⟨20,f2,rfl,om,om,H2,P2,R2⟩
    case round=>
     clear H2 P2 R2;obtain⟨s,fs,rfl,hs0,hs1,hs,hp,hb⟩:=hrel;by_cases hsn:s<n
     ·have ahK:(s:Int)< (n:Int):=by omega
      go_wp2;go_loopw [7,8] (fun vi vj wy=>∃(q x z:Nat) (fk:Nat→α),vi= .int .i64 x∧vj= .int .i64 z∧(x:Int)+2*(s:Int)=(z:Int)∧x≤n∧Kept (x=q*(2*s))∧Kept (Sw val _ w base g n fk wy)∧Kept (Ps 0 n f fk)∧Kept (Half (iq c) fk s n q)) (fun vi _ _=>n-(intOf vi).toNat)
      case atStart=>exact⟨0,0,2*s,fs,rfl,by go_num,om,bf _,⟨om⟩,hs,hp,⟨hb.1.half⟩⟩
      case round=>
       clear hs hp hb;obtain⟨p,y,z,fy,rfl,rfl,hz,hy,hyp,hs,hp,hh⟩:=hrel;obtain⟨m,hm0⟩:∃m,m=y+s:=⟨_,rfl⟩
       have e1:(y:Int)+(s:Int)=(m:Int):=om;have HM:=Al hm0;clear hm0;have HZ:=Al (show y+2*s=z from om);by_cases hle2:z≤n
       ·have aef:(z:Int)≤(n:Int):=by omega
        have TW:=Al (hh.1.two (by rw[←hyp.1];omega));rw[←hyp.1,←HM.1,HZ.1]at TW;have SC:=Al (SY.1 y m z fy wr om om hle2 hs.1.here (hp.1.all Aj IL.1) (HC.1.step hs.1.gb) TW.1.1 TW.1.2);go_wp2_with (((first|go_at_call 210|go_at_call 208);refine SC.1.mono ?_;rintro e w3 ⟨rfl,f3,h3,p3,r3⟩;have H3:=Al (hs.1.mF h3);have P3:=Al (hp.1.trans (p3.mono (bf _) hle2));have R3:=Al (show Half (iq c) f3 s n (p+1)from hh.1.next (by rw[←hyp.1,HZ.1];exact p3) (by rw[←hyp.1,HZ.1];exact r3));clear h3 p3 r3));go_roundw
        case rel=>exact⟨p+1,z,z+2*s,f3,rfl,by go_num,om,hle2,⟨by rw[DX,←hyp.1];omega⟩,H3,P3,R3⟩
        case measure=>simp[intOf];omega
       ·have aef:¬(z:Int)≤(n:Int):=by omega
        have LS:=Al (hh.1.last (by rw[←hyp.1];omega));rw[←hyp.1,←HM.1]at LS;by_cases hm:m<n
        ·have hm':(m:Int)< (n:Int):=by omega
         have SC:=Al (SY.1 y m n fy wr om hm Aj hs.1.here (hp.1.all Aj IL.1) (HC.1.step hs.1.gb) (LS.1.1.mono Aj om) LS.1.2);go_wp2_with (((first|go_at_call 210|go_at_call 208);refine SC.1.mono ?_;rintro e w3 ⟨rfl,f3,h3,p3,r3⟩;have H3:=Al (hs.1.mF h3);have P3:=Al (hp.1.trans (p3.mono (bf _) Aj));have R3:=Al (show UK (iq c) f3 (2*s) n from hh.1.done (by rw[←hyp.1];exact p3) (by rw[←hyp.1];exact r3));clear h3 p3 r3));go_roundw
         case rel=>exact⟨2*s,f3,by go_num,om,om,H3,P3,R3⟩
         case measure=>simp[intOf];omega
        ·have hm':¬(m:Int)< (n:Int):=by omega
         have R3:=Al (show UK (iq c) fy (2*s) n from hh.1.done .refl (by rw[←hyp.1];exact LS.1.1.mono Aj om));go_wp2;go_roundw
         case rel=>exact⟨2*s,fy,by go_num,om,om,hs,hp,R3⟩
         case measure=>simp[intOf];omega
     ·have ahK:¬(s:Int)< (n:Int):=by omega
      go_wp2;go_end0;exact⟨rfl,fs,hs.1,hp.1,hb.1.all om⟩
theorem xQ (k) (hs:Sw val (tT k) w base g n f w) (hS:∀t,t<n→S (f t)) (hC:Cp k val c S w g) (hW:Wo (iq c)) (hn:n≤1000000):
  Calls prog (bif k then 108 else 107) #[.slice (some ⟨g,0,none⟩) n n,.func (.func (fC k)) #[] #[]] w
   fun e w'=>e= .returned (.tuple #[])∧∃f',Sw val (tT k) w base g n f' w'∧Ps 0 n f f'∧aN (iq c) f' 0 n:=by
 have ST:=Al (mZ k hs hS hC hW hn);clear hs hS hC hW;cases k
 all_goals
  simp only[fC,tT,cond_true,cond_false]at*
  first
   |go_enter func108,ntmps108
   |go_enter func107,ntmps107
  go_wp2_with (((first|go_at_call 163|go_at_call 162);refine ST.1.mono ?_;rintro e w2 ⟨rfl,f2,h2,p2,r2⟩;have H2:=Al h2;have P2:=Al p2;have R2:=Al r2;clear h2 p2 r2));go_end0;exact⟨rfl,f2,H2.1,P2.1,R2.1⟩
end EI
end
section
open Go.RowKit Go.Shelf
theorem xR {P} (z w dT sT ty elem g o dLen dCap a sLen sCap cur t cs)
  (hu:P.underlying dT=some (.slice elem)) (hs:(P.info? elem).map (·.size)=some z)
  (hg:w.heap[g]? =some (.cells cur t (0,0))) (hn:cs.length=Nat.min sLen dLen*z)
  (hsrc:∀j v,cs[j]? =some v→w.cell? (a.add j)=some v) (hfit:o+cs.length≤cur.size) (h1:∀v∈cs,v.oneCell'=true):
  (Builtin.copy_ #[dT,sT] ty #[.slice (some ⟨g,o,none⟩) dLen dCap,.slice (some a) sLen sCap]).run P w=
   .ok (goInt (Nat.min sLen dLen)) (w.setRow g (cur.toList.take o++cs++cur.toList.drop (o+cs.length)).toArray):=by
 have hl:=run_loadCells_list (P:=P) w a cs hsrc;have hst:=run_storeCells_at P g o t cs 0 cur w hg (by simpa using hfit) h1;cases hq:P.info? elem with
 |none=>simp[hq]at hs
 |some i=>
  have hi:i.size=z:=by simpa[hq]using hs
  rw[hn]at hl;simp[Builtin.copy_,Ee hu,Builtin.lenOf,Builtin.firstCells,sizeOf,typeInfo,hq,hi,hl,hst]
theorem lg {P} (z w dT sT ty elem d a dLen dCap sLen sCap) (hu:P.underlying dT=some (.slice elem)) (hs:(P.info? elem).map (·.size)=some z) (hn:Nat.min sLen dLen=0):
  (Builtin.copy_ #[dT,sT] ty #[.slice d dLen dCap,.slice a sLen sCap]).run P w= .ok (goInt 0) w:=by
 cases hq:P.info? elem with
 |none=>simp[hq]at hs
 |some i=>
  have hl:∀(x:Addr),(loadCells x 0).run P w= .ok #[] w:=fun x=>by simpa using run_loadCells_list (P:=P) w x [] Ah
  cases d<;>cases a<;>simp[Builtin.copy_,Ee hu,Builtin.lenOf,Builtin.firstCells,sizeOf,typeInfo,hq,hn,storeCells,hl]
theorem ve {P ops o a w K Q E} (z) (hz:0<z) (hgd:o.guard=none) (d s dT sT)
  (ho:o.op= .call {callee:= .builtin .copy,args:= #[d,s],argTypes:= #[dT,sT]}) (elem) (hu:P.underlying dT=some (.slice elem)) (hsz:(P.info? elem).map (·.size)=some z)
  (dp sp dLen dCap sLen sCap) (hd:a.eval d= .slice dp dLen dCap) (hs:a.eval s= .slice sp sLen sCap)
  (g off cur t) (hg:w.heap[g]? =some (.cells cur.toArray t (0,0))) (cs) (hn:cs.length=Nat.min sLen dLen*z)
  (hpos:0<cs.length→dp=some ⟨g,off,none⟩∧∃ad,sp=some ad∧∀j v,cs[j]? =some v→w.cell? (ad.add j)=some v)
  (hfit:off+cs.length≤cur.length) (h1:∀v∈cs,v.oneCell'=true)
  (h:∀w',Hid (w'.heap[g]? =some (.cells (splice cur off cs).toArray t (0,0)))→w.grownBy w' (some g)→K (a.put o.dst (goInt (Nat.min sLen dLen))) w'):
  if Region.wanted o (yielded ops a.tmps)=true then Oper.wp P o a w K Q else E:=by
 have hw:Region.wanted o (yielded ops a.tmps)=true:=by simp[Region.wanted,hgd]
 rw[Ps0 hw];by_cases h0:cs.length=0
 ·obtain rfl:cs=[]:=qU h0;have hmin:Nat.min sLen dLen=0:=by
   rcases Nat.mul_eq_zero.1 (show Nat.min sLen dLen*z=0 by rw[←hn];rfl)with h|h
   ·exact h
   ·omega
  have hrun:=lg (P:=P) z w dT sT o.type elem dp sp dLen dCap sLen sCap hu hsz hmin;rw[hmin]at h;unfold Oper.wp;simp[execOp,ho,resolve,invoke,builtin,hd,hs,hrun,Result.andThen];exact h w (show _=_ by simpa[splice]using hg) ⟨rfl,rfl,rfl,Nr _,fun _ _ _=>rfl⟩
 ·obtain⟨rfl,ad,rfl,hsrc⟩:=hpos om;have hrun:=xR (P:=P) z w dT sT o.type elem g off dLen dCap ad sLen sCap cur.toArray t cs hu hsz hg hn hsrc (by simpa using hfit) h1;unfold Oper.wp;simp[execOp,ho,resolve,invoke,builtin,hd,hs,hrun,Result.andThen];exact h _ (show _=_ by simpa[splice]using setRow_heap w g _ _ t _ hg) ⟨rfl,rfl,rfl,by simp[World.setRow],fun k hk hne=>setRow_other w g k _ (fun e=>hne (by rw[e]))⟩
theorem zR {P w ops rest o a Q} (z) (hz:0<z) (hgd:o.guard=none) (d s dT sT)
  (ho:o.op= .call {callee:= .builtin .copy,args:= #[d,s],argTypes:= #[dT,sT]}) (elem) (hu:P.underlying dT=some (.slice elem)) (hsz:(P.info? elem).map (·.size)=some z)
  (dp sp dLen dCap sLen sCap) (hd:a.eval d= .slice dp dLen dCap) (hs:a.eval s= .slice sp sLen sCap)
  (g off cur t) (hg:w.heap[g]? =some (.cells cur.toArray t (0,0))) (cs) (hn:cs.length=Nat.min sLen dLen*z)
  (hpos:0<cs.length→dp=some ⟨g,off,none⟩∧∃ad,sp=some ad∧∀j v,cs[j]? =some v→w.cell? (ad.add j)=some v)
  (hfit:off+cs.length≤cur.length) (h1:∀v∈cs,v.oneCell'=true)
  (h:∀w',Hid (w'.heap[g]? =some (.cells (splice cur off cs).toArray t (0,0)))→w.grownBy w' (some g)→wpList P ops Q rest (a.put o.dst (goInt (Nat.min sLen dLen))) w'):
  wpList P ops Q (o::rest) a w:=by
 refine wpList_plain hgd fun K hK=>?_
 by_cases h0:cs.length=0
 ·obtain rfl:cs=[]:=qU h0;have hmin:Nat.min sLen dLen=0:=by
   rcases Nat.mul_eq_zero.1 (show Nat.min sLen dLen*z=0 by rw[←hn];rfl)with h|h
   ·exact h
   ·omega
  have hrun:=lg (P:=P) z w dT sT o.type elem dp sp dLen dCap sLen sCap hu hsz hmin;rw[hmin]at h;unfold Oper.wp;simp[execOp,ho,resolve,invoke,builtin,hd,hs,hrun,Result.andThen];exact hK _ _ (h w (show _=_ by simpa[splice]using hg) ⟨rfl,rfl,rfl,Nr _,fun _ _ _=>rfl⟩)
 ·obtain⟨rfl,ad,rfl,hsrc⟩:=hpos om;have hrun:=xR (P:=P) z w dT sT o.type elem g off dLen dCap ad sLen sCap cur.toArray t cs hu hsz hg hn hsrc (by simpa using hfit) h1;unfold Oper.wp;simp[execOp,ho,resolve,invoke,builtin,hd,hs,hrun,Result.andThen];exact hK _ _ (h _ (show _=_ by simpa[splice]using setRow_heap w g _ _ t _ hg) ⟨rfl,rfl,rfl,by simp[World.setRow],fun k hk hne=>setRow_other w g k _ (fun e=>hne (by rw[e]))⟩)
theorem nC {cur cs:List Value} (h:cur.length=cs.length):splice cur 0 cs=cs:=by
 unfold splice;simp[h]
theorem Rd.src {w B z n c A xs} (h:Rd w B z A n c xs) (hp:0<n):∃ad,A=some ad∧∀j v,xs[j]? =some v→w.cell? (ad.add j)=some v:=by
 obtain⟨b,off,rfl,_,hc⟩:=h.2.2.2 hp;refine⟨_,rfl,fun j v hj=>?_⟩;have:(⟨b,off,none⟩:Addr).add j=⟨b,off+j,none⟩:=by unfold Addr.add;split<;>simp_all
 rw[this];exact hc j v hj
end
end Go.Proofs.YtongopommlghgaaGreatDoor
