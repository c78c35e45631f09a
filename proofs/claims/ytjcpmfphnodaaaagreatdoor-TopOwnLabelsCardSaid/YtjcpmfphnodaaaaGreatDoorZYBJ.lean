/- Part 36. -/
import Derived.Test.YtjcpmfphnodaaaaGreatDoorZYBI
namespace Go.Proofs.YtjcpmfphnodaaaaGreatDoor
set_option maxRecDepth 100000
set_option maxHeartbeats 0
open _root_.Go.Proofs.Tryz
section
open Go.RowKit Go.Shelf
def Tp.sb:Bk.jb:=[([⟨⟨#[97]⟩,⟨#[49]⟩⟩],[(1,2)])]
theorem Tp.TU:Bk.df Tp.sb=0:=by decide+kernel
theorem Tp.Yu:∀s∈Tp.sb,Cs.In s.2:=by
 intro s hs p hp;unfold Tp.sb at hs;rw[gz]at hs;subst hs;simp only[gz]at hp;subst hp;exact⟨by unfold Tm.In;omega,Ah⟩
theorem Tp.TV:Bk.zf Tp.sb:=⟨Ah,Ah,Ah,by decide+kernel⟩
theorem Bk.zf.ok {b} (h:Bk.zf b) (hc:Bk.df b=0) (hi:∀s∈b,Cs.In s.2):Bk.Ok b:=by
 have hw:=h.wt;refine⟨hc,hi,om,by have:=Bk.LJ h;omega,fun T ht=>?_,fun T E ho i hi4=>?_⟩
 ·have:=Bk.LH (T:=T) (by have:=(h.tab hc ht).1;omega) h;omega
 ·have:=h.sec hc ho i hi4;split at this<;>omega
theorem Ly.OZ (D) (hD:Ly.tot D 4≤140737488352000):(Ly.asm D).length≤Ly.tot D 4+200:=by
 rw[Ly.x9];unfold Ly.body;rw[La];have h1:=Ly.sF D hD 4 om;have h2:=Ly.wO D hD;have h3:=Wr.lD 5 (Ly.iP (Ly.off D) 4) om;omega
theorem Rd.two (w:World) (a b t):Rd (w.alloc (.cells #[a,b] t)) (w.heap.size+1) 2 (some ⟨w.heap.size,0,none⟩) 1 1 [a,b]:=
 ⟨Nr _,by unfold maxLen;omega,rfl,fun _=>⟨_,0,rfl,om,fun i u hu=>by
  rw[bZ];exact(Ao w _ _ _ i).trans (by simpa using hu)⟩⟩
theorem Bk.zf.short {b L} (h:Bk.zf b) (hc:Bk.df b=0) (hi:∀s∈b,Cs.In s.2) (hf:Bk.File b L):zJ L∧L.length≤140737488353000∧Bk.dec L=(b,0):=by
 obtain⟨T,E,ho,rfl⟩:=hf;have htot:=(h.ok hc hi).tot ho;have hle:=Ly.OZ (Bk.D4 T E b) om;refine⟨fun i hi4=>?_,om,Bk.Rv hc hi (by have:=h.wt;omega) ?_ ⟨T,E,ho,rfl⟩⟩
 ·rw[Ly.EH _ om i hi4];exact h.sec hc ho i hi4
 ·omega
theorem xI (w):Calls prog 33 #[] w fun e w'=>∃A n c,e= .returned (.slice A n c)∧iC w' w'.heap.size A n c Tp.sb∧Below w.heap.size w w':=by
 go_enter func33,ntmps33;go_wp2;go_ret;refine⟨_,_,_,rfl,?_,(((Ae _ w).alloc Ai _).alloc sm _).alloc (by simp;try omega) _⟩;have r1:=Rd.two w (.string ⟨#[97]⟩) (.string ⟨#[49]⟩) 59;have r2:=Rd.two (w.alloc (.cells #[.string ⟨#[97]⟩,.string ⟨#[49]⟩] 59)) (.int .i64 1) (.int .u64 2) 127;have r3:=Rd.two ((w.alloc (.cells #[.string ⟨#[97]⟩,.string ⟨#[49]⟩] 59)).alloc (.cells #[.int .i64 1,.int .u64 2] 127)) (.slice (some ⟨w.heap.size,0,none⟩) 1 1) (.slice (some ⟨w.heap.size+1,0,none⟩) 1 1) 57;simp only[AU]at r1 r2 r3;have b2:Below (w.heap.size+1+1) ((w.alloc (.cells #[.string ⟨#[97]⟩,.string ⟨#[49]⟩] 59)).alloc (.cells #[.int .i64 1,.int .u64 2] 127)) (((w.alloc (.cells #[.string ⟨#[97]⟩,.string ⟨#[49]⟩] 59)).alloc (.cells #[.int .i64 1,.int .u64 2] 127)).alloc (.cells #[.slice (some ⟨w.heap.size,0,none⟩) 1 1,.slice (some ⟨w.heap.size+1,0,none⟩) 1 1] 57)):=(Ae _ _).alloc sm _;have b1:Below (w.heap.size+1) (w.alloc (.cells #[.string ⟨#[97]⟩,.string ⟨#[49]⟩] 59)) ((w.alloc (.cells #[.string ⟨#[97]⟩,.string ⟨#[49]⟩] 59)).alloc (.cells #[.int .i64 1,.int .u64 2] 127)):=(Ae _ _).alloc sm _;refine⟨[(.slice (some ⟨w.heap.size,0,none⟩) 1 1,.slice (some ⟨w.heap.size+1,0,none⟩) 1 1)],Rd.more r3 sm,rfl,fun i a a'=>?_⟩;have hi:i=0:=by simpa using a
 subst hi;exact⟨_,_,_,_,_,_,rfl,Rd.more (Rd.below (Rd.below r1 b1) (b2.mono om)) (by simp;try omega),Rd.more (Rd.below r2 b2) sm⟩
theorem adJ (a b c d e f g h w):(Instr.field 30 (.agg #[a,b,c,d,e,f,g,h]) 0).run prog w= .ok a w:=kr
theorem J8 (w) (hG:Gl w):Calls prog 8 #[] w fun e w'=>e= .returned (.bool true)∧Below w.heap.size w w':=by
 have HG:=Aj hG;have SM:=Aj (xI w);have EN:=Aj (fun(w1:World) (A:Option Addr) (n c:Nat) (hb:Below w.heap.size w w1) (hk:iC w1 w1.heap.size A n c Tp.sb)=>Mt A n c Tp.sb w1 hk (Tp.TV.ok Tp.TU Tp.Yu) (hG.below hb));clear hG;go_enter func8,ntmps8;go_upto_region 2 with(first
  |(go_at_call 16;refine(EN.1 w1 A1 n1 c1 B1.1 K1.1).mono ?_;rintro e w2 ⟨A2,n2,c2,L,rfl,hf,ho,hb⟩;have HF:=Aj hf;have O2:=Aj ho;have B2:=Aj (B1.1.trans (hb.mono B1.1.size));clear hf ho hb EN K1 B1)
  |(go_at_call 33;refine SM.1.mono ?_;rintro e w1 ⟨A1,n1,c1,rfl,hk,hb⟩;have K1:=Aj hk;have B1:=Aj hb;clear hk hb SM))
 obtain⟨s1,s2,s3⟩:=Tp.TV.short Tp.TU Tp.Yu HF.1;have DE:=Aj (Mv A2 n2 c2 L w2 O2.1.rd (by rw[O2.1.len];exact s2) s1 (HG.1.below B2.1));rw[s3]at DE;clear s1 s2 s3;go_upto_region 3 with(go_at_call 9;refine DE.1.mono ?_;rintro e w3 ⟨A3,n3,c3,rfl,hk,hb⟩;have K3:=Aj hk;have B3:=Aj (B2.1.trans (hb.mono B2.1.size));clear hk hb DE)
 have SM2:=Aj (xI w3);have EQ:=Aj (fun(w4:World) (A4:Option Addr) (n4 c4:Nat) (hb:Below w3.heap.size w3 w4) (hk:iC w4 w4.heap.size A4 n4 c4 Tp.sb)=>Jd A3 A4 n3 c3 n4 c4 w3.heap.size w4.heap.size Tp.sb w4 (K3.1.below hb) hk hb.size Ai);have hpe:Ly.pe []=3:=by decide+kernel
 have VE:=Aj (fun(w5:World) (hb:Below w.heap.size w w5)=>by
  have h:=OX none 0 0 [] w5 (Rd.nil w5 _ 1 0 none (by unfold maxLen;omega)) om (HG.1.below hb) (by rw[hpe];decide);rw[hpe]at h;exact h)
 clear hpe;have fr0:=adJ;go_wp2_with (first
  |(go_at_call 10;refine(VE.1 w5 B5.1).mono ?_;rintro e w6 ⟨q,z0,z1,z2,z3,t1,t2,rfl,-,hq,hb⟩;obtain rfl:=hq rfl;have B6:=Aj (B5.1.trans (hb.mono B5.1.size));clear hq hb VE)
  |(go_at_call 15;refine(EQ.1 w4 A4 n4 c4 B34.1 K4.1).mono ?_;rintro e w5 ⟨rfl,hg⟩;have B5:=Aj (B4.1.trans (hg.below.mono B4.1.size));clear hg EQ)
  |(go_at_call 33;refine SM2.1.mono ?_;rintro e w4 ⟨A4,n4,c4,rfl,hk,hb⟩;have K4:=Aj hk;have B34:=Aj hb;have B4:=Aj (B3.1.trans (hb.mono B3.1.size));clear hk hb SM2))
 go_ret;exact⟨rfl,B6.1⟩
end
namespace Qy
open Lb
def Uq (l:List aO):Prop:=l.Pairwise fun x y=>x.n≠y.n
def val (l:List aO) (n:ByteArray):ByteArray:=(Lb.get l n).getD ByteArray.empty
theorem zK (l n):Lb.get l n=none↔n∉l.map (·.n):=by
 unfold Lb.get;rw[Option.map_eq_none_iff,List.find?_eq_none];simp only[Cg,bQ,not_exists,not_and]
theorem oq {l} (hu:Uq l) (n v):Lb.get l n=some v↔(⟨n,v⟩:aO)∈l:=by
 induction l with
 |nil=>simp[Lb.get]
 |cons y l ih=>
  obtain⟨h1,h2⟩:=AO.1 hu;have ih:=ih h2;by_cases hy:y.n=n
  ·have e:Lb.get (y::l) n=some y.v:=by unfold Lb.get;rw[List.find?_cons];simp[hy]
   rw[e,dV];constructor
   ·intro h
    left
    cases y;simp only[gK]at h hy;rw[←hy,←h]
   ·rintro(h|h)
    ·rw[←h]
    ·exact absurd hy (h1 _ h)
  ·have e:Lb.get (y::l) n=Lb.get l n:=by unfold Lb.get;rw[List.find?_cons];simp[hy]
   rw[e,ih,dV];constructor
   ·exact .inr
   ·rintro(h|h)
    ·exact absurd (by rw[←h]) hy
    ·exact h
theorem zL {l} (hu:Uq l) (n v):val l n=v↔((⟨n,v⟩:aO)∈l∨(v=ByteArray.empty∧n∉l.map (·.n))):=by
 unfold val;cases h:Lb.get l n with
 |none=>
  have h1:=(zK l n).1 h;rw[Option.getD_none];constructor
  ·exact fun e=> .inr ⟨e.symm,h1⟩
  ·rintro(h2|⟨h2,-⟩)
   ·exact absurd (bQ.2 ⟨_,h2,rfl⟩) h1
   ·exact h2.symm
 |some u=>
  have h1:=(oq hu n u).1 h;rw[Option.getD_some];constructor
  ·intro e;subst e;exact .inl h1
  ·rintro(h2|⟨-,h2⟩)
   ·have:=(oq hu n v).2 h2;rw[h]at this;exact Oj this
   ·exact absurd (bQ.2 ⟨_,h1,rfl⟩) h2
def ok1 (l:List aO) (m:aO×Bool):Bool:=decide (val l m.1.n=m.1.v) !=m.2
def ok (l:List aO) (ms:List (aO×Bool)):Bool:=ms.all (ok1 l)
theorem own {l} (hu:Uq l):ok l (l.map fun x=>(x,false))=true:=by
 unfold ok;rw[Dr];intro m hm;obtain⟨x,hx,rfl⟩:=bQ.1 hm;unfold ok1;have:val l x.n=x.v:=(zL hu x.n x.v).2 (.inl hx);simp[this]
end Qy
namespace Qn
open Lb
def rg (M:List (List aO)) (q:List aO→Bool):List Int:=((List.range M.length).filter fun i=>q (M.getD i [])).map fun i:Nat=>(i:Int)
theorem qh (M q):Ls.S (rg M q):=by
 unfold rg;exact List.Pairwise.map _ (fun a b (h:a<b)=>om) ((List.pairwise_lt_range).filter _)
theorem gM (M q y):y∈rg M q↔∃i,i<M.length∧q (M.getD i [])=true∧(i:Int)=y:=by
 unfold rg;simp only[bQ,Ca,List.mem_range,and_assoc]
theorem qi (M q):(rg M q).length≤M.length:=by
 unfold rg;rw[fF];exact Lt (DK _ _) sm
theorem ve {M:List (List aO)} {q i} (h:i<M.length):(i:Int)∈rg M q↔q (M.getD i [])=true:=by
 rw[gM];constructor
 ·rintro⟨j,_,h2,h3⟩;obtain rfl:j=i:=om;exact h2
 ·exact fun h2=>⟨i,h,h2,rfl⟩
theorem ou {M q r} (h:∀l∈M,q l=r l):rg M q=rg M r:=by
 refine Ls.ext (qh M q) (qh M r) fun y=>?_
 rw[gM,gM];have e:∀i,i<M.length→q (M.getD i [])=r (M.getD i []):=fun i hi=>h _ (by
  rw[jw,kK hi,Option.getD_some];exact gP hi)
 constructor
 ·rintro⟨i,h1,h2,h3⟩;exact⟨i,h1,by rw[←e i h1];exact h2,h3⟩
 ·rintro⟨i,h1,h2,h3⟩;exact⟨i,h1,by rw[e i h1];exact h2,h3⟩
theorem TW (M q r):Ls.pick (fun _ s=>!s) (rg M q) (rg M r)=rg M fun l=>q l&&!r l:=by
 rw[Ls.Ld (qh M q) (qh M r)];refine Ls.ext (Ls.XY _ (qh M q)) (qh M _) fun y=>?_
 rw[Ls.K9,gM M q,gM M fun l=>q l&&!r l];constructor
 ·rintro⟨⟨i,h1,h2,rfl⟩,h3⟩;rw[ve h1,Bool.not_eq_true]at h3;exact⟨i,h1,by show(q _&&!r _)=true;rw[h2,h3];rfl,rfl⟩
 ·rintro⟨i,h1,h2,rfl⟩;have h2:(q (M.getD i [])&&!r (M.getD i []))=true:=h2;rw[CV,Bool.not_eq_true']at h2;exact⟨⟨i,h1,h2.1,rfl⟩,by rw[ve h1,h2.2];simp⟩
theorem aaE (M q r):Ls.Td [rg M q,rg M r]=rg M fun l=>q l&&r l:=by
 have h:=Ls.QW (out:=rg M q) (r:=[rg M r]) (qh M q) (by intro l hl;rw[gz.1 hl];exact qh M r);show Ls.vU (rg M q) [rg M r]=_;refine Ls.ext h.1 (qh M _) fun y=>?_
 rw[h.2,gM M q,gM M fun l=>q l&&r l];constructor
 ·rintro⟨⟨i,h1,h2,rfl⟩,h3⟩;have h3:=(ve h1).1 (h3 (rg M r) sm);exact⟨i,h1,by show(q _&&r _)=true;rw[h2,h3];rfl,rfl⟩
 ·rintro⟨i,h1,h2,rfl⟩;have h2:(q (M.getD i [])&&r (M.getD i []))=true:=h2;rw[CV]at h2;exact⟨⟨i,h1,h2.1,rfl⟩,fun m hm=>by rw[gz.1 hm];exact(ve h1).2 h2.2⟩
theorem aaF (M q r):Ls.l8 [] [rg M q,rg M r]=rg M fun l=>q l||r l:=by
 have h:=Ls.Fy (out:=[]) (r:=[rg M q,rg M r]) List.Pairwise.nil (by
  intro l hl;rcases dV.1 hl with rfl|hl
  ·exact qh M q
  ·rw[gz.1 hl];exact qh M r)
 refine Ls.ext h.1 (qh M _) fun y=>?_
 rw[h.2,gM M fun l=>q l||r l];constructor
 ·rintro(h|⟨m,hm,h⟩)
  ·cases h
  ·rcases dV.1 hm with rfl|hm
   ·obtain⟨i,h1,h2,rfl⟩:=(gM M q y).1 h;exact⟨i,h1,by show(q _||r _)=true;rw[h2];rfl,rfl⟩
   ·rw[gz.1 hm]at h;obtain⟨i,h1,h2,rfl⟩:=(gM M r y).1 h;exact⟨i,h1,by show(q _||r _)=true;rw[h2,Bool.or_true],rfl⟩
 ·rintro⟨i,h1,h2,rfl⟩;have h2:(q (M.getD i [])||r (M.getD i []))=true:=h2;rw[Bool.or_eq_true]at h2;rcases h2 with h2|h2
  ·exact .inr ⟨rg M q,sm,(ve h1).2 h2⟩
  ·exact .inr ⟨rg M r,sm,(ve h1).2 h2⟩
theorem Mw (M):Ls.upto M.length=rg M fun _=>true:=by
 unfold Ls.upto rg;rw[List.filter_eq_self.2 fun _ _=>rfl]
theorem aaG (M):Ls.pick (fun _ s=>!s) (Ls.upto M.length) []=rg M fun _=>true:=by
 rw[Ls.Ld (Ls.Zd _) List.Pairwise.nil,Mw];simp[Ls.dif,Ls.has]
theorem lS:∀(M) (k) (x) (y),(x,y)∈Ps.eQ M k↔∃i,i<M.length∧x∈M.getD i []∧((k+i:Nat):Int)=y
 |[],k,x,y=>by simp[Ps.eQ]
 |m::M,k,x,y=>by
  rw[Ps.eQ,ja,lS M (k+1) x y];constructor
  ·rintro(h|⟨i,h1,h2,h3⟩)
   ·obtain⟨z,hz,e⟩:=bQ.1 h;rw[az]at e;obtain⟨rfl,rfl⟩:=e;exact⟨0,sm,by simpa using hz,sm⟩
   ·exact⟨i+1,by rw[Lc];omega,by simpa using h2,by rw[←h3];congr 1;omega⟩
  ·rintro⟨i,h1,h2,h3⟩;cases i with
   |zero=>exact .inl (bQ.2 ⟨x,by simpa using h2,by rw[←h3];simp⟩)
   |succ i=>exact .inr ⟨i,by rw[Lc]at h1;omega,by simpa using h2,by rw[←h3];congr 1;omega⟩
theorem Mx (x P y):y∈Ps.fA x P↔(x,y)∈P:=by
 unfold Ps.fA;rw[bQ];constructor
 ·rintro⟨⟨a,b⟩,h1,rfl⟩;rw[Ca]at h1;have h2:a=x:=by simpa using h1.2
  rw[←h2];exact h1.1
 ·intro h;exact⟨(x,y),Ca.2 ⟨h,sm⟩,rfl⟩
theorem TY {M E} (hs:Ps.Sets M) (h:Ps.qY (Ps.eQ M 0) E) (p):Ls.l8 [] ((E.filter fun e=>p e.1).map (·.2))=rg M fun l=>l.any p:=by
 have hS:∀s∈(E.filter fun e=>p e.1).map (·.2),Ls.S s:=fun s hs'=>by
  obtain⟨e,he,rfl⟩:=bQ.1 hs';rw[h.fA e (Ca.1 he).1];exact Ps.za M 0 (fun m hm=>(hs.1 m hm).1) e.1
 obtain⟨q1,q2⟩:=Ls.Fy (out:=[]) List.Pairwise.nil hS;refine Ls.ext q1 (qh M _) fun y=>?_
 rw[q2,gM];constructor
 ·rintro(h1|⟨s,h1,h2⟩)
  ·cases h1
  ·obtain⟨e,he,rfl⟩:=bQ.1 h1;obtain⟨h3,h4⟩:=Ca.1 he;rw[h.fA e h3,Mx,lS]at h2;obtain⟨i,g1,g2,g3⟩:=h2;exact⟨i,g1,Dc.2 ⟨_,g2,h4⟩,by rw[←g3];simp⟩
 ·rintro⟨i,g1,g2,rfl⟩;obtain⟨x,hx,hp⟩:=Dc.1 g2;have h2:(x,(i:Int))∈Ps.eQ M 0:=(lS M 0 x _).2 ⟨i,g1,hx,sm⟩;have hx:x∈E.map (·.1):=(h.mem x).2 (bQ.2 ⟨_,h2,rfl⟩);obtain⟨e,he,rfl⟩:=bQ.1 hx;refine .inr ⟨e.2,bQ.2 ⟨e,Ca.2 ⟨he,hp⟩,rfl⟩,?_⟩;rw[h.fA e he,Mx];exact h2
theorem ze:∀(LL) (b),(∀l∈LL,l.length≤b)→Ls.tot LL≤LL.length*b
 |[],_,_=>by simp[Ls.tot]
 |l::LL,b,h=>by
  have h1:=ze LL b fun l hl=>h l (by simp[hl])
  have h2:=h l sm;rw[Ls.GJ,Lc,Nat.succ_mul];omega
theorem G9 {M E} (hw:Ps.wt M≤500) (h:Ps.qY (Ps.eQ M 0) E) (p):Ls.tot ((E.filter p).map (·.2))≤1000000:=by
 obtain⟨h1,h2⟩:=Ps.rQ h;have h0:=Ps.lQ M 0;have h3:=ze ((E.filter p).map (·.2)) 500 fun l hl=>by
  obtain⟨e,he,rfl⟩:=bQ.1 hl;have:=h2 e (Ca.1 he).1;omega
 have h4:=DK p E;rw[fF]at h3;have:(E.filter p).length*500≤500*500:=CG _ om;omega
theorem TZ {M} (hs:Ps.Sets M):∀l∈M,Qy.Uq l:=fun l hl=>(hs.1 l hl).1.imp fun{a b} hab e=>by
 rw[e,St.irrefl]at hab;cases hab
def Xp (M:List (List aO)) (x:aO):List Int:=rg M fun l=>decide (Qy.val l x.n=x.v)
theorem aaH {M} (hs:Ps.Sets M) (x) (hx:x.v≠ByteArray.empty):(rg M fun l=>l.any fun y=>decide (y=x))=Xp M x:=by
 refine ou fun l hl=>?_
 rw[Bool.eq_iff_iff,Cg,Qy.zL (TZ hs l hl),Dc];constructor
 ·rintro⟨y,h1,h2⟩;rw[Cg]at h2;subst h2;exact .inl h1
 ·rintro(h|⟨h,-⟩)
  ·exact⟨_,h,sm⟩
  ·exact absurd h hx
theorem Xq {M} (hs:Ps.Sets M) (x) (hx:x.v=ByteArray.empty):(rg M fun l=>(l.any fun y=>decide (y=x))||(true&&!l.any fun y=>decide (y.n=x.n)))=Xp M x:=by
 refine ou fun l hl=>?_
 rw[Bool.eq_iff_iff,Cg,Qy.zL (TZ hs l hl),Bool.true_and,Bool.or_eq_true,Dc];have h2:((!l.any fun y=>decide (y.n=x.n))=true)↔x.n∉l.map (·.n):=by
  rw[Bool.not_eq_true',Cx,Ne,Dc];simp only[Cg,bQ]
 rw[h2];constructor
 ·rintro(⟨y,h1,h3⟩|h)
  ·rw[Cg]at h3;subst h3;exact .inl h1
  ·exact .inr ⟨hx,h⟩
 ·rintro(h|⟨-,h⟩)
  ·exact .inl ⟨_,h,sm⟩
  ·exact .inr h
def fl (M:List (List aO)) (ms:List (aO×Bool)):List Int:=rg M fun l=>Qy.ok l ms
theorem aaI (M):fl M []=rg M fun _=>true:=by
 unfold fl Qy.ok;simp
theorem J9 (M ms x):Ls.pick (fun _ s=>!s) (fl M ms) (Xp M x)=fl M (ms++[(x,true)]):=by
 unfold fl Xp;rw[TW];refine ou fun l _=>?_
 unfold Qy.ok;rw[List.all_append];simp[Qy.ok1]
theorem O0 (M ms x):Ls.Td [fl M ms,Xp M x]=fl M (ms++[(x,false)]):=by
 unfold fl Xp;rw[aaE];refine ou fun l _=>?_
 unfold Qy.ok;rw[List.all_append];simp[Qy.ok1]
end Qn
section
open Go.RowKit Go.Shelf
theorem iO.two {w B n1 c1 n2 c2 A1 A2 l1 l2} (h1:bM w B A1 n1 c1 l1) (h2:bM w B A2 n2 c2 l2) (hB:B≤w.heap.size):
  iO (w.alloc (.cells #[.slice A1 n1 c1,.slice A2 n2 c2] 62)) (w.heap.size+1) (some ⟨w.heap.size,0,none⟩) 2 2 [l1,l2]:=
 ⟨[.slice A1 n1 c1,.slice A2 n2 c2],⟨Nr _,by unfold maxLen;omega,rfl,fun _=>⟨_,0,rfl,om,fun i u hu=>by
  match i,hu with
  |0,hu=>simp at hu;subst hu;exact Ao w _ _ _ 0
  |1,hu=>simp at hu;subst hu;exact Ao w _ _ _ 1⟩⟩,rfl,fun i l' hl=>by
  match i,hl with
  |0,hl=>simp at hl;subst hl;exact⟨A1,n1,c1,rfl,(h1.alloc hB _).more om⟩
  |1,hl=>simp at hl;subst hl;exact⟨A2,n2,c2,rfl,(h2.alloc hB _).more om⟩⟩
def qj (w:World) (B p:Nat) (b:Bk.jb):Prop:=
 ∃q A n c A2 n2 c2 E,p<B∧q<B∧w.heap[p]? =some (.cells #[.pointer (some ⟨q,0,none⟩)] 88 (0,0))∧
  w.heap[q]? =some (.cells #[.slice A n c,.slice A2 n2 c2] 86 (0,0))∧iC w B A n c b∧cB w B A2 n2 c2 E∧Ps.qY (Ps.eQ (Bk.sets b) 0) E
theorem qj.on {w W B p b} (h:qj w B p b) (hB:B≤w.heap.size) (hb:Below w.heap.size w W):qj W B p b:=by
 obtain⟨q,A,n,c,A2,n2,c2,E,hp,hq,h1,h2,h3,h4,h5⟩:=h;exact⟨q,A,n,c,A2,n2,c2,E,hp,hq,(hb.block p om).trans h1,(hb.block q om).trans h2,h3.below (hb.mono hB),h4.below hb hB,h5⟩
theorem qj.open_ {w B p b} (h:qj w B p b) (hB:B≤w.heap.size):∃q A n c A2 n2 c2 E,n=b.length∧iC w B A n c b∧cB w B A2 n2 c2 E∧Ps.qY (Ps.eQ (Bk.sets b) 0) E∧
  ∀W,Below w.heap.size w W→W.cell? ⟨p,0,none⟩=some (.pointer (some ⟨q,0,none⟩))∧W.cell? ⟨q,0,none⟩=some (.slice A n c)∧W.cell? ⟨q,1,none⟩=some (.slice A2 n2 c2):=by
 obtain⟨q,A,n,c,A2,n2,c2,E,hp,hq,h1,h2,h3,h4,h5⟩:=h;refine⟨q,A,n,c,A2,n2,c2,E,h3.len,h3,h4,h5,fun W hW=>?_⟩;have g1:=(hW.block p om).trans h1;have g2:=(hW.block q om).trans h2;exact⟨Co _ _ 0 _ _ _ g1,Co _ _ 0 _ _ _ g2,Co _ _ 1 _ _ _ g2⟩
structure Ui (b:Bk.jb):Prop where
 set:Ps.Sets (Bk.sets b)
 wt:Ps.wt (Bk.sets b)≤500
theorem Ui.len {b} (h:Ui b):b.length≤500:=by
 have h1:=Ps.uf (Bk.sets b);have h2:=h.wt;have h3:(Bk.sets b).length=b.length:=by unfold Bk.sets;simp
 omega
theorem Ui.Vs {b E} (h:Ui b) (hi:Ps.qY (Ps.eQ (Bk.sets b) 0) E):E.length≤500:=by
 have h1:=(Ps.rQ hi).1;have h2:=Ps.lQ (Bk.sets b) 0;have h3:=h.wt;omega
theorem Ka (p b x w) (hv:qj w w.heap.size p b) (hq:Ui b):
  Calls prog 50 #[.pointer (some ⟨p,0,none⟩),XF x] w fun r w'=>∃A3 n3 c3,r= .returned (.slice A3 n3 c3)∧n3≤2000∧ax w' w.heap.size A3 n3 c3 (Qn.Xp (Bk.sets b) x)∧Below w.heap.size w w':=by
 obtain⟨q,A,n,c,A2,n2,c2,E,hn,hK,hE,hI,hc⟩:=hv.open_ Ai;have hle:=hq.len;have hn2:n2≤1000000:=by have h1:=hE.len;have h2:=hq.Vs hI;omega
 have hsl:(Bk.sets b).length=b.length:=by unfold Bk.sets;simp
 have FD:=Aj (fun(W:World) (h:Below w.heap.size w W)=>JR A2 n2 c2 E x W (hE.on h) hn2 (Qn.G9 hq.wt hI _));rw[Qn.TY hq.set hI (fun y=>decide (y=x))]at FD;have NM:=Aj (fun(W:World) (h:Below w.heap.size w W)=>GM A2 n2 c2 E x.n W (hE.on h) hn2 (Qn.G9 hq.wt hI _));rw[Qn.TY hq.set hI (fun y=>decide (y.n=x.n))]at NM;have hB0:Below w.heap.size w (w.alloc (Obj.cells #[.string x.n,.string x.v] 59)):=(Ae _ _).alloc Ai _;have d0:(w.alloc (Obj.cells #[.string x.n,.string x.v] 59)).cell? ⟨w.heap.size,0,none⟩=some (.string x.n):=Ao w _ _ _ 0;have d1:(w.alloc (Obj.cells #[.string x.n,.string x.v] 59)).cell? ⟨w.heap.size,1,none⟩=some (.string x.v):=Ao w _ _ _ 1;have hz0:w.heap.size< (w.alloc (Obj.cells #[.string x.n,.string x.v] 59)).heap.size:=sm;have HX:Kept (∀W,Below (w.alloc (Obj.cells #[.string x.n,.string x.v] 59)).heap.size (w.alloc (Obj.cells #[.string x.n,.string x.v] 59)) W→W.cell? ⟨p,0,none⟩=some (.pointer (some ⟨q,0,none⟩))∧W.cell? ⟨q,0,none⟩=some (.slice A n c)∧W.cell? ⟨q,1,none⟩=some (.slice A2 n2 c2)∧W.cell? ⟨w.heap.size,0,none⟩=some (.string x.n)∧W.cell? ⟨w.heap.size,1,none⟩=some (.string x.v)):=
  ⟨fun W hW=>by
   obtain⟨a1,a2,a3⟩:=hc W (hB0.trans (hW.mono hB0.size));exact⟨a1,a2,a3,(hW.cell (p:=⟨w.heap.size,0,none⟩) hz0).trans d0,(hW.cell (p:=⟨w.heap.size,1,none⟩) hz0).trans d1⟩⟩
 have B0:=Aj hB0;have E1:=Aj (Qn.aaH hq.set x);have E2:=Aj (Qn.Xq hq.set x);have HL:=Aj hle;have L1:=Aj (Qn.qi (Bk.sets b) (fun l=>l.any fun y=>decide (y=x)));have L2:=Aj (Qn.qi (Bk.sets b) (fun l=>l.any fun y=>decide (y.n=x.n)));have L3:=Aj (Qn.qi (Bk.sets b) (fun l=>decide (Qy.val l x.n=x.v)));have U1:=Aj (Qn.Mw (Bk.sets b));have U2:=Aj (Qn.TW (Bk.sets b) (fun _=>true) (fun l=>l.any fun y=>decide (y.n=x.n)));have U3:=Aj (Qn.aaF (Bk.sets b) (fun l=>l.any fun y=>decide (y=x)) (fun l=>true&&!l.any fun y=>decide (y.n=x.n)));have L4:=Aj (Qn.qi (Bk.sets b) (fun l=>true&&!l.any fun y=>decide (y.n=x.n)));rw[hsl,←hn]at U1 L1 L2 L3 L4;have HN:=Aj (show n≤500 from om);have hst:=St.eq_iff x.v (⟨#[]⟩:ByteArray);clear hK hE hI hc hn2 hn hle hq hB0 hv hsl d0 d1 HL;unfold XF at FD⊢;by_cases hx:x.v=ByteArray.empty
 ·rw[Bi (show x.v=⟨#[]⟩from hx)]at hst;have hst:x.v.toList.isEmpty=true:=by simpa using hst
  have e2:=E2.1 hx;rw[←U3.1,←U2.1]at e2;rw[←e2,←U1.1];have hpk:Ls.pick (fun _ s=>!s) (Ls.upto n) (Qn.rg (Bk.sets b) fun l=>l.any fun y=>decide (y.n=x.n))=Qn.rg (Bk.sets b) fun l=>true&&!l.any fun y=>decide (y.n=x.n):=by rw[U1.1,U2.1]
  clear E1 E2 hx U3 U2 U1 e2 L3;generalize Qn.rg (Bk.sets b) (fun l=>l.any fun y=>decide (y=x))=R1 at*;generalize Qn.rg (Bk.sets b) (fun l=>l.any fun y=>decide (y.n=x.n))=R2 at*;go_enter func50,ntmps50;go_upto_region 1 with(fail)
  generalize w.alloc (Obj.cells #[.string x.n,.string x.v] 59)=w0 at*;go_region_held3 (fun w'=>w'.cell? ⟨p,0,none⟩=some (.pointer (some ⟨q,0,none⟩))∧w'.cell? ⟨q,0,none⟩=some (.slice A n c)∧w'.cell? ⟨q,1,none⟩=some (.slice A2 n2 c2)∧w'.cell? ⟨w.heap.size,0,none⟩=some (.string x.n)∧w'.cell? ⟨w.heap.size,1,none⟩=some (.string x.v)) (first|exact HX.1 _ (Ae _ _)|exact HX.1 _ (Ae _ _).drew|exact HX.1 _ C2.1)
   (first|(go_at_call 97;refine(FD.1 _ (by first|exact B0.1|exact B0.1.drew)).mono ?_;rintro e w2 ⟨A3,n3,c3,rfl,ho,hb⟩;have O2:=Aj ho;have C2:Kept (Below w0.heap.size w0 w2):=⟨by first|exact hb|exact(Ae _ _).drew.trans hb⟩;clear ho hb))
  go_upto_region 3 with fail;have hcx:=Aj (HX.1 _ C2.1);have B2:=Aj (B0.1.trans (C2.1.mono B0.1.size));have V2:=Aj (ax.rd O2.1);have hl3:Kept (n3≤n):=⟨by rw[O2.1.len];exact L1.1⟩
  have L5:Kept ((Ls.pick (fun _ s=>!s) (Ls.upto n) R2).length≤n):=⟨by rw[hpk];exact L4.1⟩
  clear hpk;go_region_held3 (fun w'=>w'.cell? ⟨p,0,none⟩=some (.pointer (some ⟨q,0,none⟩))∧w'.cell? ⟨q,0,none⟩=some (.slice A n c)∧w'.cell? ⟨q,1,none⟩=some (.slice A2 n2 c2)∧w'.cell? ⟨w.heap.size,0,none⟩=some (.string x.n)∧w'.cell? ⟨w.heap.size,1,none⟩=some (.string x.v)) (first|exact hcx.1|exact k9|exact HX.1 _ k8.1|exact HX.1 _ k8.1.drew|exact HX.1 _ (k8.1.alloc k8.1.size _)|exact HX.1 _ (k8.1.alloc k8.1.size _).drew)
   (first
    |(go_at_call 99;refine(NM.1 _ (by first|exact B2.1|exact B2.1.drew)).mono ?_;rintro e w5 ⟨A5,n5,c5,rfl,ho,hb⟩;have O5:=Aj (ax.rd ho);have hl5:Kept (n5≤n):=(by rw[show n5=R2.length from ho.len];exact L2);have k8:Kept (Below w0.heap.size w0 w5):=⟨by first|exact C2.1.trans (hb.mono C2.1.size)|exact C2.1.drew.trans (hb.mono C2.1.size)⟩;have k9:=HX.1 _ k8.1;have V5:Kept (bM w5 w5.heap.size A3 n3 c3 R1):=⟨by first|exact(V2.1.below hb).more hb.size|exact(V2.1.drew.below hb).more hb.size⟩;clear ho hb V2)
    |(go_at_call 48;refine(lC A5 n5 c5 w5.heap.size R2 (n:Int) _ (by first|exact O5.1|exact O5.1.drew) Ai (by have:=hl5.1;have:=HN.1;omega) (by have:=HN.1;omega) om).mono ?_;rintro e w6 ⟨A6,n6,c6,rfl,-,ho,hb⟩;rw[kg]at ho;have O6:=Aj (ax.rd ho);have k8:Kept (Below w0.heap.size w0 w6):=⟨by first|exact k8.1.trans (hb.mono k8.1.size)|exact k8.1.drew.trans (hb.mono k8.1.size)⟩;have k9:=HX.1 _ k8.1;have V6:Kept (bM w6 w6.heap.size A3 n3 c3 R1):=⟨by first|exact(V5.1.below hb).more hb.size|exact(V5.1.drew.below hb).more hb.size⟩;have T6:=Aj (iO.two V6.1 O6.1 Ai);clear ho hb V5 O5)
    |(go_at_call 98;refine(xD _ 2 2 (w6.heap.size+1) [R1,Ls.pick (fun _ s=>!s) (Ls.upto n) R2] _ T6.1 (by first|exact Nr _|(show _≤(World.alloc _ _).heap.size;simp)) (by simp only[Ls.tot,AA,List.map_nil,Bp,List.sum_nil];have:=L1.1;have:=L5.1;have:=HN.1;omega)).mono ?_;rintro e w7 ⟨A7,n7,c7,rfl,Ua,ho,hb⟩;have O7:=Aj ho;have N7:=Aj Ua;have k7:Kept (w0.heap.size≤w6.heap.size):=⟨k8.1.size⟩;have k8:Kept (Below w0.heap.size w0 w7):=⟨by first|exact(k8.1.alloc k8.1.size _).trans (hb.mono (by show _≤(World.alloc _ _).heap.size;simp;have:=k8.1.size;omega))|exact((k8.1.alloc k8.1.size _).drew).trans (hb.mono (by show _≤(World.alloc _ _).heap.size;simp;have:=k8.1.size;omega))⟩;have k9:=HX.1 _ k8.1;clear ho hb Ua))
  all_goals
   go_wp2;go_ret;exact⟨A7,n7,c7,rfl,by have h1:=N7.1;have h2:=L1.1;have h3:=L5.1;have h4:=HN.1;simp only[Ls.tot,AA,List.map_nil,Bp,List.sum_nil]at h1;omega,aC O7.1 (by have h1:=B0.1.size;have h2:=k7.1;show _≤(World.alloc _ _).heap.size;simp;omega),B0.1.trans (k8.1.mono B0.1.size)⟩
 ·rw[AF (show¬x.v=⟨#[]⟩from hx)]at hst;have hst:x.v.toList.isEmpty=false:=by simpa using hst
  have e1:=E1.1 hx;rw[e1]at FD;clear E1 E2 hx e1 U1 U2 U3 L1 L2 L4 NM;generalize hee:Qn.Xp (Bk.sets b) x=R1 at*;have L3:Kept (R1.length≤n):=⟨by rw[←hee];exact L3.1⟩
  go_enter func50,ntmps50;go_upto_region 1 with(fail)
  generalize w.alloc (Obj.cells #[.string x.n,.string x.v] 59)=w0 at*;go_region_held3 (fun w'=>w'.cell? ⟨p,0,none⟩=some (.pointer (some ⟨q,0,none⟩))∧w'.cell? ⟨q,0,none⟩=some (.slice A n c)∧w'.cell? ⟨q,1,none⟩=some (.slice A2 n2 c2)∧w'.cell? ⟨w.heap.size,0,none⟩=some (.string x.n)∧w'.cell? ⟨w.heap.size,1,none⟩=some (.string x.v)) (first|exact HX.1 _ (Ae _ _)|exact HX.1 _ (Ae _ _).drew|exact HX.1 _ C2.1)
   (first|(go_at_call 97;refine(FD.1 _ (by first|exact B0.1|exact B0.1.drew)).mono ?_;rintro e w2 ⟨A3,n3,c3,rfl,ho,hb⟩;have O2:=Aj ho;have C2:Kept (Below w0.heap.size w0 w2):=⟨by first|exact hb|exact(Ae _ _).drew.trans hb⟩;clear ho hb))
  obtain⟨x0,x1,x2,x3,x4⟩:=HX.1 _ C2.1;go_wp2;go_ret;have hl:=O2.1.len;exact⟨A3,n3,c3,rfl,by have h1:=L3.1;have h2:=HN.1;omega,aC O2.1 B0.1.size,B0.1.trans (C2.1.mono B0.1.size)⟩
end
section
open Go.RowKit Go.Shelf
abbrev Uj:=aO×Bool
def Kb (m:Uj):List Value:=[.string m.1.n,.string m.1.v,.bool m.2]
def gN (ms:List Uj):List Value:=ms.flatMap Kb
theorem Kc (ms):(gN ms).length=ms.length*3:=by
 unfold gN
 induction ms with
 |nil=>rfl
 |cons x ms ih=>rw[Au,La,ih,Lc];simp[Kb];omega
theorem Ke (a b):gN (a++b)=gN a++gN b:=by simp[gN]
theorem Kg (ms i) (h:i<ms.length):(gN ms)[i*3]? =some (.string ms[i].1.n)∧(gN ms)[i*3+1]? =some (.string ms[i].1.v)∧(gN ms)[i*3+2]? =some (.bool ms[i].2):=by
 unfold gN
 induction ms generalizing i with
 |nil=>simp at h
 |cons x ms ih=>
  rw[Au];cases i with
  |zero=>exact⟨rfl,rfl,rfl⟩
  |succ i=>
   have hl:(Kb x).length=3:=rfl;rw[Bl om,Bl om,Bl om];have:=ih i (by simpa using h);rw[hl,BR,show(i+1)*3-3=i*3 from om,show(i+1)*3+1-3=i*3+1 from om,show(i+1)*3+2-3=i*3+2 from om];exact this
def ng (w:World) (B:Nat) (A:Option Addr) (n c:Nat) (ms:List Uj):Prop:=Rd w B 3 A n c (gN ms)
section
variable {w w':World} {B n c:Nat} {A:Option Addr} {ms:List Uj}
theorem ng.len (h:ng w B A n c ms):n=ms.length:=by have:=h.2.2.1;rw[Kc]at this;omega
theorem ng.cap (h:ng w B A n c ms):n≤c∧c≤maxLen:=⟨h.1,h.2.1⟩
theorem ng.below (h:ng w B A n c ms) (hb:Below B w w'):ng w' B A n c ms:=Rd.below h hb
theorem ng.more {B'} (h:ng w B A n c ms) (hB:B≤B'):ng w B' A n c ms:=Rd.more h hB
theorem ng.cells {k} (h:ng w B A n c ms) (hB:B≤w.heap.size) (hk:k<ms.length):
  ∃b off,A=some ⟨b,off,none⟩∧∀W,Below w.heap.size w W→W.cell? ⟨b,off+k*3,none⟩=some (.string ms[k].1.n)∧W.cell? ⟨b,off+k*3+1,none⟩=some (.string ms[k].1.v)∧W.cell? ⟨b,off+k*3+2,none⟩=some (.bool ms[k].2):=by
 obtain⟨b,off,rfl,hb,hc⟩:=h.2.2.2 (by have:=h.len;omega);obtain⟨g0,g1,g2⟩:=Kg ms k hk;refine⟨b,off,rfl,fun W hW=>⟨?_,?_,?_⟩⟩
 ·exact(hW.cell (p:=⟨b,_,none⟩) (by show b<_;omega)).trans (hc (k*3) _ g0)
 ·exact(hW.cell (p:=⟨b,_,none⟩) (by show b<_;omega)).trans (by rw[fE];exact hc (k*3+1) _ g1)
 ·exact(hW.cell (p:=⟨b,_,none⟩) (by show b<_;omega)).trans (by rw[fE];exact hc (k*3+2) _ g2)
end
def vg (w:World) (base:Nat) (A:Option Addr) (n c:Nat) (ms:List Uj):Prop:=w.ownsRow base 61 3 (.slice A n c) n (gN ms)
theorem vg.rd {w base n c A ms} (h:vg w base A n c ms):ng w w.heap.size A n c ms:=Rd.bC h
theorem aaJ:(prog.info? 61).map (fun i=>(i.zero,i.size,i.bytes))=some (some (.agg #[.string ByteArray.empty,.string ByteArray.empty,.bool false]),3,40):=kr
theorem Rd.qm (w:World) (a b d t):Rd (w.alloc (.cells #[a,b,d] t)) (w.heap.size+1) 3 (some ⟨w.heap.size,0,none⟩) 1 1 [a,b,d]:=
 ⟨Nr _,by unfold maxLen;omega,rfl,fun _=>⟨_,0,rfl,om,fun i u hu=>by
  rw[bZ];exact(Ao w _ _ _ i).trans (by simpa using hu)⟩⟩
theorem zM {w ops rest o a Q m} (hgd:Region.wanted o (yielded ops a.tmps)=true) (p q)
  (ho:o.op= .call {callee:= .builtin .append,args:= #[p,q],argTypes:= #[53,53]})
  (base A n c ms) (hp:a.eval p= .slice A n c) (hown:vg w base A n c ms)
  (g) (hq:a.eval q= .slice (some ⟨g,0,none⟩) 1 1) (hgz:g=w.heap.size) (hlen:n≤1000000000) (hbase:base≤w.heap.size)
  (h:∀A2 c2 w',vg w' base A2 (n+1) c2 (ms++[m])→Below base w w'→wpList prog ops Q rest (a.put o.dst (.slice A2 (n+1) c2)) w'):
  wpList prog ops Q (o::rest) a (w.alloc (.cells #[.string m.1.n,.string m.1.v,.bool m.2] 61)):=by
 obtain⟨i0,hi0,hz0,hz1,hz2⟩:=AX aaJ;subst hgz;refine aY _ hgd p q _ ho base 61 i0 _ 3 40 underlying53 hi0 hz0 hz1 hz2 rfl Ah A n c _ hp (Oa hown _) _ _ 1 1 _ hq (Rd.qm w (.string m.1.n) (.string m.1.v) (.bool m.2) _) (by simp[Value.oneCell']) (by unfold maxLen;omega) om (by simp;omega) ?_;intro A2 c2 w' hown2 hg hat;refine h A2 c2 w' ?_ (((Ae _ w).alloc hbase _).grown hg (by simp;omega) (fun g e=>(ae hown g e).1));unfold vg;rw[Ke];exact hown2
theorem Qy.Xr (l) (ms:List Uj) (k) (hk:k<ms.length):Qy.ok l (ms.take (k+1))=(Qy.ok l (ms.take k)&&Qy.ok1 l ms[k]):=by
 rw[Ts hk];unfold Qy.ok;rw[List.all_append];simp
theorem Qy.Xt {l} {ms:List Uj} {k} (hk:k<ms.length) (h:Qy.ok1 l ms[k]=false):Qy.ok l ms=false:=by
 unfold Qy.ok;rw[Cx];intro h2;rw[Dr]at h2;rw[h2 _ (gP hk)]at h;cases h
theorem Ha (A A2 n c n2 c2 l ms w) (hv:fG w w.heap.size A n c l) (hm:ng w w.heap.size A2 n2 c2 ms):
  Calls prog 23 #[.slice A n c,.slice A2 n2 c2] w fun e w'=>e= .returned (.bool (Qy.ok l ms))∧Gr w w':=by
 have hcp:=hm.cap;have hlc:=hcp.1;have hcm:=hcp.2;unfold maxLen at hcm;have hn:=Aj hm.len;have V:=Aj hm;have GT:=Aj (fun(W:World) (x:ByteArray) (g:Gr w W)=>IL A n c l x W ((hv.below g.below).more g.below.size));clear hv hm hcp;go_enter func23,ntmps23;go_wp2;go_loopw [5] (fun i wr=>∃k:Nat,k≤n2∧i= .int .i64 k∧Kept (Qy.ok l (ms.take k)=true)∧Gr w wr) (fun i _=>n2-(intOf i).toNat)
 case atStart=>exact⟨0,om,rfl,⟨by simp[Qy.ok]⟩,Gr.refl w⟩
 case round=>
  obtain⟨k,hk,rfl,hd,gr⟩:=hrel;by_cases hlt:k<n2
  ·have hkl:k<ms.length:=by rw[←hn.1];exact hlt
   obtain⟨b,off,rfl,hc⟩:=V.1.cells Ai hkl;have HC:=Aj hc;have ht:=Aj (Qy.Xr l ms k hkl);have hmi:=Aj (Qy.Xt (l:=l) hkl);have h1:Kept (Qy.ok1 l ms[k]=(decide (((Lb.get l ms[k].1.n).getD ByteArray.empty)=ms[k].1.v) !=ms[k].2)):=⟨rfl⟩
   obtain⟨c0,c1,c2⟩:=hc wr gr.below;generalize ms[k]=m at*;obtain⟨⟨y,z⟩,d⟩:=m;simp only[]at HC h1 c0 c1 c2;have G:=Aj gr;clear gr c1 c2 hc;generalize hu:(Lb.get l y).getD ByteArray.empty=u at*;have hq:=St.eq_iff u z;by_cases hx:u=z
   ·rw[Bi hx]at hq h1;clear hx;cases d
    ·go_wp2_with (go_at_call 53;refine(GT.1 wr y G.1).mono ?_;rintro e w2 ⟨rfl,hg⟩;rw[hu];have G2:=Aj (G.1.trans hg);obtain⟨d0,d1,d2⟩:=HC.1 w2 G2.1.below;clear hg GT);go_quiet (fail);go_wp2;go_roundw
     case rel=>exact⟨k+1,om,by go_num,⟨by rw[ht.1,hd.1,h1.1];rfl⟩,G2.1.drewN _⟩
     case measure=>simp[intOf];omega
    ·go_wp2_with (go_at_call 53;refine(GT.1 wr y G.1).mono ?_;rintro e w2 ⟨rfl,hg⟩;rw[hu];have G2:=Aj (G.1.trans hg);obtain⟨d0,d1,d2⟩:=HC.1 w2 G2.1.below;clear hg GT);go_quiet (fail);go_wp2;go_ret;exact⟨by rw[hmi.1 (by rw[h1.1];rfl)];rfl,G2.1.drewN _⟩
   ·rw[AF hx]at hq h1;clear hx;cases d
    ·go_wp2_with (go_at_call 53;refine(GT.1 wr y G.1).mono ?_;rintro e w2 ⟨rfl,hg⟩;rw[hu];have G2:=Aj (G.1.trans hg);obtain⟨d0,d1,d2⟩:=HC.1 w2 G2.1.below;clear hg GT);go_quiet (fail);go_wp2;go_ret;exact⟨by rw[hmi.1 (by rw[h1.1];rfl)];rfl,G2.1.drewN _⟩
    ·go_wp2_with (go_at_call 53;refine(GT.1 wr y G.1).mono ?_;rintro e w2 ⟨rfl,hg⟩;rw[hu];have G2:=Aj (G.1.trans hg);obtain⟨d0,d1,d2⟩:=HC.1 w2 G2.1.below;clear hg GT);go_quiet (fail);go_wp2;go_roundw
     case rel=>exact⟨k+1,om,by go_num,⟨by rw[ht.1,hd.1,h1.1];rfl⟩,G2.1.drewN _⟩
     case measure=>simp[intOf];omega
  ·obtain rfl:k=n2:=by omega
   have ht:ms.take k=ms:=iL (by have:=hn.1;omega);go_wp2;go_ret;exact⟨by rw[←ht,hd.1];rfl,gr⟩
end
section
open Go.RowKit Go.Shelf
theorem qj.more {w B B' p b} (h:qj w B p b) (hB:B≤B'):qj w B' p b:=by
 obtain⟨q,A,n,c,A2,n2,c2,E,hp,hq,h1,h2,h3,h4,h5⟩:=h;exact⟨q,A,n,c,A2,n2,c2,E,om,om,h1,h2,h3.more hB,h4.more hB,h5⟩
theorem Ls.Xu (a b):Ls.tot [a,b]=a.length+b.length:=by simp[Ls.tot]
theorem Kh (p bs bo B n c A b) (m:Uj) (ms:List Uj) (w) (hv:qj w B p b) (hB:B≤w.heap.size) (hq:Ui b) (hs:Boxed w bs 32 (.pointer (some ⟨p,0,none⟩)))
  (ho:Boxed w bo 62 (.slice A n c)) (hr:bM w w.heap.size A n c (Qn.fl (Bk.sets b) ms)):
  Calls prog 49 #[.agg #[.string m.1.n,.string m.1.v,.bool m.2],.pointer (some ⟨bs,0,none⟩),.pointer (some ⟨bo,0,none⟩)] w fun e w'=>e= .returned (.tuple #[])∧
   ∃A3 n3 c3,Boxed w' bo 62 (.slice A3 n3 c3)∧ax w' w.heap.size A3 n3 c3 (Qn.fl (Bk.sets b) (ms++[m]))∧w.grownBy w' (some bo):=by
 obtain⟨⟨y,z⟩,d⟩:=m;have HQ:=Aj (fun(W:World) (h:Below w.heap.size w W)=>Ka p b ⟨y,z⟩ W (qj.more (hv.on hB h) (Lt hB h.size)) hq);have HR:=Aj hr;have HO:=Aj ho;have HS:=Aj hs;have hz1:=hs.lt;have hz2:=ho.lt;have hn:=Aj (show n≤500 by have h1:=hr.len;have h2:=Qn.qi (Bk.sets b) (fun l=>Qy.ok l ms);have h3:(Bk.sets b).length=b.length:=(by unfold Bk.sets;simp);have h4:=hq.len;unfold Qn.fl at h1;omega);have e1:=Qn.J9 (Bk.sets b) ms ⟨y,z⟩;have e2:=Qn.O0 (Bk.sets b) ms ⟨y,z⟩;have hl1:=Aj (Qn.qi (Bk.sets b));generalize hx:Qn.fl (Bk.sets b) ms=L at*;generalize hy:Qn.Xp (Bk.sets b) ⟨y,z⟩=L2 at*;have hal:Below w.heap.size w (w.alloc (Obj.cells #[.string y,.string z,.bool d] 61)):=(Ae _ _).alloc Ai _;have B0:=Aj hal;have X0:(w.alloc (Obj.cells #[.string y,.string z,.bool d] 61)).heap[w.heap.size]? =some (Obj.cells #[.string y,.string z,.bool d] 61 (0,0)):=Av w _;have hzx:w.heap.size< (w.alloc (Obj.cells #[.string y,.string z,.bool d] 61)).heap.size:=sm;have q1:=(hs.alloc (Obj.cells #[.string y,.string z,.bool d] 61)).cell;clear hal hv hs ho hr;have EQ:Kept (Calls prog 50 #[.pointer (some ⟨p,0,none⟩),.agg #[.string y,.string z]] (w.alloc (Obj.cells #[.string y,.string z,.bool d] 61)) fun e w2=>∃A2 n2 c2,e= .returned (.slice A2 n2 c2)∧n2≤2000∧ax w2 w.heap.size A2 n2 c2 L2∧Below w.heap.size w w2∧w2.cell? ⟨w.heap.size,2,none⟩=some (.bool d)):=⟨by
  refine(HQ.1 _ B0.1).mono ?_;rintro e w2 ⟨A2,n2,c2,rfl,h2,ho2,hb2⟩;exact⟨A2,n2,c2,rfl,h2,aC ho2 B0.1.size,B0.1.trans (hb2.mono B0.1.size),Co _ _ 2 _ _ _ ((hb2.block _ hzx).trans X0)⟩⟩
 clear HQ X0 hzx B0;cases d
 ·rw[←e2];clear e1 e2 hl1;go_enter func49,ntmps49;go_wp2_with (first
   |(go_at_call 52;refine(wJ _ _ _ _ [L,L2] _ R2.1 sm (by rw[Ls.Xu];have h1:=HR.1.len;have h2:=O2.1.len;have h3:=hn.1;have h4:=N2.1;omega)).mono ?_;rintro e w3 ⟨A3,n3,c3,rfl,-,ho3,hb3⟩;have O3:=Aj ho3;have B3:=Aj ((B2.1.alloc B2.1.size _).trans (hb3.mono (by have:=B2.1.size;simp;omega)));have Bo3:=(B3.1.block bo hz2).trans HO.1;have q3:=Boxed.cell Bo3;have q4:=Boxed.frozen Bo3;clear ho3 hb3)
   |(go_at_call 50;refine EQ.1.mono ?_;rintro e w2 ⟨A2,n2,c2,rfl,h2,ho2,hb2,z2⟩;have O2:=Aj ho2;have N2:=Aj h2;have B2:=Aj hb2;have R2:=Aj (iO.two ((HR.1.below hb2).more hb2.size) ho2.rd Ai);have q2:=Boxed.cell ((hb2.block bo hz2).trans HO.1);clear h2 ho2 hb2 EQ))
  go_end0;have hg:=DC w3 bo (.slice A3 n3 c3);exact⟨rfl,A3,n3,c3,Boxed.set _ Bo3,ax.past (aC O3.1 (by have:=B2.1.size;simp;omega)) hg hz2,(aB B3.1).trans hg⟩
 ·rw[←e1];clear e1 e2 hl1;go_enter func49,ntmps49;go_wp2_with (first
   |(go_at_call 51;refine(lu _ _ _ _ _ _ L L2 w2 w2.heap.size R2.1 O2.1.rd Ai (by have h3:=hn.1;have h4:=N2.1;omega)).mono ?_;rintro e w3 ⟨A3,n3,c3,rfl,-,ho3,hb3⟩;have O3:=Aj ho3;have B3:=Aj (B2.1.trans (hb3.mono B2.1.size));have Bo3:=(B3.1.block bo hz2).trans HO.1;have q3:=Boxed.cell Bo3;have q4:=Boxed.frozen Bo3;clear ho3 hb3)
   |(go_at_call 50;refine EQ.1.mono ?_;rintro e w2 ⟨A2,n2,c2,rfl,h2,ho2,hb2,z2⟩;have O2:=Aj ho2;have N2:=Aj h2;have B2:=Aj hb2;have R2:=Aj ((HR.1.below hb2).more hb2.size);have q2:=Boxed.cell ((hb2.block bo hz2).trans HO.1);clear h2 ho2 hb2 EQ))
  go_end0;have hg:=DC w3 bo (.slice A3 n3 c3);exact⟨rfl,A3,n3,c3,Boxed.set _ Bo3,ax.past (aC O3.1 B2.1.size) hg hz2,(aB B3.1).trans hg⟩
theorem Hu (p n c A b ms w) (hv:qj w w.heap.size p b) (hm:ng w w.heap.size A n c ms) (hq:Ui b):
  Calls prog 22 #[.pointer (some ⟨p,0,none⟩),.slice A n c] w fun e w'=>∃A3 n3 c3,e= .returned (.slice A3 n3 c3)∧ax w' w.heap.size A3 n3 c3 (Qn.fl (Bk.sets b) ms)∧Below w.heap.size w w':=by
 obtain⟨q,A1,n1,c1,A2,n2,c2,E,hn,-,-,-,hc⟩:=hv.open_ Ai;have hle:=hq.len;have hsl:(Bk.sets b).length=b.length:=by unfold Bk.sets;simp
 have hcp:=hm.cap;unfold maxLen at hcp;obtain⟨hcp1,hcp2⟩:=hcp;have HM:=Aj hm;have HN:=Aj hm.len;have SV:=Aj hv;have HQ:=Aj hq;have hB0:Below w.heap.size w (w.alloc (Obj.cells #[.pointer (some ⟨p,0,none⟩)] 32)):=(Ae _ _).alloc Ai _;have B0:=Aj hB0;have bS:=Aj (Bb w 32 (.pointer (some ⟨p,0,none⟩)));obtain⟨z0,z1,-⟩:=hc _ hB0;have CP:Kept (∀W,Calls prog 48 #[.slice none 0 0,.int .i64 (n1:Int)] W fun e w'=>∃A3 n3 c3,e= .returned (.slice A3 n3 c3)∧ax w' W.heap.size A3 n3 c3 (Qn.fl (Bk.sets b) [])∧Below W.heap.size W w'):=⟨fun W=>by
  refine(lC none 0 0 W.heap.size [] (n1:Int) W (bM.zero W _ none rfl (by unfold maxLen;omega)) Ai om om om).mono ?_;rintro e w' ⟨A3,n3,c3,rfl,-,ho,hb⟩;refine⟨A3,n3,c3,rfl,?_,hb⟩;rw[kg,hn,←hsl,Qn.aaG,←Qn.aaI]at ho;exact ho⟩
 clear hc hv hm hq hB0 hn hle hsl;go_enter func22,ntmps22;go_upto_region 6 with(go_at_call 48;refine(CP.1 _).mono ?_;rintro e w2 ⟨A3,n3,c3,rfl,ho,hb⟩;have O2:=Aj ho;have C2:=Aj (B0.1.trans (hb.mono B0.1.size));have S2:=Aj ((hb.block w.heap.size sm).trans bS.1);clear ho hb CP)
 have bO:=Bb w2 62 (.slice A3 n3 c3);have bS2:=Boxed.alloc (show Boxed w2 w.heap.size 32 (.pointer (some ⟨p,0,none⟩))from S2.1) (.cells #[.slice A3 n3 c3] 62);have O3:Kept (ax (w2.alloc (.cells #[.slice A3 n3 c3] 62)) w.heap.size A3 n3 c3 (Qn.fl (Bk.sets b) [])):=⟨aC (Oa O2.1 _) B0.1.size⟩
 have C3:=Aj (C2.1.alloc C2.1.size (.cells #[.slice A3 n3 c3] 62));have hzo:w.heap.size<w2.heap.size:=bS2.lt|>fun h=>by have:=C2.1.size;have h2:=(Ge.1 S2.1).1;exact h2
 generalize hbo:w2.heap.size=bo at*;have HBO:=Aj hbo;clear hbo;clear C2 O2 S2;go_loopw [23] (fun i wr=>∃k:Nat,k≤n∧i= .int .i64 k∧∃A3 n3 c3,Boxed wr bo 62 (.slice A3 n3 c3)∧Boxed wr w.heap.size 32 (.pointer (some ⟨p,0,none⟩))∧Kept (ax wr w.heap.size A3 n3 c3 (Qn.fl (Bk.sets b) (ms.take k)))∧Below w.heap.size w wr) (fun i _=>n-(intOf i).toNat)
 case atStart=>exact⟨0,bE _,rfl,A3,n3,c3,bO,bS2,O3,C3.1⟩
 case round=>
  obtain⟨k,hk,rfl,A4,n4,c4,hbo,hbs,ho,hb⟩:=hrel;by_cases hlt:k<n
  ·have hkl:k<ms.length:=by rw[←HN.1];exact hlt
   obtain⟨b2,qU,rfl,hc⟩:=HM.1.cells Ai hkl;obtain⟨c0,c1',c2'⟩:=hc wr hb;have HT:=Aj (Ts hkl);generalize ms[k]=m at*;have hal:=hb.alloc hb.size (.cells #[.string m.1.n,.string m.1.v,.bool m.2] 61);have NA:=Aj (Kh p w.heap.size bo w.heap.size n4 c4 A4 b m (ms.take k) (wr.alloc (.cells #[.string m.1.n,.string m.1.v,.bool m.2] 61)) (SV.1.on Ai hal) hal.size HQ.1 (hbs.alloc _) (hbo.alloc _) (ax.rd (Oa ho.1 _)));have ZY:=Aj hal;have ahd:=Aj (hbs.alloc (.cells #[.string m.1.n,.string m.1.v,.bool m.2] 61));clear hc hb hal ho hbs hbo;go_wp2_with (go_at_call 49;refine NA.1.mono ?_;rintro e w5 ⟨rfl,A5,n5,c5,adK,PR,hg5⟩;have BO5:=Aj adK;have O5:=Aj PR;have G5:=Aj hg5;clear adK PR hg5 NA);go_roundw
   case rel=>exact⟨k+1,om,by go_num,A5,n5,c5,BO5.1,ahd.1.kept G5.1 (fun e=>by have:=Oj e;omega),⟨by rw[HT.1];exact aC O5.1 ZY.1.size⟩,ZY.1.grown G5.1 ZY.1.size (fun r e=>by cases e;omega)⟩
   case measure=>simp[intOf];omega
  ·obtain rfl:k=n:=by omega
   have ht:ms.take k=ms:=iL (by have:=HN.1;omega);rw[ht]at ho;have q1:=hbo.cell;have B:=Aj hb;clear hb hbs;go_wp2;go_ret;exact⟨A4,n4,c4,rfl,ho.1,B.1⟩
end
section
open Go.RowKit Go.Shelf
theorem Pb (A n c l x w) (hv:bM w w.heap.size A n c l) (hx:x∈l):
  Calls prog 54 #[.slice A n c,.int .i64 x] w fun r w'=>∃v:Int,r= .returned (.int .i64 v)∧0≤v∧Below w.heap.size w w':=by
 have hcm:=hv.2.1;have hlc:=hv.1;unfold maxLen at hcm;have HN:=Aj hv.len;have V:=Aj hv;obtain⟨t,ht,he⟩:=jK.1 hx;have HT:=Aj ht;have HE:Kept (∀h:t<l.length,l[t]=x):=⟨fun _=>he⟩
 clear hv hx he ht;go_enter func54,ntmps54;go_wp2;go_loopw [8] (fun i wr=>∃k:Nat,k≤n∧i= .int .i64 k∧Kept (k≤t)∧Below w.heap.size w wr) (fun i _=>n-(intOf i).toNat)
 case atStart=>exact⟨0,om,rfl,⟨om⟩,Ae _ _⟩
 case round=>
  obtain⟨k,hk,rfl,hd,hb⟩:=hrel;have B:=Aj hb;by_cases hlt:k<n
  ·have hkl:k<l.length:=by rw[←HN.1];exact hlt
   obtain⟨b,off,rfl,jT,hc⟩:=V.1.at_ hkl;have c0:=(hb.cell (p:=⟨b,off+k,none⟩) (by show b<_;exact jT)).trans hc;have hnx:Kept (¬x=l[k]→k+1≤t):=⟨fun h=>by
    have h1:=hd.1;rcases DT k t with h2|h2
    ·exact h2
    ·obtain rfl:k=t:=by omega
     exact absurd (HE.1 HT.1).symm h⟩
   clear hc hd hb;generalize l[k]=y at*;by_cases hxy:x=y
   ·clear hnx;go_wp2;go_ret;exact⟨(k:Int),rfl,om,B.1⟩
   ·have ha:=Aj (hnx.1 hxy);clear hnx;go_wp2;go_roundw
    case rel=>exact⟨k+1,om,by go_num,ha,B.1⟩
    case measure=>simp[intOf];omega
  ·exfalso;have h1:=HT.1;have h2:=HN.1;have h3:=hd.1;omega
theorem zN (A n c l x w) (hv:bM w w.heap.size A n c l) (hx:x∈l):
  Calls prog 24 #[.slice A n c,.int .i64 x] w fun r w'=>r= .returned (.bool true)∧Below w.heap.size w w':=by
 have IX:=Aj (Pb A n c l x w hv hx);clear hv hx;go_enter func24,ntmps24;go_wp2_with (go_at_call 54;refine IX.1.mono ?_;rintro r w2 ⟨v,rfl,hv,hb⟩;have B2:=Aj hb;clear hb IX);go_ret;exact⟨rfl,B2.1⟩
end
section
open Go.RowKit Go.Shelf
theorem Xv (k n:Nat) (h1:k<256) (h2:0<n):∃i:Nat,i<n∧((n:Int)==0)=false∧IntKind.i64.wrap (k:Int)=(k:Int)∧(k:Int).tmod (n:Int)=(i:Int)∧¬(n:Int)=0∧(k:Int)% (n:Int)=(i:Int):=by
 refine⟨k%n,Nat.mod_lt _ h2,by simp;omega,by rw[Bo];omega,?_,om,sm⟩;rw[Int.tmod_eq_emod_of_nonneg om];simp
theorem Bk.zf.qry {b} (h:Bk.zf b) (hc:Bk.df b=0):Ui b:=⟨Bk.jD hc (by have:=h.wt;omega),h.wt⟩
def asks (l:List aO):List Uj:=l.map fun x=>(x,false)
theorem Pd (l:List aO) (t) (h:t<l.length):asks (l.take (t+1))=asks (l.take t)++[(l[t],false)]:=by
 unfold asks;rw[Ts h,dW]
 rfl
theorem Bk.Hw (b i) (h:i<b.length):(Bk.sets b).getD i []=b[i].1:=by
 unfold Bk.sets;rw[jw,BQ,kK h]
 rfl
theorem Ps.aaL {M m} (h:m∈M):m.length≤Ps.wt M:=by
 unfold Ps.wt
 induction M with
 |nil=>cases h
 |cons x M ih=>
  rw[AA,Bp];rcases dV.1 h with rfl|h
  ·omega
  ·have:=ih h;omega
theorem Xw (A n c b) (k:Nat) (w) (hv:iC w w.heap.size A n c b) (hfi:∀s∈b,Lb.Fit s.1∧Cs.In s.2) (h1:k<256) (hG:Gl w):
  Calls prog 5 #[.slice A n c,.int .u8 (k:Int)] w fun e w'=>e= .returned (.bool true)∧Below w.heap.size w w':=by
 have HG:=Aj hG;have HV:=Aj hv;have HIN:=Aj (fun s hs=>(hfi s hs).2);have ST:=Aj (fun(W:World) (h:Below w.heap.size w W)=>J8 W (hG.below h));have BL:=Aj (OY A n c w.heap.size b w hv Ai (fun s hs=>(hfi s hs).1));have hn:=Aj hv.len;have hcp:=hv.cap;unfold maxLen at hcp;obtain⟨hcp1,hcp2⟩:=hcp;clear hG hfi;rcases l5 n with h0|h0
 ·subst h0;clear hv;go_enter func5,ntmps5;go_wp2_with (first
   |(go_at_call 8;refine(ST.1 w1 B1.1).mono ?_;rintro e w9 ⟨rfl,hb⟩;have B9:=Aj (B1.1.trans (hb.mono B1.1.size));clear hb)
   |(go_at_call 19;refine BL.1.mono ?_;rintro e w1 ⟨v,rfl,hv,hb⟩;have B1:=Aj hb;clear hb hv BL;cases v))
  all_goals go_ret
  all_goals exact⟨rfl,B9.1⟩
 ·obtain⟨i,hi,g1,g2,g3,g4,g5⟩:=Xv k n h1 h0;have hib:i<b.length:=by rw[←hn.1];exact hi
  obtain⟨b0,off,A1,n1,c1,A2,n2,c2,rfl,hl,-,hc⟩:=hv.cells Ai hib;have C0:=Aj (fun W h=>(hc W h).1);have RL:=Aj hl;have hln:=Aj hl.len;have hlc:=hl.1;have hlm:=hl.2.1;unfold maxLen at hlm;have own:=Aj (fun(hq:Ui b)=>(Qn.ve (M:=Bk.sets b) (q:=fun l=>Qy.ok l (asks b[i].1)) (i:=i) (by unfold Bk.sets;simpa using hib)).2 (by
   rw[Bk.Hw b i hib];exact Qy.own (Qn.TZ hq.set _ (bQ.2 ⟨b[i],gP hib,rfl⟩))))
  have L5:Kept (Ui b→b[i].1.length≤500):=⟨fun h=>Lt (Ps.aaL (bQ.2 ⟨b[i],gP hib,rfl⟩)) h.wt⟩
  clear hv hc hl;generalize b[i].1=l at*;clear hib;go_enter func5,ntmps5;go_upto_region 6 with(go_at_call 19;refine BL.1.mono ?_;rintro e w1 ⟨v,rfl,hv,hb⟩;have B1:=Aj hb;have HB:=Aj hv;have c0:=C0.1 w1 hb;clear hb hv BL;cases v;(focus (go_wp2_with (go_at_call 8;refine(ST.1 w1 B1.1).mono ?_;rintro e w9 ⟨rfl,hb⟩;have B9:=Aj (B1.1.trans (hb.mono B1.1.size));clear hb);go_ret;exact⟨rfl,B9.1⟩)))
  obtain⟨hS,hck⟩:=HB.1 trivial;have HS:=Aj hS;have HCK:=Aj hck;have HQ:=Aj (hS.qry hck);have own:=Aj (own.1 HQ.1);have amx:n1≤500:=by have h1:=hln.1;have h2:=L5.1 HQ.1;omega
  clear hS hck HB c0;go_loopw [36,6] (fun j m wr=>∃t:Nat,t≤n1∧j= .int .i64 t∧∃A2 c2,m= .slice A2 t c2∧Kept (vg wr w1.heap.size A2 t c2 (asks (l.take t)))∧Below w1.heap.size w1 wr) (fun j _ _=>n1-(intOf j).toNat)
  case atStart=>exact⟨0,bE _,rfl,none,0,rfl,⟨AV _ _ _ _⟩,Ae _ _⟩
  case round=>
   obtain⟨t,ht,rfl,A2,c2,rfl,ho,hb⟩:=hrel;have BW:=Aj hb;have hz:=hb.size;by_cases hlt:t<n1
   ·have htl:t<l.length:=by rw[←hln.1];exact hlt
    obtain⟨b2,qU,rfl,hc⟩:=RL.1.cells Ai htl;obtain⟨c0,c1'⟩:=hc wr (B1.1.trans (hb.mono B1.1.size));have hT:=Aj (Pd l t htl);clear hc hb;generalize l[t]=x at*;have O1:=Aj (Oa ho.1 (.cells #[.string x.n,.string x.v] 59));go_wp2_with (at_builtin;refine zM (m:=(x,false)) rfl (.tmp 40) (.tmp 46) rfl w1.heap.size A2 t c2 _ rfl O1.1 (wr.heap.size+1) rfl sm om (by simp;omega) ?_;intro A4 c4 w5 EE hb4;have O4:=Aj EE;have B4:=Aj ((BW.1.alloc hz _).trans hb4);clear EE hb4);go_roundw
    case rel=>exact⟨t+1,om,by go_num,A4,c4,rfl,⟨by rw[hT.1];exact O4.1⟩,B4.1⟩
    case measure=>simp[intOf];omega
   ·obtain rfl:t=n1:=by omega
    have hall:Kept (l.take t=l):=⟨iL (by have:=hln.1;omega)⟩
    rw[hall.1]at ho;clear hb;have BWr:=Aj (B1.1.trans (BW.1.mono B1.1.size));have M0:=Aj (vg.rd ho.1);have EN:=Aj (Mt (some ⟨b0,off,none⟩) n c b wr ((HV.1.below BWr.1).more BWr.1.size) (HS.1.ok HCK.1 HIN.1) (HG.1.below BWr.1));clear ho;go_upto_region 16 with(first
     |(go_at_call 22;refine NU.1.mono ?_;rintro e w4 ⟨A8,n8,c8,rfl,ho,hb⟩;have O8:=Aj (ax.rd ho);have B4:=Aj (B3.1.trans (hb.mono B3.1.size));have M4:=Aj ((M3.1.below hb).more hb.size);clear ho hb NU M3)
     |(go_at_call 11;refine OE.1.mono ?_;rintro e w3 ⟨hb,h5⟩;obtain⟨-,p,q,A6,n6,c6,A7,n7,c7,E,rfl,hp,hq,hK,hE,hI⟩:=h5.resolve_left (fun h=>h.1 rfl);have SP:qj w3 w3.heap.size p b:=⟨q,A6,n6,c6,A7,n7,c7,E,(Ge.1 hp).1,(Ge.1 hq).1,hp,hq,hK,hE,hI⟩;have B3:=Aj (B2.1.trans (hb.mono B2.1.size));have M3:=Aj ((M2.1.below hb).more hb.size);have NU:=Aj (Hu p t c2 A2 b (asks l) w3 SP M3.1 HQ.1);clear hb h5 hp hq hK hE hI SP OE M2)
     |(go_at_call 16;refine EN.1.mono ?_;rintro e w2 ⟨A5,n5,c5,L,rfl,hf,ho,hb⟩;obtain⟨s1,s2,s3⟩:=HS.1.short HCK.1 HIN.1 hf;have hl:=ho.len;have B2:=Aj (BWr.1.trans (hb.mono BWr.1.size));have OE:=Aj (TT A5 n5 c5 L w2 ho.rd om s1 (fun _=>by rw[s3];exact HQ.1.set) (HG.1.below B2.1));rw[s3]at OE;have M2:=Aj ((M0.1.below hb).more hb.size);clear hf ho hb s1 s2 s3 hl EN M0))
    have hn8:=Aj O8.1.len;have amz:=O8.1.1;have ahe:=O8.1.2.1;unfold maxLen at ahe;clear BWr BW;go_loopw [70] (fun j wx=>∃s:Nat,s≤n8∧j= .int .i64 s∧Below w4.heap.size w4 wx) (fun j _=>n8-(intOf j).toNat)
    case atStart=>exact⟨0,bE _,rfl,Ae _ _⟩
    case round=>
     obtain⟨s,hs,rfl,hb⟩:=hrel;have BX:=Aj (B4.1.trans (hb.mono B4.1.size));by_cases hls:s<n8
     ·have hsl:s< (Qn.fl (Bk.sets b) (asks l)).length:=by rw[←hn8.1];exact hls
      obtain⟨j,hj,hok,hjs⟩:=(Qn.gM _ _ _).1 (show(Qn.fl (Bk.sets b) (asks l))[s]∈_ from gP hsl);obtain⟨b3,ahf,rfl,hb3,hc3⟩:=O8.1.at_ hsl;have c3:=(hb.cell (p:=⟨b3,ahf+s,none⟩) (by show b3<_;exact hb3)).trans hc3;rw[←hjs]at c3;have hjb:j<b.length:=by unfold Bk.sets at hj;simpa using hj
      rw[Bk.Hw b j hjb]at hok;obtain⟨b4,Ve,A9,n9,c9,A10,n10,c10,e,hl9,-,hc4⟩:=HV.1.cells Ai hjb;cases e;have c4:=(hc4 _ BX.1).1;have MT:=Aj (Ha A9 A2 n9 c9 t c2 b[j].1 (asks l) _ ((hl9.below BX.1).more BX.1.size) ((M4.1.below hb).more hb.size));rw[hok]at MT;have hjn:j<n:=by rw[hn.1];exact hjb
      have hB:=Aj hb;clear hc4 hl9 hok hj hjs hc3 hsl hb hjb;go_wp2_with (go_at_call 23;refine MT.1.mono ?_;rintro e w5 ⟨rfl,hg⟩;have B5:=Aj (hB.1.trans (hg.below.mono hB.1.size));clear hg MT);go_roundw
      case rel=>exact⟨s+1,om,by go_num,B5.1⟩
      case measure=>simp[intOf];omega
     ·have CI:=Aj (fun(W:World) (h:Below w4.heap.size w4 W)=>zN A8 n8 c8 _ (i:Int) W ((O8.1.below h).more h.size) own.1);have hB:=Aj hb;clear hb;go_wp2_with (first
       |(go_at_call 24;refine(CI.1 w9 C9.1).mono ?_;rintro e PX ⟨rfl,hb⟩;have B10:=Aj (B9.1.trans (hb.mono B9.1.size));clear hb CI)
       |(go_at_call 8;refine(ST.1 _ BX.1).mono ?_;rintro e w9 ⟨rfl,hb⟩;have B9:=Aj (BX.1.trans (hb.mono BX.1.size));have C9:=Aj (hB.1.trans (hb.mono hB.1.size));clear hb ST))
      go_ret;exact⟨rfl,B10.1⟩
end
end Go.Proofs.YtjcpmfphnodaaaaGreatDoor
