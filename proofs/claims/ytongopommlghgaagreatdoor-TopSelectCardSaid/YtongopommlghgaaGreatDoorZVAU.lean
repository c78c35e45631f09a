/- Part 21. -/
import Derived.Test.YtongopommlghgaaGreatDoorZVAT
import Derived.Laws.CopyOwn
import Derived.Deep.DeepHandedRow
namespace Go.Proofs.YtongopommlghgaaGreatDoor
set_option maxRecDepth 100000
set_option maxHeartbeats 0
theorem Et:type_of% @Go.Deep.add_add:= @Go.Deep.add_add
open _root_.Go.Proofs.Tryz
namespace Qn
open Lb
def rg (M:List (List aQ)) (q:List aQ→Bool):List Int:=((List.range M.length).filter fun i=>q (M.getD i [])).map fun i:Nat=>(i:Int)
theorem qz (M q):Ls.S (rg M q):=by
 unfold rg;exact List.Pairwise.map _ (fun a b (h:a<b)=>om) ((List.pairwise_lt_range).filter _)
theorem iL (M q y):y∈rg M q↔∃i,i<M.length∧q (M.getD i [])=true∧(i:Int)=y:=by
 unfold rg;simp only[bY,BP,List.mem_range,and_assoc]
theorem qA (M q):(rg M q).length≤M.length:=by
 unfold rg;rw[fM];exact Lt (Dm _ _) sm
theorem xZ {M:List (List aQ)} {q i} (h:i<M.length):(i:Int)∈rg M q↔q (M.getD i [])=true:=by
 rw[iL];constructor
 ·rintro⟨j,_,h2,h3⟩;obtain rfl:j=i:=om;exact h2
 ·exact fun h2=>⟨i,h,h2,rfl⟩
theorem oL {M q r} (h:∀l∈M,q l=r l):rg M q=rg M r:=by
 refine Ls.ext (qz M q) (qz M r) fun y=>?_
 rw[iL,iL];have e:∀i,i<M.length→q (M.getD i [])=r (M.getD i []):=fun i hi=>h _ (by
  rw[fZ,ja hi,Dq];exact gG hi)
 constructor
 ·rintro⟨i,h1,h2,h3⟩;exact⟨i,h1,by rw[←e i h1];exact h2,h3⟩
 ·rintro⟨i,h1,h2,h3⟩;exact⟨i,h1,by rw[e i h1];exact h2,h3⟩
theorem UT (M q r):Ls.pick (fun _ s=>!s) (rg M q) (rg M r)=rg M fun l=>q l&&!r l:=by
 rw[Ls.Mh (qz M q) (qz M r)];refine Ls.ext (Ls.YP _ (qz M q)) (qz M _) fun y=>?_
 rw[Ls.Mg,iL M q,iL M fun l=>q l&&!r l];constructor
 ·rintro⟨⟨i,h1,h2,rfl⟩,h3⟩;rw[xZ h1,Bool.not_eq_true]at h3;exact⟨i,h1,by show(q _&&!r _)=true;rw[h2,h3];rfl,rfl⟩
 ·rintro⟨i,h1,h2,rfl⟩;have h2:(q (M.getD i [])&&!r (M.getD i []))=true:=h2;rw[CW,Bool.not_eq_true']at h2;exact⟨⟨i,h1,h2.1,rfl⟩,by rw[xZ h1,h2.2];simp⟩
theorem abx (M q r):Ls.Uj [rg M q,rg M r]=rg M fun l=>q l&&r l:=by
 have h:=Ls.Sa (out:=rg M q) (r:=[rg M r]) (qz M q) (by intro l hl;rw[gJ.1 hl];exact qz M r);show Ls.wH (rg M q) [rg M r]=_;refine Ls.ext h.1 (qz M _) fun y=>?_
 rw[h.2,iL M q,iL M fun l=>q l&&r l];constructor
 ·rintro⟨⟨i,h1,h2,rfl⟩,h3⟩;have h3:=(xZ h1).1 (h3 (rg M r) sm);exact⟨i,h1,by show(q _&&r _)=true;rw[h2,h3];rfl,rfl⟩
 ·rintro⟨i,h1,h2,rfl⟩;have h2:(q (M.getD i [])&&r (M.getD i []))=true:=h2;rw[CW]at h2;exact⟨⟨i,h1,h2.1,rfl⟩,fun m hm=>by rw[gJ.1 hm];exact(xZ h1).2 h2.2⟩
theorem aby (M q r):Ls.mo [] [rg M q,rg M r]=rg M fun l=>q l||r l:=by
 have h:=Ls.Gd (out:=[]) (r:=[rg M q,rg M r]) List.Pairwise.nil (by
  intro l hl;rcases eH.1 hl with rfl|hl
  ·exact qz M q
  ·rw[gJ.1 hl];exact qz M r)
 refine Ls.ext h.1 (qz M _) fun y=>?_
 rw[h.2,iL M fun l=>q l||r l];constructor
 ·rintro(h|⟨m,hm,h⟩)
  ·cases h
  ·rcases eH.1 hm with rfl|hm
   ·obtain⟨i,h1,h2,rfl⟩:=(iL M q y).1 h;exact⟨i,h1,by show(q _||r _)=true;rw[h2];rfl,rfl⟩
   ·rw[gJ.1 hm]at h;obtain⟨i,h1,h2,rfl⟩:=(iL M r y).1 h;exact⟨i,h1,by show(q _||r _)=true;rw[h2,Bool.or_true],rfl⟩
 ·rintro⟨i,h1,h2,rfl⟩;have h2:(q (M.getD i [])||r (M.getD i []))=true:=h2;rw[Bool.or_eq_true]at h2;rcases h2 with h2|h2
  ·exact .inr ⟨rg M q,sm,(xZ h1).2 h2⟩
  ·exact .inr ⟨rg M r,sm,(xZ h1).2 h2⟩
theorem Np (M):Ls.upto M.length=rg M fun _=>true:=by
 unfold Ls.upto rg;rw[List.filter_eq_self.2 fun _ _=>rfl]
theorem abz (M):Ls.pick (fun _ s=>!s) (Ls.upto M.length) []=rg M fun _=>true:=by
 rw[Ls.Mh (Ls.aac _) List.Pairwise.nil,Np];simp[Ls.dif,Ls.has]
theorem l7:∀(M) (k) (x) (y),(x,y)∈Ps.fu M k↔∃i,i<M.length∧x∈M.getD i []∧((k+i:Nat):Int)=y
 |[],k,x,y=>by simp[Ps.fu]
 |m::M,k,x,y=>by
  rw[Ps.fu,je,l7 M (k+1) x y];constructor
  ·rintro(h|⟨i,h1,h2,h3⟩)
   ·obtain⟨z,hz,e⟩:=bY.1 h;rw[az]at e;obtain⟨rfl,rfl⟩:=e;exact⟨0,sm,by simpa using hz,sm⟩
   ·exact⟨i+1,by rw[Lc];omega,by simpa using h2,by rw[←h3];congr 1;omega⟩
  ·rintro⟨i,h1,h2,h3⟩;cases i with
   |zero=>exact .inl (bY.2 ⟨x,by simpa using h2,by rw[←h3];simp⟩)
   |succ i=>exact .inr ⟨i,by rw[Lc]at h1;omega,by simpa using h2,by rw[←h3];congr 1;omega⟩
theorem Nq (x P y):y∈Ps.fq x P↔(x,y)∈P:=by
 unfold Ps.fq;rw[bY];constructor
 ·rintro⟨⟨a,b⟩,h1,rfl⟩;rw[BP]at h1;have h2:a=x:=by simpa using h1.2
  rw[←h2];exact h1.1
 ·intro h;exact⟨(x,y),BP.2 ⟨h,sm⟩,rfl⟩
theorem UU {M E} (hs:Ps.Sets M) (h:Ps.rD (Ps.fu M 0) E) (p):Ls.mo [] ((E.filter fun e=>p e.1).map (·.2))=rg M fun l=>l.any p:=by
 have hS:∀s∈(E.filter fun e=>p e.1).map (·.2),Ls.S s:=fun s hs'=>by
  obtain⟨e,he,rfl⟩:=bY.1 hs';rw[h.fq e (BP.1 he).1];exact Ps.zz M 0 (fun m hm=>(hs.1 m hm).1) e.1
 obtain⟨q1,q2⟩:=Ls.Gd (out:=[]) List.Pairwise.nil hS;refine Ls.ext q1 (qz M _) fun y=>?_
 rw[q2,iL];constructor
 ·rintro(h1|⟨s,h1,h2⟩)
  ·cases h1
  ·obtain⟨e,he,rfl⟩:=bY.1 h1;obtain⟨h3,h4⟩:=BP.1 he;rw[h.fq e h3,Nq,l7]at h2;obtain⟨i,g1,g2,g3⟩:=h2;exact⟨i,g1,Da.2 ⟨_,g2,h4⟩,by rw[←g3];simp⟩
 ·rintro⟨i,g1,g2,rfl⟩;obtain⟨x,hx,hp⟩:=Da.1 g2;have h2:(x,(i:Int))∈Ps.fu M 0:=(l7 M 0 x _).2 ⟨i,g1,hx,sm⟩;have hx:x∈E.map (·.1):=(h.mem x).2 (bY.2 ⟨_,h2,rfl⟩);obtain⟨e,he,rfl⟩:=bY.1 hx;refine .inr ⟨e.2,bY.2 ⟨e,BP.2 ⟨he,hp⟩,rfl⟩,?_⟩;rw[h.fq e he,Nq];exact h2
theorem zC:∀(LL) (b),(∀l∈LL,l.length≤b)→Ls.tot LL≤LL.length*b
 |[],_,_=>by simp[Ls.tot]
 |l::LL,b,h=>by
  have h1:=zC LL b fun l hl=>h l (by simp[hl])
  have h2:=h l sm;rw[Ls.Ij,Lc,Nat.succ_mul];omega
theorem IC {M E} (hw:Ps.wt M≤500) (h:Ps.rD (Ps.fu M 0) E) (p):Ls.tot ((E.filter p).map (·.2))≤1000000:=by
 obtain⟨h1,h2⟩:=Ps.sj h;have h0:=Ps.l6 M 0;have h3:=zC ((E.filter p).map (·.2)) 500 fun l hl=>by
  obtain⟨e,he,rfl⟩:=bY.1 hl;have:=h2 e (BP.1 he).1;omega
 have h4:=Dm p E;rw[fM]at h3;have:(E.filter p).length*500≤500*500:=CJ _ om;omega
theorem Zl {M} (hs:Ps.Sets M):∀l∈M,Qy.Uq l:=fun l hl=>(hs.1 l hl).1.imp fun{a b} hab e=>by
 rw[e,St.irrefl]at hab;cases hab
def Yh (M:List (List aQ)) (x:aQ):List Int:=rg M fun l=>decide (Qy.val l x.n=x.v)
theorem abA {M} (hs:Ps.Sets M) (x) (hx:x.v≠ByteArray.empty):(rg M fun l=>l.any fun y=>decide (y=x))=Yh M x:=by
 refine oL fun l hl=>?_
 rw[Bool.eq_iff_iff,Ch,Qy.Nn (Zl hs l hl),Da];constructor
 ·rintro⟨y,h1,h2⟩;rw[Ch]at h2;subst h2;exact .inl h1
 ·rintro(h|⟨h,-⟩)
  ·exact⟨_,h,sm⟩
  ·exact absurd h hx
theorem Yi {M} (hs:Ps.Sets M) (x) (hx:x.v=ByteArray.empty):(rg M fun l=>(l.any fun y=>decide (y=x))||(true&&!l.any fun y=>decide (y.n=x.n)))=Yh M x:=by
 refine oL fun l hl=>?_
 rw[Bool.eq_iff_iff,Ch,Qy.Nn (Zl hs l hl),Bool.true_and,Bool.or_eq_true,Da];have h2:((!l.any fun y=>decide (y.n=x.n))=true)↔x.n∉l.map (·.n):=by
  rw[Bool.not_eq_true',Cy,Ne,Da];simp only[Ch,bY]
 rw[h2];constructor
 ·rintro(⟨y,h1,h3⟩|h)
  ·rw[Ch]at h3;subst h3;exact .inl h1
  ·exact .inr ⟨hx,h⟩
 ·rintro(h|⟨-,h⟩)
  ·exact .inl ⟨_,h,sm⟩
  ·exact .inr h
def fl (M:List (List aQ)) (ms:List (aQ×Bool)):List Int:=rg M fun l=>Qy.ok l ms
theorem abB (M):fl M []=rg M fun _=>true:=by
 unfold fl Qy.ok;simp
theorem KS (M ms x):Ls.pick (fun _ s=>!s) (fl M ms) (Yh M x)=fl M (ms++[(x,true)]):=by
 unfold fl Yh;rw[UT];refine oL fun l _=>?_
 unfold Qy.ok;rw[List.all_append];simp[Qy.ok1]
theorem P7 (M ms x):Ls.Uj [fl M ms,Yh M x]=fl M (ms++[(x,false)]):=by
 unfold fl Yh;rw[abx];refine oL fun l _=>?_
 unfold Qy.ok;rw[List.all_append];simp[Qy.ok1]
end Qn
section
open Go.RowKit Go.Shelf
theorem iR.two {w B n1 c1 n2 c2 A1 A2 l1 l2} (h1:bQ w B A1 n1 c1 l1) (h2:bQ w B A2 n2 c2 l2) (hB:B≤w.heap.size):
  iR (w.alloc (.cells #[.slice A1 n1 c1,.slice A2 n2 c2] 62)) (w.heap.size+1) (some ⟨w.heap.size,0,none⟩) 2 2 [l1,l2]:=
 ⟨[.slice A1 n1 c1,.slice A2 n2 c2],⟨Nr _,by unfold maxLen;omega,rfl,fun _=>⟨_,0,rfl,om,fun i u hu=>by
  match i,hu with
  |0,hu=>simp at hu;subst hu;exact Ao w _ _ _ 0
  |1,hu=>simp at hu;subst hu;exact Ao w _ _ _ 1⟩⟩,rfl,fun i l' hl=>by
  match i,hl with
  |0,hl=>simp at hl;subst hl;exact⟨A1,n1,c1,rfl,(h1.alloc hB _).more om⟩
  |1,hl=>simp at hl;subst hl;exact⟨A2,n2,c2,rfl,(h2.alloc hB _).more om⟩⟩
def nH (w:World) (B p:Nat) (b:Bk.ic):Prop:=
 ∃q A n c A2 n2 c2 E,p<B∧q<B∧w.heap[p]? =some (.cells #[.pointer (some ⟨q,0,none⟩)] 88 (0,0))∧
  w.heap[q]? =some (.cells #[.slice A n c,.slice A2 n2 c2] 86 (0,0))∧dY w B A n c b∧cZ w B A2 n2 c2 E∧Ps.rD (Ps.fu (Bk.sets b) 0) E
theorem nH.on {w W B p b} (h:nH w B p b) (hB:B≤w.heap.size) (hb:Below w.heap.size w W):nH W B p b:=by
 obtain⟨q,A,n,c,A2,n2,c2,E,hp,hq,h1,h2,h3,h4,h5⟩:=h;exact⟨q,A,n,c,A2,n2,c2,E,hp,hq,(hb.block p om).trans h1,(hb.block q om).trans h2,h3.below (hb.mono hB),h4.below hb hB,h5⟩
theorem nH.open_ {w B p b} (h:nH w B p b) (hB:B≤w.heap.size):∃q A n c A2 n2 c2 E,n=b.length∧dY w B A n c b∧cZ w B A2 n2 c2 E∧Ps.rD (Ps.fu (Bk.sets b) 0) E∧
  ∀W,Below w.heap.size w W→W.cell? ⟨p,0,none⟩=some (.pointer (some ⟨q,0,none⟩))∧W.cell? ⟨q,0,none⟩=some (.slice A n c)∧W.cell? ⟨q,1,none⟩=some (.slice A2 n2 c2):=by
 obtain⟨q,A,n,c,A2,n2,c2,E,hp,hq,h1,h2,h3,h4,h5⟩:=h;refine⟨q,A,n,c,A2,n2,c2,E,h3.len,h3,h4,h5,fun W hW=>?_⟩;have g1:=(hW.block p om).trans h1;have g2:=(hW.block q om).trans h2;exact⟨Co _ _ 0 _ _ _ g1,Co _ _ 0 _ _ _ g2,Co _ _ 1 _ _ _ g2⟩
structure Vf (b:Bk.ic):Prop where
 set:Ps.Sets (Bk.sets b)
 wt:Ps.wt (Bk.sets b)≤500
theorem Vf.len {b} (h:Vf b):b.length≤500:=by
 have h1:=Ps.uw (Bk.sets b);have h2:=h.wt;have h3:(Bk.sets b).length=b.length:=by unfold Bk.sets;simp
 omega
theorem Vf.Wv {b E} (h:Vf b) (hi:Ps.rD (Ps.fu (Bk.sets b) 0) E):E.length≤500:=by
 have h1:=(Ps.sj hi).1;have h2:=Ps.l6 (Bk.sets b) 0;have h3:=h.wt;omega
theorem KT (p b x w) (hv:nH w w.heap.size p b) (hq:Vf b):
  Calls prog 50 #[.pointer (some ⟨p,0,none⟩),Yz x] w fun r w'=>∃A3 n3 c3,r= .returned (.slice A3 n3 c3)∧n3≤2000∧ax w' w.heap.size A3 n3 c3 (Qn.Yh (Bk.sets b) x)∧Below w.heap.size w w':=by
 obtain⟨q,A,n,c,A2,n2,c2,E,hn,hK,hE,hI,hc⟩:=hv.open_ Ai;have hle:=hq.len;have hn2:n2≤1000000:=by have h1:=hE.len;have h2:=hq.Wv hI;omega
 have hsl:(Bk.sets b).length=b.length:=by unfold Bk.sets;simp
 have FD:=Aj (fun(W:World) (h:Below w.heap.size w W)=>Kv A2 n2 c2 E x W (hE.on h) hn2 (Qn.IC hq.wt hI _));rw[Qn.UU hq.set hI (fun y=>decide (y=x))]at FD;have NM:=Aj (fun(W:World) (h:Below w.heap.size w W)=>Im A2 n2 c2 E x.n W (hE.on h) hn2 (Qn.IC hq.wt hI _));rw[Qn.UU hq.set hI (fun y=>decide (y.n=x.n))]at NM;have hB0:Below w.heap.size w (w.alloc (Obj.cells #[.string x.n,.string x.v] 59)):=(Ae _ _).alloc Ai _;have d0:(w.alloc (Obj.cells #[.string x.n,.string x.v] 59)).cell? ⟨w.heap.size,0,none⟩=some (.string x.n):=Ao w _ _ _ 0;have d1:(w.alloc (Obj.cells #[.string x.n,.string x.v] 59)).cell? ⟨w.heap.size,1,none⟩=some (.string x.v):=Ao w _ _ _ 1;have hz0:w.heap.size< (w.alloc (Obj.cells #[.string x.n,.string x.v] 59)).heap.size:=sm;have HX:Kept (∀W,Below (w.alloc (Obj.cells #[.string x.n,.string x.v] 59)).heap.size (w.alloc (Obj.cells #[.string x.n,.string x.v] 59)) W→W.cell? ⟨p,0,none⟩=some (.pointer (some ⟨q,0,none⟩))∧W.cell? ⟨q,0,none⟩=some (.slice A n c)∧W.cell? ⟨q,1,none⟩=some (.slice A2 n2 c2)∧W.cell? ⟨w.heap.size,0,none⟩=some (.string x.n)∧W.cell? ⟨w.heap.size,1,none⟩=some (.string x.v)):=
  ⟨fun W hW=>by
   obtain⟨a1,a2,a3⟩:=hc W (hB0.trans (hW.mono hB0.size));exact⟨a1,a2,a3,(hW.cell (p:=⟨w.heap.size,0,none⟩) hz0).trans d0,(hW.cell (p:=⟨w.heap.size,1,none⟩) hz0).trans d1⟩⟩
 have B0:=Aj hB0;have E1:=Aj (Qn.abA hq.set x);have E2:=Aj (Qn.Yi hq.set x);have HL:=Aj hle;have L1:=Aj (Qn.qA (Bk.sets b) (fun l=>l.any fun y=>decide (y=x)));have L2:=Aj (Qn.qA (Bk.sets b) (fun l=>l.any fun y=>decide (y.n=x.n)));have L3:=Aj (Qn.qA (Bk.sets b) (fun l=>decide (Qy.val l x.n=x.v)));have U1:=Aj (Qn.Np (Bk.sets b));have U2:=Aj (Qn.UT (Bk.sets b) (fun _=>true) (fun l=>l.any fun y=>decide (y.n=x.n)));have U3:=Aj (Qn.aby (Bk.sets b) (fun l=>l.any fun y=>decide (y=x)) (fun l=>true&&!l.any fun y=>decide (y.n=x.n)));have L4:=Aj (Qn.qA (Bk.sets b) (fun l=>true&&!l.any fun y=>decide (y.n=x.n)));rw[hsl,←hn]at U1 L1 L2 L3 L4;have HN:=Aj (show n≤500 from om);have hst:=St.eq_iff x.v (⟨#[]⟩:ByteArray);clear hK hE hI hc hn2 hn hle hq hB0 hv hsl d0 d1 HL;unfold Yz at FD⊢;by_cases hx:x.v=ByteArray.empty
 ·rw[Bj (show x.v=⟨#[]⟩from hx)]at hst;have hst:x.v.toList.isEmpty=true:=by simpa using hst
  have e2:=E2.1 hx;rw[←U3.1,←U2.1]at e2;rw[←e2,←U1.1];have hpk:Ls.pick (fun _ s=>!s) (Ls.upto n) (Qn.rg (Bk.sets b) fun l=>l.any fun y=>decide (y.n=x.n))=Qn.rg (Bk.sets b) fun l=>true&&!l.any fun y=>decide (y.n=x.n):=by rw[U1.1,U2.1]
  clear E1 E2 hx U3 U2 U1 e2 L3;generalize Qn.rg (Bk.sets b) (fun l=>l.any fun y=>decide (y=x))=R1 at*;generalize Qn.rg (Bk.sets b) (fun l=>l.any fun y=>decide (y.n=x.n))=R2 at*;go_enter func50,ntmps50;go_upto_region 1 with(fail)
  generalize w.alloc (Obj.cells #[.string x.n,.string x.v] 59)=w0 at*;go_region_held3 (fun w'=>w'.cell? ⟨p,0,none⟩=some (.pointer (some ⟨q,0,none⟩))∧w'.cell? ⟨q,0,none⟩=some (.slice A n c)∧w'.cell? ⟨q,1,none⟩=some (.slice A2 n2 c2)∧w'.cell? ⟨w.heap.size,0,none⟩=some (.string x.n)∧w'.cell? ⟨w.heap.size,1,none⟩=some (.string x.v)) (first|exact HX.1 _ (Ae _ _)|exact HX.1 _ (Ae _ _).drew|exact HX.1 _ C2.1)
   (first|(go_at_call 97;refine(FD.1 _ (by first|exact B0.1|exact B0.1.drew)).mono ?_;rintro e w2 ⟨A3,n3,c3,rfl,ho,hb⟩;have O2:=Aj ho;have C2:Kept (Below w0.heap.size w0 w2):=⟨by first|exact hb|exact(Ae _ _).drew.trans hb⟩;clear ho hb))
  go_upto_region 3 with fail;have hcx:=Aj (HX.1 _ C2.1);have B2:=Aj (B0.1.trans (C2.1.mono B0.1.size));have V2:=Aj (ax.rd O2.1);have hl3:Kept (n3≤n):=⟨by rw[O2.1.len];exact L1.1⟩
  have L5:Kept ((Ls.pick (fun _ s=>!s) (Ls.upto n) R2).length≤n):=⟨by rw[hpk];exact L4.1⟩
  clear hpk;go_region_held3 (fun w'=>w'.cell? ⟨p,0,none⟩=some (.pointer (some ⟨q,0,none⟩))∧w'.cell? ⟨q,0,none⟩=some (.slice A n c)∧w'.cell? ⟨q,1,none⟩=some (.slice A2 n2 c2)∧w'.cell? ⟨w.heap.size,0,none⟩=some (.string x.n)∧w'.cell? ⟨w.heap.size,1,none⟩=some (.string x.v)) (first|exact hcx.1|exact k9|exact HX.1 _ k8.1|exact HX.1 _ k8.1.drew|exact HX.1 _ (k8.1.alloc k8.1.size _)|exact HX.1 _ (k8.1.alloc k8.1.size _).drew)
   (first
    |(go_at_call 99;refine(NM.1 _ (by first|exact B2.1|exact B2.1.drew)).mono ?_;rintro e w5 ⟨A5,n5,c5,rfl,ho,hb⟩;have O5:=Aj (ax.rd ho);have hl5:Kept (n5≤n):=(by rw[show n5=R2.length from ho.len];exact L2);have k8:Kept (Below w0.heap.size w0 w5):=⟨by first|exact C2.1.trans (hb.mono C2.1.size)|exact C2.1.drew.trans (hb.mono C2.1.size)⟩;have k9:=HX.1 _ k8.1;have V5:Kept (bQ w5 w5.heap.size A3 n3 c3 R1):=⟨by first|exact(V2.1.below hb).more hb.size|exact(V2.1.drew.below hb).more hb.size⟩;clear ho hb V2)
    |(go_at_call 48;refine(lG A5 n5 c5 w5.heap.size R2 (n:Int) _ (by first|exact O5.1|exact O5.1.drew) Ai (by have:=hl5.1;have:=HN.1;omega) (by have:=HN.1;omega) om).mono ?_;rintro e w6 ⟨A6,n6,c6,rfl,-,ho,hb⟩;rw[kz]at ho;have O6:=Aj (ax.rd ho);have k8:Kept (Below w0.heap.size w0 w6):=⟨by first|exact k8.1.trans (hb.mono k8.1.size)|exact k8.1.drew.trans (hb.mono k8.1.size)⟩;have k9:=HX.1 _ k8.1;have V6:Kept (bQ w6 w6.heap.size A3 n3 c3 R1):=⟨by first|exact(V5.1.below hb).more hb.size|exact(V5.1.drew.below hb).more hb.size⟩;have T6:=Aj (iR.two V6.1 O6.1 Ai);clear ho hb V5 O5)
    |(go_at_call 98;refine(xS _ 2 2 (w6.heap.size+1) [R1,Ls.pick (fun _ s=>!s) (Ls.upto n) R2] _ T6.1 (by first|exact Nr _|(show _≤(World.alloc _ _).heap.size;simp)) (by simp only[Ls.tot,Az,List.map_nil,AZ,List.sum_nil];have:=L1.1;have:=L5.1;have:=HN.1;omega)).mono ?_;rintro e w7 ⟨A7,n7,c7,rfl,U6,ho,hb⟩;have O7:=Aj ho;have N7:=Aj U6;have k7:Kept (w0.heap.size≤w6.heap.size):=⟨k8.1.size⟩;have k8:Kept (Below w0.heap.size w0 w7):=⟨by first|exact(k8.1.alloc k8.1.size _).trans (hb.mono (by show _≤(World.alloc _ _).heap.size;simp;have:=k8.1.size;omega))|exact((k8.1.alloc k8.1.size _).drew).trans (hb.mono (by show _≤(World.alloc _ _).heap.size;simp;have:=k8.1.size;omega))⟩;have k9:=HX.1 _ k8.1;clear ho hb U6))
  all_goals
   go_wp2;go_ret;exact⟨A7,n7,c7,rfl,by have h1:=N7.1;have h2:=L1.1;have h3:=L5.1;have h4:=HN.1;simp only[Ls.tot,Az,List.map_nil,AZ,List.sum_nil]at h1;omega,aC O7.1 (by have h1:=B0.1.size;have h2:=k7.1;show _≤(World.alloc _ _).heap.size;simp;omega),B0.1.trans (k8.1.mono B0.1.size)⟩
 ·rw[AF (show¬x.v=⟨#[]⟩from hx)]at hst;have hst:x.v.toList.isEmpty=false:=by simpa using hst
  have e1:=E1.1 hx;rw[e1]at FD;clear E1 E2 hx e1 U1 U2 U3 L1 L2 L4 NM;generalize hee:Qn.Yh (Bk.sets b) x=R1 at*;have L3:Kept (R1.length≤n):=⟨by rw[←hee];exact L3.1⟩
  go_enter func50,ntmps50;go_upto_region 1 with(fail)
  generalize w.alloc (Obj.cells #[.string x.n,.string x.v] 59)=w0 at*;go_region_held3 (fun w'=>w'.cell? ⟨p,0,none⟩=some (.pointer (some ⟨q,0,none⟩))∧w'.cell? ⟨q,0,none⟩=some (.slice A n c)∧w'.cell? ⟨q,1,none⟩=some (.slice A2 n2 c2)∧w'.cell? ⟨w.heap.size,0,none⟩=some (.string x.n)∧w'.cell? ⟨w.heap.size,1,none⟩=some (.string x.v)) (first|exact HX.1 _ (Ae _ _)|exact HX.1 _ (Ae _ _).drew|exact HX.1 _ C2.1)
   (first|(go_at_call 97;refine(FD.1 _ (by first|exact B0.1|exact B0.1.drew)).mono ?_;rintro e w2 ⟨A3,n3,c3,rfl,ho,hb⟩;have O2:=Aj ho;have C2:Kept (Below w0.heap.size w0 w2):=⟨by first|exact hb|exact(Ae _ _).drew.trans hb⟩;clear ho hb))
  obtain⟨x0,x1,x2,x3,x4⟩:=HX.1 _ C2.1;go_wp2;go_ret;have hl:=O2.1.len;exact⟨A3,n3,c3,rfl,by have h1:=L3.1;have h2:=HN.1;omega,aC O2.1 B0.1.size,B0.1.trans (C2.1.mono B0.1.size)⟩
end
section
open Go.RowKit Go.Shelf
abbrev UW:=aQ×Bool
def vF (m:UW):List Value:=[.string m.1.n,.string m.1.v,.bool m.2]
def lH (ms:List UW):List Value:=ms.flatMap vF
theorem nI (ms):(lH ms).length=ms.length*3:=by
 unfold lH
 induction ms with
 |nil=>rfl
 |cons x ms ih=>rw[Au,La,ih,Lc];simp[vF];omega
theorem vG (ms i) (h:i<ms.length):(lH ms)[i*3]? =some (.string ms[i].1.n)∧(lH ms)[i*3+1]? =some (.string ms[i].1.v)∧(lH ms)[i*3+2]? =some (.bool ms[i].2):=by
 unfold lH
 induction ms generalizing i with
 |nil=>simp at h
 |cons x ms ih=>
  rw[Au];cases i with
  |zero=>exact⟨rfl,rfl,rfl⟩
  |succ i=>
   have hl:(vF x).length=3:=rfl;rw[Bn om,Bn om,Bn om];have:=ih i (by simpa using h);rw[hl,BZ,show(i+1)*3-3=i*3 from om,show(i+1)*3+1-3=i*3+1 from om,show(i+1)*3+2-3=i*3+2 from om];exact this
def jZ (w:World) (B:Nat) (A:Option Addr) (n c:Nat) (ms:List UW):Prop:=Rd w B 3 A n c (lH ms)
section
variable {w w':World} {B n c:Nat} {A:Option Addr} {ms:List UW}
theorem jZ.len (h:jZ w B A n c ms):n=ms.length:=by have:=h.2.2.1;rw[nI]at this;omega
theorem jZ.cap (h:jZ w B A n c ms):n≤c∧c≤maxLen:=⟨h.1,h.2.1⟩
theorem jZ.below (h:jZ w B A n c ms) (hb:Below B w w'):jZ w' B A n c ms:=Rd.below h hb
theorem jZ.more {B'} (h:jZ w B A n c ms) (hB:B≤B'):jZ w B' A n c ms:=Rd.more h hB
theorem jZ.cells {k} (h:jZ w B A n c ms) (hB:B≤w.heap.size) (hk:k<ms.length):
  ∃b off,A=some ⟨b,off,none⟩∧∀W,Below w.heap.size w W→W.cell? ⟨b,off+k*3,none⟩=some (.string ms[k].1.n)∧W.cell? ⟨b,off+k*3+1,none⟩=some (.string ms[k].1.v)∧W.cell? ⟨b,off+k*3+2,none⟩=some (.bool ms[k].2):=by
 obtain⟨b,off,rfl,hb,hc⟩:=h.2.2.2 (by have:=h.len;omega);obtain⟨g0,g1,g2⟩:=vG ms k hk;refine⟨b,off,rfl,fun W hW=>⟨?_,?_,?_⟩⟩
 ·exact(hW.cell (p:=⟨b,_,none⟩) (by show b<_;omega)).trans (hc (k*3) _ g0)
 ·exact(hW.cell (p:=⟨b,_,none⟩) (by show b<_;omega)).trans (by rw[fA];exact hc (k*3+1) _ g1)
 ·exact(hW.cell (p:=⟨b,_,none⟩) (by show b<_;omega)).trans (by rw[fA];exact hc (k*3+2) _ g2)
end
theorem Qy.Yj (l) (ms:List UW) (k) (hk:k<ms.length):Qy.ok l (ms.take (k+1))=(Qy.ok l (ms.take k)&&Qy.ok1 l ms[k]):=by
 rw[Ts hk];unfold Qy.ok;rw[List.all_append];simp
theorem Qy.Yk {l} {ms:List UW} {k} (hk:k<ms.length) (h:Qy.ok1 l ms[k]=false):Qy.ok l ms=false:=by
 unfold Qy.ok;rw[Cy];intro h2;rw[DF]at h2;rw[h2 _ (gG hk)]at h;cases h
theorem IG (A A2 n c n2 c2 l ms w) (hv:fO w w.heap.size A n c l) (hm:jZ w w.heap.size A2 n2 c2 ms):
  Calls prog 23 #[.slice A n c,.slice A2 n2 c2] w fun e w'=>e= .returned (.bool (Qy.ok l ms))∧Gr w w':=by
 have hcp:=hm.cap;have hlc:=hcp.1;have hcm:=hcp.2;unfold maxLen at hcm;have hn:=Aj hm.len;have V:=Aj hm;have GT:=Aj (fun(W:World) (x:ByteArray) (g:Gr w W)=>Jq A n c l x W ((hv.below g.below).more g.below.size));clear hv hm hcp;go_enter func23,ntmps23;go_wp2;go_loopw [5] (fun i wr=>∃k:Nat,k≤n2∧i= .int .i64 k∧Kept (Qy.ok l (ms.take k)=true)∧Gr w wr) (fun i _=>n2-(intOf i).toNat)
 case atStart=>exact⟨0,om,rfl,⟨by simp[Qy.ok]⟩,Gr.refl w⟩
 case round=>
  obtain⟨k,hk,rfl,hd,gr⟩:=hrel;by_cases hlt:k<n2
  ·have hkl:k<ms.length:=by rw[←hn.1];exact hlt
   obtain⟨b,off,rfl,hc⟩:=V.1.cells Ai hkl;have HC:=Aj hc;have ht:=Aj (Qy.Yj l ms k hkl);have hmi:=Aj (Qy.Yk (l:=l) hkl);have h1:Kept (Qy.ok1 l ms[k]=(decide (((Lb.get l ms[k].1.n).getD ByteArray.empty)=ms[k].1.v) !=ms[k].2)):=⟨rfl⟩
   obtain⟨c0,c1,c2⟩:=hc wr gr.below;generalize ms[k]=m at*;obtain⟨⟨y,z⟩,d⟩:=m;simp only[]at HC h1 c0 c1 c2;have G:=Aj gr;clear gr c1 c2 hc;generalize hu:(Lb.get l y).getD ByteArray.empty=u at*;have hq:=St.eq_iff u z;by_cases hx:u=z
   ·rw[Bj hx]at hq h1;clear hx;cases d
    ·go_wp2_with (go_at_call 53;refine(GT.1 wr y G.1).mono ?_;rintro e w2 ⟨rfl,hg⟩;rw[hu];have G2:=Aj (G.1.trans hg);obtain⟨d0,d1,d2⟩:=HC.1 w2 G2.1.below;clear hg GT);go_quiet (fail);go_wp2;go_roundw
     case rel=>exact⟨k+1,om,by go_num,⟨by rw[ht.1,hd.1,h1.1];rfl⟩,G2.1.drewN _⟩
     case measure=>simp[intOf];omega
    ·go_wp2_with (go_at_call 53;refine(GT.1 wr y G.1).mono ?_;rintro e w2 ⟨rfl,hg⟩;rw[hu];have G2:=Aj (G.1.trans hg);obtain⟨d0,d1,d2⟩:=HC.1 w2 G2.1.below;clear hg GT);go_quiet (fail);go_wp2;go_ret;exact⟨by rw[hmi.1 (by rw[h1.1];rfl)];rfl,G2.1.drewN _⟩
   ·rw[AF hx]at hq h1;clear hx;cases d
    ·go_wp2_with (go_at_call 53;refine(GT.1 wr y G.1).mono ?_;rintro e w2 ⟨rfl,hg⟩;rw[hu];have G2:=Aj (G.1.trans hg);obtain⟨d0,d1,d2⟩:=HC.1 w2 G2.1.below;clear hg GT);go_quiet (fail);go_wp2;go_ret;exact⟨by rw[hmi.1 (by rw[h1.1];rfl)];rfl,G2.1.drewN _⟩
    ·go_wp2_with (go_at_call 53;refine(GT.1 wr y G.1).mono ?_;rintro e w2 ⟨rfl,hg⟩;rw[hu];have G2:=Aj (G.1.trans hg);obtain⟨d0,d1,d2⟩:=HC.1 w2 G2.1.below;clear hg GT);go_quiet (fail);go_wp2;go_roundw
     case rel=>exact⟨k+1,om,by go_num,⟨by rw[ht.1,hd.1,h1.1];rfl⟩,G2.1.drewN _⟩
     case measure=>simp[intOf];omega
  ·obtain rfl:k=n2:=by omega
   have ht:ms.take k=ms:=iM (by have:=hn.1;omega);go_wp2;go_ret;exact⟨by rw[←ht,hd.1];rfl,gr⟩
end
section
open Go.RowKit Go.Shelf
theorem nH.more {w B B' p b} (h:nH w B p b) (hB:B≤B'):nH w B' p b:=by
 obtain⟨q,A,n,c,A2,n2,c2,E,hp,hq,h1,h2,h3,h4,h5⟩:=h;exact⟨q,A,n,c,A2,n2,c2,E,om,om,h1,h2,h3.more hB,h4.more hB,h5⟩
theorem Ls.Yl (a b):Ls.tot [a,b]=a.length+b.length:=by simp[Ls.tot]
theorem KU (p bs bo B n c A b) (m:UW) (ms:List UW) (w) (hv:nH w B p b) (hB:B≤w.heap.size) (hq:Vf b) (hs:Boxed w bs 32 (.pointer (some ⟨p,0,none⟩)))
  (ho:Boxed w bo 62 (.slice A n c)) (hr:bQ w w.heap.size A n c (Qn.fl (Bk.sets b) ms)):
  Calls prog 49 #[.agg #[.string m.1.n,.string m.1.v,.bool m.2],.pointer (some ⟨bs,0,none⟩),.pointer (some ⟨bo,0,none⟩)] w fun e w'=>e= .returned (.tuple #[])∧
   ∃A3 n3 c3,Boxed w' bo 62 (.slice A3 n3 c3)∧ax w' w.heap.size A3 n3 c3 (Qn.fl (Bk.sets b) (ms++[m]))∧w.grownBy w' (some bo):=by
 obtain⟨⟨y,z⟩,d⟩:=m;have HQ:=Aj (fun(W:World) (h:Below w.heap.size w W)=>KT p b ⟨y,z⟩ W (nH.more (hv.on hB h) (Lt hB h.size)) hq);have HR:=Aj hr;have HO:=Aj ho;have HS:=Aj hs;have hz1:=hs.lt;have hz2:=ho.lt;have hn:=Aj (show n≤500 by have h1:=hr.len;have h2:=Qn.qA (Bk.sets b) (fun l=>Qy.ok l ms);have h3:(Bk.sets b).length=b.length:=(by unfold Bk.sets;simp);have h4:=hq.len;unfold Qn.fl at h1;omega);have e1:=Qn.KS (Bk.sets b) ms ⟨y,z⟩;have e2:=Qn.P7 (Bk.sets b) ms ⟨y,z⟩;have hl1:=Aj (Qn.qA (Bk.sets b));generalize hx:Qn.fl (Bk.sets b) ms=L at*;generalize hy:Qn.Yh (Bk.sets b) ⟨y,z⟩=L2 at*;have hal:Below w.heap.size w (w.alloc (Obj.cells #[.string y,.string z,.bool d] 61)):=(Ae _ _).alloc Ai _;have B0:=Aj hal;have X0:(w.alloc (Obj.cells #[.string y,.string z,.bool d] 61)).heap[w.heap.size]? =some (Obj.cells #[.string y,.string z,.bool d] 61 (0,0)):=Av w _;have hzx:w.heap.size< (w.alloc (Obj.cells #[.string y,.string z,.bool d] 61)).heap.size:=sm;have q1:=(hs.alloc (Obj.cells #[.string y,.string z,.bool d] 61)).cell;clear hal hv hs ho hr;have EQ:Kept (Calls prog 50 #[.pointer (some ⟨p,0,none⟩),.agg #[.string y,.string z]] (w.alloc (Obj.cells #[.string y,.string z,.bool d] 61)) fun e w2=>∃A2 n2 c2,e= .returned (.slice A2 n2 c2)∧n2≤2000∧ax w2 w.heap.size A2 n2 c2 L2∧Below w.heap.size w w2∧w2.cell? ⟨w.heap.size,2,none⟩=some (.bool d)):=⟨by
  refine(HQ.1 _ B0.1).mono ?_;rintro e w2 ⟨A2,n2,c2,rfl,h2,ho2,hb2⟩;exact⟨A2,n2,c2,rfl,h2,aC ho2 B0.1.size,B0.1.trans (hb2.mono B0.1.size),Co _ _ 2 _ _ _ ((hb2.block _ hzx).trans X0)⟩⟩
 clear HQ X0 hzx B0;cases d
 ·rw[←e2];clear e1 e2 hl1;go_enter func49,ntmps49;go_wp2_with (first
   |(go_at_call 52;refine(wW _ _ _ _ [L,L2] _ R2.1 sm (by rw[Ls.Yl];have h1:=HR.1.len;have h2:=O2.1.len;have h3:=hn.1;have h4:=N2.1;omega)).mono ?_;rintro e w3 ⟨A3,n3,c3,rfl,-,ho3,hb3⟩;have O3:=Aj ho3;have B3:=Aj ((B2.1.alloc B2.1.size _).trans (hb3.mono (by have:=B2.1.size;simp;omega)));have Bo3:=(B3.1.block bo hz2).trans HO.1;have q3:=DW Bo3;have q4:=Boxed.frozen Bo3;clear ho3 hb3)
   |(go_at_call 50;refine EQ.1.mono ?_;rintro e w2 ⟨A2,n2,c2,rfl,h2,ho2,hb2,z2⟩;have O2:=Aj ho2;have N2:=Aj h2;have B2:=Aj hb2;have R2:=Aj (iR.two ((HR.1.below hb2).more hb2.size) ho2.rd Ai);have q2:=DW ((hb2.block bo hz2).trans HO.1);clear h2 ho2 hb2 EQ))
  go_end0;have hg:=Dz w3 bo (.slice A3 n3 c3);exact⟨rfl,A3,n3,c3,Boxed.set _ Bo3,ax.past (aC O3.1 (by have:=B2.1.size;simp;omega)) hg hz2,(aB B3.1).trans hg⟩
 ·rw[←e1];clear e1 e2 hl1;go_enter func49,ntmps49;go_wp2_with (first
   |(go_at_call 51;refine(lF _ _ _ _ _ _ L L2 w2 w2.heap.size R2.1 O2.1.rd Ai (by have h3:=hn.1;have h4:=N2.1;omega)).mono ?_;rintro e w3 ⟨A3,n3,c3,rfl,-,ho3,hb3⟩;have O3:=Aj ho3;have B3:=Aj (B2.1.trans (hb3.mono B2.1.size));have Bo3:=(B3.1.block bo hz2).trans HO.1;have q3:=DW Bo3;have q4:=Boxed.frozen Bo3;clear ho3 hb3)
   |(go_at_call 50;refine EQ.1.mono ?_;rintro e w2 ⟨A2,n2,c2,rfl,h2,ho2,hb2,z2⟩;have O2:=Aj ho2;have N2:=Aj h2;have B2:=Aj hb2;have R2:=Aj ((HR.1.below hb2).more hb2.size);have q2:=DW ((hb2.block bo hz2).trans HO.1);clear h2 ho2 hb2 EQ))
  go_end0;have hg:=Dz w3 bo (.slice A3 n3 c3);exact⟨rfl,A3,n3,c3,Boxed.set _ Bo3,ax.past (aC O3.1 B2.1.size) hg hz2,(aB B3.1).trans hg⟩
theorem II (p n c A b ms w) (hv:nH w w.heap.size p b) (hm:jZ w w.heap.size A n c ms) (hq:Vf b):
  Calls prog 22 #[.pointer (some ⟨p,0,none⟩),.slice A n c] w fun e w'=>∃A3 n3 c3,e= .returned (.slice A3 n3 c3)∧ax w' w.heap.size A3 n3 c3 (Qn.fl (Bk.sets b) ms)∧Below w.heap.size w w':=by
 obtain⟨q,A1,n1,c1,A2,n2,c2,E,hn,-,-,-,hc⟩:=hv.open_ Ai;have hle:=hq.len;have hsl:(Bk.sets b).length=b.length:=by unfold Bk.sets;simp
 have hcp:=hm.cap;unfold maxLen at hcp;obtain⟨hcp1,hcp2⟩:=hcp;have HM:=Aj hm;have HN:=Aj hm.len;have SV:=Aj hv;have HQ:=Aj hq;have hB0:Below w.heap.size w (w.alloc (Obj.cells #[.pointer (some ⟨p,0,none⟩)] 32)):=(Ae _ _).alloc Ai _;have B0:=Aj hB0;have bS:=Aj (Bd w 32 (.pointer (some ⟨p,0,none⟩)));obtain⟨z0,z1,-⟩:=hc _ hB0;have CP:Kept (∀W,Calls prog 48 #[.slice none 0 0,.int .i64 (n1:Int)] W fun e w'=>∃A3 n3 c3,e= .returned (.slice A3 n3 c3)∧ax w' W.heap.size A3 n3 c3 (Qn.fl (Bk.sets b) [])∧Below W.heap.size W w'):=⟨fun W=>by
  refine(lG none 0 0 W.heap.size [] (n1:Int) W (bQ.zero W _ none rfl (by unfold maxLen;omega)) Ai om om om).mono ?_;rintro e w' ⟨A3,n3,c3,rfl,-,ho,hb⟩;refine⟨A3,n3,c3,rfl,?_,hb⟩;rw[kz,hn,←hsl,Qn.abz,←Qn.abB]at ho;exact ho⟩
 clear hc hv hm hq hB0 hn hle hsl;go_enter func22,ntmps22;go_upto_region 6 with(go_at_call 48;refine(CP.1 _).mono ?_;rintro e w2 ⟨A3,n3,c3,rfl,ho,hb⟩;have O2:=Aj ho;have C2:=Aj (B0.1.trans (hb.mono B0.1.size));have S2:=Aj ((hb.block w.heap.size sm).trans bS.1);clear ho hb CP)
 have bO:=Bd w2 62 (.slice A3 n3 c3);have bS2:=Boxed.alloc (show Boxed w2 w.heap.size 32 (.pointer (some ⟨p,0,none⟩))from S2.1) (.cells #[.slice A3 n3 c3] 62);have O3:Kept (ax (w2.alloc (.cells #[.slice A3 n3 c3] 62)) w.heap.size A3 n3 c3 (Qn.fl (Bk.sets b) [])):=⟨aC (Oa O2.1 _) B0.1.size⟩
 have C3:=Aj (C2.1.alloc C2.1.size (.cells #[.slice A3 n3 c3] 62));have hzo:w.heap.size<w2.heap.size:=bS2.lt|>fun h=>by have:=C2.1.size;have h2:=(Ge.1 S2.1).1;exact h2
 generalize hbo:w2.heap.size=bo at*;have HBO:=Aj hbo;clear hbo;clear C2 O2 S2;go_loopw [23] (fun i wr=>∃k:Nat,k≤n∧i= .int .i64 k∧∃A3 n3 c3,Boxed wr bo 62 (.slice A3 n3 c3)∧Boxed wr w.heap.size 32 (.pointer (some ⟨p,0,none⟩))∧Kept (ax wr w.heap.size A3 n3 c3 (Qn.fl (Bk.sets b) (ms.take k)))∧Below w.heap.size w wr) (fun i _=>n-(intOf i).toNat)
 case atStart=>exact⟨0,bH _,rfl,A3,n3,c3,bO,bS2,O3,C3.1⟩
 case round=>
  obtain⟨k,hk,rfl,A4,n4,c4,hbo,hbs,ho,hb⟩:=hrel;by_cases hlt:k<n
  ·have hkl:k<ms.length:=by rw[←HN.1];exact hlt
   obtain⟨b2,sS,rfl,hc⟩:=HM.1.cells Ai hkl;obtain⟨c0,c1',c2'⟩:=hc wr hb;have HT:=Aj (Ts hkl);generalize ms[k]=m at*;have hal:=hb.alloc hb.size (.cells #[.string m.1.n,.string m.1.v,.bool m.2] 61);have NA:=Aj (KU p w.heap.size bo w.heap.size n4 c4 A4 b m (ms.take k) (wr.alloc (.cells #[.string m.1.n,.string m.1.v,.bool m.2] 61)) (SV.1.on Ai hal) hal.size HQ.1 (hbs.alloc _) (hbo.alloc _) (ax.rd (Oa ho.1 _)));have HAL:=Aj hal;have ah8:=Aj (hbs.alloc (.cells #[.string m.1.n,.string m.1.v,.bool m.2] 61));clear hc hb hal ho hbs hbo;go_wp2_with (go_at_call 49;refine NA.1.mono ?_;rintro e w5 ⟨rfl,A5,n5,c5,aex,QF,hg5⟩;have BO5:=Aj aex;have O5:=Aj QF;have G5:=Aj hg5;clear aex QF hg5 NA);go_roundw
   case rel=>exact⟨k+1,om,by go_num,A5,n5,c5,BO5.1,ah8.1.kept G5.1 (fun e=>by have:=Oj e;omega),⟨by rw[HT.1];exact aC O5.1 HAL.1.size⟩,HAL.1.grown G5.1 HAL.1.size (fun r e=>by cases e;omega)⟩
   case measure=>simp[intOf];omega
  ·obtain rfl:k=n:=by omega
   have ht:ms.take k=ms:=iM (by have:=HN.1;omega);rw[ht]at ho;have q1:=hbo.cell;have B:=Aj hb;clear hb hbs;go_wp2;go_ret;exact⟨A4,n4,c4,rfl,ho.1,B.1⟩
end
section
open Go.RowKit Go.Shelf
theorem x8 {P} (z w dT sT ty elem g o dLen dCap a sLen sCap cur t cs)
  (hu:P.underlying dT=some (.slice elem)) (hs:(P.info? elem).map (·.size)=some z)
  (hg:w.heap[g]? =some (.cells cur t (0,0))) (hn:cs.length=Nat.min sLen dLen*z)
  (hsrc:∀j v,cs[j]? =some v→w.cell? (a.add j)=some v) (hfit:o+cs.length≤cur.size) (h1:∀v∈cs,v.oneCell'=true):
  (Builtin.copy_ #[dT,sT] ty #[.slice (some ⟨g,o,none⟩) dLen dCap,.slice (some a) sLen sCap]).run P w=
   .ok (goInt (Nat.min sLen dLen)) (w.setRow g (cur.toList.take o++cs++cur.toList.drop (o+cs.length)).toArray):=by
 have hl:=run_loadCells_list (P:=P) w a cs hsrc;have hst:=run_storeCells_at P g o t cs 0 cur w hg (by simpa using hfit) h1;cases hq:P.info? elem with
 |none=>simp[hq]at hs
 |some i=>
  have hi:i.size=z:=by simpa[hq]using hs
  rw[hn]at hl;simp[Builtin.copy_,Ef hu,Builtin.lenOf,Builtin.firstCells,sizeOf,typeInfo,hq,hi,hl,hst]
theorem lI {P} (z w dT sT ty elem d a dLen dCap sLen sCap) (hu:P.underlying dT=some (.slice elem)) (hs:(P.info? elem).map (·.size)=some z) (hn:Nat.min sLen dLen=0):
  (Builtin.copy_ #[dT,sT] ty #[.slice d dLen dCap,.slice a sLen sCap]).run P w= .ok (goInt 0) w:=by
 cases hq:P.info? elem with
 |none=>simp[hq]at hs
 |some i=>
  have hl:∀(x:Addr),(loadCells x 0).run P w= .ok #[] w:=fun x=>by simpa using run_loadCells_list (P:=P) w x [] sm
  cases d<;>cases a<;>simp[Builtin.copy_,Ef hu,Builtin.lenOf,Builtin.firstCells,sizeOf,typeInfo,hq,hn,storeCells,hl]
theorem vH {P ops o a w K Q E} (z) (hz:0<z) (hgd:o.guard=none) (d s dT sT)
  (ho:o.op= .call {callee:= .builtin .copy,args:= #[d,s],argTypes:= #[dT,sT]}) (elem) (hu:P.underlying dT=some (.slice elem)) (hsz:(P.info? elem).map (·.size)=some z)
  (dp sp dLen dCap sLen sCap) (hd:a.eval d= .slice dp dLen dCap) (hs:a.eval s= .slice sp sLen sCap)
  (g off cur t) (hg:w.heap[g]? =some (.cells cur.toArray t (0,0))) (cs) (hn:cs.length=Nat.min sLen dLen*z)
  (hpos:0<cs.length→dp=some ⟨g,off,none⟩∧∃ad,sp=some ad∧∀j v,cs[j]? =some v→w.cell? (ad.add j)=some v)
  (hfit:off+cs.length≤cur.length) (h1:∀v∈cs,v.oneCell'=true)
  (h:∀w',Hid (w'.heap[g]? =some (.cells (splice cur off cs).toArray t (0,0)))→w.grownBy w' (some g)→K (a.put o.dst (goInt (Nat.min sLen dLen))) w'):
  if Region.wanted o (yielded ops a.tmps)=true then Oper.wp P o a w K Q else E:=by
 have hw:Region.wanted o (yielded ops a.tmps)=true:=by simp[Region.wanted,hgd]
 rw[Ps0 hw];by_cases h0:cs.length=0
 ·obtain rfl:cs=[]:=nL h0;have hmin:Nat.min sLen dLen=0:=by
   rcases Nat.mul_eq_zero.1 (show Nat.min sLen dLen*z=0 by rw[←hn];rfl)with h|h
   ·exact h
   ·omega
  have hrun:=lI (P:=P) z w dT sT o.type elem dp sp dLen dCap sLen sCap hu hsz hmin;rw[hmin]at h;unfold Oper.wp;simp[execOp,ho,resolve,invoke,builtin,hd,hs,hrun,Result.andThen];exact h w (show _=_ by simpa[splice]using hg) ⟨rfl,rfl,rfl,Nr _,fun _ _ _=>rfl⟩
 ·obtain⟨rfl,ad,rfl,hsrc⟩:=hpos om;have hrun:=x8 (P:=P) z w dT sT o.type elem g off dLen dCap ad sLen sCap cur.toArray t cs hu hsz hg hn hsrc (by simpa using hfit) h1;unfold Oper.wp;simp[execOp,ho,resolve,invoke,builtin,hd,hs,hrun,Result.andThen];exact h _ (show _=_ by simpa[splice]using setRow_heap w g _ _ t _ hg) ⟨rfl,rfl,rfl,by simp[World.setRow],fun k hk hne=>setRow_other w g k _ (fun e=>hne (by rw[e]))⟩
theorem EI {P w ops rest o a Q} (z) (hz:0<z) (hgd:o.guard=none) (d s dT sT)
  (ho:o.op= .call {callee:= .builtin .copy,args:= #[d,s],argTypes:= #[dT,sT]}) (elem) (hu:P.underlying dT=some (.slice elem)) (hsz:(P.info? elem).map (·.size)=some z)
  (dp sp dLen dCap sLen sCap) (hd:a.eval d= .slice dp dLen dCap) (hs:a.eval s= .slice sp sLen sCap)
  (g off cur t) (hg:w.heap[g]? =some (.cells cur.toArray t (0,0))) (cs) (hn:cs.length=Nat.min sLen dLen*z)
  (hpos:0<cs.length→dp=some ⟨g,off,none⟩∧∃ad,sp=some ad∧∀j v,cs[j]? =some v→w.cell? (ad.add j)=some v)
  (hfit:off+cs.length≤cur.length) (h1:∀v∈cs,v.oneCell'=true)
  (h:∀w',Hid (w'.heap[g]? =some (.cells (splice cur off cs).toArray t (0,0)))→w.grownBy w' (some g)→wpList P ops Q rest (a.put o.dst (goInt (Nat.min sLen dLen))) w'):
  wpList P ops Q (o::rest) a w:=by
 refine wpList_plain hgd fun K hK=>?_
 by_cases h0:cs.length=0
 ·obtain rfl:cs=[]:=nL h0;have hmin:Nat.min sLen dLen=0:=by
   rcases Nat.mul_eq_zero.1 (show Nat.min sLen dLen*z=0 by rw[←hn];rfl)with h|h
   ·exact h
   ·omega
  have hrun:=lI (P:=P) z w dT sT o.type elem dp sp dLen dCap sLen sCap hu hsz hmin;rw[hmin]at h;unfold Oper.wp;simp[execOp,ho,resolve,invoke,builtin,hd,hs,hrun,Result.andThen];exact hK _ _ (h w (show _=_ by simpa[splice]using hg) ⟨rfl,rfl,rfl,Nr _,fun _ _ _=>rfl⟩)
 ·obtain⟨rfl,ad,rfl,hsrc⟩:=hpos om;have hrun:=x8 (P:=P) z w dT sT o.type elem g off dLen dCap ad sLen sCap cur.toArray t cs hu hsz hg hn hsrc (by simpa using hfit) h1;unfold Oper.wp;simp[execOp,ho,resolve,invoke,builtin,hd,hs,hrun,Result.andThen];exact hK _ _ (h _ (show _=_ by simpa[splice]using setRow_heap w g _ _ t _ hg) ⟨rfl,rfl,rfl,by simp[World.setRow],fun k hk hne=>setRow_other w g k _ (fun e=>hne (by rw[e]))⟩)
theorem nJ {cur cs:List Value} (h:cur.length=cs.length):splice cur 0 cs=cs:=by
 unfold splice;simp[h]
theorem Rd.src {w B z n c A xs} (h:Rd w B z A n c xs) (hp:0<n):∃ad,A=some ad∧∀j v,xs[j]? =some v→w.cell? (ad.add j)=some v:=by
 obtain⟨b,off,rfl,_,hc⟩:=h.2.2.2 hp;refine⟨_,rfl,fun j v hj=>?_⟩;have:(⟨b,off,none⟩:Addr).add j=⟨b,off+j,none⟩:=by unfold Addr.add;split<;>simp_all
 rw[this];exact hc j v hj
end
section
open Go.RowKit Go.Shelf
def wY (b:Bk.ic) (q:List aQ→Bool):Bk.ic:=b.filter fun s=>q s.1
def EJ (b:Bk.ic) (q:List aQ→Bool) (k:Nat):List Nat:=(List.range k).filter fun i=>q ((b.getD i ([],[])).1)
theorem UX (b q k):EJ b q (k+1)=if q ((b.getD k ([],[])).1)=true then EJ b q k++[k]else EJ b q k:=by
 unfold EJ;rw[List.range_succ,Ep];by_cases h:q ((b.getD k ([],[])).1)=true
 ·rw[Ps0 h];simpa using h
 ·rw[Ng h];simpa using h
theorem UY {b q k i} (h:i∈EJ b q k):i<k:=by
 unfold EJ at h;exact List.mem_range.1 (BP.1 h).1
theorem Ns (b q k):(EJ b q k).length≤k:=by
 unfold EJ;exact Lt (Dm _ _) sm
theorem UZ (b q):(EJ b q b.length).map (fun i=>b.getD i ([],[]))=wY b q:=by
 have hb:b=(List.range b.length).map fun i=>b.getD i ([],[]):=by
  apply DD
  ·simp
  ·intro i h1 h2;simp[ja h1]
 unfold wY
 conv=>rhs;rw[hb]
 rw[List.filter_map]
 rfl
def IJ (l:List Nat):List Int:=l.map fun i:Nat=>(i:Int)
theorem Ym (a b):IJ (a++b)=IJ a++IJ b:=by simp[IJ]
theorem sK (a):(IJ a).length=a.length:=by simp[IJ]
theorem Nt (a i) (h:i< (IJ a).length) (h':i<a.length):(IJ a)[i]=(a[i]:Int):=by simp[IJ]
theorem Rd.hd2 (w:World) (a b t):Rd (w.alloc (.cells #[a,b] t)) (w.heap.size+1) 2 (some ⟨w.heap.size,0,none⟩) 1 1 [a,b]:=
 ⟨Nr _,by unfold maxLen;omega,rfl,fun _=>⟨_,0,rfl,om,fun i u hu=>by
  rw[cK];exact(Ao w _ _ _ i).trans (by simpa using hu)⟩⟩
def hget (hs:List (Value×Value)) (i:Nat):Value×Value:=hs.getD i (.slice none 0 0,.slice none 0 0)
theorem Nu {hs i} (h:i<hs.length):hget hs i=hs[i]:=by
 unfold hget;rw[fZ,ja h,Dq]
theorem hcells {w B n c A hs} (h:Rd w B 2 A n c (aG hs)) (hB:B≤w.heap.size) {k} (hk:k<hs.length) {u v} (e:hs[k]=(u,v)):
  ∃b off,A=some ⟨b,off,none⟩∧∀W,Below w.heap.size w W→W.cell? ⟨b,off+k*2,none⟩=some u∧W.cell? ⟨b,off+k*2+1,none⟩=some v:=by
 have hl:=h.2.2.1;rw[bz]at hl;obtain⟨b,off,rfl,hb,hc⟩:=h.2.2.2 om;obtain⟨g1,g2⟩:=dK hs k hk;rw[e]at g1 g2;refine⟨b,off,rfl,fun W hW=>⟨(hW.cell (p:=⟨b,_,none⟩) (by show b<_;omega)).trans (hc _ _ g1),(hW.cell (p:=⟨b,_,none⟩) (by show b<_;omega)).trans ?_⟩⟩;rw[fA];exact hc _ _ g2
theorem dY.chosen {w W B base n c A} {b:Bk.ic} {hs} (L:List Nat) (hl:hs.length=b.length)
  (he:∀(i) (h:i<hs.length) (h':i<b.length),∃A1 n1 c1 A2 n2 c2,hs[i]=(.slice A1 n1 c1,.slice A2 n2 c2)∧fO w B A1 n1 c1 b[i].1∧gV w B A2 n2 c2 b[i].2)
  (hL:∀i∈L,i<b.length) (ho:W.ownsRow base 57 2 (.slice A n c) n (aG (L.map (hget hs)))) (hb:Below B w W) (hB:B≤W.heap.size):dY W W.heap.size A n c (L.map fun i=>b.getD i ([],[])):=by
 refine⟨_,Rd.bC ho,sm,fun t h h'=>?_⟩;have ht:t<L.length:=by simpa using h
 have hi:=hL _ (gG ht);obtain⟨A1,n1,c1,A2,n2,c2,e,p,q⟩:=he L[t] om hi;refine⟨A1,n1,c1,A2,n2,c2,?_,?_,?_⟩
 ·rw[Ey];unfold hget;rw[fZ,ja om,Dq];exact e
 ·have:(L.map fun i=>b.getD i ([],[]))[t]=b[L[t]]:=by rw[Ey,fZ,ja hi,Dq]
  rw[this];exact(p.below hb).more hB
 ·have:(L.map fun i=>b.getD i ([],[]))[t]=b[L[t]]:=by rw[Ey,fZ,ja hi,Dq]
  rw[this];exact(q.below hb).more hB
theorem wZ (A A2 n c n2 c2 b ms w) (hv:dY w w.heap.size A n c b) (hm:jZ w w.heap.size A2 n2 c2 ms) (hle:n≤1000000):
  Calls prog 56 #[.slice A n c,.slice A2 n2 c2] w fun e w'=>∃A3 n3 c3,e= .returned (.slice A3 n3 c3)∧ax w' w.heap.size A3 n3 c3 (IJ (EJ b (fun l=>Qy.ok l ms) n))∧Below w.heap.size w w':=by
 have HV:=Aj hv;have HM:=Aj hm;have hn:=Aj hv.len;have hcp:=hv.cap;unfold maxLen at hcp;obtain⟨hcp1,hcp2⟩:=hcp;obtain⟨i0,hi0,hz0,hz1,hz2⟩:=AV xq;have HI:=Aj (And.intro hi0 (And.intro hz0 (And.intro hz1 hz2)));clear hv hm hi0 hz0 hz1 hz2;go_enter func56,ntmps56;go_wp2;go_loopw [5,6] (fun o i wr=>∃k:Nat,k≤n∧i= .int .i64 k∧∃A3 n3 c3,o= .slice A3 n3 c3∧n3≤k∧Kept (ax wr w.heap.size A3 n3 c3 (IJ (EJ b (fun l=>Qy.ok l ms) k)))∧Below w.heap.size w wr) (fun _ i _=>n-(intOf i).toNat)
 case atStart=>exact⟨0,om,rfl,none,0,0,rfl,om,⟨ax.nil w w.heap.size⟩,Ae _ _⟩
 case round=>
  obtain⟨k,hk,rfl,A3,n3,c3,rfl,mG,ho,hb⟩:=hrel;have B:=Aj hb;have hz:=hb.size;by_cases hlt:k<n
  ·have hkb:k<b.length:=by rw[←hn.1];exact hlt
   obtain⟨b0,off,A1,n1,c1,A4,n4,c4,rfl,hl,-,hc⟩:=HV.1.cells Ai hkb;obtain⟨c0,-⟩:=hc wr hb;have hs:=Aj (UX b (fun l=>Qy.ok l ms) k);have hgd:(b.getD k ([],[])).1=b[k].1:=by
    rw[fZ,ja hkb];rfl
   rw[hgd]at hs;have MT:=Aj (IG A1 A2 n1 c1 n2 c2 b[k].1 ms wr ((hl.below hb).more hz) ((HM.1.below hb).more hz));clear hc hl hb hgd;by_cases hok:Qy.ok b[k].1 ms=true
   ·rw[Ps0 hok]at hs;rw[hok]at MT;obtain⟨hi0,hz0,hz1,hz2⟩:=HI.1;clear hok;go_wp2_with (first
     |(at_builtin;refine aR _ rfl (.tmp 20) (.tmp 22) _ rfl w.heap.size 3 i0 (.int .i64 0) 1 8 underlying62 hi0 hz0 hz1 hz2 rfl Ah A3 n3 c3 _ rfl (Oa O2.1 _) (w2.heap.size+1) _ _ _ (xm [(k:Int)]) rfl (bQ.one w2 (k:Int)) (yF _) (by unfold maxLen;omega) om (by have:=B2.1.size;simp;omega) ?_;intro A5 c5 w5 hown hgrow hat;have O5:=Aj hown;have B5:=Aj ((B2.1.alloc B2.1.size _).grown hgrow (by have:=B2.1.size;simp;omega) (fun r e=>(ae O2.1 r e).1));clear hown hgrow hat)
     |(go_at_call 23;refine MT.1.mono ?_;rintro e w2 ⟨rfl,hg⟩;have B2:=Aj (B.1.trans (hg.below.mono hz));have O2:Kept (ax w2 w.heap.size A3 n3 c3 (IJ (EJ b (fun l=>Qy.ok l ms) k))):=⟨aN ho.1 hg.below⟩;clear hg MT))
    go_roundw
    case rel=>exact⟨k+1,om,by go_num,A5,n3+1,c5,rfl,om,⟨by rw[hs.1,Ym];unfold ax;rw[mX];exact O5.1⟩,B5.1⟩
    case measure=>simp[intOf];omega
   ·rw[Ng hok]at hs;have hok:Qy.ok b[k].1 ms=false:=by simpa using hok
    rw[hok]at MT;clear hok;go_wp2_with (go_at_call 23;refine MT.1.mono ?_;rintro e w2 ⟨rfl,hg⟩;have B2:=Aj (B.1.trans (hg.below.mono hz));have O2:Kept (ax w2 w.heap.size A3 n3 c3 (IJ (EJ b (fun l=>Qy.ok l ms) k))):=⟨aN ho.1 hg.below⟩;clear hg MT);go_roundw
    case rel=>exact⟨k+1,om,by go_num,A3,n3,c3,rfl,om,⟨by rw[hs.1];exact O2.1⟩,B2.1⟩
    case measure=>simp[intOf];omega
  ·obtain rfl:k=n:=by omega
   clear hb;go_wp2;go_ret;exact⟨A3,n3,c3,rfl,ho.1,B.1⟩
theorem EK (A A2 n c n2 c2 b ms w) (hv:dY w w.heap.size A n c b) (hm:jZ w w.heap.size A2 n2 c2 ms) (hle:n≤1000000):
  Calls prog 26 #[.slice A n c,.slice A2 n2 c2] w fun e w'=>∃A3 n3 c3,e= .returned (.slice A3 n3 c3)∧dY w' w'.heap.size A3 n3 c3 (wY b fun l=>Qy.ok l ms)∧Below w.heap.size w w':=by
 have NU:=Aj (wZ A A2 n c n2 c2 b ms w hv hm hle);have hn:=Aj hv.len;have hv':=hv;obtain⟨hs,hrd,EU,IY⟩:=hv';have HR:=Aj hrd;have HL:=Aj EU;have HE:=Aj IY;have SE:=Aj (UZ b fun l=>Qy.ok l ms);have LT:Kept (∀i∈EJ b (fun l=>Qy.ok l ms) n,i<b.length):=⟨fun i hi=>by rw[←hv.len];exact UY hi⟩
 have LE:=Aj (Ns b (fun l=>Qy.ok l ms) n);obtain⟨i0,hi0,hz0,hz1,hz2⟩:=AV L8;have HI:=Aj (And.intro hi0 (And.intro hz0 (And.intro hz1 hz2)));rw[←hv.len]at SE;clear hv hm hi0 hz0 hz1 hz2 hrd EU IY;generalize EJ b (fun l=>Qy.ok l ms) n=L at*;generalize (wY b fun l=>Qy.ok l ms)=R at*;go_enter func26,ntmps26;go_upto_region 4 with(go_at_call 56;refine NU.1.mono ?_;rintro e w2 ⟨A3,n3,c3,rfl,ho,hb⟩;have V2:=Aj (ax.rd ho);have B2:=Aj hb;have n2':=ho.len;rw[sK]at n2';have N2:=Aj n2';clear ho hb NU n2')
 have hcp:=V2.1.1;have hcm:=V2.1.2.1;unfold maxLen at hcm;have mG:n3≤1000000:=by have:=N2.1;have:=LE.1;omega
 go_loopw [5,7] (fun o i wr=>∃k:Nat,k≤n3∧i= .int .i64 k∧∃A4 c4,o= .slice A4 k c4∧Kept (wr.ownsRow w2.heap.size 57 2 (.slice A4 k c4) k (aG ((L.take k).map (hget hs))))∧Below w2.heap.size w2 wr) (fun _ i _=>n3-(intOf i).toNat)
 case atStart=>exact⟨0,om,rfl,none,0,rfl,⟨AX _ _ _ _⟩,Ae _ _⟩
 case round=>
  obtain⟨k,hk,rfl,A4,c4,rfl,ho,hb⟩:=hrel;have B:=Aj hb;have hz:=hb.size;by_cases hlt:k<n3
  ·have Yn:k<L.length:=by rw[←N2.1];exact hlt
   have hkn:k< (IJ L).length:=by rw[sK];exact Yn
   obtain⟨b3,abE,rfl,hb3,hc3⟩:=V2.1.at_ hkn;have c3:=(hb.cell (p:=⟨b3,abE+k,none⟩) (by show b3<_;exact hb3)).trans hc3;rw[Nt L k hkn Yn]at c3;have hj:=LT.1 _ (gG Yn);have hjh:L[k]<hs.length:=by rw[HL.1];exact hj
   obtain⟨A1,n1,c1,A9,n9,c9,he,-,-⟩:=HE.1 _ hjh hj;obtain⟨b0,off,rfl,hc⟩:=hcells HR.1 Ai hjh he;obtain⟨d0,d1⟩:=hc wr (B2.1.trans (hb.mono B2.1.size));have hh:Kept (hget hs L[k]=(.slice A1 n1 c1,.slice A9 n9 c9)):=⟨(Nu hjh).trans he⟩
   have hjn:L[k]<n:=by rw[hn.1];exact hj
   have hT:=Aj (Ts Yn);clear hc hc3 hb hj hjh he;generalize L[k]=j at*;obtain⟨hi0,hz0,hz1,hz2⟩:=HI.1;go_wp2_with (at_builtin;refine aR _ rfl (.tmp 17) (.tmp 25) _ rfl w2.heap.size 57 i0 (.agg #[.slice none 0 0,.slice none 0 0]) 2 48 underlying24 hi0 hz0 hz1 hz2 rfl Ah A4 k c4 _ rfl (Oa ho.1 _) (wr.heap.size+1) _ _ _ [.slice A1 n1 c1,.slice A9 n9 c9] rfl (Rd.hd2 wr _ _ _) (by intro u hu;simp at hu;rcases hu with rfl|rfl<;>rfl) (by unfold maxLen;omega) om (by simp;omega) ?_;intro A5 c5 w5 hown hgrow hat;have O5:=Aj hown;have B5:=Aj ((B.1.alloc hz _).grown hgrow (by simp;omega) (fun r e=>(ae ho.1 r e).1));clear hown hgrow hat);go_roundw
   case rel=>exact⟨k+1,om,by go_num,A5,c5,rfl,⟨by rw[hT.1,dR,lW,Az,hh.1];exact O5.1⟩,B5.1⟩
   case measure=>simp[intOf];omega
  ·obtain rfl:k=n3:=by omega
   have ht:L.take k=L:=iM (by have:=N2.1;omega);rw[ht]at ho;have BX:=Aj (B2.1.trans (hb.mono B2.1.size));clear hb;go_wp2;go_ret;refine⟨A4,k,c4,rfl,?_,BX.1⟩;rw[←SE.1];exact dY.chosen L HL.1 HE.1 LT.1 ho.1 BX.1 BX.1.size
end
section
open Go.RowKit Go.Shelf
theorem Yo (n:Nat) (hn:n≤1000000) (w):(Instr.makeSlice 24 (.int .i64 n) (.int .i64 n)).run prog w= .ok (.slice (some ⟨w.heap.size,0,none⟩) n n) (w.alloc (.cells (madeCells #[.slice none 0 0,.slice none 0 0] (n*2)) 57)):=by
 obtain⟨i0,hi0,hz0,hz1,hz2⟩:=AV L8;have:=Eb (P:=prog) w 24 57 i0 (.agg #[.slice none 0 0,.slice none 0 0]) underlying24 hi0 hz0 .i64 .i64 (n:Int) (n:Int) om om (by rw[hz1];simp;omega) (by rw[hz2];omega) om;rw[hz1]at this;simpa[Value.cells]using this
theorem Yp (n:Nat) (hn:n≤1000000) (w):(Instr.makeSlice 54 (.int .i64 n) (.int .i64 n)).run prog w= .ok (.slice (some ⟨w.heap.size,0,none⟩) n n) (w.alloc (.cells (madeCells #[.string ByteArray.empty,.string ByteArray.empty] (n*2)) 59)):=by
 obtain⟨i0,hi0,hz0,hz1,hz2⟩:=AV QR;have:=Eb (P:=prog) w 54 59 i0 (.agg #[.string ByteArray.empty,.string ByteArray.empty]) underlying54 hi0 hz0 .i64 .i64 (n:Int) (n:Int) om om (by rw[hz1];simp;omega) (by rw[hz2];omega) om;rw[hz1]at this;simpa[Value.cells]using this
def ClP (g n:Nat) (hs:List (Value×Value)) (b:Bk.ic) (k:Nat) (W:World):Prop:=
 ∃ks:List (Value×Value),W.heap[g]? =some (.cells (aG ks).toArray 57 (0,0))∧ks.length=n∧(∀i,k≤i→ks[i]? =hs[i]?)∧
  ∀(i:Nat) (h:i<ks.length) (h':i<b.length),i<k→∃A1 n1 c1 A2 n2 c2,ks[i]=(.slice A1 n1 c1,.slice A2 n2 c2)∧bP W (g+1) A1 n1 c1 b[i].1∧bq W (g+1) A2 n2 c2 b[i].2
theorem ClP.step {g n k} {hs ks:List (Value×Value)} {b W W' A1 A2 n1 c1 n2 c2} (hlen:ks.length=n) (hrest:∀i,k≤i→ks[i]? =hs[i]?)
  (hown:∀(i) (h:i<ks.length) (h':i<b.length),i<k→∃A1 n1 c1 A2 n2 c2,ks[i]=(.slice A1 n1 c1,.slice A2 n2 c2)∧bP W (g+1) A1 n1 c1 b[i].1∧bq W (g+1) A2 n2 c2 b[i].2) (hk:k<n) (hkb:k<b.length)
  (hg:W.grownBy W' (some g)) (hr:W'.heap[g]? =some (.cells (aG (ks.set k (.slice A1 n1 c1,.slice A2 n2 c2))).toArray 57 (0,0))) (h1:bP W' (g+1) A1 n1 c1 b[k].1) (h2:bq W' (g+1) A2 n2 c2 b[k].2):ClP g n hs b (k+1) W':=by
 refine⟨_,hr,by simp[hlen],fun i hi=>?_,fun i h h' hik=>?_⟩
 ·rw[List.getElem?_set_ne om];exact hrest i om
 ·by_cases e:i=k
  ·subst e;exact⟨A1,n1,c1,A2,n2,c2,sm,h1,h2⟩
  ·have hi:i<ks.length:=by simpa using h
   obtain⟨B1,m1,d1,B2,m2,d2,q,o1,o2⟩:=hown i hi h' om;refine⟨B1,m1,d1,B2,m2,d2,?_,bV o1 hg om,bV o2 hg om⟩;rw[List.getElem_set_ne (fun q=>e q.symm)];exact q
theorem P8 (ks k) (h:k<ks.length) (u v):((aG ks).set (k*2) u).set (k*2+1) v=aG (ks.set k (u,v)):=by
 unfold aG
 induction ks generalizing k with
 |nil=>simp at h
 |cons x ks ih=>
  cases k with
  |zero=>rfl
  |succ k=>
   have h':k<ks.length:=by simpa using h
   rw[Au,show(x::ks).set (k+1) (u,v)=x::ks.set k (u,v)from rfl,Au,←ih k h'];rw[show(k+1)*2=k*2+1+1 from om]
   rfl
theorem P9 {hs} (h:∀i (h:i<hs.length),∃A1 n1 c1 A2 n2 c2,hs[i]=(.slice A1 n1 c1,.slice A2 n2 c2)):∀v∈aG hs,v.oneCell'=true:=by
 intro v hv;unfold aG at hv;obtain⟨x,hx,hv⟩:=mh.1 hv;obtain⟨i,hi,rfl⟩:=jw.1 hx;obtain⟨A1,n1,c1,A2,n2,c2,e⟩:=h i hi;rw[e]at hv;simp at hv;rcases hv with rfl|rfl<;>rfl
theorem KV (w:World) (a v):w.grownBy (w.setCell a v) (some a.block):=⟨rfl,rfl,rfl,sm,fun k _ hne=>heap_setCell_other w a k v (fun e=>hne (by rw[e]))⟩
theorem U0 {a b c:World} {g r} (h1:a.grownBy b (some g)) (h2:b.grownBy c (some r)) (hr:a.heap.size≤r):a.grownBy c (some g):=
 ⟨h2.os.trans h1.os,h2.tape.trans h1.tape,h2.output.trans h1.output,Lt h1.size h2.size,fun k hk hne=>(h2.block k (j6 hk h1.size) (fun e=>by have:=Oj e;omega)).trans (h1.block k hk hne)⟩
theorem Nv {w w':World} {r} (h:w.drew.grownBy w' r):w.grownBy w' r:=⟨h.os,h.tape,h.output,h.size,h.block⟩
theorem vI {w:World} {base g n sz e xs} (hb:base≤g) (hl:xs.length=n*sz) (hn:n≤maxLen) (h:w.heap[g]? =some (.cells xs.toArray e (0,0))):w.ownsRow base e sz (.slice (some ⟨g,0,none⟩) n n) n xs:=
 ⟨hl,.inr ⟨g,n,xs.toArray,rfl,hb,h,Nr _,hn,by simpa using hl,by simp[←hl]⟩⟩
theorem aez:(prog.info? 57).map (·.size)=some 2:=kr
theorem aeA:(prog.info? 59).map (·.size)=some 2:=kr
theorem aeB:(prog.info? 127).map (·.size)=some 2:=kr
theorem Qa (A n c b w) (hv:dY w w.heap.size A n c b) (hsz:n≤1000000) (hin:∀s∈b,s.1.length≤1000000∧s.2.length≤1000000):
  Calls prog 55 #[.slice A n c] w fun e w'=>∃A3 n3 c3,e= .returned (.slice A3 n3 c3)∧dY w' w'.heap.size A3 n3 c3 b∧Below w.heap.size w w':=by
 have hn:=Aj hv.len;have hcp:=hv.cap;unfold maxLen at hcp;obtain⟨hcp1,hcp2⟩:=hcp;obtain⟨hs,hrd,EU,IY⟩:=hv;have HL:=Aj EU;have HE:=Aj IY;have Zd:=Aj hin;have mk:=fun W=>Yo n hsz W
 have aeC:(madeCells #[.slice none 0 0,.slice none 0 0] (n*2)).toList.length=(aG hs).length:=by rw[bz,EU,←hn.1];simp[madeCells]
 have uQ:=Aj (show(aG hs).length=Nat.min n n*2 by rw[bz,EU,←hn.1];simp);have hone:=Aj (P9 (hs:=hs) fun i hi=>by
  obtain⟨A1,n1,c1,A2,n2,c2,e,-,-⟩:=IY i hi om;exact⟨A1,n1,c1,A2,n2,c2,e⟩)
 have SRC:=Aj (fun(W:World) (h:Below w.heap.size w W) (hp:0<n)=>Rd.src (hrd.below h) hp);have MC:=Aj aeC;have hz0:Kept (0< (aG hs).length→0<n):=⟨fun h=>by rw[bz,EU,←hn.1]at h;omega⟩
 clear hrd EU IY hin aeC;go_enter func55,ntmps55;go_upto_region 4 with(refine EI 2 Ah rfl (.tmp 9) (.tmp 10) 24 24 rfl 57 underlying24 aez _ _ _ _ _ _ rfl rfl w.heap.size 0 (madeCells #[.slice none 0 0,.slice none 0 0] (n*2)).toList 57 (by rw[Array.toArray_toList];exact Av w _) (aG hs) uQ.1 (fun h=>⟨rfl,SRC.1 _ ((Ae _ _).alloc Ai _) (hz0.1 h)⟩) (by rw[MC.1];omega) hone.1 ?_;intro w2 hg2 Uc;rw[nJ MC.1]at hg2;have B2:=Aj (((Ae w.heap.size w).alloc Ai (.cells (madeCells #[.slice none 0 0,.slice none 0 0] (n*2)) 57)).grown Uc sm (fun r e=>by cases e;exact Nr _)))
 have CL0:ClP w.heap.size n hs b 0 w2:=⟨hs,hg2.out,by rw[HL.1,←hn.1],fun _ _=>rfl,fun i h h' hi=>om⟩
 clear hg2 Uc mk uQ SRC hz0 hone;go_loopw [14] (fun i wr=>∃k:Nat,k≤n∧i= .int .i64 k∧Kept (ClP w.heap.size n hs b k wr)∧Below w.heap.size w wr) (fun i _=>n-(intOf i).toNat)
 case atStart=>exact⟨0,bH _,rfl,⟨CL0⟩,B2.1⟩
 case round=>
  obtain⟨k,hk,rfl,hcl,hb⟩:=hrel;by_cases hlt:k<n
  ·have hkb:k<b.length:=by rw[←hn.1];exact hlt
   have hkh:k<hs.length:=by rw[HL.1];exact hkb
   obtain⟨ks,hrow,hlen,hrest,hown⟩:=hcl.1;obtain⟨A1,n1,c1,A2,n2,c2,he,hl,hm⟩:=HE.1 k hkh hkb;have hkk:k<ks.length:=by rw[hlen];exact hlt
   have hks:ks[k]=(.slice A1 n1 c1,.slice A2 n2 c2):=by
    have:=hrest k Ai;rw[ja hkk,ja hkh,he]at this;exact Oj this
   obtain⟨g1,g2⟩:=dK ks k hkk;rw[hks]at g1 g2;have hn1:n1≤1000000:=by rw[hl.len];exact(Zd.1 _ (gG hkb)).1
   have hn2:n2≤1000000:=by rw[hm.len];exact(Zd.1 _ (gG hkb)).2
   have R1:=Aj (fun(W:World) (h:Below w.heap.size w W)=>hl.below h);have R2:=Aj (fun(W:World) (h:Below w.heap.size w W)=>hm.below h);have mk1:=fun W=>Yp n1 hn1 W
   have hsz:=hb.size;have hgl:w.heap.size<wr.heap.size:=(Ge.1 hrow).1;have q1:wr.cell? ⟨w.heap.size,k*2,none⟩=some (.slice A1 n1 c1):=(Co _ _ _ _ _ _ hrow).trans (by simpa using g1);have q2:wr.cell? ⟨w.heap.size,k*2+1,none⟩=some (.slice A2 n2 c2):=(Co _ _ _ _ _ _ hrow).trans (by simpa using g2);have F1:∀o o',((wr.alloc o).alloc o').heap[w.heap.size]? =some (.cells (aG ks).toArray 57 (0,0)):=fun o o'=>by
    rw[((Ga wr o none).trans (Ga (wr.alloc o) o' none)).block _ hgl sm];exact hrow
   have q3:∀o o',((wr.alloc o).alloc o').cell? ⟨w.heap.size,k*2,none⟩=some (.slice A1 n1 c1):=fun o o'=>(Co _ _ _ _ _ _ (F1 o o')).trans (by simpa using g1)
   have q4:∀o o',((wr.alloc o).alloc o').frozen? ⟨w.heap.size,k*2,none⟩=false:=fun o o'=>Fr _ _ _ _ _ (F1 o o')
   have hset:=Aj (P8 ks k hkk);have aeD:Kept (∀v:Value,((aG ks).set (k*2) v).toArray[k*2+1]? =some (.slice A2 n2 c2)):=⟨fun v=>by rw[List.getElem?_toArray,List.getElem?_set_ne om];exact g2⟩
   have Zm:Kept (∀u v:Value,(((aG ks).set (k*2) u).set (k*2+1) v).toArray[k*2+1]? =some v):=⟨fun u v=>by rw[List.getElem?_toArray,List.getElem?_set_self (by rw[List.length_set,bz];omega)]⟩
   have Zn:Kept (∀v:Value,((aG ks).set (k*2) v).toArray[k*2]? =some v):=⟨fun v=>by rw[List.getElem?_toArray,List.getElem?_set_self (by rw[bz];omega)]⟩
   obtain⟨w3,hw3⟩:∃w3,w3=(((wr.setCell ⟨w.heap.size,k*2,none⟩ (.slice (some ⟨wr.heap.size+1,0,none⟩) n1 n1)).alloc (.cells #[.slice A1 n1 c1,.slice A2 n2 c2] 57)).alloc (.cells (madeCells #[.string ByteArray.empty,.string ByteArray.empty] (n1*2)) 59)):=⟨_,rfl⟩
   have E4:wr.grownBy w3 (some w.heap.size):=by rw[hw3];exact((KV wr ⟨w.heap.size,k*2,none⟩ _).trans (Ga _ _ _)).trans (Ga _ _ _)
   have E0:(wr.setCell ⟨w.heap.size,k*2,none⟩ (.slice (some ⟨wr.heap.size+1,0,none⟩) n1 n1)).grownBy w3 none:=by rw[hw3];exact(Ga _ _ _).trans (Ga _ _ _)
   have E1:w3.heap[w.heap.size]? =some (.cells ((aG ks).set (k*2) (.slice (some ⟨wr.heap.size+1,0,none⟩) n1 n1)).toArray 57 (0,0)):=by
    rw[E0.block _ (by simpa using hgl) sm,Ag _ _ _ _ _ _ hrow];simp
   have E2:w3.heap[wr.heap.size+1]? =some (.cells (madeCells #[.string ByteArray.empty,.string ByteArray.empty] (n1*2)) 59 (0,0)):=by
    rw[hw3];have:=AL ((wr.setCell ⟨w.heap.size,k*2,none⟩ (.slice (some ⟨wr.heap.size+1,0,none⟩) n1 n1)).alloc (.cells #[.slice A1 n1 c1,.slice A2 n2 c2] 57)) (.cells (madeCells #[.string ByteArray.empty,.string ByteArray.empty] (n1*2)) 59);simpa using this
   have E3:w3.heap[wr.heap.size]? =some (.cells #[.slice A1 n1 c1,.slice A2 n2 c2] 57 (0,0)):=by
    rw[hw3];have:=AL (wr.setCell ⟨w.heap.size,k*2,none⟩ (.slice (some ⟨wr.heap.size+1,0,none⟩) n1 n1)) (.cells #[.slice A1 n1 c1,.slice A2 n2 c2] 57);exact(Aw _ _ _ sm).trans (by simpa using this)
   have E5:w3.heap.size=wr.heap.size+2:=by rw[hw3];simp
   have anJ:=Aj hrow;have HB:=Aj hb;have aeE:=Aj hrest;have HOWN:=Aj hown;clear hrow hb hrest hown hl hm he hkh;have HW3:=Aj hw3.symm;clear F1 g1 g2 hw3;go_upto_region 7 with fail;rw[HW3.1];clear HW3;have y0:w3.cell? ⟨w.heap.size,k*2,none⟩=some (.slice (some ⟨wr.heap.size+1,0,none⟩) n1 n1):=(Co _ _ _ _ _ _ E1).trans (Zn.1 _);have y1:w3.cell? ⟨wr.heap.size,0,none⟩=some (.slice A1 n1 c1):=Co _ _ 0 _ _ _ E3;have B3:Below w.heap.size w w3:=HB.1.grown E4 HB.1.size (fun r e=>by cases e;exact Nr _);have X1:=Aj E1;have X2:=Aj E2;have X3:=Aj E3;have X4:=Aj E4;have X5:=Aj E5;have HB3:=Aj B3;have Yq:Kept ((ry b[k].1).length=Nat.min n1 n1*2):=⟨by rw[eB,←(R1.1 w (Ae _ _)).len];simp⟩
   have TU:Kept ((madeCells #[.string ByteArray.empty,.string ByteArray.empty] (n1*2)).toList.length=(ry b[k].1).length):=⟨by rw[Yq.1];simp[madeCells]⟩
   have ah9:Kept (0< (ry b[k].1).length→0<n1):=⟨fun h=>by rw[Yq.1]at h;simp at h;exact h⟩
   clear E0 E1 E2 E3 E4 E5 B3 mk1 q1 q2 q3 q4;go_region_held3 (fun w'=>w'.cell? ⟨w.heap.size,k*2,none⟩=some (.slice (some ⟨wr.heap.size+1,0,none⟩) n1 n1)∧w'.cell? ⟨wr.heap.size,0,none⟩=some (.slice A1 n1 c1)) (first|exact⟨y0,y1⟩|exact k9)
    (first
     |(refine vH 2 Ah ?g1 (.tmp 31) (.tmp 33) 54 54 ?g2 59 underlying54 aeA (some ⟨wr.heap.size+1,0,none⟩) A1 n1 n1 n1 c1 ?g3 ?g4 (wr.heap.size+1) 0 (madeCells #[.string ByteArray.empty,.string ByteArray.empty] (n1*2)).toList 59 ?g5 (ry b[k].1) ?g6 ?g7 ?g8 ?g9 ?_;(case g1=>rfl);(case g2=>rfl);(case g3=>rfl);(case g4=>rfl);(case g5=>rw[Array.toArray_toList];exact X2.1);(case g6=>exact Yq.1);(case g7=>exact fun h=>⟨rfl,Rd.src (R1.1 _ HB3.1.drew) (ah9.1 h)⟩);(case g8=>rw[TU.1];omega);(case g9=>exact LD _);intro w4 hg4 Iw;rw[nJ TU.1]at hg4;have Y1:=Aj ((Iw.block w.heap.size (by have:=X5.1;show _<w3.heap.size;omega) (by intro e;have:=Oj e;omega)).trans X1.1);have Y3:=Aj ((Iw.block wr.heap.size (by have:=X5.1;show _<w3.heap.size;omega) (by intro e;have:=Oj e;omega)).trans X3.1);have k9:w4.cell? ⟨w.heap.size,k*2,none⟩=some (.slice (some ⟨wr.heap.size+1,0,none⟩) n1 n1)∧w4.cell? ⟨wr.heap.size,0,none⟩=some (.slice A1 n1 c1):=⟨(Co _ _ _ _ _ _ Y1.1).trans (Zn.1 _),Co _ _ 0 _ _ _ Y3.1⟩;have Y2:=Aj hg4.out;have Y4:=Aj Iw;clear hg4 Iw))
   have G4:wr.grownBy w4 (some w.heap.size):=U0 X4.1 (Nv Y4.1) om;have B4:=Aj (HB.1.grown G4 HB.1.size (fun r e=>by cases e;exact Nr _));have IU:wr.heap.size+2≤w4.heap.size:=by have h1:=Y4.1.size;have h2:=X5.1;have h1:w3.heap.size≤w4.heap.size:=h1;omega
   have mk2:=fun W=>sH n2 hn2 W
   have z1:w4.cell? ⟨wr.heap.size,1,none⟩=some (.slice A2 n2 c2):=Co _ _ 1 _ _ _ Y3.1;have F2:∀o,(w4.alloc o).heap[w.heap.size]? =some (.cells ((aG ks).set (k*2) (.slice (some ⟨wr.heap.size+1,0,none⟩) n1 n1)).toArray 57 (0,0)):=fun o=>(Aw _ _ _ om).trans Y1.1
   have q5:∀o,(w4.alloc o).cell? ⟨w.heap.size,k*2+1,none⟩=some (.slice A2 n2 c2):=fun o=>(Co _ _ _ _ _ _ (F2 o)).trans (aeD.1 _)
   have q6:∀o,(w4.alloc o).frozen? ⟨w.heap.size,k*2+1,none⟩=false:=fun o=>Fr _ _ _ _ _ (F2 o)
   obtain⟨w5,hw5⟩:∃w5,w5=((w4.alloc (.cells (madeCells #[.int .i64 0,.int .u64 0] (n2*2)) 127)).setCell ⟨w.heap.size,k*2+1,none⟩ (.slice (some ⟨w4.heap.size,0,none⟩) n2 n2)):=⟨_,rfl⟩
   have E4:wr.grownBy w5 (some w.heap.size):=by rw[hw5];exact(G4.trans (Ga _ _ _)).trans (KV _ ⟨w.heap.size,k*2+1,none⟩ _)
   have E6:w4.grownBy w5 (some w.heap.size):=by rw[hw5];exact(Ga _ _ _).trans (KV _ ⟨w.heap.size,k*2+1,none⟩ _)
   have E1:w5.heap[w.heap.size]? =some (.cells (((aG ks).set (k*2) (.slice (some ⟨wr.heap.size+1,0,none⟩) n1 n1)).set (k*2+1) (.slice (some ⟨w4.heap.size,0,none⟩) n2 n2)).toArray 57 (0,0)):=by
    rw[hw5];rw[Ag _ _ _ _ _ _ (F2 _)];simp
   have E2:w5.heap[w4.heap.size]? =some (.cells (madeCells #[.int .i64 0,.int .u64 0] (n2*2)) 127 (0,0)):=by
    rw[hw5];rw[heap_setCell_other _ _ _ _ (by show w4.heap.size≠w.heap.size;omega)];exact AL w4 _
   have E3:w5.heap[wr.heap.size]? =some (.cells #[.slice A1 n1 c1,.slice A2 n2 c2] 57 (0,0)):=(E6.block _ om (by intro e;have:=Oj e;omega)).trans Y3.1;have E5:w5.heap[wr.heap.size+1]? =some (.cells (ry b[k].1).toArray 59 (0,0)):=(E6.block _ om (by intro e;have:=Oj e;omega)).trans Y2.1;have E7:w5.heap.size=w4.heap.size+1:=by rw[hw5];simp
   have Hz:=Aj hw5.symm;clear F2 G4 E6 hw5;go_upto_region 9 with fail;rw[Hz.1];clear Hz;have y2:w5.cell? ⟨w.heap.size,k*2+1,none⟩=some (.slice (some ⟨w4.heap.size,0,none⟩) n2 n2):=(Co _ _ _ _ _ _ E1).trans (Zm.1 _ _);have y3:w5.cell? ⟨wr.heap.size,1,none⟩=some (.slice A2 n2 c2):=Co _ _ 1 _ _ _ E3;have PY:=Aj (HB.1.grown E4 HB.1.size (fun r e=>by cases e;exact Nr _));have Z1:=Aj E1;have Z2:=Aj E2;have Z3:=Aj E3;have Z4:=Aj E4;have Z5:=Aj E5;have Z7:=Aj E7;have Yr:Kept ((lN b[k].2).length=Nat.min n2 n2*2):=⟨by rw[jM,←(R2.1 w (Ae _ _)).len];simp⟩
   have aeF:Kept ((madeCells #[.int .i64 0,.int .u64 0] (n2*2)).toList.length=(lN b[k].2).length):=⟨by rw[Yr.1];simp[madeCells]⟩
   have aia:Kept (0< (lN b[k].2).length→0<n2):=⟨fun h=>by rw[Yr.1]at h;simp at h;exact h⟩
   have IU:=Aj IU;clear E1 E2 E3 E4 E5 E7 mk2 q5 q6 z1 k9;go_region_held3 (fun w'=>w'.cell? ⟨w.heap.size,k*2+1,none⟩=some (.slice (some ⟨w4.heap.size,0,none⟩) n2 n2)∧w'.cell? ⟨wr.heap.size,1,none⟩=some (.slice A2 n2 c2)) (first|exact⟨y2,y3⟩|exact k9)
    (first
     |(refine vH 2 Ah ?g1 (.tmp 47) (.tmp 49) 55 55 ?g2 127 underlying55 aeB (some ⟨w4.heap.size,0,none⟩) A2 n2 n2 n2 c2 ?g3 ?g4 w4.heap.size 0 (madeCells #[.int .i64 0,.int .u64 0] (n2*2)).toList 127 ?g5 (lN b[k].2) ?g6 ?g7 ?g8 ?g9 ?_;(case g1=>rfl);(case g2=>rfl);(case g3=>rfl);(case g4=>rfl);(case g5=>rw[Array.toArray_toList];exact Z2.1);(case g6=>exact Yr.1);(case g7=>exact fun h=>⟨rfl,Rd.src (R2.1 _ PY.1.drew) (aia.1 h)⟩);(case g8=>rw[aeF.1];omega);(case g9=>exact LH _);intro w6 Qc U4;rw[nJ aeF.1]at Qc;have V1:=Aj ((U4.block w.heap.size (by have:=Z7.1;have:=IU.1;show _<w5.heap.size;omega) (by intro e;have:=Oj e;have:=IU.1;omega)).trans Z1.1);have V3:=Aj ((U4.block wr.heap.size (by have:=Z7.1;have:=IU.1;show _<w5.heap.size;omega) (by intro e;have:=Oj e;have:=IU.1;omega)).trans Z3.1);have V5:=Aj ((U4.block (wr.heap.size+1) (by have:=Z7.1;have:=IU.1;show _<w5.heap.size;omega) (by intro e;have:=Oj e;have:=IU.1;omega)).trans Z5.1);have k9:w6.cell? ⟨w.heap.size,k*2+1,none⟩=some (.slice (some ⟨w4.heap.size,0,none⟩) n2 n2)∧w6.cell? ⟨wr.heap.size,1,none⟩=some (.slice A2 n2 c2):=⟨(Co _ _ _ _ _ _ V1.1).trans (Zm.1 _ _),Co _ _ 1 _ _ _ V3.1⟩;have V2:=Aj Qc.out;have V4:=Aj U4;clear Qc U4))
   have G6:wr.grownBy w6 (some w.heap.size):=U0 Z4.1 (Nv V4.1) (by have:=IU.1;omega);have CL6:=Aj (ClP.step (A1:=some ⟨wr.heap.size+1,0,none⟩) (n1:=n1) (c1:=n1) (A2:=some ⟨w4.heap.size,0,none⟩) (n2:=n2) (c2:=n2) hlen aeE.1 HOWN.1 hlt hkb G6 (by rw[←hset.1];exact V1.1)
    (vI om (by rw[Yq.1];simp) (by unfold maxLen;omega) V5.1) (vI (by have:=IU.1;omega) (by rw[Yr.1];simp) (by unfold maxLen;omega) V2.1))
   have HB6:=Aj (HB.1.grown G6 HB.1.size (fun r e=>by cases e;exact Nr _));clear G6;go_wp2;go_roundw
   case rel=>exact⟨k+1,om,by go_num,CL6,HB6.1⟩
   case measure=>simp[intOf];omega
  ·obtain rfl:k=n:=by omega
   obtain⟨ks,hrow,hlen,hrest,hown⟩:=hcl.1;have hgl:w.heap.size<wr.heap.size:=(Ge.1 hrow).1;have RES:Kept (dY wr wr.heap.size (some ⟨w.heap.size,0,none⟩) k k b):=⟨⟨ks,Rd.bC (vI (base:=0) (bH _) (by rw[bz,hlen]) (by unfold maxLen;omega) hrow),by rw[hlen];exact hn.1,fun i h h'=>by
    obtain⟨A1,n1,c1,A2,n2,c2,e,o1,o2⟩:=hown i h h' om;exact⟨A1,n1,c1,A2,n2,c2,e,o1.rd,o2.rd⟩⟩⟩
   have BX:=Aj hb;clear hb hcl hrow hrest hown;go_wp2;go_ret;exact⟨_,_,_,rfl,RES.1,BX.1⟩
end
namespace Bk
open Cs (gH)
theorem abG {b} (h1:b.length≤1048576) (h2:dm b≤16777216) (h3:∀s∈b,one s=0) (h4:b.Pairwise fun x y=>Lb.cmpL x.1 y.1<0):bR b=0:=by
 unfold bR;rw[Ng om];rcases Lb.mZ (ES b) b.length with⟨h,_⟩|⟨k,hk,hk0,he,_⟩
 ·exact h
 ·exfalso;apply hk0;unfold ES;rw[gd hk,Ng (by simpa using h3 _ (gG hk))];unfold dF;by_cases q:k=0
  ·rw[Ps0 q]
  ·rw[Ng q,gd hk,gd (show k-1<b.length from om)];have h5:=BC.1 h4 (k-1) k om hk om;unfold iQ;rw[Ng om,Ng om]
theorem abH {b} (h:bR b=0):b.Pairwise fun x y=>Lb.cmpL x.1 y.1<0:=by
 obtain⟨-,-,-,h4⟩:=fF h;rw[BC];intro i j hi hj hij;obtain⟨d,rfl⟩:∃d,j=i+1+d:=⟨j-(i+1),om⟩
 induction d with
 |zero=>exact h4 i hj
 |succ d ih=>exact Lb.Jm (ih om om) (h4 (i+1+d) hj)
theorem Nw {a b} (h:a.Sublist b):dm a≤dm b:=by
 unfold dm
 induction h with
 |slnil=>exact Nr _
 |cons x _ ih=>rw[Az,AZ];omega
 |cons_cons x _ ih=>rw[Az,Az,AZ,AZ];omega
theorem Ny {a b} (h:a.Sublist b) (hc:bR b=0):bR a=0:=by
 obtain⟨h1,h2,h3,-⟩:=fF hc;exact abG (Lt h.length_le h1) (Lt (Nw h) h2) (fun s hs=>h3 s (h.mem hs)) ((abH hc).sublist h)
end Bk
section
open Go.RowKit Go.Shelf
theorem rQ {X:Type} (f:X→Nat) {a b:List X} (h:a.Sublist b):(a.map f).sum≤(b.map f).sum:=by
 induction h with
 |slnil=>exact Nr _
 |cons x _ ih=>rw[Az,AZ];omega
 |cons_cons x _ ih=>rw[Az,Az,AZ,AZ];omega
theorem IK:∀M:List (List aQ),Sy.tot (Lb.strs M.flatten)=(M.map fun m=>Sy.tot (Lb.strs m)).sum
 |[]=>rfl
 |m::M=>by
  rw[Ci,Az,AZ,←IK M];simp[Sy.tot,Lb.strs]
theorem Bk.qW.sub {a b} (h:a.Sublist b) (hs:Bk.qW b):Bk.qW a:=by
 have hm:(Bk.sets a).Sublist (Bk.sets b):=h.map _;refine⟨Lt h.length_le hs.fq,?_,Lt (Bk.Nw h) hs.dm,?_⟩
 ·have h1:=hs.lab;rw[List.length_flatten]at h1⊢;exact Lt (rQ _ hm) h1
 ·have h1:=hs.str;rw[IK]at h1⊢;exact Lt (rQ _ hm) h1
theorem IL (b q):(wY b q).Sublist b:=List.filter_sublist
theorem aeG (b) (ms:List UW):Qn.fl (Bk.sets b) ms=IJ (EJ b (fun l=>Qy.ok l ms) b.length):=by
 have hl:(Bk.sets b).length=b.length:=by unfold Bk.sets;simp
 unfold Qn.fl Qn.rg IJ EJ;rw[hl]
 congr 1
 refine List.filter_congr fun i _=>?_
 unfold Bk.sets;rw[fZ,BV,fZ];cases b[i]?<;>rfl
theorem KX (p n c A b ms w) (hv:nH w w.heap.size p b) (hm:jZ w w.heap.size A n c ms) (hq:Vf b) (hin:∀s∈b,s.1.length≤1000000∧s.2.length≤1000000):
  Calls prog 25 #[.pointer (some ⟨p,0,none⟩),.slice A n c] w fun e w'=>∃A3 n3 c3,e= .returned (.slice A3 n3 c3)∧dY w' w'.heap.size A3 n3 c3 (wY b fun l=>Qy.ok l ms)∧Below w.heap.size w w':=by
 have NU:=Aj (II p n c A b ms w hv hm hq);rw[aeG]at NU;obtain⟨q,A1,n1,c1,A2,n2,c2,E,hn,hK,-,-,hc⟩:=hv.open_ Ai;have hle:=hq.len;have hcp:=hK.cap;unfold maxLen at hcp;obtain⟨hcp1,hcp2⟩:=hcp;obtain⟨hs,hrd,EU,IY⟩:=hK;have HN:=Aj hn;have HC:=Aj hc;have HR:=Aj hrd;have HL:=Aj EU;have HE:=Aj IY;have SE:=Aj (UZ b fun l=>Qy.ok l ms);have LT:Kept (∀i∈EJ b (fun l=>Qy.ok l ms) b.length,i<b.length):=⟨fun i hi=>UY hi⟩
 have LE:=Aj (Lt (Ns b (fun l=>Qy.ok l ms) b.length) hle);have CLN:Kept (∀(W:World) (A':Option Addr) (n' c':Nat),dY W W.heap.size A' n' c' (wY b fun l=>Qy.ok l ms)→n'≤1000000→Calls prog 55 #[.slice A' n' c'] W fun e w'=>∃A3 n3 c3,e= .returned (.slice A3 n3 c3)∧dY w' w'.heap.size A3 n3 c3 (wY b fun l=>Qy.ok l ms)∧Below W.heap.size W w'):=
  ⟨fun W A' n' c' hk hn'=>Qa A' n' c' _ W hk hn' (fun s hs=>hin s ((IL b _).mem hs))⟩
 obtain⟨i0,hi0,hz0,hz1,hz2⟩:=AV L8;have HI:=Aj (And.intro hi0 (And.intro hz0 (And.intro hz1 hz2)));clear hv hm hq hin hn hle hc hi0 hz0 hz1 hz2 hrd EU IY;generalize EJ b (fun l=>Qy.ok l ms) b.length=L at*;generalize (wY b fun l=>Qy.ok l ms)=R at*;go_enter func25,ntmps25;go_upto_region 3 with(go_at_call 22;refine NU.1.mono ?_;rintro e w2 ⟨A3,n3,c3,rfl,ho,hb⟩;have V2:=Aj (ax.rd ho);have B2:=Aj hb;have n2':=ho.len;rw[sK]at n2';have N2:=Aj n2';clear ho hb NU n2')
 have hcq:=V2.1.1;have hcm:=V2.1.2.1;unfold maxLen at hcm;have mG:n3≤500:=by have:=N2.1;have:=LE.1;omega
 go_loopw [5,12] (fun o i wr=>∃k:Nat,k≤n3∧i= .int .i64 k∧∃A4 c4,o= .slice A4 k c4∧Kept (wr.ownsRow w2.heap.size 57 2 (.slice A4 k c4) k (aG ((L.take k).map (hget hs))))∧Below w2.heap.size w2 wr) (fun _ i _=>n3-(intOf i).toNat)
 case atStart=>exact⟨0,om,rfl,none,0,rfl,⟨AX _ _ _ _⟩,Ae _ _⟩
 case round=>
  obtain⟨k,hk,rfl,A4,c4,rfl,ho,hb⟩:=hrel;have B:=Aj hb;have hz:=hb.size;by_cases hlt:k<n3
  ·have Yn:k<L.length:=by rw[←N2.1];exact hlt
   have hkn:k< (IJ L).length:=by rw[sK];exact Yn
   obtain⟨b3,abE,rfl,hb3,hc3⟩:=V2.1.at_ hkn;have c3:=(hb.cell (p:=⟨b3,abE+k,none⟩) (by show b3<_;exact hb3)).trans hc3;rw[Nt L k hkn Yn]at c3;have hj:=LT.1 _ (gG Yn);have hjh:L[k]<hs.length:=by rw[HL.1];exact hj
   obtain⟨A8,n8,c8,A9,n9,c9,he,-,-⟩:=HE.1 _ hjh hj;obtain⟨b0,off,rfl,hc⟩:=hcells HR.1 Ai hjh he;obtain⟨d0,d1⟩:=hc wr (B2.1.trans (hb.mono B2.1.size));obtain⟨e0,e1,-⟩:=HC.1 wr (B2.1.trans (hb.mono B2.1.size));have hh:Kept (hget hs L[k]=(.slice A8 n8 c8,.slice A9 n9 c9)):=⟨(Nu hjh).trans he⟩
   have hjn:L[k]<n1:=by rw[HN.1];exact hj
   have hT:=Aj (Ts Yn);clear hc hc3 hb hj hjh he;generalize L[k]=j at*;obtain⟨hi0,hz0,hz1,hz2⟩:=HI.1;go_wp2_with (at_builtin;refine aR _ rfl (.tmp 16) (.tmp 27) _ rfl w2.heap.size 57 i0 (.agg #[.slice none 0 0,.slice none 0 0]) 2 48 underlying24 hi0 hz0 hz1 hz2 rfl Ah A4 k c4 _ rfl (Oa ho.1 _) (wr.heap.size+1) _ _ _ [.slice A8 n8 c8,.slice A9 n9 c9] rfl (Rd.hd2 wr _ _ _) (by intro u hu;simp at hu;rcases hu with rfl|rfl<;>rfl) (by unfold maxLen;omega) om (by simp;omega) ?_;intro A5 c5 w5 hown hgrow hat;have O5:=Aj hown;have B5:=Aj ((B.1.alloc hz _).grown hgrow (by simp;omega) (fun r e=>(ae ho.1 r e).1));clear hown hgrow hat);go_roundw
   case rel=>exact⟨k+1,om,by go_num,A5,c5,rfl,⟨by rw[hT.1,dR,lW,Az,hh.1];exact O5.1⟩,B5.1⟩
   case measure=>simp[intOf];omega
  ·obtain rfl:k=n3:=by omega
   have ht:L.take k=L:=iM (by have:=N2.1;omega);rw[ht]at ho;have BX:=Aj (B2.1.trans (hb.mono B2.1.size));have RK:dY wr wr.heap.size A4 k c4 R:=by
    rw[←SE.1];exact dY.chosen L HL.1 HE.1 LT.1 ho.1 BX.1 BX.1.size
   have CL:=Aj (CLN.1 wr A4 k c4 RK om);clear hb RK;go_wp2_with (go_at_call 55;refine CL.1.mono ?_;rintro e w6 ⟨A6,n6,c6,rfl,hk6,hb⟩;have K6:=Aj hk6;have B6:=Aj (BX.1.trans (hb.mono BX.1.size));clear hk6 hb CL);go_ret;exact⟨A6,n6,c6,rfl,K6.1,B6.1⟩
end
section
open Go.RowKit Go.Shelf
theorem Bk.qW.aeH {b} (h:Bk.qW b) (hc:Bk.bR b=0):Vf b:=⟨Bk.jF hc (by have:=h.wt;omega),h.wt⟩
theorem Bk.qW.lens {b} (h:Bk.qW b):∀s∈b,s.1.length≤1000000∧s.2.length≤1000000:=fun s hs=>by
 obtain⟨i,hi,rfl⟩:=jw.1 hs;have hsub:[b[i]].Sublist b:=List.singleton_sublist.2 (gG hi);have h1:=(h.sub hsub).lab;have h2:=(h.sub hsub).dm;unfold Bk.sets at h1;unfold Bk.dm at h2;simp at h1 h2;omega
theorem KY (A A2 n c n2 c2 b ms w) (hv:dY w w.heap.size A n c b) (hm:jZ w w.heap.size A2 n2 c2 ms) (hfi:∀s∈b,Lb.Fit s.1∧Cs.In s.2) (hG:Gl w):
  Calls prog 6 #[.slice A n c,.slice A2 n2 c2] w fun e w'=>e= .returned (.bool true)∧Below w.heap.size w w':=by
 have HG:=Aj hG;have HV:=Aj hv;have HM:=Aj hm;have Zd:=Aj (fun s hs=>(hfi s hs).2);have ST:=Aj (fun(W:World) (h:Below w.heap.size w W)=>KR W (hG.below h));have BL:=Aj (P5 A n c w.heap.size b w hv Ai (fun s hs=>(hfi s hs).1));have hn:=Aj hv.len;have hcp:=hm.cap;unfold maxLen at hcp;obtain⟨hcp1,hcp2⟩:=hcp;clear hG hfi hv hm;by_cases h20:20<n2
 ·go_enter func6,ntmps6;go_wp2_with (first
   |(go_at_call 8;refine(ST.1 w1 B1.1).mono ?_;rintro e w9 ⟨rfl,hb⟩;have B9:=Aj (B1.1.trans (hb.mono B1.1.size));clear hb)
   |(go_at_call 19;refine BL.1.mono ?_;rintro e w1 ⟨v,rfl,hv,hb⟩;have B1:=Aj hb;clear hb hv BL;cases v))
  all_goals go_ret
  all_goals exact⟨rfl,B9.1⟩
 ·have Qb:=Aj (IL b fun l=>Qy.ok l ms);obtain⟨R,hR⟩:∃R,R=wY b fun l=>Qy.ok l ms:=⟨_,rfl⟩
  have SL:Kept (∀(W:World) (p:Nat),Below w.heap.size w W→nH W W.heap.size p b→Vf b→(∀s∈b,s.1.length≤1000000∧s.2.length≤1000000)→Calls prog 25 #[.pointer (some ⟨p,0,none⟩),.slice A2 n2 c2] W fun e w'=>∃A3 n3 c3,e= .returned (.slice A3 n3 c3)∧dY w' w'.heap.size A3 n3 c3 R∧Below W.heap.size W w'):=
   ⟨fun W p h hs hq hl=>by rw[hR];exact KX p n2 c2 A2 b ms W hs ((HM.1.below h).more h.size) hq hl⟩
  have FL:Kept (∀(W:World),Below w.heap.size w W→n≤1000000→Calls prog 26 #[.slice A n c,.slice A2 n2 c2] W fun e w'=>∃A3 n3 c3,e= .returned (.slice A3 n3 c3)∧dY w' w'.heap.size A3 n3 c3 R∧Below W.heap.size W w'):=
   ⟨fun W h hle=>by rw[hR];exact EK A A2 n c n2 c2 b ms W ((HV.1.below h).more h.size) ((HM.1.below h).more h.size) hle⟩
  rw[←hR]at Qb;clear hR;have EN:=Aj (fun(w1:World) (hb:Below w.heap.size w w1) (hS:Bk.qW b) (hc:Bk.bR b=0)=>EB A n c b w1 ((HV.1.below hb).more hb.size) (hS.ok hc Zd.1) (HG.1.below hb));have HIR:Kept (∀s∈R,Cs.In s.2):=⟨fun s hs=>Zd.1 s (Qb.1.mem hs)⟩
  have EN2:=Aj (fun(w1:World) (A':Option Addr) (n' c':Nat) (hb:Below w.heap.size w w1) (hk:dY w1 w1.heap.size A' n' c' R) (hS:Bk.qW R) (hc:Bk.bR R=0)=>EB A' n' c' R w1 hk (hS.ok hc HIR.1) (HG.1.below hb));go_enter func6,ntmps6;go_wp2_with (first
   |(go_at_call 15;refine(nu A4 A7 n4 c4 n7 c7 w4.heap.size w6.heap.size R w9 K49.1 K69.1 C49.1.size C69.1.size).mono ?_;rintro e Qd ⟨rfl,hg⟩;have B10:=Aj (B9.1.trans (hg.below.mono B9.1.size));clear hg K49 K69)
   |(go_at_call 15;refine(nu A4 A8 n4 c4 n8 c8 w4.heap.size w8.heap.size R w8 K48.1 K8.1 C48.1.size Ai).mono ?_;rintro e w9 ⟨rfl,hg⟩;have B9:=Aj (B8.1.trans (hg.below.mono B8.1.size));have K49:=Aj (K48.1.below (hg.below.mono C48.1.size));have C49:=Aj (C48.1.trans (hg.below.mono C48.1.size));have K69:=Aj (K68.1.below (hg.below.mono C68.1.size));have C69:=Aj (C68.1.trans (hg.below.mono C68.1.size));clear hg K48 K8)
   |(go_at_call 26;refine(FL.1 w7 B7.1 (by rw[hn.1];exact Lt HS.1.fq om)).mono ?_;rintro e w8 ⟨A8,n8,c8,rfl,hk,hb⟩;have B8:=Aj (B7.1.trans (hb.mono B7.1.size));have K8:=Aj hk;have K48:=Aj (K47.1.below (hb.mono C47.1.size));have C48:=Aj (C47.1.trans (hb.mono C47.1.size));have K68:=Aj (K67.1.below (hb.mono C67.1.size));have C68:=Aj (C67.1.trans (hb.mono C67.1.size));clear hk hb FL)
   |(go_at_call 8;refine(ST.1 w6 B6.1).mono ?_;rintro e w7 ⟨rfl,hb⟩;have B7:=Aj (B6.1.trans (hb.mono B6.1.size));have K47:=Aj (K46.1.below (hb.mono C46.1.size));have C47:=Aj (C46.1.trans (hb.mono C46.1.size));have K67:=Aj (K6.1.below hb);have C67:=Aj hb;clear hb ST K46 K6)
   |(go_at_call 8;refine(ST.1 w1 B1.1).mono ?_;rintro e Qd ⟨rfl,hb⟩;have B10:=Aj (B1.1.trans (hb.mono B1.1.size));clear hb)
   |(go_at_call 9;refine DE.1.mono ?_;rintro e w6 ⟨A7,n7,c7,rfl,hk,hb⟩;have K6:=Aj hk;have B6:=Aj (B5.1.trans (hb.mono B5.1.size));have K46:=Aj (K45.1.below (hb.mono C45.1.size));have C46:=Aj (C45.1.trans (hb.mono C45.1.size));clear hk hb DE K45)
   |(go_at_call 16;refine(EN2.1 w4 A4 n4 c4 B4.1 K4.1 (HS.1.sub Qb.1) (Bk.Ny Qb.1 HCK.1)).mono ?_;rintro e w5 ⟨A5,n5,c5,L5,rfl,hf,ho,hb⟩;obtain⟨s1,s2,s3⟩:=(HS.1.sub Qb.1).short (Bk.Ny Qb.1 HCK.1) HIR.1 hf;have hl:=ho.len;have B5:=Aj (B4.1.trans (hb.mono B4.1.size));have K45:=Aj (K4.1.below hb);have C45:=Aj hb;have DE:=Aj (EF A5 n5 c5 L5 w5 ho.rd om s1 (HG.1.below B5.1));rw[s3]at DE;clear hf ho hb s1 s2 s3 hl EN2)
   |(go_at_call 25;refine(SL.1 w3 p B3.1 SP.1 (HS.1.aeH HCK.1) HS.1.lens).mono ?_;rintro e w4 ⟨A4,n4,c4,rfl,hk,hb⟩;have K4:=Aj hk;have B4:=Aj (B3.1.trans (hb.mono B3.1.size));clear hk hb SL)
   |(go_at_call 11;refine OE.1.mono ?_;rintro e w3 ⟨hb,h5⟩;obtain⟨-,p,q,A6,n6,c6,A7,n7,c7,E,rfl,hp,hq,hK,hE,hI⟩:=h5.resolve_left (fun h=>h.1 rfl);have SP:Kept (nH w3 w3.heap.size p b):=⟨⟨q,A6,n6,c6,A7,n7,c7,E,(Ge.1 hp).1,(Ge.1 hq).1,hp,hq,hK,hE,hI⟩⟩;have B3:=Aj (B2.1.trans (hb.mono B2.1.size));clear hb h5 hp hq hK hE hI OE)
   |(go_at_call 16;have HS:=Aj (HB.1 trivial).1;have HCK:=Aj (HB.1 trivial).2;refine(EN.1 w1 B1.1 HS.1 HCK.1).mono ?_;rintro e w2 ⟨A5,n5,c5,L,rfl,hf,ho,hb⟩;obtain⟨s1,s2,s3⟩:=HS.1.short HCK.1 Zd.1 hf;have hl:=ho.len;have B2:=Aj (B1.1.trans (hb.mono B1.1.size));have OE:=Aj (UO A5 n5 c5 L w2 ho.rd om s1 (fun _=>by rw[s3];exact(HS.1.aeH HCK.1).set) (HG.1.below B2.1));rw[s3]at OE;clear hf ho hb s1 s2 s3 hl EN)
   |(go_at_call 19;refine BL.1.mono ?_;rintro e w1 ⟨v,rfl,hv,hb⟩;have B1:=Aj hb;have HB:=Aj hv;clear hb hv BL;cases v))
  all_goals go_ret
  all_goals exact⟨rfl,B10.1⟩
end
section
namespace Open
open Go.ChangeShapes Go.WideShapes Go.ChangeAt Go.RowKit
theorem own:ownKnob prog.godebug=none:=kr
theorem laidOut:laidOutB prog=true:=kr
section
variable {H:Type} {enc:TypeId×Value→H} {W:World} {A:Option Addr} {len cap:Nat} {d:DataW H} {p:List MemPlace}
theorem lt {t v} (h:DataW.Trod enc prog W 0 (fun _=>true) true t v d p):∀x∈p,x.block<W.heap.size:=by
 obtain⟨m,hm⟩:=h;exact DataW.trod_lt m _ _ _ hm
end
end Open
end
section
namespace Open
open Go.ChangeShapes Go.WideShapes Go.ChangeAt Go.RowKit Go.Joins
section
variable {H:Type} {enc:TypeId×Value→H} {W:World} {A:Option Addr} {len cap:Nat} {d:DataW H} {p:List MemPlace}
theorem labels (h:DataW.Trod enc prog W 0 (fun _=>true) true 54 (.slice A len cap) d p):
  ∃L:List aQ,fO W W.heap.size A len cap L∧∀x∈L,x.n.size≤maxLen∧x.v.size≤maxLen:=by
 obtain⟨fuel,hf⟩:=h;have hC:prog.cellsOf 59=2:=kr;rcases Deep.open_slice underlying54 hf with⟨hcs,_⟩|⟨x,l,c,m,n,D,Pl,hcs,_,hl,hm,hmm,_,hi⟩
 ·simp[Value.cells]at hcs;obtain⟨rfl,rfl,rfl⟩:=hcs;exact⟨[],Rd.nil W _ 2 0 none (by unfold maxLen;omega),sm⟩
 ·simp[Value.cells]at hcs;obtain⟨rfl,rfl,rfl⟩:=hcs;have hmc:m=cap:=by simpa using hmm
  subst hmc;rw[hC]at hi;have each:∀i,i<len→∃v:aQ,(v.n.size≤maxLen∧v.v.size≤maxLen)∧∀k,k<2→W.cell? (x.add (i*2+k))=(vY v)[k]?:=by
   intro i hil;obtain⟨cs',hcs1,hcs2⟩:=hi i om;obtain⟨_,hlen,hat⟩:=World.cells?_some hcs1;clear hcs1;obtain⟨y0,y1,n',_,_,t0,t1⟩:=trod_struct2 underlying59 hcs2;have z0:prog.cellsOf 9=1:=kr;have t0:DataW.trod enc prog W 0 (fun _=>true) true n' 9 ((cs'.drop 0).take (prog.cellsOf 9))=some y0:=t0;have t1:DataW.trod enc prog W 0 (fun _=>true) true n' 9 ((cs'.drop 1).take (prog.cellsOf 9))=some y1:=t1
   match cs',hlen with
   |[c0,c1],_=>
    rw[z0]at t0 t1;obtain⟨s0,h0,_,w0⟩:=DataW.trod_string underlying9 (show DataW.trod _ _ _ _ _ _ n' 9 [c0]=some y0 from t0);obtain⟨s1,h1,_,w1⟩:=DataW.trod_string underlying9 (show DataW.trod _ _ _ _ _ _ n' 9 [c1]=some y1 from t1);cases h0;cases h1;refine⟨⟨s0,s1⟩,⟨w0,w1⟩,fun k hk=>?_⟩
    match k,hk with
    |0,_=>rw[←Et,hat 0 Ah];rfl
    |1,_=>rw[←Et,hat 1 Ah];rfl
  obtain⟨V,hV⟩:=Deep.choose_lt each;refine⟨(List.range len).map V,⟨hl,hm,by rw[eB];simp,fun hn=>?_⟩,fun v hv=>?_⟩
  ·obtain⟨b,off,spot⟩:=x;obtain⟨_,hc0⟩:=hV 0 hn;have hc0:=hc0 0 om;have hc0':W.cell? ((⟨b,off,spot⟩:Addr).add (0*2+0))=some (.string (V 0).n):=hc0;have hspot:spot=none:=by simpa[Addr.add]using World.cell?_spot hc0'
   subst hspot;refine⟨b,off,rfl,?_,fun i u hu=>?_⟩
   ·rw[add_plain]at hc0';exact Bc W _ hc0'
   ·have hlt:=(kT.1 hu).1;rw[eB,fM,Cz]at hlt;have hii:i=i/2*2+i%2:=om;have hq:i/2<len:=om;rw[hii,rV _ _ _ (by simpa using hq) om]at hu;have:=(hV (i/2) hq).2 (i%2) om;rw[add_plain]at this;rw[←hii]at this;rw[this,←hu];simp
  ·obtain⟨i,hi,rfl⟩:=bY.1 hv;exact(hV i (by simpa using hi)).1
end
end Open
end
section
namespace Open
open Go.ChangeShapes Go.WideShapes Go.ChangeAt Go.RowKit Go.Joins Go.Deep
section
variable {H:Type} {enc:TypeId×Value→H} {W:World} {A:Option Addr} {len cap:Nat} {d:DataW H} {p:List MemPlace}
theorem samples (h:DataW.Trod enc prog W 0 (fun _=>true) true 55 (.slice A len cap) d p):
  ∃L:List QS,gV W W.heap.size A len cap L∧Cs.In L:=by
 obtain⟨fuel,hf⟩:=h;have hC:prog.cellsOf 127=2:=kr;rcases Deep.open_slice underlying55 hf with⟨hcs,_⟩|⟨x,l,c,m,n,D,Pl,hcs,_,hl,hm,hmm,_,hi⟩
 ·simp[Value.cells]at hcs;obtain⟨rfl,rfl,rfl⟩:=hcs;exact⟨[],Rd.nil W _ 2 0 none (by unfold maxLen;omega),fun p hp=>by cases hp⟩
 ·simp[Value.cells]at hcs;obtain⟨rfl,rfl,rfl⟩:=hcs;have hmc:m=cap:=by simpa using hmm
  subst hmc;rw[hC]at hi;have each:∀i,i<len→∃v:QS,(Tm.In v.1∧v.2<2^64)∧∀k,k<2→W.cell? (x.add (i*2+k))=(IV v)[k]?:=by
   intro i hil;obtain⟨cs',hcs1,hcs2⟩:=hi i om;obtain⟨_,hlen,hat⟩:=World.cells?_some hcs1;clear hcs1;obtain⟨y0,y1,n',_,_,t0,t1⟩:=trod_struct2 underlying127 hcs2;have z0:prog.cellsOf 2=1:=kr;have z1:prog.cellsOf 125=1:=kr;have t0:DataW.trod enc prog W 0 (fun _=>true) true n' 2 ((cs'.drop 0).take (prog.cellsOf 2))=some y0:=t0;have t1:DataW.trod enc prog W 0 (fun _=>true) true n' 125 ((cs'.drop 1).take (prog.cellsOf 125))=some y1:=t1
   match cs',hlen with
   |[c0,c1],_=>
    rw[z0]at t0;rw[z1]at t1;obtain⟨a0,h0,_,w0⟩:=DataW.trod_int underlying2 (show DataW.trod _ _ _ _ _ _ n' 2 [c0]=some y0 from t0);obtain⟨a1,h1,_,w1⟩:=DataW.trod_int underlying125 (show DataW.trod _ _ _ _ _ _ n' 125 [c1]=some y1 from t1);cases h0;cases h1;have b0:=bounds_i64 w0;have b1:=bounds_u64 w1;obtain⟨u,rfl⟩:∃u:Nat,a1=(u:Int):=⟨a1.toNat,om⟩
    refine⟨(a0,u),⟨by unfold Tm.In;omega,om⟩,fun k hk=>?_⟩
    match k,hk with
    |0,_=>rw[←Et,hat 0 Ah];rfl
    |1,_=>rw[←Et,hat 1 Ah];rfl
  obtain⟨V,hV⟩:=Deep.choose_lt each;refine⟨(List.range len).map V,⟨hl,hm,by rw[jM];simp,fun hn=>?_⟩,fun v hv=>?_⟩
  ·obtain⟨b,off,spot⟩:=x;obtain⟨_,hc0⟩:=hV 0 hn;have hc0:=hc0 0 om;have hc0':W.cell? ((⟨b,off,spot⟩:Addr).add (0*2+0))=some (.int .i64 (V 0).1):=hc0;have hspot:spot=none:=by simpa[Addr.add]using World.cell?_spot hc0'
   subst hspot;refine⟨b,off,rfl,?_,fun i u hu=>?_⟩
   ·rw[add_plain]at hc0';exact Bc W _ hc0'
   ·have hlt:=(kT.1 hu).1;rw[jM,fM,Cz]at hlt;have hii:i=i/2*2+i%2:=om;have hq:i/2<len:=om;rw[hii,nS _ _ _ (by simpa using hq) om]at hu;have:=(hV (i/2) hq).2 (i%2) om;rw[add_plain]at this;rw[←hii]at this;rw[this,←hu];simp
  ·obtain⟨i,hi,rfl⟩:=bY.1 hv;exact(hV i (by simpa using hi)).1
theorem KZ {m c0 x} (h:DataW.trod enc prog W 0 (fun _=>true) true m 54 [c0]=some x):∃A n c l,c0= .slice A n c∧fO W W.heap.size A n c l∧Lb.Fit l:=by
 have hf:∃A n c,c0= .slice A n c:=by
  rcases Deep.open_slice underlying54 h with⟨hcs,_⟩|⟨y,l,c,_,_,_,_,hcs,_⟩
  ·exact⟨none,0,0,by simpa using hcs⟩
  ·exact⟨some y,l,c,by simpa using hcs⟩
 obtain⟨A,n,c,rfl⟩:=hf;obtain⟨l,hl,hf⟩:=labels (d:=x.1) (p:=x.2) ⟨m,h⟩;exact⟨A,n,c,l,rfl,hl,hf⟩
theorem IM {m c0 x} (h:DataW.trod enc prog W 0 (fun _=>true) true m 55 [c0]=some x):∃A n c l,c0= .slice A n c∧gV W W.heap.size A n c l∧Cs.In l:=by
 have hf:∃A n c,c0= .slice A n c:=by
  rcases Deep.open_slice underlying55 h with⟨hcs,_⟩|⟨y,l,c,_,_,_,_,hcs,_⟩
  ·exact⟨none,0,0,by simpa using hcs⟩
  ·exact⟨some y,l,c,by simpa using hcs⟩
 obtain⟨A,n,c,rfl⟩:=hf;obtain⟨l,hl,hf⟩:=samples (d:=x.1) (p:=x.2) ⟨m,h⟩;exact⟨A,n,c,l,rfl,hl,hf⟩
structure Hd (X:Type) where
 A:Option Addr
 n:Nat
 c:Nat
 l:X
instance {X:Type} [Inhabited X]:Inhabited (Hd X):=⟨⟨none,0,0,default⟩⟩
theorem abI (h:DataW.Trod enc prog W 0 (fun _=>true) true 24 (.slice A len cap) d p):
  ∃rs:Bk.ic,dY W W.heap.size A len cap rs∧∀r∈rs,Lb.Fit r.1∧Cs.In r.2:=by
 obtain⟨fuel,hf⟩:=h;have hC:prog.cellsOf 57=2:=kr;rcases Deep.open_slice underlying24 hf with⟨hcs,_⟩|⟨x,l,c,m,n,D,Pl,hcs,_,hl,hm,hmm,_,hi⟩
 ·simp[Value.cells]at hcs;obtain⟨rfl,rfl,rfl⟩:=hcs;exact⟨[],⟨[],Rd.nil W _ 2 0 none (by unfold maxLen;omega),rfl,fun i h=>by simp at h⟩,sm⟩
 ·simp[Value.cells]at hcs;obtain⟨rfl,rfl,rfl⟩:=hcs;have hmc:m=cap:=by simpa using hmm
  subst hmc;rw[hC]at hi;have each:∀i,i<len→∃v:Hd (List aQ)×Hd Cs.gH,(fO W W.heap.size v.1.A v.1.n v.1.c v.1.l∧gV W W.heap.size v.2.A v.2.n v.2.c v.2.l∧Lb.Fit v.1.l∧Cs.In v.2.l)∧W.cell? (x.add (i*2+0))=some (.slice v.1.A v.1.n v.1.c)∧W.cell? (x.add (i*2+1))=some (.slice v.2.A v.2.n v.2.c):=by
   intro i hil;obtain⟨cs',hcs1,hcs2⟩:=hi i om;obtain⟨_,hlen,hat⟩:=World.cells?_some hcs1;clear hcs1;obtain⟨y0,y1,n',_,_,t0,t1⟩:=trod_struct2 underlying57 hcs2;have z0:prog.cellsOf 54=1:=kr;have z1:prog.cellsOf 55=1:=kr;have t0:DataW.trod enc prog W 0 (fun _=>true) true n' 54 ((cs'.drop 0).take (prog.cellsOf 54))=some y0:=t0;have t1:DataW.trod enc prog W 0 (fun _=>true) true n' 55 ((cs'.drop 1).take (prog.cellsOf 55))=some y1:=t1
   match cs',hlen with
   |[c0,c1],_=>
    rw[z0]at t0;rw[z1]at t1;obtain⟨A0,m0,k0,l0,h0,r0,w0⟩:=KZ (show DataW.trod _ _ _ _ _ _ n' 54 [c0]=some y0 from t0);obtain⟨A1,m1,k1,l1,h1,r1,w1⟩:=IM (show DataW.trod _ _ _ _ _ _ n' 55 [c1]=some y1 from t1);subst h0;subst h1;exact⟨(⟨A0,m0,k0,l0⟩,⟨A1,m1,k1,l1⟩),⟨r0,r1,w0,w1⟩,by rw[←Et,hat 0 Ah];rfl,by rw[←Et,hat 1 Ah];rfl⟩
  obtain⟨V,hV⟩:=Deep.choose_lt each;refine⟨(List.range len).map fun i=>((V i).1.l,(V i).2.l),⟨(List.range len).map fun i=>(.slice (V i).1.A (V i).1.n (V i).1.c,.slice (V i).2.A (V i).2.n (V i).2.c),⟨hl,hm,by rw[bz];simp,fun hn=>?_⟩,sm,fun i h h'=>?_⟩,fun v hv=>?_⟩
  ·obtain⟨b,off,spot⟩:=x;obtain⟨_,hc0,_⟩:=hV 0 hn;have hspot:spot=none:=by simpa[Addr.add]using World.cell?_spot hc0
   subst hspot;refine⟨b,off,rfl,?_,fun i u hu=>?_⟩
   ·rw[add_plain]at hc0;exact Bc W _ hc0
   ·have hlt:=(kT.1 hu).1;rw[bz,fM,Cz]at hlt;have hq:i/2<len:=om;obtain⟨g1,g2⟩:=dK ((List.range len).map fun i=>(Value.slice (V i).1.A (V i).1.n (V i).1.c,Value.slice (V i).2.A (V i).2.n (V i).2.c)) (i/2) (by simpa using hq);obtain⟨_,k0,k1⟩:=hV (i/2) hq;rw[add_plain]at k0 k1;rcases(show i%2=0∨i%2=1 from om)with e|e
    ·have hii:i=i/2*2:=by omega
     rw[hii]at hu⊢;rw[g1]at hu;rw[Ct]at k0;have e2:i/2*2/2=i/2:=om;rw[k0,←hu];simp
    ·have hii:i=i/2*2+1:=by omega
     rw[hii]at hu⊢;rw[g2]at hu;rw[k1,←hu];simp
  ·have hil:i<len:=by simpa using h
   obtain⟨⟨q1,q2,_⟩,_⟩:=hV i hil;exact⟨(V i).1.A,(V i).1.n,(V i).1.c,(V i).2.A,(V i).2.n,(V i).2.c,sm,by simpa using q1,by simpa using q2⟩
  ·obtain⟨i,hi,rfl⟩:=bY.1 hv;obtain⟨⟨_,_,q3,q4⟩,_⟩:=hV i (by simpa using hi);exact⟨q3,q4⟩
end
end Open
end
end Go.Proofs.YtongopommlghgaaGreatDoor
