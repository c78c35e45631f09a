/- Part 32. -/
import Derived.Test.YtjcpmfphnodaaaaGreatDoorZTBE
namespace Go.Proofs.YtjcpmfphnodaaaaGreatDoor
set_option maxRecDepth 100000
set_option maxHeartbeats 0
open _root_.Go.Proofs.Tryz
open Go.RowKit Go.Shelf
theorem xC {w} {ops} {o} {a} {K} {Q} {E} (hgd:o.guard=none) (s x)
  (ho:o.op= .call {callee:= .builtin .append,args:= #[s,x],argTypes:= #[24,24]})
  (base) (A) (n c) (xs) (hs:a.eval s= .slice A n c) (hown:w.ownsRow base 57 2 (.slice A n c) n xs)
  (u v) (hxr:∃p,a.eval x= .slice (some ⟨p,0,none⟩) 1 1∧w.heap[p]? =some (.cells #[u,v] 57 (0,0))) (h1:u.oneCell'=true) (h2:v.oneCell'=true)
  (hlen:n≤10000000) (hbase:base≤w.heap.size)
  (h:∀A2 c2 w',w'.ownsRow base 57 2 (.slice A2 (n+1) c2) (n+1) (xs++[u,v])→w.grownBy w' (ab A)→(ab A2=ab A∨ab A2=some w.heap.size)→K (a.put o.dst (.slice A2 (n+1) c2)) w'):
  if Region.wanted o (yielded ops a.tmps)=true then Oper.wp prog o a w K Q else E:=by
 have hw:Region.wanted o (yielded ops a.tmps)=true:=by simp[Region.wanted,hgd]
 rw[Ps0 hw];obtain⟨i0,hi0,hz0,hz1,hz2⟩:=AX aaV;obtain⟨p,hx,hp⟩:=hxr;have hr:Rd w (p+1) 2 (some ⟨p,0,none⟩) 1 1 [u,v]:=⟨Nr _,by unfold maxLen;omega,rfl,fun _=>⟨p,0,rfl,om,fun i y hy=>by
  rw[cB,Co _ _ _ _ _ _ hp];simpa using hy⟩⟩
 exact mh w s x _ ho base 57 i0 (.agg #[.slice none 0 0,.slice none 0 0]) 2 48 underlying24 hi0 hz0 hz1 hz2 rfl Ah A n c xs hs hown (p+1) (some ⟨p,0,none⟩) 1 1 [u,v] hx hr (by intro y hy;simp at hy;rcases hy with rfl|rfl<;>assumption) (by unfold maxLen;omega) om hbase h
structure L2 (w6 wr:World) (g:Nat) (BA:Option Addr) (bc k:Nat) (ps:List (Value×Value)):Prop where
 own:wr.ownsRow w6.heap.size 57 2 (.slice BA k bc) k (bS (ps.take k))
 gr:w6.grownBy wr (some g)
 var:wr.heap[g]? =some (.cells #[.slice BA k bc] 24 (0,0))
theorem L2.start {w6} {g} {ps} (h:w6.heap[g]? =some (.cells #[.slice none 0 0] 24 (0,0))):L2 w6 w6 g none 0 0 ps:=
 ⟨AY _ _ _ _,⟨rfl,rfl,rfl,Nr _,fun _ _ _=>rfl⟩,h⟩
theorem L2.push {w6 wr w8 W:World} {g bc k c4} {BA B4} {ps} {u v} (h:L2 w6 wr g BA bc k ps) (hg:g<w6.heap.size) (hk:k<ps.length) (hps:ps[k]=(u,v))
  (hW:∀i,i<wr.heap.size→W.heap[i]? =wr.heap[i]?) (hWz:wr.heap.size≤W.heap.size) (hWo:W.os=wr.os) (hWt:W.tape=wr.tape) (hWp:W.output=wr.output)
  (hgr:W.grownBy w8 (ab BA)) (ho:w8.ownsRow w6.heap.size 57 2 (.slice B4 (k+1) c4) (k+1) (bS (ps.take k)++[u,v])):
  L2 w6 (w8.setCell ⟨g,0,none⟩ (.slice B4 (k+1) c4)) g B4 c4 (k+1) ps∧w8.cell? ⟨g,0,none⟩=some (.slice BA k bc)∧w8.frozen? ⟨g,0,none⟩=false:=by
 have hgw:g<wr.heap.size:=jB hg h.gr.size;have hlt:=ae h.own;have hne:some g≠ab BA:=fun e=>by have:=(hlt g e.symm).1;omega
 have h8:=(hgr.block g om hne).trans ((hW g hgw).trans h.var);refine⟨⟨?_,⟨?_,?_,?_,?_,fun i hi hig=>?_⟩,?_⟩,Co _ _ 0 _ _ _ h8,Fr _ _ 0 _ _ h8⟩
 ·rw[Ts hk,hps,wV];exact aT ho (fun p hp e=>by have:=(ae ho p hp).1;omega)
 ·exact hgr.os.trans (hWo.trans h.gr.os)
 ·exact hgr.tape.trans (hWt.trans h.gr.tape)
 ·exact hgr.output.trans (hWp.trans h.gr.output)
 ·have h1:=h.gr.size;have h2:=hgr.size;show w6.heap.size≤(w8.setCell _ _).heap.size;simp[World.setCell];omega
 ·have afG:i≠g:=fun e=>hig (by rw[e])
  rw[AF _ _ _ _ afG];have hiw:=h.gr.size;exact(hgr.block i om (fun e=>by have:=(hlt i e.symm).1;omega)).trans ((hW i om).trans (h.gr.block i hi hig))
 ·have:=Ag w8 g 0 #[.slice BA k bc] 24 (.slice B4 (k+1) c4) h8;simpa using this
theorem Rd.off {w w'} {B sz n c g} {A} {xs} (h:Rd w B sz A n c xs) (hB:B≤w.heap.size) (hA:∀p,ab A=some p→p≠g) (hgr:w.grownBy w' (some g)):Rd w' B sz A n c xs:=by
 obtain⟨h1,h2,h3,h4⟩:=h;refine⟨h1,h2,h3,fun hn=>?_⟩;obtain⟨b,off,e,hb,hc⟩:=h4 hn;refine⟨b,off,e,hb,fun i u hu=>?_⟩;exact(AL (a:=⟨b,off+i,none⟩) (hgr.block b om (fun q=>hA b (by rw[e];rfl) (Oj q)))).trans (hc i u hu)
theorem R9 (l) (A) (n c):∀u∈wJ l,u≠ .slice A n c:=by
 intro u hu e;subst e;unfold wJ at hu;simp[vG]at hu
theorem Zd (l) (A) (n c):∀u∈nu l,u≠ .slice A n c:=by
 intro u hu e;subst e;unfold nu at hu;simp[Gt]at hu
theorem L2.rd {w6 wr} {g bc k B} {BA} {ps} {rs} (h:L2 w6 wr g BA bc k ps) (hk:k=ps.length) (hl:ps.length=rs.length) (hB:B≤w6.heap.size)
  (hg:w6.heap[g]? =some (.cells #[.slice none 0 0] 24 (0,0)))
  (h3:∀(i) (h:i<ps.length) (h':i<rs.length),∃A1 n1 c1 A2 n2 c2,ps[i]=(.slice A1 n1 c1,.slice A2 n2 c2)∧fD w6 B A1 n1 c1 rs[i].1∧gN w6 B A2 n2 c2 rs[i].2):iE wr wr.heap.size BA k bc rs:=by
 have o:=h.own;rw[jY om]at o;have hz:=h.gr.size;refine⟨ps,Rd.bP o,hl,fun i a b=>?_⟩;obtain⟨A1,n1,c1,A2,n2,c2,e,p,q⟩:=h3 i a b;exact⟨A1,n1,c1,A2,n2,c2,e,fD.more (Rd.but p hB hg (R9 _ _ _ _) h.gr) om,gN.more (Rd.but q hB hg (Zd _ _ _ _) h.gr) om⟩
theorem uK {w:World} {g} {v} {t} (h:w.heap[g]? =some (.cells #[v] t (0,0))):w.setCell ⟨g,0,none⟩ v=w:=by
 have hh:(w.setCell ⟨g,0,none⟩ v).heap=w.heap:=by
  refine Array.ext_getElem? fun i=>?_
  by_cases hi:i=g
  ·subst hi;rw[Ag w i 0 #[v] t v h,h];simp
  ·exact AF _ _ _ _ hi
 show{w with heap:=(w.setCell ⟨g,0,none⟩ v).heap}=w;rw[hh]
theorem Sx.home {w W} {As} {ns cs} {v} (h:Sx w W As ns cs v) {tmps} {R}
  (h2:tmps[2]?.getD undef= .pointer (some ⟨w.heap.size+1,0,none⟩)) (h3:tmps[3]?.getD undef= .pointer (some ⟨w.heap.size+2,0,none⟩)) (hR:R (.returned (.tuple #[v,.int .i64 0])) W):
  bodyPostD prog Tryz.f35 R Exit.ret {tmps:=tmps,defers:=[{target:=Target.fn (Fn.func 65) #[.pointer (some ⟨w.heap.size+1,0,none⟩),.pointer (some ⟨w.heap.size+2,0,none⟩)],args:= #[]}]} W:=by
 have hc1:=Co _ _ 0 _ _ _ h.out;have hc2:=Co _ _ 0 _ _ _ h.err;simp at hc1 hc2;refine leaves_cons (f:=65) (args:= #[.pointer (some ⟨w.heap.size+1,0,none⟩),.pointer (some ⟨w.heap.size+2,0,none⟩)]) sm (by simp[go_sem]) ?_;refine(NA ⟨w.heap.size+1,0,none⟩ ⟨w.heap.size+2,0,none⟩ _).mono ?_;rintro e u' w'' ⟨rfl,rfl,rfl⟩;simp[Leaves,settle,results,Tryz.results35,go_sem,h2,h3,hc1,hc2];exact hR
theorem Ze (l) (A) (n c):∀u∈oF l,u≠ .slice A n c:=by
 intro u hu e;subst e;unfold oF at hu;simp[sv]at hu
theorem L2.strs {w6 wr} {g bc k n c} {BA A} {ps} {T} (h:L2 w6 wr g BA bc k ps) (hg:w6.heap[g]? =some (.cells #[.slice none 0 0] 24 (0,0))) (hT:bM w6 w6.heap.size A n c T):bM wr wr.heap.size A n c T:=
 bM.more (Rd.but hT Ai hg (Ze _ _ _ _) h.gr) h.gr.size
theorem Sx.upd {w W W'} {As} {ns cs} {v} {BA} {bc k} {ps} (h:Sx w W As ns cs v) (hl:L2 W W' (w.heap.size+1) BA bc k ps):Sx w W' As ns cs (.slice BA k bc):=by
 have hz:=h.Ji;refine⟨h.aU.grown hl.gr h.aU.size (fun p hp=>by have:=Oj hp;omega),by have:=hl.gr.size;omega,fun i hi=>?_,hl.var,?_⟩
 ·exact(AL (a:=⟨w.heap.size,i,none⟩) (hl.gr.block w.heap.size om (fun e=>by have:=Oj e;omega))).trans (h.sec i hi)
 ·exact(hl.gr.block (w.heap.size+2) om (fun e=>by have:=Oj e;omega)).trans h.err
theorem Cs.Lv:∀(LN) (acc) (d) (out),Cs.Gu LN acc d=(out,0)→out.length=acc.length+LN.length
 |[],acc,d,out,h=>by
  simp only[Cs.Gu,ay,Bi]at h;rw[←h];simp
 |l::ls,acc,d,out,h=>by
  rw[Cs.Gu]at h;split at h
  ·rename_i h1
   exact absurd (congrArg Prod.snd h) h1
  ·have:=Cs.Lv ls _ _ _ h;rw[this];simp;omega
theorem Ck.Sa (l):l.length≤120*(Ck.jm l).length:=by
 by_cases h:l=[]
 ·subst h;simp
 ·have ih:=Ck.Sa (l.drop 120);rw[jX]at ih;rw[Ck.jN h,Lc];omega
termination_by l.length
decreasing_by
 have:=oJ.2 h;rw[jX];omega
theorem Zf (b:List Cs.gz):(b.map List.length).sum≤120*((b.map Cs.lens).flatten).length:=by
 induction b with
 |nil=>simp
 |cons x b ih=>
  have:=Ck.Sa x;have h2:(Cs.lens x).length=(Ck.jm x).length:=by unfold Cs.lens;simp
  rw[AA,Bj,AA,Cc,La,h2];omega
theorem Zg (l):Ls.tot l=l.flatten.length:=by
 induction l with
 |nil=>rfl
 |cons x l ih=>rw[show Ls.tot (x::l)=x.length+Ls.tot l by simp[Ls.tot],ih,Cc,La]
theorem VI (LN):(Cs.uZ LN).flatten.length=LN.flatten.length:=by
 rw[←Cs.RS LN,fu]
theorem Lx:∀(m:List (List bf)) (ch),Bk.cK (m.zip ch)≤(ch.map List.length).sum
 |[],_=>by simp[Bk.cK]
 |_::_,[]=>by simp[Bk.cK]
 |y::m,x::ch=>by
  have:=Lx m ch;have e:Bk.cK ((y::m).zip (x::ch))=x.length+Bk.cK (m.zip ch):=by simp[Bk.cK]
  rw[e,AA,Bj];omega
theorem Sb {T} {rs} {d} {ch} (ho:VH T rs) (h:Bk.kU rs d=(ch,0)):Bk.cK ((rs.map (·.1)).zip ch)≤1000000000000:=by
 unfold Bk.kU at h;split at h
 ·exact absurd (congrArg Prod.snd h) sm
 ·rename_i hs
  obtain⟨b,e1,_,e3,_⟩:=Cs.Iq _ [] _ ch (by simpa using hs) h;rw[Ay]at e1;subst e1;have h1:=Zf ch;rw[←e3,←VI,←ho.ofn,←Zg]at h1;have h2:=ho.tot;have h3:=Lx (rs.map (·.1)) ch;omega
theorem Sc {rs} {d} {ch} (h:Bk.kU rs d=(ch,0)):ch.length=rs.length:=by
 unfold Bk.kU at h;split at h
 ·exact absurd (congrArg Prod.snd h) sm
 ·have:=Cs.Lv _ _ _ _ h;simpa using this
theorem Jw {w} {ops} {o} {a} {K} {Q} {E} (hgd:o.guard=none) (s x)
  (ho:o.op= .call {callee:= .builtin .append,args:= #[s,x],argTypes:= #[62,62]})
  (base) (A) (n c) (xs) (hs:a.eval s= .slice A n c) (hown:aO w base A n c xs)
  (v) (hxr:∃p,a.eval x= .slice (some ⟨p,0,none⟩) 1 1∧w.heap[p]? =some (.cells #[.int .i64 v] 3 (0,0)))
  (hlen:n≤10000000) (hbase:base≤w.heap.size)
  (h:∀A2 c2 w',aO w' base A2 (n+1) c2 (xs++[v])→w.grownBy w' (ab A)→(ab A2=ab A∨ab A2=some w.heap.size)→K (a.put o.dst (.slice A2 (n+1) c2)) w'):
  if Region.wanted o (yielded ops a.tmps)=true then Oper.wp prog o a w K Q else E:=by
 have hw:Region.wanted o (yielded ops a.tmps)=true:=by simp[Region.wanted,hgd]
 rw[Ps0 hw];obtain⟨i0,hi0,hz0,hz1,hz2⟩:=AX Pd;obtain⟨p,hx,hp⟩:=hxr;refine mh w s x _ ho base 3 i0 (.int .i64 0) 1 8 underlying62 hi0 hz0 hz1 hz2 rfl Ah A n c _ hs hown (p+1) (some ⟨p,0,none⟩) 1 1 [.int .i64 v] hx (Rd.Zc hp) (by simp[Value.oneCell']) (by unfold maxLen;omega) om hbase fun A2 c2 w' h1 h2 h3=>h A2 c2 w' ?_ h2 h3
 show w'.ownsRow base _ 1 _ (n+1) (Eg (xs++[v]));unfold Eg at h1⊢;rw[dY];exact h1
theorem VJ (base gd gl p n i m c) (LS) (D L) (C) (A) (W) (h:Es base gd gl p n LS D C W) (hi:i<n) (_:n≤1000000) (hv:aN W W.heap.size A m c L)
  (hD:D.length+L.length≤1000000000) (hC:(C i).length≤10000000) (hgd:base≤gd) (hp:base≤p):
  Calls prog 83 #[.int .i64 (i:Int),.slice A m c,.pointer (some ⟨gd,0,none⟩),.pointer (some ⟨gl,0,none⟩)] W fun e w'=>(∃v,e= .returned v)∧Es base gd gl p n LS (D++L) (fun j=>if j=i then C i++[(L.length:Int)]else C j) w'∧iL base W w'∧KeepsOthers W w':=by
 have hm:=hv.len
 have hzb:base≤W.heap.size:=by obtain⟨_,_,cs,_,_,_,r1,_⟩:=h;have:=(Ge.1 r1).1;omega
 obtain⟨A0,m0,c0,d1,d2⟩:=h.dat
 have hm0:=d2.len
 have hc0:=d1.cell
 have H:=Aj h
 have D1:=Aj d1
 have D2:=Aj d2
 have HV:=Aj hv
 have HM:=Aj hm
 have HC:=Aj hC
 have hmb:m0+m≤1000000000:=om
 have hmi:(m:Int)≤1000000000:=om
 clear h d1 d2 hv hm hm0 hC hD
 go_enter func83,ntmps83
 go_upto_region 1 with(at_builtin;refine bR rfl (.tmp 6) (.tmp 7) rfl base A0 m0 c0 _ rfl D2.1 _ _ _ _ _ rfl HV.1 om hzb ?_;intro A2 c2 w1 hown hgrow hat;obtain⟨q1,q2,q3,q4,q5⟩:=H.1.push D1.1 D2.1 hgrow hown hgd;have E1:=Aj q3;have K1:=Aj q4;have O1:=Aj q5;clear hown hgrow hat q3 q4 q5)
 generalize w1.setCell ⟨gd,0,none⟩ (.slice A2 (m0+m) c2)=W3 at*
 obtain⟨A3,m3,c3,n1,n2,n3,n4⟩:=E1.1.note hi hp
 have IJ:m3≤10000000:=by rw[n3.len];exact HC.1
 have g0:=E1.1.box.cell
 have G0:=Aj E1.1.box
 have hpz:Kept (p<W3.heap.size):=⟨by obtain⟨_,_,cs,_,_,_,r1,_⟩:=E1.1;exact(Ge.1 r1).1⟩
 have hzz:Kept (base≤W3.heap.size):=⟨Lt hp (Nat.le_of_lt hpz.1)⟩
 have N1:=Aj n1
 have N3:=Aj n3
 have N4:=Aj n4
 have x0:∀o,(W3.alloc o).cell? ⟨gl,0,none⟩=some (.slice (some ⟨p,0,none⟩) n n):=fun o=>(Boxed.alloc G0.1 o).cell
 have x1:∀o,(W3.alloc o).cell? ⟨p,i*2+1,none⟩=some (.slice A3 m3 c3):=fun o=>(AJ W3 o ⟨p,i*2+1,none⟩ hpz.1).trans N1.1
 have hgl:Kept (∀W1 w6,W3.grownBy W1 none→W1.grownBy w6 (ab A3)→w6.cell? ⟨gl,0,none⟩=some (.slice (some ⟨p,0,none⟩) n n)∧w6.cell? ⟨p,i*2+1,none⟩=some (.slice A3 m3 c3)):=⟨fun W1 w6 h1 hg=>by
  have o1:aO W1 base A3 m3 c3 (C i):=af N3.1 h1 (by rcases ab A3 with _|r;exact .inl rfl;exact .inr (fun e=>by cases e))
  have b1:=Boxed.kept G0.1 h1 (fun e=>by cases e)
  have hne:=dL o1 b1 Ah
  refine⟨(Boxed.kept b1 hg (fun e=>hne e.symm)).cell,?_⟩
  obtain⟨_,_,cs,_,_,_,r1,_⟩:=E1.1
  have r1':W1.heap[p]? =some (.cells cs qo (0,0)):=(h1.block p hpz.1 (fun e=>by cases e)).trans r1
  have hne2:=dL o1 r1' Ah
  exact(AL (a:=⟨p,i*2+1,none⟩) ((hg.block p (by have:=hpz.1;have:=h1.size;omega) (fun e=>hne2 e.symm)).trans (h1.block p hpz.1 (fun e=>by cases e)))).trans N1.1⟩
 have GA:Kept (∀o,W3.grownBy (W3.alloc o) none):=⟨fun o=>Ga W3 o none⟩
 have GD:Kept (∀o,W3.grownBy (W3.alloc o).drew none):=⟨fun o=>by have h:=Ga W3 o none;exact⟨h.os,h.tape,h.output,h.size,h.block⟩⟩
 clear n2 n3 n4 q1 q2 hc0
 refine wp_region_held_drew (S:=fun w'=>w'.cell? ⟨gl,0,none⟩=some (.slice (some ⟨p,0,none⟩) n n)) kr g0 (fun hHeld=>?_)
 refine wpAnyH_take (i:=0) (oi:=⟨_,_,_,_,_,_⟩) (v:=?_) rfl kr kr kr (fun _ _ _ h=>h) (Or.inl ⟨rfl,?_⟩) (by assumption) ?_
 rotate_left
 ·intro w hSw;(try dsimp only at hSw);go_simp;(try with_reducible rfl)
 try simp only[Act.put,Al,Ap,Ao]
 refine wpAnyH_take (i:=1) (oi:=⟨_,_,_,_,_,_⟩) (v:=?_) rfl kr kr kr (fun _ _ _ h=>h) (Or.inl ⟨rfl,?_⟩) (by assumption) ?_
 rotate_left
 ·intro w hSw;(try dsimp only at hSw);go_simp;(try with_reducible rfl)
 try simp only[Act.put,Al,Ap,Ao]
 refine wpAnyH_take (i:=2) (oi:=⟨_,_,_,_,_,_⟩) (v:=?_) rfl kr kr kr (fun _ _ _ h=>h) (Or.inl ⟨rfl,?_⟩) (by assumption) ?_
 rotate_left
 ·intro w hSw;(try dsimp only at hSw);go_simp;(try with_reducible rfl)
 try simp only[Act.put,Al,Ap,Ao]
 refine wpAnyH_take (i:=3) (oi:=⟨_,_,_,_,_,_⟩) (v:=?_) rfl kr kr kr (fun _ _ _ h=>h) (Or.inl ⟨rfl,?_⟩) (by assumption) ?_
 rotate_left
 ·intro w hSw;(try dsimp only at hSw);go_simp;(try with_reducible rfl)
 try simp only[Act.put,Al,Ap,Ao]
 refine wpAnyH_take (i:=4) (oi:=⟨_,_,_,_,_,_⟩) (v:=?_) rfl kr kr kr (fun _ _ _ h=>h) (Or.inl ⟨rfl,?_⟩) (by assumption) ?_
 rotate_left
 ·intro w hSw;(try dsimp only at hSw);go_simp;(try with_reducible rfl)
 try simp only[Act.put,Al,Ap,Ao]
 refine wpAnyH_take (i:=5) (oi:=⟨_,_,_,_,_,_⟩) (v:=?_) rfl kr kr kr (fun _ _ _ h=>h) (Or.inl ⟨rfl,?_⟩) (by assumption) ?_
 rotate_left
 ·intro w hSw;(try dsimp only at hSw);go_simp;(try with_reducible rfl)
 try simp only[Act.put,Al,Ap,Ao]
 refine wpAnyH_take (i:=7) (oi:=⟨_,_,_,_,_,_⟩) (v:=?_) rfl kr kr kr (fun _ _ _ h=>h) (Or.inl ⟨rfl,?_⟩) (by assumption) ?_
 rotate_left
 ·intro w hSw;(try dsimp only at hSw);go_simp;(try with_reducible rfl)
 try simp only[Act.put,Al,Ap,Ao]
 refine wpAnyH_take (i:=8) (oi:=⟨_,_,_,_,_,_⟩) (v:=?_) rfl kr kr kr (fun _ _ _ h=>h) (Or.inl ⟨rfl,?_⟩) (by assumption) ?_
 rotate_left
 ·intro w hSw;(try dsimp only at hSw);go_simp;(try with_reducible rfl)
 try simp only[Act.put,Al,Ap,Ao]
 refine wpAnyH_ready (rs:=[6,9]) kr sm ?_
 refine AllReadyH.cons (o:=⟨_,_,_,_,_,_⟩) rfl (fun K hK=>?_) (AllReadyH.cons (o:=⟨_,_,_,_,_,_⟩) rfl (fun K hK=>?_) AllReadyH.nil)
 go_simp
 refine hK.out _ _ g0 (fun hHeld=>?_)
 clear hK K
 try simp only[Act.put,Al,Ap,Ao]
 refine wpAnyH_ready (rs:=[9]) kr sm ?_
 refine AllReadyH.cons (o:=⟨_,_,_,_,_,_⟩) rfl (fun K hK=>?_) AllReadyH.nil
 go_simp
 refine hK.out _ _ (x0 _) (fun hHeld=>?_)
 clear hK K
 try simp only[Act.put,Al,Ap,Ao]
 rotate_left
 go_simp
 refine hK.out _ _ (x0 _) (fun hHeld=>?_)
 clear hK K
 try simp only[Act.put,Al,Ap,Ao]
 refine wpAnyH_ready (rs:=[6]) kr sm ?_
 refine AllReadyH.cons (o:=⟨_,_,_,_,_,_⟩) rfl (fun K hK=>?_) AllReadyH.nil
 go_simp
 refine hK.out _ _ (x0 _) (fun hHeld=>?_)
 clear hK K
 try simp only[Act.put,Al,Ap,Ao]
 all_goals
  refine wpAnyH_ready (rs:=[10]) kr sm ?_
  refine AllReadyH.cons (o:=⟨_,_,_,_,_,_⟩) rfl (fun K hK=>?_) AllReadyH.nil
  (refine Jw ?g1 (.tmp 15) (.tmp 18) ?g2 base A3 m3 c3 (C i) ?g3 ?g4 (m:Int) ?g5 ?g7 ?g8 ?_;
   (case g1=>rfl);
   (case g2=>rfl);
   (case g3=>rfl);
   (case g4=>exact Oa N3.1 _);
   (case g5=>exact⟨_,rfl,World.alloc_heap_new W3 _⟩);
   (case g7=>exact IJ);
   (case g8=>(have:=hzz.1;show _≤(World.alloc _ _).heap.size;simp;omega));
   intro A4 c4 w6 hown hgrow hat;
   first
    |have k9:=hgl.1 _ w6 (GA.1 _) hgrow
    |have k9:=hgl.1 _ w6 (GD.1 _) hgrow;
   have k10:=k9.2;
   first
    |have NX:=Aj (N4.1 _ w6 A4 (m3+1) c4 (m:Int) (GA.1 _) hgrow hown hat)
    |have NX:=Aj (N4.1 _ w6 A4 (m3+1) c4 (m:Int) (GD.1 _) hgrow hown hat);
   have f6:=NX.1.2.1;
   have k11:=NX.1.2.2.1.box.cell;
   clear hown hgrow hat)
  refine hK.out _ _ k9.1 (fun hHeld=>?_)
  clear hK K
  try simp only[Act.put,Al,Ap,Ao]
  refine wpAnyH_take (i:=11) (oi:=⟨_,_,_,_,_,_⟩) (v:=?_) rfl kr kr kr (fun _ _ _ h=>h) (Or.inl ⟨rfl,?_⟩) (by assumption) ?_
  rotate_left
  ·intro w hSw;(try dsimp only at hSw);go_simp;(try with_reducible rfl)
  try simp only[Act.put,Al,Ap,Ao]
  refine wpAnyH_take (i:=12) (oi:=⟨_,_,_,_,_,_⟩) (v:=?_) rfl kr kr kr (fun _ _ _ h=>h) (Or.inl ⟨rfl,?_⟩) (by assumption) ?_
  rotate_left
  ·intro w hSw;(try dsimp only at hSw);go_simp;(try with_reducible rfl)
  try simp only[Act.put,Al,Ap,Ao]
  refine wpAnyH_ready (rs:=[13]) kr sm ?_
  refine AllReadyH.cons (o:=⟨_,_,_,_,_,_⟩) rfl (fun K hK=>?_) AllReadyH.nil
  go_simp
  refine hK.out _ _ k11 (fun hHeld=>?_)
  clear hK K
  try simp only[Act.put,Al,Ap,Ao]
  refine wpAnyH_done kr ?_ _
  (try go_wp2)
  go_end0
  refine⟨⟨_,rfl⟩,?_,K1.1.trans NX.1.2.2.2.1,O1.1.trans NX.1.2.2.2.2⟩
  have e:=HM.1
  have q:=NX.1.2.2.1
  rw[e]at q
  exact q
def cO:Value:= .slice none 0 0
def ve (hs:List (Value×Value)) (i:Nat):Value:=(hs[i]?.map (·.1)).getD cO
structure zF (W:World) (p q n k:Nat) (hs:List (Value×Value)):Prop where
 rp:∃cs:Array Value,W.heap[p]? =some (.cells cs qo (0,0))∧cs.size=n*2∧∀i,i<n→cs[i*2]? =some (if i<k then ve hs i else cO)∧cs[i*2+1]? =some cO
 rq:∃cs:Array Value,W.heap[q]? =some (.cells cs 54 (0,0))∧cs.size=n∧∀i,i<n→cs[i]? =some (if i<k then ve hs i else cO)
section
variable {W W':World} {p q n k:Nat} {hs:List (Value×Value)}
theorem zF.lt (h:zF W p q n k hs):p<W.heap.size∧q<W.heap.size:=by
 obtain⟨⟨_,h1,_⟩,⟨_,h2,_⟩⟩:=h;exact⟨(Ge.1 h1).1,(Ge.1 h2).1⟩
theorem zF.ne (h:zF W p q n k hs):p≠q:=by
 obtain⟨⟨_,h1,_⟩,⟨_,h2,_⟩⟩:=h;intro e;subst e;rw[h1]at h2;simp only[gV,Dn]at h2;exact absurd h2.2.1 Ah
theorem zF.below (h:zF W p q n k hs) (hb:Below W.heap.size W W'):zF W' p q n k hs:=by
 obtain⟨l1,l2⟩:=h.lt;obtain⟨⟨c1,h1,h2⟩,⟨c2,h3,h4⟩⟩:=h;exact⟨⟨c1,(hb.block _ l1).trans h1,h2⟩,⟨c2,(hb.block _ l2).trans h3,h4⟩⟩
theorem zF.cells (h:zF W p q n k hs) {i} (hi:i<n):(∃v,W.cell? ⟨p,i*2,none⟩=some v)∧W.frozen? ⟨p,i*2,none⟩=false∧(∃v,W.cell? ⟨q,i,none⟩=some v)∧W.frozen? ⟨q,i,none⟩=false:=by
 obtain⟨⟨c1,h1,_,h2⟩,⟨c2,h3,_,h4⟩⟩:=h;exact⟨⟨_,(Co _ _ _ _ _ _ h1).trans (h2 i hi).1⟩,Fr _ _ _ _ _ h1,⟨_,(Co _ _ _ _ _ _ h3).trans (h4 i hi)⟩,Fr _ _ _ _ _ h3⟩
theorem zF.put (h:zF W p q n k hs) (hk:k<n):zF ((W.setCell ⟨p,k*2,none⟩ (ve hs k)).setCell ⟨q,k,none⟩ (ve hs k)) p q n (k+1) hs:=by
 have hne:=h.ne;obtain⟨⟨c1,h1,z1,h2⟩,⟨c2,h3,z2,h4⟩⟩:=h;have s1:=Ag W p (k*2) c1 qo (ve hs k) h1;have s1':=(AF (W.setCell ⟨p,k*2,none⟩ (ve hs k)) ⟨q,k,none⟩ (ve hs k) p hne).trans s1;have s2:=(AF W ⟨p,k*2,none⟩ (ve hs k) q (fun e=>hne e.symm)).trans h3;have s2':=Ag (W.setCell ⟨p,k*2,none⟩ (ve hs k)) q k c2 54 (ve hs k) s2;refine⟨⟨_,s1',by simp[z1],fun i hi=>⟨?_,?_⟩⟩,⟨_,s2',by simp[z2],fun i hi=>?_⟩⟩
 ·rw[zC];by_cases e:k*2=i*2
  ·have e':k=i:=by omega
   subst e';rw[Ps0 rfl,Ps0 om,Ps0 om]
  ·rw[Ng e,(h2 i hi).1];by_cases q:i<k
   ·rw[Ps0 q,Ps0 om]
   ·rw[Ng q,Ng om]
 ·rw[zC,Ng om];exact(h2 i hi).2
 ·rw[zC];by_cases e:k=i
  ·subst e;rw[Ps0 rfl,Ps0 om,Ps0 om]
  ·rw[Ng e,h4 i hi];by_cases q:i<k
   ·rw[Ps0 q,Ps0 om]
   ·rw[Ng q,Ng om]
end
theorem xD (n i) (h:i<n*2):(madeCells #[cO,cO] (n*2))[i]? =some cO:=by
 rw[Array.getElem?_eq_getElem (by simp[madeCells];omega)];have:i%2=0∨i%2=1:=om;rcases this with e|e<;>simp[madeCells,e]
theorem NF (n i) (h:i<n):(madeCells #[cO] n)[i]? =some cO:=by
 rw[Array.getElem?_eq_getElem (by simp[madeCells];exact h)];simp[madeCells,Nat.mod_one]
theorem NG (n:Nat) (hn:n≤1000000) (w):(Instr.makeSlice 138 (.int .i64 n) (.int .i64 n)).run prog w= .ok (.slice (some ⟨w.heap.size,0,none⟩) n n) (w.alloc (.cells (madeCells #[cO,cO] (n*2)) qo)):=by
 obtain⟨i0,hi0,hz0,hz1,hz2⟩:=AX Wq;have:=run_makeSlice (P:=prog) w 138 146 i0 (.agg #[.slice none 0 0,.slice none 0 0]) underlying138 hi0 hz0 .i64 .i64 (n:Int) (n:Int) om om (by rw[hz1];simp;omega) (by rw[hz2];omega) om;rw[hz1]at this;simpa[Value.cells,cO]using this
theorem Sg (n:Nat) (hn:n≤1000000) (w):(Instr.makeSlice 81 (.int .i64 n) (.int .i64 n)).run prog w= .ok (.slice (some ⟨w.heap.size,0,none⟩) n n) (w.alloc (.cells (madeCells #[cO] n) 54)):=by
 obtain⟨i0,hi0,hz0,hz1,hz2⟩:=AX I1;have:=run_makeSlice (P:=prog) w 81 54 i0 (.slice none 0 0) underlying81 hi0 hz0 .i64 .i64 (n:Int) (n:Int) om om (by rw[hz1];simp;omega) (by rw[hz2];omega) om;rw[hz1]at this;simpa[Value.cells,cO]using this
theorem zF.made (w1:World) (n) (hs) (o1 o2):
  zF ((((w1.alloc o1).alloc (.cells (madeCells #[cO,cO] (n*2)) qo)).alloc o2).alloc (.cells (madeCells #[cO] n) 54)) (w1.heap.size+1) (w1.heap.size+1+1+1) n 0 hs:=by
 refine⟨⟨madeCells #[cO,cO] (n*2),?_,by simp[madeCells],fun i hi=>⟨?_,xD n _ om⟩⟩,⟨madeCells #[cO] n,?_,by simp[madeCells],fun i hi=>?_⟩⟩
 ·rw[Aw _ _ _ (by simp;try omega),Aw _ _ _ sm];have:=World.alloc_heap_new (w1.alloc o1) (.cells (madeCells #[cO,cO] (n*2)) qo);simp only[AO]at this;exact this
 ·rw[Ng om];exact xD n _ om
 ·have:=World.alloc_heap_new (((w1.alloc o1).alloc (.cells (madeCells #[cO,cO] (n*2)) qo)).alloc o2) (.cells (madeCells #[cO] n) 54);simp only[AO]at this;exact this
 ·rw[Ng om];exact NF n i hi
def Xe (w:World) (B:Nat) (b:Bk.iP) (hs:List (Value×Value)):Prop:=hs.length=b.length∧
 ∀(i:Nat) (h:i<hs.length) (h':i<b.length),∃A1 n1 c1 A2 n2 c2,hs[i]=(.slice A1 n1 c1,.slice A2 n2 c2)∧fD w B A1 n1 c1 b[i].1∧gN w B A2 n2 c2 b[i].2
theorem Xe.below {w w'} {B} {b} {hs} (h:Xe w B b hs) (hb:Below B w w'):Xe w' B b hs:=⟨h.1,fun i a a'=>by
 obtain⟨A1,n1,c1,A2,n2,c2,e,p,q⟩:=h.2 i a a';exact⟨A1,n1,c1,A2,n2,c2,e,p.below hb,q.below hb⟩⟩
theorem Jy {hs} {i} (h:i<hs.length):ve hs i=hs[i].1:=by unfold ve;rw[l8 h];rfl
theorem zF.es {W} {p q n gd gl base} {hs} (h:zF W p q n n hs) (hd:Boxed W gd 22 cO) (hl:Boxed W gl 138 (.slice (some ⟨p,0,none⟩) n n)):
  Es base gd gl p n (ve hs) [] (fun _=>[]) W:=by
 obtain⟨⟨c1,h1,z1,h2⟩,-⟩:=h;refine⟨⟨none,0,0,hd,ah.nil _ _⟩,hl,c1,fun _=>none,fun _=>0,fun _=>0,h1,z1,fun i hi=>?_,fun i j _ _ _=> .inl rfl⟩;obtain⟨e1,e2⟩:=h2 i hi;rw[Ps0 hi]at e1;exact⟨e1,e2,aO.nil _ _⟩
theorem Es.rdR {base gd gl p n B} {D} {C} {W} {b} {hs} {rs:List jK} (h:Es base gd gl p n (ve hs) D C W) (hh:Xe W B b hs) (hB:B≤W.heap.size) (hn:n=b.length) (hm:n≤maxLen)
  (hr:rs.length=b.length) (hre:∀(i) (h:i<rs.length) (h':i<b.length),rs[i]=(b[i].1,C i)):uX W W.heap.size (some ⟨p,0,none⟩) n n rs:=by
 obtain⟨-,-,cs,As,ns,ks,r1,r2,r3,-⟩:=h;have hp:p<W.heap.size:=(Ge.1 r1).1;refine⟨(List.range n).map fun i=>(ve hs i,.slice (As i) (ns i) (ks i)),⟨Nr _,hm,by rw[gT];simp,fun _=>⟨p,0,rfl,hp,fun i u hu=>?_⟩⟩,by simp;omega,fun i a a'=>?_⟩
 ·have hlt:=(kH.1 hu).1;rw[gT,fu,Cq]at hlt;have hq:i/2<n:=om;obtain⟨g1,g2⟩:=fF ((List.range n).map fun i=>(ve hs i,Value.slice (As i) (ns i) (ks i))) (i/2) (by simpa using hq);obtain⟨k1,k2,_⟩:=r3 (i/2) hq;rw[cB,Co _ _ _ _ _ _ r1];rcases(show i%2=0∨i%2=1 from om)with e|e
  ·have hii:i=i/2*2:=by omega
   rw[hii]at hu⊢;rw[g1]at hu;have e2:i/2*2/2=i/2:=om;rw[k1,←hu];simp
  ·have hii:i=i/2*2+1:=by omega
   rw[hii]at hu⊢;rw[g2]at hu;rw[k2,←hu];simp
 ·have hi:i<n:=by simpa using a
  obtain⟨A1,n1,c1,A2,n2,c2,e,q1,q2⟩:=hh.2 i (by rw[hh.1];omega) om;refine⟨A1,n1,c1,As i,ns i,ks i,?_,?_,?_⟩
  ·simp[Jy (show i<hs.length by rw[hh.1];omega),e]
  ·rw[hre i a' om];exact q1.more hB
  ·rw[hre i a' om];exact(r3 i hi).2.2.rd
theorem VK {W} {q n B} {b} {hs} (h:∃cs:Array Value,W.heap[q]? =some (.cells cs 54 (0,0))∧cs.size=n∧∀i,i<n→cs[i]? =some (if i<n then ve hs i else cO)) (hh:Xe W B b hs) (hB:B≤W.heap.size) (hn:n=b.length) (hm:n≤maxLen):jR W W.heap.size (some ⟨q,0,none⟩) n n (Bk.sets b):=by
 obtain⟨cs,r1,r2,r3⟩:=h;have hq:q<W.heap.size:=(Ge.1 r1).1;refine⟨cs.toList,⟨Nr _,hm,by simp[r2],fun _=>⟨q,0,rfl,hq,fun i u hu=>?_⟩⟩,by unfold Bk.sets;simp[r2,hn],fun i l hl=>?_⟩
 ·rw[Dl]at hu;rw[cB];exact(Co _ _ _ _ _ _ r1).trans hu
 ·unfold Bk.sets at hl;rw[Cb]at hl;obtain⟨s,hs',rfl⟩:=Cy.1 hl;obtain⟨hi,e0⟩:=kH.1 hs';obtain⟨A1,n1,c1,A2,n2,c2,e,q1,q2⟩:=hh.2 i (by rw[hh.1];exact hi) hi;have:=r3 i om;rw[Ps0 om,Jy (show i<hs.length by rw[hh.1];exact hi),e]at this;refine⟨A1,n1,c1,by rw[Dl];exact this,?_⟩;rw[←e0];exact q1.more hB
structure Ec (W Wi:World) (g:Nat) (arr:Array Value):Prop where
 aU:Below W.heap.size W Wi
 hg:W.heap.size≤g
 r14:Wi.heap[g]? =some (.cells arr 76 (0,0))
 TN:Wi.heap[g+1]? =some (.cells #[.int .i64 0,.int .i64 0,.int .i64 0] 176 (0,0))
section
variable {W Wi w':World} {g:Nat} {arr:Array Value}
theorem Ec.lt (h:Ec W Wi g arr):g+1<Wi.heap.size:=(Ge.1 h.TN).1
theorem Ec.below (h:Ec W Wi g arr) (hb:Below Wi.heap.size Wi w'):Ec W w' g arr:=
 ⟨h.aU.trans (hb.mono h.aU.size),h.hg,(hb.block _ (by have:=h.lt;omega)).trans h.r14,(hb.block _ h.lt).trans h.TN⟩
theorem Ec.Jz (h:Ec W Wi g arr) (k) (v):Ec W (Wi.setCell ⟨g,k,none⟩ v) g (arr.setIfInBounds k v):=
 ⟨h.aU.setCell (p:=⟨g,k,none⟩) h.hg v,h.hg,Ag Wi g k _ _ v h.r14,(AF _ ⟨g,k,none⟩ _ _ (by show g+1≠g;omega)).trans h.TN⟩
theorem Ec.vV (h:Ec W Wi g arr) (k) (hk:k<3):Ec W (Wi.setCell ⟨g+1,k,none⟩ (.int .i64 0)) g arr:=by
 refine⟨h.aU.setCell (p:=⟨g+1,k,none⟩) (by have:=h.hg;show _≤g+1;omega) _,h.hg,(AF _ ⟨g+1,k,none⟩ _ _ (by show g≠g+1;omega)).trans h.r14,?_⟩;have:=Ag Wi (g+1) k _ _ (.int .i64 0) h.TN;rw[this]
 match k,hk with
 |0,_=>rfl
 |1,_=>rfl
 |2,_=>rfl
theorem Ec.c1 (h:Ec W Wi g arr) (k):Wi.cell? ⟨g,k,none⟩=arr[k]?∧Wi.frozen? ⟨g,k,none⟩=false:=⟨Co _ _ _ _ _ _ h.r14,Fr _ _ _ _ _ h.r14⟩
theorem Ec.c2 (h:Ec W Wi g arr) (k) (hk:k<3):Wi.cell? ⟨g+1,k,none⟩=some (.int .i64 0)∧Wi.frozen? ⟨g+1,k,none⟩=false:=⟨(Co _ _ _ _ _ _ h.TN).trans (by match k,hk with|0,_=>rfl|1,_=>rfl|2,_=>rfl),Fr _ _ _ _ _ h.TN⟩
theorem qw {base n c} {A} {l} (h:ah Wi base A n c l) (hb:g+2≤base) (k j) (v u):ah ((Wi.setCell ⟨g,k,none⟩ v).setCell ⟨g+1,j,none⟩ u) base A n c l:=by
 have hl:=ae h;have h1:ah (Wi.setCell ⟨g,k,none⟩ v) base A n c l:=aT h (fun p hp e=>by have:=(hl p hp).1;omega);exact aT h1 (fun p hp e=>by have:=(hl p hp).1;omega)
end
namespace En
open Cs (gz In lens sV)
theorem Si:∀(b) (i),∀x∈all i b,x.1<i+b.length
 |[],_,x,h=>by simp[all]at h
 |s::b,i,x,h=>by
  rw[all,jl]at h;rcases h with h|h
  ·obtain⟨c,_,rfl⟩:=dM.1 h;simp
  ·have:=Si b (i+1) x h;simp only[Lc];omega
theorem VL {a b} (h:a<+:b):(dat a).length≤(dat b).length:=by
 obtain⟨t,rfl⟩:=h;rw[rR,La];omega
theorem VM {a b} (h:a<+:b) (i):(cnt a i).length≤(cnt b i).length:=by
 obtain⟨t,rfl⟩:=h;rw[oq,La];omega
theorem Sj (pre) (i) (L):(fun j=>if j=i then cnt pre i++[(L.length:Int)]else cnt pre j)=cnt (pre++[(i,L)]):=by
 funext j
 rw[oq];by_cases e:j=i
 ·subst e;rw[Ps0 rfl,UW]
 ·rw[Ng e,QT (fun q=>e q.symm),AZ]
end En
namespace Bk
open Cs (gz In lens sV)
theorem zG {b} {s} (h:s∈b):s.2.length≤cK b:=by
 induction b with
 |nil=>cases h
 |cons t b ih=>
  have e:cK (t::b)=t.2.length+cK b:=by simp[cK]
  rw[e];rcases iM.1 h with rfl|h
  ·omega
  ·have:=ih h;omega
theorem Gf (s):(lens s).length=Ck.oI s.length:=by unfold lens;rw[fu,Ck.ui,fu,Cq]
theorem Zh {α:Type} (f:α→Nat) {l:List α} {x} (h:x∈l):f x≤(l.map f).sum:=by
 induction l with
 |nil=>cases h
 |cons y l ih=>
  simp only[AA,Bj];rcases iM.1 h with rfl|h
  ·omega
  ·have:=ih h;omega
structure Ok (b:iP):Prop where
 bN:bN b=0
 inn:∀s∈b,In s.2
 wt:Ps.wt (sets b)≤500000
 dat:(dat b).length≤10000000
 rcl:∀T,Sy.eD (Ps.strs (Bk.sets b)) T→(Rc.aH T (jw b)).length≤10000000
 sec:∀T E,Of b T E→∀i,i<4→(D4 T E b i).length≤10000000
theorem Ok.cK {b:iP} (h:Ok b):cK b≤16777216:=(iq h.bN).2.1
theorem Ok.fit {b} (h:Ok b):∀s∈b,Lb.Fit s.1:=fun s hs=>((kV h.bN (by have:=h.wt;omega)).1 s.1 (dM.2 ⟨s,hs,rfl⟩)).2
theorem Ok.len {b} (h:Ok b):b.length≤500000:=Lt WY h.wt
theorem Ok.sets {b:iP} (h:Ok b):Ps.Sets (sets b):=kV h.bN (by have:=h.wt;omega)
theorem Ok.tab {b} {T} (h:Ok b) (ht:Sy.eD (Ps.strs (Bk.sets b)) T):T.length≤1000000:=by
 have h1:=Sy.eD.len ht;have h2:=Ps.oo (Bk.sets b);have:=h.wt;omega
theorem Ok.encS {b} {T} (h:Ok b) (ht:Sy.eD (Ps.strs (Bk.sets b)) T):Sy.enc T=(Sy.aH T,0):=by
 unfold Sy.enc;rw[Sy.mP.2 (Sy.eD.size ht (iC h.bN)),Ng sm,Ps0 (Sy.Qd.2 ht.1)]
theorem Ok.szT {b} {T} (h:Ok b) (ht:Sy.eD (Ps.strs (Bk.sets b)) T):∀s∈T,s.size≤maxLen:=fun s hs=>by
 have:=Sy.eD.size ht (iC h.bN) s hs;unfold maxLen;omega
theorem Ok.encR {b} {T} (h:Ok b) (ht:Sy.eD (Ps.strs (Bk.sets b)) T):Rc.enc T (jw b)=(Rc.aH T (jw b),0):=by
 unfold Rc.enc;rw[Ps0 (show Rc.err T (jw b)=0 from Rc.Qc (WX h.bN (by have:=h.wt;omega) ht))]
theorem Ok.cnt {b} (h:Ok b) (i) (hi:i<b.length):(En.cnt (En.all 0 b) i).length≤1000000:=by
 have h3:=En.rT b 0 i hi;rw[cB]at h3;have h1:=zG (ic hi);have h2:=h.cK;rw[h3,fu,Gf];unfold Ck.oI;omega
theorem Of.Mr {b} {T} {E} (ho:Of b T E):Pe.enc T E=(Pe.aH T E,0):=by
 unfold Pe.enc;rw[Ps0 (Df.2 (Ps.KF ho.2 ho.1))]
theorem Sk (b) (i) (h:i< (jw b).length) (h':i<b.length):(jw b)[i]=(b[i].1,En.cnt (En.all 0 b) i):=by
 have:=En.rT b 0 i h';rw[cB]at this;rw[this];unfold jw I8;simp[Rc.bH]
theorem uL (b):(jw b).length=b.length:=by unfold jw I8;simp
theorem Ok.rcL {b} (h:Ok b):∀r∈jw b,r.1.length≤1000000∧r.2.length≤1000000:=fun r hr=>by
 obtain⟨i,hi,rfl⟩:=lV.1 hr;have hi':i<b.length:=by rw[←uL];exact hi
 rw[Sk b i hi hi'];have h1:=zG (ic hi');have h2:=h.cK;have h3:=En.rT b 0 i hi';rw[cB]at h3;have h4:=h.wt;have h5:b[i].1.length≤Ps.wt (Bk.sets b):=by
  have:b[i].1∈Bk.sets b:=dM.2 ⟨_,ic hi',rfl⟩;have:=Zh (fun m:List bf=>1+m.length) this;unfold Ps.wt;omega
 refine⟨by show b[i].1.length≤_;omega,?_⟩;show(En.cnt (En.all 0 b) i).length≤_;rw[h3,fu,Gf];unfold Ck.oI;omega
theorem Ok.ab7 {b} {E} (h:Ok b) (hi:Ps.uY (Ps.gB (Bk.sets b) 0) E):E.length≤1000000∧∀e∈E,e.2.length≤1000000∧Pe.Up 0 e.2:=
 ⟨(Ps.tZ h.sets hi).1,fun e he=>⟨(Ps.tZ h.sets hi).2 e he,Ps.KC h.sets hi e he⟩⟩
end Bk
end Go.Proofs.YtjcpmfphnodaaaaGreatDoor
